/- Proved here: a part of the proof of the law at hand, in one text: no condition. -/
import Derived.Test.YtodliknibbafeaaMHO4
import Derived.KernelRfl
set_option linter.unusedVariables false
set_option linter.unusedSimpArgs false
namespace Go.Proofs.Ytodliknibbafeaa
section
open Go
noncomputable section
set_option maxRecDepth 100000
set_option maxHeartbeats 6000000
def z5L (a0 : Int) (a1 : Int) : Option (Bool) :=
  (z4g a0).bind fun v5 =>
  (z4g a1).bind fun v6 =>
  if v5 = v6 then
    some (decide (a0 < a1))
  else
    (z4g a0).bind fun v7 =>
    (z4g a1).bind fun v8 =>
    some (decide (v8 < v7))
instance ref24_before_ok {a0 : Int} {a1 : Int} : Ok (z5L a0 a1) (fun r => L 77 [.sc (.int .i64 a0), .sc (.int .i64 a1)] = some (.sc (.bool r), [.dead, .dead])) := ⟨fun r h => by have h := z4p h; unfold z5L at h; exact z4O zzr zBv zDj⟩
abbrev z6v (w98 : Int) (w99 : List Int) : Bool × Int -> Option ((Bool × Int) ⊕ ((Int × List Int) ⊕ List Int))
  | (w106, w107) =>
  if w107 < (w99.length : Int) then
    (atI w99 w107).bind fun v109 =>
    if w106 = true then
      z0e (true, IntKind.i64.wrap (w107 + 1))
    else
      z0e (decide (v109 = (zjM .i64 1 (IntKind.u64.wrap w98))), IntKind.i64.wrap (w107 + 1))
  else
    z0k <|
    if w106 = true then
      z0e (IntKind.i64.wrap (w98 + 1), w99)
    else
      chk (z1c 8 (w99.length + 1)) <|
      z0e (IntKind.i64.wrap (w98 + 1), w99 ++ [zjM .i64 1 (IntKind.u64.wrap w98)])
instance {w98 : Int} {w99 : List Int} : Hd (z6v w98 w99) := ⟨fun (w106, w107) => ([(7, xB w106), (31, xI w107)], [])⟩
abbrev z4t (w133 : Int) : Int × List Int -> Option ((Int × List Int) ⊕ ((Int × List Int) ⊕ List Int))
  | (w165, w166) =>
  if 0 < w165 then
    (atI w166 w165).bind fun v174 =>
    (atI w166 (IntKind.i64.wrap (w165 - 1))).bind fun v175 =>
    (z5L v174 v175).bind fun v176 =>
    if v176 = true then
      (atI (w166.set w165.toNat v175) (IntKind.i64.wrap (w165 - 1))).bind fun v180 =>
      z0e (IntKind.i64.wrap (w165 - 1), ((w166.set w165.toNat v175).set (IntKind.i64.wrap (w165 - 1)).toNat v174))
    else
      z0k <|
      z0e (IntKind.i64.wrap (w133 + 1), w166)
  else
    z0k <|
    z0e (IntKind.i64.wrap (w133 + 1), w166)
instance {w133 : Int} : Hd (z4t w133) := ⟨fun (w165, w166) => ([(12, xI w165)], [(10, .os 1 w166.length (w166.map fun x0 => .sc (.int .i64 x0)))])⟩
abbrev z4u (w99 : List Int) : Int × List Int -> Option ((Int × List Int) ⊕ List Int)
  | (w133, w134) =>
  if w133 < (w99.length : Int) then
    z0j (z4t w133) LFm (w133, w134)
  else
    z0k <|
    some w134
instance {w99 : List Int} : Hd (z4u w99) := ⟨fun (w133, w134) => ([(54, xI w133)], [(10, .os 1 w134.length (w134.map fun x0 => .sc (.int .i64 x0)))])⟩
abbrev z6w (a0 : DFA) : Int × List Int -> Option ((Int × List Int) ⊕ List Int)
  | (w98, w99) =>
  if w98 < (a0.final.length : Int) then
    chk (¬ (IntKind.u64.wrap w98) < 0) <|
    z0j (z6v w98 w99) LFm (false, 0)
  else
    z0k <|
    chk (z1c 8 (w99.length)) <|
    z0j (z4u w99) LFm (0, w99)
instance {a0 : DFA} : Hd (z6w a0) := ⟨fun (w98, w99) => ([(23, xI w98)], [(3, .os 1 w99.length (w99.map fun x0 => .sc (.int .i64 x0)))])⟩
def z7V (a0 : DFA) : Option (List Int) :=
  (z8Q a0).bind fun v91 =>
  (z3W a0 v91).bind fun v92 =>
  z0j (z6w a0) LFm (0, v92.1)
instance ref24_Sets_ok {a0 : DFA} : Ok (z7V a0) (fun r => L 58 [.agg [.sc (.int .i64 a0.letters), .sc (.int .i64 a0.start), .sl a0.final.length (a0.final.map fun x0 => .sc (.bool x0)), .sl a0.next.length (a0.next.map fun x0 => .sl x0.length (x0.map fun x1 => .sc (.int .i64 x1)))]] = some (.os 1 r.length (r.map fun x0 => .sc (.int .i64 x0)), [.dead])) := ⟨fun r h => by have h := z4p h; unfold z7V at h; exact z4O zzE zBH zDv⟩
abbrev z3O (a0 : List Int) : Int × Int × List Int × (List (Int × Int)) -> Option ((Int × Int × List Int × (List (Int × Int))) ⊕ List Int)
  | (w15, w13, w14, w16) =>
  if w13 < (a0.length : Int) then
    (atI a0 w13).bind fun v20 =>
    if ((z8D v20 w16).isSome) = true then
      (atI w14 w13).bind fun v21 =>
      z0e (w15, IntKind.i64.wrap (w13 + 1), (w14.set w13.toNat ((z8D v20 w16).getD 0)), w16)
    else
      (atI w14 w13).bind fun v22 =>
      z0e (IntKind.i64.wrap (w15 + 1), IntKind.i64.wrap (w13 + 1), (w14.set w13.toNat w15), zaE v20 w15 w16)
  else
    z0k <|
    some w14
instance {a0 : List Int} : Hd (z3O a0) := ⟨fun (w15, w13, w14, w16) => ([(4, xI w15), (19, xI w13)], [(3, .os 1 w14.length (w14.map fun x0 => .sc (.int .i64 x0))), (5, .mp (some .i64) (w16.map fun x0 => (.int .i64 x0.1, .int .i64 x0.2)))])⟩
def z3Z (a0 : List Int) : Option (List Int) :=
  if 4096 < (a0.length : Int) then
    some []
  else
    chk (z1g 8 (a0.length : Int)) <|
    z0j (z3O a0) LFm (0, 0, List.replicate (a0.length : Int).toNat (0 : Int), ([] : List (Int × Int)))
instance ref03_Canonical_ok {a0 : List Int} : Ok (z3Z a0) (fun r => L 60 [.sl a0.length (a0.map fun x0 => .sc (.int .i64 x0))] = some (.os 1 r.length (r.map fun x0 => .sc (.int .i64 x0)), [.dead])) := ⟨fun r h => by have h := z4p h; unfold z3Z at h; exact z4O zzC zBG zDu⟩
def z6a (v757 : List Int) (w807 : Int) (w863 : Int) (v877 : Int) : Int × List (List Bool) -> Option ((Int × List (List Bool)) ⊕ ((Int × List (List Bool)) ⊕ ((Int × List (List Bool)) ⊕ (Imgs × Int))))
  | (w881, w882) =>
  if w881 < (v757.length : Int) then
    (atI v757 w881).bind fun v886 =>
    if (z2a .i64 v886 v877) = v886 then
      (atI w882 w881).bind fun v887 =>
      (atI v887 w807).bind fun v888 =>
      z0e (IntKind.i64.wrap (w881 + 1), (w882.set w881.toNat (v887.set w807.toNat true)))
    else
      z0e (IntKind.i64.wrap (w881 + 1), w882)
  else
    z0k <|
    z0e (IntKind.i64.wrap (w863 + 1), w882)
def z5R (a0 : DFA) (v757 : List Int) (w807 : Int) (v850 : List Int × List ByteArray) (w863 : Int) (v877 : Int) : Int × List (List Bool) -> Fr
  | (w881, w882) => ⟨418, [(1, .one (.a 1 [] (0))), (2, .one (.a 2 [] (0))), (5, .one (.a 5 [] (0))), (6, .one (.t none (.sc (.int .i64 (v757.length : Int))))), (10, .one (.h 10 [])), (12, .one (.t none (.sc (.int .i64 w807)))), (17, .one (.t none (.sc (.int .i64 v877)))), (82, .one (.h 5 [0])), (83, .one (.t none (.sc (.int .i64 (v757.length : Int))))), (84, .one (.t none (.sc (.int .i64 w807)))), (95, .one (.h 14 [])), (96, .one (.t none (.sc (.int .i64 (v850.1.length : Int))))), (97, .one (.t none (.sc (.int .i64 w863)))), (102, .one (.h 5 [0])), (103, .one (.t none (.sc (.int .i64 (v757.length : Int))))), (104, .one (.t none (.sc (.int .i64 w881))))], [(1, .vr [.sc (.int .i64 a0.letters), .sc (.int .i64 a0.start), .sl a0.final.length (a0.final.map fun x0 => .sc (.bool x0)), .sl a0.next.length (a0.next.map fun x0 => .sl x0.length (x0.map fun x1 => .sc (.int .i64 x1)))]), (2, .vr [.os 1 0 [], .os 1 0 [], .os 1 0 [], .os 1 0 [], .os 1 0 [], .os 1 0 []]), (5, .vr [.os 1 v757.length (v757.map fun x0 => .sc (.int .i64 x0)), .os 1 0 [], .os 1 0 [], .os 1 0 [], .os 1 0 [], .os 1 0 []]), (10, .os 1 w882.length (w882.map fun x0 => .os 1 x0.length (x0.map fun x1 => .sc (.bool x1)))), (14, .os 1 v850.1.length (v850.1.map fun x0 => .sc (.int .i64 x0)))]⟩
def z6b (v757 : List Int) (w807 : Int) (v850 : List Int × List ByteArray) : Int × List (List Bool) -> Option ((Int × List (List Bool)) ⊕ ((Int × List (List Bool)) ⊕ (Imgs × Int)))
  | (w863, w864) =>
  if w863 < (v850.1.length : Int) then
    (atI v850.1 w863).bind fun v877 =>
    z0j (z6a v757 w807 w863 v877) LFm (0, w864)
  else
    z0k <|
    z0e (IntKind.i64.wrap (w807 + 1), w864)
def z7p (a0 : DFA) (v757 : List Int) (w807 : Int) (v850 : List Int × List ByteArray) : Int × List (List Bool) -> Fr
  | (w863, w864) => ⟨418, [(1, .one (.a 1 [] (0))), (2, .one (.a 2 [] (0))), (5, .one (.a 5 [] (0))), (6, .one (.t none (.sc (.int .i64 (v757.length : Int))))), (10, .one (.h 10 [])), (12, .one (.t none (.sc (.int .i64 w807)))), (82, .one (.h 5 [0])), (83, .one (.t none (.sc (.int .i64 (v757.length : Int))))), (84, .one (.t none (.sc (.int .i64 w807)))), (95, .one (.h 14 [])), (96, .one (.t none (.sc (.int .i64 (v850.1.length : Int))))), (97, .one (.t none (.sc (.int .i64 w863))))], [(1, .vr [.sc (.int .i64 a0.letters), .sc (.int .i64 a0.start), .sl a0.final.length (a0.final.map fun x0 => .sc (.bool x0)), .sl a0.next.length (a0.next.map fun x0 => .sl x0.length (x0.map fun x1 => .sc (.int .i64 x1)))]), (2, .vr [.os 1 0 [], .os 1 0 [], .os 1 0 [], .os 1 0 [], .os 1 0 [], .os 1 0 []]), (5, .vr [.os 1 v757.length (v757.map fun x0 => .sc (.int .i64 x0)), .os 1 0 [], .os 1 0 [], .os 1 0 [], .os 1 0 [], .os 1 0 []]), (10, .os 1 w864.length (w864.map fun x0 => .os 1 x0.length (x0.map fun x1 => .sc (.bool x1)))), (14, .os 1 v850.1.length (v850.1.map fun x0 => .sc (.int .i64 x0)))]⟩
def z5Z (w808 : List (List Bool)) (w908 : Int) (w909 : List Int) : Int -> Option (Int ⊕ ((Int × List Int) ⊕ (Imgs × Int)))
  | w937 =>
  if w937 < w908 then
    (atI w808 w908).bind fun v944 =>
    (atI v944 w937).bind fun v945 =>
    if v945 = true then
      (atI w808 w937).bind fun v946 =>
      (atI v946 w908).bind fun v947 =>
      if v947 = true then
        (atI (w909.set w908.toNat w908) w937).bind fun v948 =>
        (atI (w909.set w908.toNat w908) w908).bind fun v949 =>
        z0k <|
        z0e (IntKind.i64.wrap (w908 + 1), ((w909.set w908.toNat w908).set w908.toNat v948))
      else
        z0e (IntKind.i64.wrap (w937 + 1))
    else
      z0e (IntKind.i64.wrap (w937 + 1))
  else
    z0k <|
    z0e (IntKind.i64.wrap (w908 + 1), (w909.set w908.toNat w908))
def z5P (a0 : DFA) (v757 : List Int) (w808 : List (List Bool)) (w908 : Int) (w909 : List Int) : Int -> Fr
  | w937 => ⟨418, [(1, .one (.a 1 [] (0))), (2, .one (.a 2 [] (0))), (5, .one (.a 5 [] (0))), (6, .one (.t none (.sc (.int .i64 (v757.length : Int))))), (10, .one (.h 10 [])), (20, .one (.h 20 [])), (21, .one (.t none (.sc (.int .i64 w908)))), (22, .one (.t none (.sc (.int .i64 w937)))), (126, .one (.t none (.sc (.int .i64 (v757.length : Int))))), (127, .one (.t none (.sc (.int .i64 w908))))], [(1, .vr [.sc (.int .i64 a0.letters), .sc (.int .i64 a0.start), .sl a0.final.length (a0.final.map fun x0 => .sc (.bool x0)), .sl a0.next.length (a0.next.map fun x0 => .sl x0.length (x0.map fun x1 => .sc (.int .i64 x1)))]), (2, .vr [.os 1 0 [], .os 1 0 [], .os 1 0 [], .os 1 0 [], .os 1 0 [], .os 1 0 []]), (5, .vr [.os 1 v757.length (v757.map fun x0 => .sc (.int .i64 x0)), .os 1 0 [], .os 1 0 [], .os 1 0 [], .os 1 0 [], .os 1 0 []]), (10, .os 1 w808.length (w808.map fun x0 => .os 1 x0.length (x0.map fun x1 => .sc (.bool x1)))), (20, .os 1 (w909.set w908.toNat w908).length ((w909.set w908.toNat w908).map fun x0 => .sc (.int .i64 x0)))]⟩
def z5W (v757 : List Int) (w808 : List (List Bool)) (w1205 : Int) : Bool × Int × List Int -> Option ((Bool × Int × List Int) ⊕ ((Bool × Int × List Int) ⊕ ((Bool × List Int) ⊕ (Imgs × Int))))
  | (w1251, w1250, w1252) =>
  if w1250 < (v757.length : Int) then
    (atI v757 w1205).bind fun v1263 =>
    (z4g v1263).bind fun v1264 =>
    if 1 < v1264 then
      (atI w808 w1250).bind fun v1265 =>
      (atI v1265 w1205).bind fun v1266 =>
      if v1266 = true then
        (atI w808 w1205).bind fun v1267 =>
        (atI v1267 w1250).bind fun v1268 =>
        if v1268 = true then
          z0e (w1251, IntKind.i64.wrap (w1250 + 1), w1252)
        else
          (atI w1252 w1205).bind fun v1269 =>
          (atI w1252 w1250).bind fun v1270 =>
          if v1269 <= v1270 then
            z0e (true, IntKind.i64.wrap (w1250 + 1), (w1252.set w1205.toNat (IntKind.i64.wrap (v1270 + 1))))
          else
            z0e (w1251, IntKind.i64.wrap (w1250 + 1), w1252)
      else
        z0e (w1251, IntKind.i64.wrap (w1250 + 1), w1252)
    else
      z0e (w1251, IntKind.i64.wrap (w1250 + 1), w1252)
  else
    z0k <|
    z0e (w1251, IntKind.i64.wrap (w1205 + 1), w1252)
def z3D (a0 : DFA) (v757 : List Int) (w808 : List (List Bool)) (v950 : List Int) (w1205 : Int) : Bool × Int × List Int -> Fr
  | (w1251, w1250, w1252) => ⟨418, [(1, .one (.a 1 [] (0))), (2, .one (.a 2 [] (0))), (5, .one (.a 5 [] (0))), (10, .one (.h 10 [])), (23, .one (.t none (.sc (.bool w1251)))), (24, .one (.t none (.sc (.int .i64 w1205)))), (181, .one (.t none (.sc (.int .i64 (v757.length : Int))))), (182, .one (.t none (.sc (.int .i64 w1205)))), (187, .one (.t none (.sc (.int .i64 (v757.length : Int))))), (188, .one (.t none (.sc (.int .i64 w1250))))], [(1, .vr [.sc (.int .i64 a0.letters), .sc (.int .i64 a0.start), .sl a0.final.length (a0.final.map fun x0 => .sc (.bool x0)), .sl a0.next.length (a0.next.map fun x0 => .sl x0.length (x0.map fun x1 => .sc (.int .i64 x1)))]), (2, .vr [.os 1 0 [], .os 1 0 [], .os 1 0 [], .os 1 0 [], .os 1 0 [], .os 1 0 []]), (5, .vr [.os 1 v757.length (v757.map fun x0 => .sc (.int .i64 x0)), .os 1 v950.length (v950.map fun x0 => .sc (.int .i64 x0)), .os 1 w1252.length (w1252.map fun x0 => .sc (.int .i64 x0)), .os 1 (List.replicate (v757.length : Int).toNat ([] : List Int)).length ((List.replicate (v757.length : Int).toNat ([] : List Int)).map fun x0 => .os 1 x0.length (x0.map fun x1 => .sc (.int .i64 x1))), .os 1 (List.replicate (v757.length : Int).toNat (ByteArray.empty : ByteArray)).length ((List.replicate (v757.length : Int).toNat (ByteArray.empty : ByteArray)).map fun x0 => .sc (.string x0)), .os 1 (List.replicate (v757.length : Int).toNat (ByteArray.empty : ByteArray)).length ((List.replicate (v757.length : Int).toNat (ByteArray.empty : ByteArray)).map fun x0 => .sc (.string x0))]), (10, .os 1 w808.length (w808.map fun x0 => .os 1 x0.length (x0.map fun x1 => .sc (.bool x1))))]⟩
def z5X (v757 : List Int) (w808 : List (List Bool)) : Bool × Int × List Int -> Option ((Bool × Int × List Int) ⊕ ((Bool × List Int) ⊕ (Imgs × Int)))
  | (w1204, w1205, w1206) =>
  if w1205 < (v757.length : Int) then
    z0j (z5W v757 w808 w1205) LFm (w1204, 0, w1206)
  else
    z0k <|
    z0e (w1204, w1206)
def z7n (a0 : DFA) (v757 : List Int) (w808 : List (List Bool)) (v950 : List Int) : Bool × Int × List Int -> Fr
  | (w1204, w1205, w1206) => ⟨418, [(1, .one (.a 1 [] (0))), (2, .one (.a 2 [] (0))), (5, .one (.a 5 [] (0))), (10, .one (.h 10 [])), (23, .one (.t none (.sc (.bool w1204)))), (181, .one (.t none (.sc (.int .i64 (v757.length : Int))))), (182, .one (.t none (.sc (.int .i64 w1205))))], [(1, .vr [.sc (.int .i64 a0.letters), .sc (.int .i64 a0.start), .sl a0.final.length (a0.final.map fun x0 => .sc (.bool x0)), .sl a0.next.length (a0.next.map fun x0 => .sl x0.length (x0.map fun x1 => .sc (.int .i64 x1)))]), (2, .vr [.os 1 0 [], .os 1 0 [], .os 1 0 [], .os 1 0 [], .os 1 0 [], .os 1 0 []]), (5, .vr [.os 1 v757.length (v757.map fun x0 => .sc (.int .i64 x0)), .os 1 v950.length (v950.map fun x0 => .sc (.int .i64 x0)), .os 1 w1206.length (w1206.map fun x0 => .sc (.int .i64 x0)), .os 1 (List.replicate (v757.length : Int).toNat ([] : List Int)).length ((List.replicate (v757.length : Int).toNat ([] : List Int)).map fun x0 => .os 1 x0.length (x0.map fun x1 => .sc (.int .i64 x1))), .os 1 (List.replicate (v757.length : Int).toNat (ByteArray.empty : ByteArray)).length ((List.replicate (v757.length : Int).toNat (ByteArray.empty : ByteArray)).map fun x0 => .sc (.string x0)), .os 1 (List.replicate (v757.length : Int).toNat (ByteArray.empty : ByteArray)).length ((List.replicate (v757.length : Int).toNat (ByteArray.empty : ByteArray)).map fun x0 => .sc (.string x0))]), (10, .os 1 w808.length (w808.map fun x0 => .os 1 x0.length (x0.map fun x1 => .sc (.bool x1))))]⟩
def z5U (v757 : List Int) (w1311 : Int) (w1367 : Int) (w1368 : List (List Int)) (v1381 : Int) : Bool × Int -> Option ((Bool × Int) ⊕ ((Int × List (List Int)) ⊕ ((Int × List (List Int)) ⊕ (Imgs × Int))))
  | (w1385, w1386) =>
  if w1386 < (v757.length : Int) then
    (atI v757 w1386).bind fun v1389 =>
    if w1385 = true then
      if w1386 = w1367 then
        z0e (!false, IntKind.i64.wrap (w1386 + 1))
      else
        if w1386 = w1311 then
          z0e (!false, IntKind.i64.wrap (w1386 + 1))
        else
          (atI v757 w1311).bind fun v1390 =>
          if (z2a .i64 v1389 v1390) = v1389 then
            z0e (!(decide ((z2a .i64 v1381 v1389) = v1381)), IntKind.i64.wrap (w1386 + 1))
          else
            z0e (!false, IntKind.i64.wrap (w1386 + 1))
    else
      z0e (false, IntKind.i64.wrap (w1386 + 1))
  else
    z0k <|
    if w1385 = true then
      (atI w1368 w1311).bind fun v1391 =>
      chk (z1c 8 (v1391.length + 1)) <|
      z0e (IntKind.i64.wrap (w1367 + 1), (w1368.set w1311.toNat (v1391 ++ [w1367])))
    else
      z0e (IntKind.i64.wrap (w1367 + 1), w1368)
def z3C (a0 : DFA) (v757 : List Int) (v950 : List Int) (w1056 : List Int) (w1311 : Int) (w1367 : Int) (w1368 : List (List Int)) (v1381 : Int) : Bool × Int -> Fr
  | (w1385, w1386) => ⟨418, [(1, .one (.a 1 [] (0))), (2, .one (.a 2 [] (0))), (5, .one (.a 5 [] (0))), (26, .one (.t none (.sc (.int .i64 w1311)))), (27, .one (.t none (.sc (.int .i64 w1367)))), (28, .one (.t none (.sc (.int .i64 v1381)))), (29, .one (.t none (.sc (.bool w1385)))), (244, .one (.t none (.sc (.int .i64 (v757.length : Int))))), (245, .one (.t none (.sc (.int .i64 w1311)))), (256, .one (.h 5 [0])), (257, .one (.t none (.sc (.int .i64 (v757.length : Int))))), (258, .one (.t none (.sc (.int .i64 w1367)))), (278, .one (.h 5 [0])), (279, .one (.t none (.sc (.int .i64 (v757.length : Int))))), (280, .one (.t none (.sc (.int .i64 w1386))))], [(1, .vr [.sc (.int .i64 a0.letters), .sc (.int .i64 a0.start), .sl a0.final.length (a0.final.map fun x0 => .sc (.bool x0)), .sl a0.next.length (a0.next.map fun x0 => .sl x0.length (x0.map fun x1 => .sc (.int .i64 x1)))]), (2, .vr [.os 1 0 [], .os 1 0 [], .os 1 0 [], .os 1 0 [], .os 1 0 [], .os 1 0 []]), (5, .vr [.os 1 v757.length (v757.map fun x0 => .sc (.int .i64 x0)), .os 1 v950.length (v950.map fun x0 => .sc (.int .i64 x0)), .os 1 w1056.length (w1056.map fun x0 => .sc (.int .i64 x0)), .os 1 w1368.length (w1368.map fun x0 => .os 1 x0.length (x0.map fun x1 => .sc (.int .i64 x1))), .os 1 (List.replicate (v757.length : Int).toNat (ByteArray.empty : ByteArray)).length ((List.replicate (v757.length : Int).toNat (ByteArray.empty : ByteArray)).map fun x0 => .sc (.string x0)), .os 1 (List.replicate (v757.length : Int).toNat (ByteArray.empty : ByteArray)).length ((List.replicate (v757.length : Int).toNat (ByteArray.empty : ByteArray)).map fun x0 => .sc (.string x0))])]⟩
def z5V (v757 : List Int) (w1311 : Int) : Int × List (List Int) -> Option ((Int × List (List Int)) ⊕ ((Int × List (List Int)) ⊕ (Imgs × Int)))
  | (w1367, w1368) =>
  if w1367 < (v757.length : Int) then
    (atI v757 w1367).bind fun v1381 =>
    (atI v757 w1311).bind fun v1382 =>
    if (z2a .i64 v1381 v1382) = v1381 then
      if w1367 = w1311 then
        z0e (IntKind.i64.wrap (w1367 + 1), w1368)
      else
        z0j (z5U v757 w1311 w1367 w1368 v1381) LFm (true, 0)
    else
      z0e (IntKind.i64.wrap (w1367 + 1), w1368)
  else
    z0k <|
    z0e (IntKind.i64.wrap (w1311 + 1), w1368)
def z3X (a0 : DFA) (v757 : List Int) (v950 : List Int) (w1056 : List Int) (w1311 : Int) : Int × List (List Int) -> Fr
  | (w1367, w1368) => ⟨418, [(1, .one (.a 1 [] (0))), (2, .one (.a 2 [] (0))), (5, .one (.a 5 [] (0))), (26, .one (.t none (.sc (.int .i64 w1311)))), (244, .one (.t none (.sc (.int .i64 (v757.length : Int))))), (245, .one (.t none (.sc (.int .i64 w1311)))), (256, .one (.h 5 [0])), (257, .one (.t none (.sc (.int .i64 (v757.length : Int))))), (258, .one (.t none (.sc (.int .i64 w1367))))], [(1, .vr [.sc (.int .i64 a0.letters), .sc (.int .i64 a0.start), .sl a0.final.length (a0.final.map fun x0 => .sc (.bool x0)), .sl a0.next.length (a0.next.map fun x0 => .sl x0.length (x0.map fun x1 => .sc (.int .i64 x1)))]), (2, .vr [.os 1 0 [], .os 1 0 [], .os 1 0 [], .os 1 0 [], .os 1 0 [], .os 1 0 []]), (5, .vr [.os 1 v757.length (v757.map fun x0 => .sc (.int .i64 x0)), .os 1 v950.length (v950.map fun x0 => .sc (.int .i64 x0)), .os 1 w1056.length (w1056.map fun x0 => .sc (.int .i64 x0)), .os 1 w1368.length (w1368.map fun x0 => .os 1 x0.length (x0.map fun x1 => .sc (.int .i64 x1))), .os 1 (List.replicate (v757.length : Int).toNat (ByteArray.empty : ByteArray)).length ((List.replicate (v757.length : Int).toNat (ByteArray.empty : ByteArray)).map fun x0 => .sc (.string x0)), .os 1 (List.replicate (v757.length : Int).toNat (ByteArray.empty : ByteArray)).length ((List.replicate (v757.length : Int).toNat (ByteArray.empty : ByteArray)).map fun x0 => .sc (.string x0))])]⟩
def z5S (v757 : List Int) (w1430 : Int) (w1474 : Int) (w1486 : List ByteArray) (v1496 : List Int × List ByteArray) : Int × List ByteArray -> Option ((Int × List ByteArray) ⊕ ((Int × List ByteArray × List ByteArray) ⊕ (Imgs × Int)))
  | (w1501, w1502) =>
  if w1501 < (v1496.1.length : Int) then
    (atI v1496.1 w1501).bind fun v1507 =>
    (atI v757 w1474).bind fun v1508 =>
    if v1507 = v1508 then
      (atI v1496.2 w1501).bind fun v1509 =>
      (atI w1502 w1430).bind fun v1510 =>
      z0e (IntKind.i64.wrap (w1501 + 1), (w1502.set w1430.toNat v1509))
    else
      z0e (IntKind.i64.wrap (w1501 + 1), w1502)
  else
    z0k <|
    z0e (IntKind.i64.wrap (w1430 + 1), w1486, w1502)
def z5M (a0 : DFA) (v757 : List Int) (v950 : List Int) (w1056 : List Int) (w1312 : List (List Int)) (w1430 : Int) (w1474 : Int) (w1486 : List ByteArray) (v1496 : List Int × List ByteArray) : Int × List ByteArray -> Fr
  | (w1501, w1502) => ⟨418, [(1, .one (.a 1 [] (0))), (2, .one (.a 2 [] (0))), (5, .one (.a 5 [] (0))), (32, .one (.t none (.sc (.int .i64 w1430)))), (33, .one (.t none (.sc (.int .i64 w1474)))), (35, .one (.h 35 [])), (333, .one (.t none (.sc (.int .i64 (v757.length : Int))))), (334, .one (.t none (.sc (.int .i64 w1430)))), (393, .one (.h 34 [])), (394, .one (.t none (.sc (.int .i64 (v1496.1.length : Int))))), (395, .one (.t none (.sc (.int .i64 w1501))))], [(1, .vr [.sc (.int .i64 a0.letters), .sc (.int .i64 a0.start), .sl a0.final.length (a0.final.map fun x0 => .sc (.bool x0)), .sl a0.next.length (a0.next.map fun x0 => .sl x0.length (x0.map fun x1 => .sc (.int .i64 x1)))]), (2, .vr [.os 1 0 [], .os 1 0 [], .os 1 0 [], .os 1 0 [], .os 1 0 [], .os 1 0 []]), (5, .vr [.os 1 v757.length (v757.map fun x0 => .sc (.int .i64 x0)), .os 1 v950.length (v950.map fun x0 => .sc (.int .i64 x0)), .os 1 w1056.length (w1056.map fun x0 => .sc (.int .i64 x0)), .os 1 w1312.length (w1312.map fun x0 => .os 1 x0.length (x0.map fun x1 => .sc (.int .i64 x1))), .os 1 w1486.length (w1486.map fun x0 => .sc (.string x0)), .os 1 w1502.length (w1502.map fun x0 => .sc (.string x0))]), (35, .os 1 v1496.2.length (v1496.2.map fun x0 => .sc (.string x0))), (34, .os 1 v1496.1.length (v1496.1.map fun x0 => .sc (.int .i64 x0)))]⟩
def z5T (a0 : DFA) (v757 : List Int) (w1430 : Int) (w1432 : List ByteArray) (w1474 : Int) (v1480 : List Int × List ByteArray) : Int × List ByteArray -> Option ((Int × List ByteArray) ⊕ ((Int × List ByteArray × List ByteArray) ⊕ (Imgs × Int)))
  | (w1485, w1486) =>
  if w1485 < (v1480.1.length : Int) then
    (atI v1480.1 w1485).bind fun v1491 =>
    (atI v757 w1430).bind fun v1492 =>
    if v1491 = v1492 then
      (atI v1480.2 w1485).bind fun v1493 =>
      (atI w1486 w1430).bind fun v1494 =>
      z0e (IntKind.i64.wrap (w1485 + 1), (w1486.set w1430.toNat v1493))
    else
      z0e (IntKind.i64.wrap (w1485 + 1), w1486)
  else
    z0k <|
    (atI v757 w1430).bind fun v1495 =>
    (z3W a0 v1495).bind fun v1496 =>
    z0j (z5S v757 w1430 w1474 w1486 v1496) LFm (0, w1432)
def z5N (a0 : DFA) (v757 : List Int) (v950 : List Int) (w1056 : List Int) (w1312 : List (List Int)) (w1430 : Int) (w1432 : List ByteArray) (w1474 : Int) (v1480 : List Int × List ByteArray) : Int × List ByteArray -> Fr
  | (w1485, w1486) => ⟨418, [(1, .one (.a 1 [] (0))), (2, .one (.a 2 [] (0))), (5, .one (.a 5 [] (0))), (32, .one (.t none (.sc (.int .i64 w1430)))), (33, .one (.t none (.sc (.int .i64 w1474)))), (35, .one (.h 35 [])), (333, .one (.t none (.sc (.int .i64 (v757.length : Int))))), (334, .one (.t none (.sc (.int .i64 w1430)))), (360, .one (.h 34 [])), (361, .one (.t none (.sc (.int .i64 (v1480.1.length : Int))))), (362, .one (.t none (.sc (.int .i64 w1485))))], [(1, .vr [.sc (.int .i64 a0.letters), .sc (.int .i64 a0.start), .sl a0.final.length (a0.final.map fun x0 => .sc (.bool x0)), .sl a0.next.length (a0.next.map fun x0 => .sl x0.length (x0.map fun x1 => .sc (.int .i64 x1)))]), (2, .vr [.os 1 0 [], .os 1 0 [], .os 1 0 [], .os 1 0 [], .os 1 0 [], .os 1 0 []]), (5, .vr [.os 1 v757.length (v757.map fun x0 => .sc (.int .i64 x0)), .os 1 v950.length (v950.map fun x0 => .sc (.int .i64 x0)), .os 1 w1056.length (w1056.map fun x0 => .sc (.int .i64 x0)), .os 1 w1312.length (w1312.map fun x0 => .os 1 x0.length (x0.map fun x1 => .sc (.int .i64 x1))), .os 1 w1486.length (w1486.map fun x0 => .sc (.string x0)), .os 1 w1432.length (w1432.map fun x0 => .sc (.string x0))]), (35, .os 1 v1480.2.length (v1480.2.map fun x0 => .sc (.string x0))), (34, .os 1 v1480.1.length (v1480.1.map fun x0 => .sc (.int .i64 x0)))]⟩
def z7t (a0 : DFA) (v757 : List Int) (v950 : List Int) (w1430 : Int) (w1431 : List ByteArray) (w1432 : List ByteArray) : Int -> Option (Int ⊕ ((Int × List ByteArray × List ByteArray) ⊕ (Imgs × Int)))
  | w1474 =>
  (atI v950 w1474).bind fun v1477 =>
  (atI v950 w1430).bind fun v1478 =>
  if v1477 = v1478 then
    z0k <|
    (atI v757 w1474).bind fun v1479 =>
    (z3W a0 v1479).bind fun v1480 =>
    z0j (z5T a0 v757 w1430 w1432 w1474 v1480) LFm (0, w1431)
  else
    z0e (IntKind.i64.wrap (w1474 + 1))
def z7l (a0 : DFA) (v757 : List Int) (v950 : List Int) (w1056 : List Int) (w1312 : List (List Int)) (w1430 : Int) (w1431 : List ByteArray) (w1432 : List ByteArray) : Int -> Fr
  | w1474 => ⟨418, [(1, .one (.a 1 [] (0))), (2, .one (.a 2 [] (0))), (5, .one (.a 5 [] (0))), (32, .one (.t none (.sc (.int .i64 w1430)))), (33, .one (.t none (.sc (.int .i64 w1474)))), (333, .one (.t none (.sc (.int .i64 (v757.length : Int))))), (334, .one (.t none (.sc (.int .i64 w1430))))], [(1, .vr [.sc (.int .i64 a0.letters), .sc (.int .i64 a0.start), .sl a0.final.length (a0.final.map fun x0 => .sc (.bool x0)), .sl a0.next.length (a0.next.map fun x0 => .sl x0.length (x0.map fun x1 => .sc (.int .i64 x1)))]), (2, .vr [.os 1 0 [], .os 1 0 [], .os 1 0 [], .os 1 0 [], .os 1 0 [], .os 1 0 []]), (5, .vr [.os 1 v757.length (v757.map fun x0 => .sc (.int .i64 x0)), .os 1 v950.length (v950.map fun x0 => .sc (.int .i64 x0)), .os 1 w1056.length (w1056.map fun x0 => .sc (.int .i64 x0)), .os 1 w1312.length (w1312.map fun x0 => .os 1 x0.length (x0.map fun x1 => .sc (.int .i64 x1))), .os 1 w1431.length (w1431.map fun x0 => .sc (.string x0)), .os 1 w1432.length (w1432.map fun x0 => .sc (.string x0))])]⟩
def z7u (a0 : DFA) (v757 : List Int) (v950 : List Int) (w1056 : List Int) (w1312 : List (List Int)) : Int × List ByteArray × List ByteArray -> Option ((Int × List ByteArray × List ByteArray) ⊕ (Imgs × Int))
  | (w1430, w1431, w1432) =>
  if w1430 < (v757.length : Int) then
    z0j (z7t a0 v757 v950 w1430 w1431 w1432) LFm 0
  else
    z0k <|
    some ((⟨v757, v950, w1056, w1312, w1431, w1432⟩ : Imgs), 0)
def z7m (a0 : DFA) (v757 : List Int) (v950 : List Int) (w1056 : List Int) (w1312 : List (List Int)) : Int × List ByteArray × List ByteArray -> Fr
  | (w1430, w1431, w1432) => ⟨418, [(1, .one (.a 1 [] (0))), (2, .one (.a 2 [] (0))), (5, .one (.a 5 [] (0))), (333, .one (.t none (.sc (.int .i64 (v757.length : Int))))), (334, .one (.t none (.sc (.int .i64 w1430))))], [(1, .vr [.sc (.int .i64 a0.letters), .sc (.int .i64 a0.start), .sl a0.final.length (a0.final.map fun x0 => .sc (.bool x0)), .sl a0.next.length (a0.next.map fun x0 => .sl x0.length (x0.map fun x1 => .sc (.int .i64 x1)))]), (2, .vr [.os 1 0 [], .os 1 0 [], .os 1 0 [], .os 1 0 [], .os 1 0 [], .os 1 0 []]), (5, .vr [.os 1 v757.length (v757.map fun x0 => .sc (.int .i64 x0)), .os 1 v950.length (v950.map fun x0 => .sc (.int .i64 x0)), .os 1 w1056.length (w1056.map fun x0 => .sc (.int .i64 x0)), .os 1 w1312.length (w1312.map fun x0 => .os 1 x0.length (x0.map fun x1 => .sc (.int .i64 x1))), .os 1 w1431.length (w1431.map fun x0 => .sc (.string x0)), .os 1 w1432.length (w1432.map fun x0 => .sc (.string x0))])]⟩
def z4L (a0 : DFA) (v757 : List Int) (v950 : List Int) (w1056 : List Int) : Int × List (List Int) -> Option ((Int × List (List Int)) ⊕ (Imgs × Int))
  | (w1311, w1312) =>
  if w1311 < (v757.length : Int) then
    (atI v757 w1311).bind fun v1353 =>
    (z4g v1353).bind fun v1354 =>
    if v1354 = 1 then
      z0e (IntKind.i64.wrap (w1311 + 1), w1312)
    else
      z0j (z5V v757 w1311) LFm (0, w1312)
  else
    z0k <|
    z0j (z7u a0 v757 v950 w1056 w1312) LFm (0, List.replicate (v757.length : Int).toNat (ByteArray.empty : ByteArray), List.replicate (v757.length : Int).toNat (ByteArray.empty : ByteArray))
def z5O (a0 : DFA) (v757 : List Int) (v950 : List Int) (w1056 : List Int) : Int × List (List Int) -> Fr
  | (w1311, w1312) => ⟨418, [(1, .one (.a 1 [] (0))), (2, .one (.a 2 [] (0))), (5, .one (.a 5 [] (0))), (244, .one (.t none (.sc (.int .i64 (v757.length : Int))))), (245, .one (.t none (.sc (.int .i64 w1311))))], [(1, .vr [.sc (.int .i64 a0.letters), .sc (.int .i64 a0.start), .sl a0.final.length (a0.final.map fun x0 => .sc (.bool x0)), .sl a0.next.length (a0.next.map fun x0 => .sl x0.length (x0.map fun x1 => .sc (.int .i64 x1)))]), (2, .vr [.os 1 0 [], .os 1 0 [], .os 1 0 [], .os 1 0 [], .os 1 0 [], .os 1 0 []]), (5, .vr [.os 1 v757.length (v757.map fun x0 => .sc (.int .i64 x0)), .os 1 v950.length (v950.map fun x0 => .sc (.int .i64 x0)), .os 1 w1056.length (w1056.map fun x0 => .sc (.int .i64 x0)), .os 1 w1312.length (w1312.map fun x0 => .os 1 x0.length (x0.map fun x1 => .sc (.int .i64 x1))), .os 1 (List.replicate (v757.length : Int).toNat (ByteArray.empty : ByteArray)).length ((List.replicate (v757.length : Int).toNat (ByteArray.empty : ByteArray)).map fun x0 => .sc (.string x0)), .os 1 (List.replicate (v757.length : Int).toNat (ByteArray.empty : ByteArray)).length ((List.replicate (v757.length : Int).toNat (ByteArray.empty : ByteArray)).map fun x0 => .sc (.string x0))])]⟩
def z5Y (a0 : DFA) (v757 : List Int) (w808 : List (List Bool)) (v950 : List Int) : Bool × List Int -> Option ((Bool × List Int) ⊕ (Imgs × Int))
  | (w1055, w1056) =>
  if w1055 = true then
    z0j (z5X v757 w808) LFm (false, 0, w1056)
  else
    z0k <|
    z0j (z4L a0 v757 v950 w1056) LFm (0, List.replicate (v757.length : Int).toNat ([] : List Int))
def z7o (a0 : DFA) (v757 : List Int) (w808 : List (List Bool)) (v950 : List Int) : Bool × List Int -> Fr
  | (w1055, w1056) => ⟨418, [(1, .one (.a 1 [] (0))), (2, .one (.a 2 [] (0))), (5, .one (.a 5 [] (0))), (10, .one (.h 10 [])), (23, .one (.t none (.sc (.bool w1055))))], [(1, .vr [.sc (.int .i64 a0.letters), .sc (.int .i64 a0.start), .sl a0.final.length (a0.final.map fun x0 => .sc (.bool x0)), .sl a0.next.length (a0.next.map fun x0 => .sl x0.length (x0.map fun x1 => .sc (.int .i64 x1)))]), (2, .vr [.os 1 0 [], .os 1 0 [], .os 1 0 [], .os 1 0 [], .os 1 0 [], .os 1 0 []]), (5, .vr [.os 1 v757.length (v757.map fun x0 => .sc (.int .i64 x0)), .os 1 v950.length (v950.map fun x0 => .sc (.int .i64 x0)), .os 1 w1056.length (w1056.map fun x0 => .sc (.int .i64 x0)), .os 1 (List.replicate (v757.length : Int).toNat ([] : List Int)).length ((List.replicate (v757.length : Int).toNat ([] : List Int)).map fun x0 => .os 1 x0.length (x0.map fun x1 => .sc (.int .i64 x1))), .os 1 (List.replicate (v757.length : Int).toNat (ByteArray.empty : ByteArray)).length ((List.replicate (v757.length : Int).toNat (ByteArray.empty : ByteArray)).map fun x0 => .sc (.string x0)), .os 1 (List.replicate (v757.length : Int).toNat (ByteArray.empty : ByteArray)).length ((List.replicate (v757.length : Int).toNat (ByteArray.empty : ByteArray)).map fun x0 => .sc (.string x0))]), (10, .os 1 w808.length (w808.map fun x0 => .os 1 x0.length (x0.map fun x1 => .sc (.bool x1))))]⟩
def z7v (a0 : DFA) (v757 : List Int) (w808 : List (List Bool)) : Int × List Int -> Option ((Int × List Int) ⊕ (Imgs × Int))
  | (w908, w909) =>
  if w908 < (v757.length : Int) then
    (atI w909 w908).bind fun v930 =>
    z0j (z5Z w808 w908 w909) LFm 0
  else
    z0k <|
    (z3Z w909).bind fun v950 =>
    chk (z1g 8 (v757.length : Int)) <|
    chk (z1g 24 (v757.length : Int)) <|
    chk (z1g 16 (v757.length : Int)) <|
    z0j (z5Y a0 v757 w808 v950) LFm (true, List.replicate (v757.length : Int).toNat (0 : Int))
def z5Q (a0 : DFA) (v757 : List Int) (w808 : List (List Bool)) : Int × List Int -> Fr
  | (w908, w909) => ⟨418, [(1, .one (.a 1 [] (0))), (2, .one (.a 2 [] (0))), (5, .one (.a 5 [] (0))), (6, .one (.t none (.sc (.int .i64 (v757.length : Int))))), (10, .one (.h 10 [])), (20, .one (.h 20 [])), (126, .one (.t none (.sc (.int .i64 (v757.length : Int))))), (127, .one (.t none (.sc (.int .i64 w908))))], [(1, .vr [.sc (.int .i64 a0.letters), .sc (.int .i64 a0.start), .sl a0.final.length (a0.final.map fun x0 => .sc (.bool x0)), .sl a0.next.length (a0.next.map fun x0 => .sl x0.length (x0.map fun x1 => .sc (.int .i64 x1)))]), (2, .vr [.os 1 0 [], .os 1 0 [], .os 1 0 [], .os 1 0 [], .os 1 0 [], .os 1 0 []]), (5, .vr [.os 1 v757.length (v757.map fun x0 => .sc (.int .i64 x0)), .os 1 0 [], .os 1 0 [], .os 1 0 [], .os 1 0 [], .os 1 0 []]), (10, .os 1 w808.length (w808.map fun x0 => .os 1 x0.length (x0.map fun x1 => .sc (.bool x1)))), (20, .os 1 w909.length (w909.map fun x0 => .sc (.int .i64 x0)))]⟩
def z7w (a0 : DFA) (v757 : List Int) : Int × List (List Bool) -> Option ((Int × List (List Bool)) ⊕ (Imgs × Int))
  | (w807, w808) =>
  if w807 < (v757.length : Int) then
    (atI v757 w807).bind fun v849 =>
    (z3W a0 v849).bind fun v850 =>
    z0j (z6b v757 w807 v850) LFm (0, w808)
  else
    z0k <|
    chk (z1g 8 (v757.length : Int)) <|
    z0j (z7v a0 v757 w808) LFm (0, List.replicate (v757.length : Int).toNat (0 : Int))
def z7q (a0 : DFA) (v757 : List Int) : Int × List (List Bool) -> Fr
  | (w807, w808) => ⟨418, [(1, .one (.a 1 [] (0))), (2, .one (.a 2 [] (0))), (5, .one (.a 5 [] (0))), (6, .one (.t none (.sc (.int .i64 (v757.length : Int))))), (10, .one (.h 10 [])), (82, .one (.h 5 [0])), (83, .one (.t none (.sc (.int .i64 (v757.length : Int))))), (84, .one (.t none (.sc (.int .i64 w807))))], [(1, .vr [.sc (.int .i64 a0.letters), .sc (.int .i64 a0.start), .sl a0.final.length (a0.final.map fun x0 => .sc (.bool x0)), .sl a0.next.length (a0.next.map fun x0 => .sl x0.length (x0.map fun x1 => .sc (.int .i64 x1)))]), (2, .vr [.os 1 0 [], .os 1 0 [], .os 1 0 [], .os 1 0 [], .os 1 0 [], .os 1 0 []]), (5, .vr [.os 1 v757.length (v757.map fun x0 => .sc (.int .i64 x0)), .os 1 0 [], .os 1 0 [], .os 1 0 [], .os 1 0 [], .os 1 0 []]), (10, .os 1 w808.length (w808.map fun x0 => .os 1 x0.length (x0.map fun x1 => .sc (.bool x1))))]⟩
def z7x (a0 : DFA) (v757 : List Int) : Int × List (List Bool) -> Option ((Int × List (List Bool)) ⊕ (Imgs × Int))
  | (w763, w764) =>
  if w763 < (v757.length : Int) then
    chk (z1g 1 (v757.length : Int)) <|
    (atI w764 w763).bind fun v766 =>
    z0e (IntKind.i64.wrap (w763 + 1), (w764.set w763.toNat (List.replicate (v757.length : Int).toNat (false : Bool))))
  else
    z0k <|
    z0j (z7w a0 v757) LFm (0, w764)
def z7r (a0 : DFA) (v757 : List Int) : Int × List (List Bool) -> Fr
  | (w763, w764) => ⟨418, [(1, .one (.a 1 [] (0))), (2, .one (.a 2 [] (0))), (5, .one (.a 5 [] (0))), (6, .one (.t none (.sc (.int .i64 (v757.length : Int))))), (10, .one (.h 10 [])), (71, .one (.t none (.sc (.int .i64 (v757.length : Int))))), (72, .one (.t none (.sc (.int .i64 w763))))], [(1, .vr [.sc (.int .i64 a0.letters), .sc (.int .i64 a0.start), .sl a0.final.length (a0.final.map fun x0 => .sc (.bool x0)), .sl a0.next.length (a0.next.map fun x0 => .sl x0.length (x0.map fun x1 => .sc (.int .i64 x1)))]), (2, .vr [.os 1 0 [], .os 1 0 [], .os 1 0 [], .os 1 0 [], .os 1 0 [], .os 1 0 []]), (5, .vr [.os 1 v757.length (v757.map fun x0 => .sc (.int .i64 x0)), .os 1 0 [], .os 1 0 [], .os 1 0 [], .os 1 0 [], .os 1 0 []]), (10, .os 1 w764.length (w764.map fun x0 => .os 1 x0.length (x0.map fun x1 => .sc (.bool x1))))]⟩
def z6c (a0 : DFA) (v757 : List Int) : Int × (List (Int × Int)) -> Option ((Int × (List (Int × Int))) ⊕ (Imgs × Int))
  | (w759, w760) =>
  if w759 < (v757.length : Int) then
    (atI v757 w759).bind fun v762 =>
    z0e (IntKind.i64.wrap (w759 + 1), zaE v762 w759 w760)
  else
    z0k <|
    chk (z1g 24 (v757.length : Int)) <|
    z0j (z7x a0 v757) LFm (0, List.replicate (v757.length : Int).toNat ([] : List Bool))
def z7s (a0 : DFA) (v757 : List Int) : Int × (List (Int × Int)) -> Fr
  | (w759, w760) => ⟨418, [(1, .one (.a 1 [] (0))), (2, .one (.a 2 [] (0))), (5, .one (.a 5 [] (0))), (6, .one (.t none (.sc (.int .i64 (v757.length : Int))))), (7, .one (.h 7 [])), (57, .one (.h 5 [0])), (58, .one (.t none (.sc (.int .i64 (v757.length : Int))))), (59, .one (.t none (.sc (.int .i64 w759))))], [(1, .vr [.sc (.int .i64 a0.letters), .sc (.int .i64 a0.start), .sl a0.final.length (a0.final.map fun x0 => .sc (.bool x0)), .sl a0.next.length (a0.next.map fun x0 => .sl x0.length (x0.map fun x1 => .sc (.int .i64 x1)))]), (2, .vr [.os 1 0 [], .os 1 0 [], .os 1 0 [], .os 1 0 [], .os 1 0 [], .os 1 0 []]), (5, .vr [.os 1 v757.length (v757.map fun x0 => .sc (.int .i64 x0)), .os 1 0 [], .os 1 0 [], .os 1 0 [], .os 1 0 [], .os 1 0 []]), (7, .mp (some .i64) (w760.map fun x0 => (.int .i64 x0.1, .int .i64 x0.2)))]⟩
def zaZ (a0 : DFA) : Option (Imgs × Int) :=
  (z8P a0).bind fun v756 =>
  if v756 = 0 then
    (z7V a0).bind fun v757 =>
    if 400 < (v757.length : Int) then
      some ((⟨[], [], [], [], [], []⟩ : Imgs), 3)
    else
      z0j (z6c a0 v757) LFm (0, ([] : List (Int × Int)))
  else
    some ((⟨[], [], [], [], [], []⟩ : Imgs), v756)
instance ref24_Of_ok {a0 : DFA} : Ok (zaZ a0) (fun r => L 27 [.agg [.sc (.int .i64 a0.letters), .sc (.int .i64 a0.start), .sl a0.final.length (a0.final.map fun x0 => .sc (.bool x0)), .sl a0.next.length (a0.next.map fun x0 => .sl x0.length (x0.map fun x1 => .sc (.int .i64 x1)))]] = some (.tup [.agg [.os 1 r.1.sets.length (r.1.sets.map fun x0 => .sc (.int .i64 x0)), .os 1 r.1.class_.length (r.1.class_.map fun x0 => .sc (.int .i64 x0)), .os 1 r.1.height.length (r.1.height.map fun x0 => .sc (.int .i64 x0)), .os 1 r.1.tiles.length (r.1.tiles.map fun x0 => .os 1 x0.length (x0.map fun x1 => .sc (.int .i64 x1))), .os 1 r.1.words.length (r.1.words.map fun x0 => .sc (.string x0)), .os 1 r.1.back.length (r.1.back.map fun x0 => .sc (.string x0))], .sc (.int .i64 r.2)], [.dead])) := ⟨fun r h0 => by
  simp only [zaZ] at h0
  refine zqu zA2 zAB (zlX zAT ⟨of_decide_eq_true rfl, of_decide_eq_true rfl⟩ ?_)
  simp only [z7d, z6q, z6h, z8B, z6z]
  refine zq rfl (zr rfl rfl rfl (by simp; rfl) ?_)
  refine z0a (zq rfl (zq rfl ?_))
  obtain ⟨v756, f1042, h1⟩ := z1a h0
  have f1042k := Ok.ok _ f1042
  try simp at f1042k
  refine zr rfl rfl rfl (by simp [f1042k]; rfl) ?_
  refine z0a (zq rfl (zr rfl rfl rfl (by simp; rfl) ?_))
  refine z0a ?_
  by_cases c1043 : v756 = 0
  ·rw [if_pos c1043] at h1
   have c1043e := eq_true c1043
   refine z2V rfl (by simp [c1043e]) (z1E rfl (z0a (zq rfl ?_)))
   obtain ⟨v757, f1044, h2⟩ := z1a h1
   have f1044k := Ok.ok _ f1044
   try simp at f1044k
   refine zr rfl rfl rfl (by simp [f1044k]; rfl) ?_
   refine z0a (zq rfl (zr rfl rfl rfl (by simp; rfl) ?_))
   refine z0a (zq rfl (zq rfl (zr rfl rfl rfl (by simp; rfl) ?_)))
   refine z0a ?_
   by_cases c1045 : 400 < (v757.length : Int)
   ·rw [if_pos c1045] at h2
    refine z3i rfl (by simp [c1045]) (zq rfl (zr rfl rfl rfl (by simp; rfl) ?_))
    refine z0a (zhE rfl (zeF ?_))
    cases h2
    simp
   ·rw [if_neg c1045] at h2
    refine z2V rfl (by simp [c1045]) (z1E rfl (z0a (zq rfl (zr rfl rfl rfl (by simp; rfl) ?_))))
    refine z0a (zq rfl (zq rfl (zr rfl rfl rfl (by simp; rfl) ?_)))
    refine z0a (zb rfl (z2l h2 (z7s a0 v757) rfl rfl (by simp [z7s]) fun s o1 h3 hr1 => ?_))
    obtain ⟨w759, w760⟩ := s
    simp only [z6c] at h3
    simp only [z7s]
    refine zq rfl (zr rfl rfl rfl (by simp; rfl) ?_)
    refine z0a (zq rfl ?_)
    by_cases c1050 : w759 < (v757.length : Int)
    ·rw [if_pos c1050] at h3
     refine z3i rfl (by simp [c1050]) (z1E rfl (z0a (zq rfl (zb rfl (zq rfl ?_)))))
     obtain ⟨v762, f1051, h4⟩ := z2k h3
     refine zr rfl rfl rfl (by simp [f1051]; rfl) ?_
     refine z0a (zr rfl rfl rfl (by simp; rfl) ?_)
     refine z0N (z0a (zr rfl rfl rfl (by simp; rfl) ?_))
     have ho := z0w h4
     refine z0H ho ?_
     simp [z7s]
    ·rw [if_neg c1050] at h3
     refine z2V rfl (by simp [c1050]) (z2O rfl (z1U ?_))
     obtain ⟨rr1, h4, ho1⟩ := z0Z h3
     have hs1 := hr1 _ ho1
     subst hs1
     refine z1z ho1 (z0C rfl (z0a (zq rfl ?_)))
     obtain ⟨f1052, h5⟩ := zup h4
     refine zr rfl rfl rfl (by simp [f1052]; rfl) ?_
     refine z0a (zq rfl (zq rfl (zr rfl rfl rfl (by simp [f1052]; rfl) ?_)))
     refine z0a (zb rfl (z2l h5 (z7r a0 v757) rfl rfl (by simp [z7r]) fun s o2 h6 hr2 => ?_))
     obtain ⟨w763, w764⟩ := s
     simp only [z7x] at h6
     simp only [z7r]
     refine zq rfl (zr rfl rfl rfl (by simp; rfl) ?_)
     refine z0a (zq rfl ?_)
     by_cases c1059 : w763 < (v757.length : Int)
     ·rw [if_pos c1059] at h6
      refine z3i rfl (by simp [c1059]) (z1E rfl (z0a (zq rfl (zb rfl (zq rfl (zr rfl rfl rfl (by simp; rfl) ?_))))))
      refine z0a ?_
      obtain ⟨f1060, h7⟩ := zBh h6
      obtain ⟨v766, f1061, h8⟩ := z2k h7
      refine zr rfl rfl rfl (by simp [f1060, f1061]; rfl) ?_
      refine z0N (z0a (zr rfl rfl rfl (by simp; rfl) ?_))
      have ho := z0w h8
      refine z0H ho ?_
      simp [z7r]
     ·rw [if_neg c1059] at h6
      refine z2V rfl (by simp [c1059]) (z2O rfl (z1U ?_))
      obtain ⟨rr2, h7, ho2⟩ := z0Z h6
      have hs2 := hr2 _ ho2
      subst hs2
      refine z1z ho2 (z0C rfl (z0a (zq rfl (zq rfl (zr rfl rfl rfl (by simp; rfl) ?_)))))
      refine z0a (zb rfl (z2l h7 (z7q a0 v757) rfl rfl (by simp [z7q]) fun s o3 h8 hr3 => ?_))
      obtain ⟨w807, w808⟩ := s
      simp only [z7w] at h8
      simp only [z7q]
      refine zq rfl (zr rfl rfl rfl (by simp; rfl) ?_)
      refine z0a (zq rfl ?_)
      by_cases c1170 : w807 < (v757.length : Int)
      ·rw [if_pos c1170] at h8
       refine z3i rfl (by simp [c1170]) (z1E rfl (z0a (zq rfl (zb rfl (zq rfl ?_)))))
       obtain ⟨v849, f1171, h9⟩ := z2k h8
       refine zr rfl rfl rfl (by simp [f1171]; rfl) ?_
       refine z0a (zq rfl ?_)
       obtain ⟨v850, f1172, h10⟩ := z1a h9
       have f1172k := Ok.ok _ f1172
       try simp at f1172k
       refine zr rfl rfl rfl (by simp [f1172k]; rfl) ?_
       refine z0a (zq rfl (zr rfl rfl rfl (by simp; rfl) ?_))
       refine z0a (zb rfl (z2l h10 (z7p a0 v757 w807 v850) rfl rfl (by simp [z7p]) fun s o4 h11 hr4 => ?_))
       obtain ⟨w863, w864⟩ := s
       simp only [z6b] at h11
       simp only [z7p]
       refine zq rfl (zr rfl rfl rfl (by simp; rfl) ?_)
       refine z0a (zq rfl ?_)
       by_cases c1207 : w863 < (v850.1.length : Int)
       ·rw [if_pos c1207] at h11
        refine z3i rfl (by simp [c1207]) (z1E rfl (z0a (zq rfl (zb rfl (zq rfl ?_)))))
        obtain ⟨v877, f1208, h12⟩ := z2k h11
        refine zr rfl rfl rfl (by simp [f1208]; rfl) ?_
        refine z0a (zq rfl (zr rfl rfl rfl (by simp; rfl) ?_))
        refine z0a (zb rfl (z2l h12 (z5R a0 v757 w807 v850 w863 v877) rfl rfl (by simp [z5R]) fun s o5 h13 hr5 => ?_))
        obtain ⟨w881, w882⟩ := s
        simp only [z6a] at h13
        simp only [z5R]
        refine zq rfl (zr rfl rfl rfl (by simp; rfl) ?_)
        refine z0a (zq rfl ?_)
        by_cases c1219 : w881 < (v757.length : Int)
        ·rw [if_pos c1219] at h13
         refine z3i rfl (by simp [c1219]) (z1E rfl (z0a (zq rfl (zb rfl (zq rfl ?_)))))
         obtain ⟨v886, f1220, h14⟩ := z2k h13
         refine zr rfl rfl rfl (by simp [f1220]; rfl) ?_
         refine z0a (zq rfl (zr rfl rfl rfl (by simp; rfl) ?_))
         refine z0a ?_
         by_cases c1221 : (z2a .i64 v886 v877) = v886
         ·rw [if_pos c1221] at h14
          have c1221e := eq_true c1221
          refine z3i rfl (by simp [c1221e]) ?_
          obtain ⟨v887, f1222, h15⟩ := z2k h14
          obtain ⟨v888, f1223, h16⟩ := z2k h15
          refine zr rfl rfl rfl (by simp [f1222, f1223]; rfl) ?_
          refine z0N (z0a (zr rfl rfl rfl (by simp [f1222]; rfl) ?_))
          have ho := z0w h16
          refine z0H ho ?_
          simp [z5R]
         ·rw [if_neg c1221] at h14
          have c1221e := eq_false c1221
          refine z2V rfl (by simp [c1221e]) (z1E rfl (z0N (z0a (zr rfl rfl rfl (by simp; rfl) ?_))))
          have ho := z0w h14
          refine z0H ho ?_
          simp [z5R]
        ·rw [if_neg c1219] at h13
         refine z2V rfl (by simp [c1219]) (z2O rfl (z1U ?_))
         obtain ⟨rr5, h14, ho5⟩ := z0Z h13
         have hs5 := hr5 _ ho5
         subst hs5
         refine z1z ho5 (z0C rfl (z0N (z0a (zr rfl rfl rfl (by simp; rfl) ?_))))
         have ho := z0w h14
         refine z0H ho ?_
         simp [z7p]
       ·rw [if_neg c1207] at h11
        refine z2V rfl (by simp [c1207]) (z2O rfl (z1U ?_))
        obtain ⟨rr4, h12, ho4⟩ := z0Z h11
        have hs4 := hr4 _ ho4
        subst hs4
        refine z1z ho4 (z0C rfl (z0N (z0a (zr rfl rfl rfl (by simp; rfl) ?_))))
        have ho := z0w h12
        refine z0H ho ?_
        simp [z7q]
      ·rw [if_neg c1170] at h8
       refine z2V rfl (by simp [c1170]) (z2O rfl (z1U ?_))
       obtain ⟨rr3, h9, ho3⟩ := z0Z h8
       have hs3 := hr3 _ ho3
       subst hs3
       refine z1z ho3 (z0C rfl (z0a (zq rfl ?_)))
       obtain ⟨f1224, h10⟩ := zup h9
       refine zr rfl rfl rfl (by simp [f1224]; rfl) ?_
       refine z0a (zq rfl (zq rfl (zr rfl rfl rfl (by simp [f1224]; rfl) ?_)))
       refine z0a (zb rfl (z2l h10 (z5Q a0 v757 w808) rfl rfl (by simp [z5Q]) fun s o6 h11 hr6 => ?_))
       obtain ⟨w908, w909⟩ := s
       simp only [z7v] at h11
       simp only [z5Q]
       refine zq rfl (zr rfl rfl rfl (by simp; rfl) ?_)
       refine z0a (zq rfl ?_)
       by_cases c1279 : w908 < (v757.length : Int)
       ·rw [if_pos c1279] at h11
        refine z3i rfl (by simp [c1279]) (z1E rfl (z0a (zq rfl (zb rfl (zq rfl (zr rfl rfl rfl (by simp; rfl) ?_))))))
        refine z0a (zq rfl ?_)
        obtain ⟨v930, f1280, h12⟩ := z2k h11
        refine zr rfl rfl rfl (by simp [f1280]; rfl) ?_
        refine z0a (zq rfl (zr rfl rfl rfl (by simp; rfl) ?_))
        refine z0a (zb rfl (z2l h12 (z5P a0 v757 w808 w908 w909) rfl rfl (by simp [z5P]) fun s o7 h13 hr7 => ?_))
        obtain ⟨w937, hs7⟩ : ∃ y, y = s := ⟨_, rfl⟩
        subst hs7
        simp only [z5Z] at h13
        simp only [z5P]
        refine zq rfl (zq rfl (zr rfl rfl rfl (by simp; rfl) ?_))
        refine z0a ?_
        by_cases c1299 : w937 < w908
        ·rw [if_pos c1299] at h13
         refine z3i rfl (by simp [c1299]) (z1E rfl (z0a (zq rfl (zb rfl (zq rfl ?_)))))
         obtain ⟨v944, f1300, h14⟩ := z2k h13
         obtain ⟨v945, f1301, h15⟩ := z2k h14
         by_cases c1302 : v945 = true
         ·rw [if_pos c1302] at h15
          obtain ⟨v946, f1303, h16⟩ := z2k h15
          obtain ⟨v947, f1304, h17⟩ := z2k h16
          refine zr rfl rfl rfl (by simp [f1300, f1301, c1302, f1303, f1304]; rfl) ?_
          refine z0a ?_
          by_cases c1305 : v947 = true
          ·rw [if_pos c1305] at h17
           refine z3i rfl (by simp [c1305]) (zq rfl ?_)
           obtain ⟨v948, f1306, h18⟩ := z1a h17
           obtain ⟨f1306a, f1306b, f1306c, f1306d, f1306e⟩ := z9Q f1306
           try simp only [List.length_set] at f1306b f1306c
           have f1306s : ∀ hh, ((w909.set w908.toNat w908).map (fun x0 : Int => (.sc (.int .i64 x0) : T)))[w937.toNat]'hh = (fun x0 : Int => (.sc (.int .i64 x0) : T)) v948 := fun hh => by rw [List.getElem_map]; exact congrArg (fun x0 : Int => (.sc (.int .i64 x0) : T)) (f1306e _)
           try simp only [List.map_set] at f1306s
           obtain ⟨v949, f1307, h19⟩ := z1a h18
           obtain ⟨f1307a, f1307b, f1307c, f1307d, f1307e⟩ := z9Q f1307
           try simp only [List.length_set] at f1307b f1307c
           have f1307s : ∀ hh, ((w909.set w908.toNat w908).map (fun x0 : Int => (.sc (.int .i64 x0) : T)))[w908.toNat]'hh = (fun x0 : Int => (.sc (.int .i64 x0) : T)) v949 := fun hh => by rw [List.getElem_map]; exact congrArg (fun x0 : Int => (.sc (.int .i64 x0) : T)) (f1307e _)
           try simp only [List.map_set] at f1307s
           refine zr rfl rfl rfl (by simp [f1300, f1303, f1306a, f1306b, f1306c, f1306d, f1306e, f1306s, f1307a, f1307b, f1307c, f1307d, f1307e, f1307s]; rfl) ?_
           refine z0a (z2O rfl (zfr rfl (z1U ?_)))
           obtain ⟨rr7, h20, ho7⟩ := z0Z h19
           have hs7 := hr7 _ ho7
           subst hs7
           refine z1z ho7 (z0C rfl (z0N (z0a (zr rfl rfl rfl (by simp [f1300, f1303]; rfl) ?_))))
           have ho := z0w h20
           refine z0H ho ?_
           simp [z5Q, c1302, c1305]
          ·rw [if_neg c1305] at h17
           refine z2V rfl (by simp [c1305]) (z1E rfl (z0N (z0a (zr rfl rfl rfl (by simp [f1300, f1303]; rfl) ?_))))
           have ho := z0w h17
           refine z0H ho ?_
           simp [z5P, c1302, c1305]
         ·rw [if_neg c1302] at h15
          refine zr rfl rfl rfl (by simp [f1300, f1301, c1302]; rfl) ?_
          refine z0a (z2V rfl (by simp) (z1E rfl (z0N (z0a (zr rfl rfl rfl (by simp [f1300]; rfl) ?_)))))
          have ho := z0w h15
          refine z0H ho ?_
          simp [z5P, c1302]
        ·rw [if_neg c1299] at h13
         refine z2V rfl (by simp [c1299]) (z2O rfl (z1U ?_))
         obtain ⟨rr7, h14, ho7⟩ := z0Z h13
         have hs7 := hr7 _ ho7
         subst hs7
         refine z1z ho7 (z0C rfl (z0N (z0a (zr rfl rfl rfl (by simp; rfl) ?_))))
         have ho := z0w h14
         refine z0H ho ?_
         simp [z5Q]
       ·rw [if_neg c1279] at h11
        refine z2V rfl (by simp [c1279]) (z2O rfl (z1U ?_))
        obtain ⟨rr6, h12, ho6⟩ := z0Z h11
        have hs6 := hr6 _ ho6
        subst hs6
        refine z1z ho6 (z0C rfl (z0a (zq rfl ?_)))
        obtain ⟨v950, f1308, h13⟩ := z1a h12
        have f1308k := Ok.ok _ f1308
        try simp at f1308k
        refine zr rfl rfl rfl (by simp [f1308k]; rfl) ?_
        refine z0a (zq rfl ?_)
        obtain ⟨f1309, h14⟩ := zup h13
        obtain ⟨f1310, h15⟩ := zup h14
        obtain ⟨f1311, h16⟩ := zup h15
        refine zeQ rfl rfl rfl rfl ?_
        refine zmW [(0, 0, 0, 1), (1, 2, 3, 2), (2, 4, 3, 3), (3, 6, 3, 4), (4, 1, 1, 5), (4, 3, 1, 6), (4, 5, 1, 7), (4, 7, 1, 8), (5, 8, 0, 12), (6, 1, 1, 9), (6, 5, 1, 13), (6, 7, 1, 14), (7, 1, 1, 10), (7, 3, 1, 13), (7, 7, 1, 15), (8, 1, 1, 11), (8, 3, 1, 14), (8, 5, 1, 15), (9, 8, 0, 18), (10, 8, 0, 20), (11, 8, 0, 21), (12, 3, 1, 18), (12, 5, 1, 20), (12, 7, 1, 21), (12, 9, 2, 22), (13, 1, 1, 16), (13, 7, 1, 23), (14, 1, 1, 17), (14, 5, 1, 23), (15, 1, 1, 19), (15, 3, 1, 23), (16, 8, 0, 25), (17, 8, 0, 26), (18, 5, 1, 25), (18, 7, 1, 26), (18, 9, 2, 27), (19, 8, 0, 28), (20, 3, 1, 25), (20, 7, 1, 28), (20, 9, 2, 29), (21, 3, 1, 26), (21, 5, 1, 28), (21, 9, 2, 30), (22, 3, 1, 27), (22, 5, 1, 29), (22, 7, 1, 30), (23, 1, 1, 24), (24, 8, 0, 31), (25, 7, 1, 31), (25, 9, 2, 32), (26, 5, 1, 31), (26, 9, 2, 33), (27, 10, 0, 34), (28, 3, 1, 31), (28, 9, 2, 35), (29, 3, 1, 32), (29, 7, 1, 35), (30, 3, 1, 33), (30, 5, 1, 35), (31, 9, 2, 36), (32, 10, 0, 37), (33, 10, 0, 38), (34, 5, 1, 37), (34, 7, 1, 38), (34, 11, 2, 39), (35, 3, 1, 36), (36, 10, 0, 40), (37, 7, 1, 40), (37, 11, 2, 41), (38, 5, 1, 40), (38, 11, 2, 42), (39, 5, 1, 41), (39, 7, 1, 42), (40, 11, 2, 43), (41, 12, 0, 44), (42, 5, 1, 43), (43, 12, 0, 45), (44, 7, 1, 45), (44, 13, 2, 46), (45, 13, 2, 47), (46, 7, 1, 47), (47, 14, 0, 48), (48, 15, 2, 49)] 49 (by kernel_rfl) ?_
        refine z0f rfl rfl rfl rfl (by simp [z0b, z0c, f1309, f1310, f1311]; rfl) ?_
        refine z0f rfl rfl rfl rfl (by simp [z0b, z0c, f1309, f1310, f1311]; rfl) ?_
        refine z0f rfl rfl rfl rfl (by simp [z0b, z0c, f1309, f1310, f1311]; rfl) ?_
        refine z0f rfl rfl rfl rfl (by simp [z0b, z0c, f1309, f1310, f1311]; rfl) ?_
        refine z0f rfl rfl rfl rfl (by simp [z0b, z0c, f1309, f1310, f1311]; rfl) ?_
        refine z0f rfl rfl rfl rfl (by simp [z0b, z0c, f1309, f1310, f1311]; rfl) ?_
        refine z0f rfl rfl rfl rfl (by simp [z0b, z0c, f1309, f1310, f1311]; rfl) ?_
        refine z0f rfl rfl rfl rfl (by simp [z0b, z0c, f1309, f1310, f1311]; rfl) ?_
        refine z0f rfl rfl rfl rfl (by simp [z0b, z0c, f1309, f1310, f1311]; rfl) ?_
        refine z0f rfl rfl rfl rfl (by simp [z0b, z0c, f1309, f1310, f1311]; rfl) ?_
        refine z0f rfl rfl rfl rfl (by simp [z0b, z0c, f1309, f1310, f1311]; rfl) ?_
        refine z0f rfl rfl rfl rfl (by simp [z0b, z0c, f1309, f1310, f1311]; rfl) ?_
        refine z0f rfl rfl rfl rfl (by simp [z0b, z0c, f1309, f1310, f1311]; rfl) ?_
        refine z0i rfl rfl rfl rfl (by simp [z0b, z0c, f1309, f1310, f1311]) ?_
        refine z0f rfl rfl rfl rfl (by simp [z0b, z0c, f1309, f1310, f1311]; rfl) ?_
        refine z0f rfl rfl rfl rfl (by simp [z0b, z0c, f1309, f1310, f1311]; rfl) ?_
        refine z0i rfl rfl rfl rfl (by simp [z0b, z0c, f1309, f1310, f1311]) ?_
        refine z0i rfl rfl rfl rfl (by simp [z0b, z0c, f1309, f1310, f1311]) ?_
        refine z0f rfl rfl rfl rfl (by simp [z0b, z0c, f1309, f1310, f1311]; rfl) ?_
        refine z0f rfl rfl rfl rfl (by simp [z0b, z0c, f1309, f1310, f1311]; rfl) ?_
        refine z0f rfl rfl rfl rfl (by simp [z0b, z0c, f1309, f1310, f1311]; rfl) ?_
        refine z0i rfl rfl rfl rfl (by simp [z0b, z0c, f1309, f1310, f1311]) ?_
        refine z0i rfl rfl rfl rfl (by simp [z0b, z0c, f1309, f1310, f1311]) ?_
        refine z0i rfl rfl rfl rfl (by simp [z0b, z0c, f1309, f1310, f1311]) ?_
        refine z0f rfl rfl rfl rfl (by simp [z0b, z0c, f1309, f1310, f1311]; rfl) ?_
        refine z0f rfl rfl rfl rfl (by simp [z0b, z0c, f1309, f1310, f1311]; rfl) ?_
        refine z0f rfl rfl rfl rfl (by simp [z0b, z0c, f1309, f1310, f1311]; rfl) ?_
        refine z0f rfl rfl rfl rfl (by simp [z0b, z0c, f1309, f1310, f1311]; rfl) ?_
        refine z0i rfl rfl rfl rfl (by simp [z0b, z0c, f1309, f1310, f1311]) ?_
        refine z0f rfl rfl rfl rfl (by simp [z0b, z0c, f1309, f1310, f1311]; rfl) ?_
        refine z0i rfl rfl rfl rfl (by simp [z0b, z0c, f1309, f1310, f1311]) ?_
        refine z0f rfl rfl rfl rfl (by simp [z0b, z0c, f1309, f1310, f1311]; rfl) ?_
        refine z0f rfl rfl rfl rfl (by simp [z0b, z0c, f1309, f1310, f1311]; rfl) ?_
        refine z0i rfl rfl rfl rfl (by simp [z0b, z0c, f1309, f1310, f1311]) ?_
        refine z0i rfl rfl rfl rfl (by simp [z0b, z0c, f1309, f1310, f1311]) ?_
        refine z0f rfl rfl rfl rfl (by simp [z0b, z0c, f1309, f1310, f1311]; rfl) ?_
        refine z0f rfl rfl rfl rfl (by simp [z0b, z0c, f1309, f1310, f1311]; rfl) ?_
        refine z0i rfl rfl rfl rfl (by simp [z0b, z0c, f1309, f1310, f1311]) ?_
        refine z0i rfl rfl rfl rfl (by simp [z0b, z0c, f1309, f1310, f1311]) ?_
        refine z0f rfl rfl rfl rfl (by simp [z0b, z0c, f1309, f1310, f1311]; rfl) ?_
        refine z0i rfl rfl rfl rfl (by simp [z0b, z0c, f1309, f1310, f1311]) ?_
        refine z0i rfl rfl rfl rfl (by simp [z0b, z0c, f1309, f1310, f1311]) ?_
        refine z0f rfl rfl rfl rfl (by simp [z0b, z0c, f1309, f1310, f1311]; rfl) ?_
        refine z0i rfl rfl rfl rfl (by simp [z0b, z0c, f1309, f1310, f1311]) ?_
        refine z0i rfl rfl rfl rfl (by simp [z0b, z0c, f1309, f1310, f1311]) ?_
        refine z0i rfl rfl rfl rfl (by simp [z0b, z0c, f1309, f1310, f1311]) ?_
        refine z0f rfl rfl rfl rfl (by simp [z0b, z0c, f1309, f1310, f1311]; rfl) ?_
        refine z0f rfl rfl rfl rfl (by simp [z0b, z0c, f1309, f1310, f1311]; rfl) ?_
        refine z0i rfl rfl rfl rfl (by simp [z0b, z0c, f1309, f1310, f1311]) ?_
        refine z0f rfl rfl rfl rfl (by simp [z0b, z0c, f1309, f1310, f1311]; rfl) ?_
        refine z0i rfl rfl rfl rfl (by simp [z0b, z0c, f1309, f1310, f1311]) ?_
        refine z0f rfl rfl rfl rfl (by simp [z0b, z0c, f1309, f1310, f1311]; rfl) ?_
        refine z0f rfl rfl rfl rfl (by simp [z0b, z0c, f1309, f1310, f1311]; rfl) ?_
        refine z0i rfl rfl rfl rfl (by simp [z0b, z0c, f1309, f1310, f1311]) ?_
        refine z0f rfl rfl rfl rfl (by simp [z0b, z0c, f1309, f1310, f1311]; rfl) ?_
        refine z0i rfl rfl rfl rfl (by simp [z0b, z0c, f1309, f1310, f1311]) ?_
        refine z0i rfl rfl rfl rfl (by simp [z0b, z0c, f1309, f1310, f1311]) ?_
        refine z0i rfl rfl rfl rfl (by simp [z0b, z0c, f1309, f1310, f1311]) ?_
        refine z0i rfl rfl rfl rfl (by simp [z0b, z0c, f1309, f1310, f1311]) ?_
        refine z0f rfl rfl rfl rfl (by simp [z0b, z0c, f1309, f1310, f1311]; rfl) ?_
        refine z0f rfl rfl rfl rfl (by simp [z0b, z0c, f1309, f1310, f1311]; rfl) ?_
        refine z0f rfl rfl rfl rfl (by simp [z0b, z0c, f1309, f1310, f1311]; rfl) ?_
        refine z0i rfl rfl rfl rfl (by simp [z0b, z0c, f1309, f1310, f1311]) ?_
        refine z0i rfl rfl rfl rfl (by simp [z0b, z0c, f1309, f1310, f1311]) ?_
        refine z0f rfl rfl rfl rfl (by simp [z0b, z0c, f1309, f1310, f1311]; rfl) ?_
        refine z0i rfl rfl rfl rfl (by simp [z0b, z0c, f1309, f1310, f1311]) ?_
        refine z0f rfl rfl rfl rfl (by simp [z0b, z0c, f1309, f1310, f1311]; rfl) ?_
        refine z0i rfl rfl rfl rfl (by simp [z0b, z0c, f1309, f1310, f1311]) ?_
        refine z0f rfl rfl rfl rfl (by simp [z0b, z0c, f1309, f1310, f1311]; rfl) ?_
        refine z0i rfl rfl rfl rfl (by simp [z0b, z0c, f1309, f1310, f1311]) ?_
        refine z0f rfl rfl rfl rfl (by simp [z0b, z0c, f1309, f1310, f1311]; rfl) ?_
        refine z0i rfl rfl rfl rfl (by simp [z0b, z0c, f1309, f1310, f1311]) ?_
        refine z0i rfl rfl rfl rfl (by simp [z0b, z0c, f1309, f1310, f1311]) ?_
        refine z0f rfl rfl rfl rfl (by simp [z0b, z0c, f1309, f1310, f1311]; rfl) ?_
        refine z0f rfl rfl rfl rfl (by simp [z0b, z0c, f1309, f1310, f1311]; rfl) ?_
        refine z0i rfl rfl rfl rfl (by simp [z0b, z0c, f1309, f1310, f1311]) ?_
        refine z0f rfl rfl rfl rfl (by simp [z0b, z0c, f1309, f1310, f1311]; rfl) ?_
        refine z0i rfl rfl rfl rfl (by simp [z0b, z0c, f1309, f1310, f1311]) ?_
        refine z0f rfl rfl rfl rfl (by simp [z0b, z0c, f1309, f1310, f1311]; rfl) ?_
        refine z0f rfl rfl rfl rfl (by simp [z0b, z0c, f1309, f1310, f1311]; rfl) ?_
        refine z0i rfl rfl rfl rfl (by simp [z0b, z0c, f1309, f1310, f1311]) ?_
        refine z0f rfl rfl rfl rfl (by simp [z0b, z0c, f1309, f1310, f1311]; rfl) ?_
        refine z0f rfl rfl rfl rfl (by simp [z0b, z0c, f1309, f1310, f1311]; rfl) ?_
        refine znN rfl ?_
        refine zeC rfl (by simp [f1309, f1310, f1311]; rfl) ?_
        refine z0a (zq rfl (zq rfl (zr rfl rfl rfl (by simp; rfl) ?_)))
        refine z0a (zb rfl (z2l h16 (z7o a0 v757 w808 v950) rfl rfl (by simp [z7o]) fun s o8 h17 hr8 => ?_))
        obtain ⟨w1055, w1056⟩ := s
        simp only [z5Y] at h17
        simp only [z7o]
        refine zq rfl (zq rfl (zr rfl rfl rfl (by simp; rfl) ?_))
        refine z0a ?_
        by_cases c1567 : w1055 = true
        ·rw [if_pos c1567] at h17
         refine z3i rfl (by simp [c1567]) (z1E rfl (z0a (zb rfl (zq rfl (zr rfl rfl rfl (by simp; rfl) ?_)))))
         refine z0a (zq rfl (zr rfl rfl rfl (by simp; rfl) ?_))
         refine z0a (zb rfl (z2l h17 (z7n a0 v757 w808 v950) rfl rfl (by simp [z7n]) fun s o9 h18 hr9 => ?_))
         obtain ⟨w1204, w1205, w1206⟩ := s
         simp only [z5X] at h18
         simp only [z7n]
         refine zq rfl (zr rfl rfl rfl (by simp; rfl) ?_)
         refine z0a (zq rfl ?_)
         by_cases c1655 : w1205 < (v757.length : Int)
         ·rw [if_pos c1655] at h18
          refine z3i rfl (by simp [c1655]) (z1E rfl (z0a (zq rfl (zb rfl (zq rfl (zr rfl rfl rfl (by simp; rfl) ?_))))))
          refine z0a (zq rfl (zr rfl rfl rfl (by simp; rfl) ?_))
          refine z0a (zb rfl (z2l h18 (z3D a0 v757 w808 v950 w1205) rfl rfl (by simp [z3D]) fun s o10 h19 hr10 => ?_))
          obtain ⟨w1251, w1250, w1252⟩ := s
          simp only [z5W] at h19
          simp only [z3D]
          refine zq rfl (zr rfl rfl rfl (by simp; rfl) ?_)
          refine z0a (zq rfl ?_)
          by_cases c1682 : w1250 < (v757.length : Int)
          ·rw [if_pos c1682] at h19
           refine z3i rfl (by simp [c1682]) (z1E rfl (z0a (zq rfl (zb rfl (zq rfl (zr rfl rfl rfl (by simp; rfl) ?_))))))
           refine z0a (zq rfl ?_)
           obtain ⟨v1263, f1683, h20⟩ := z2k h19
           obtain ⟨v1264, f1684, h21⟩ := z1a h20
           have f1684k := Ok.ok _ f1684
           try simp at f1684k
           by_cases c1685 : 1 < v1264
           ·rw [if_pos c1685] at h21
            obtain ⟨v1265, f1686, h22⟩ := z2k h21
            obtain ⟨v1266, f1687, h23⟩ := z2k h22
            by_cases c1688 : v1266 = true
            ·rw [if_pos c1688] at h23
             obtain ⟨v1267, f1689, h24⟩ := z2k h23
             obtain ⟨v1268, f1690, h25⟩ := z2k h24
             by_cases c1691 : v1268 = true
             ·rw [if_pos c1691] at h25
              refine z3N rfl rfl rfl rfl ?_; repeat' (first | (refine z1P rfl rfl fun Q' hQ => ?_; simp [f1683, f1684k, c1685, f1686, f1687, c1688, f1689, f1690, c1691]; refine hQ.out _ ?_; clear hQ; clear Q') | (refine z4U rfl rfl fun Q1 Q2 h1 h2 => ?_; simp [f1683, f1684k, c1685, f1686, f1687, c1688, f1689, f1690, c1691, z8E]; (first | refine h1.out ?_ | refine h2.out ?_); clear h1 h2; clear Q1 Q2; intro Q' hQ; simp [f1683, f1684k, c1685, f1686, f1687, c1688, f1689, f1690, c1691]; refine hQ.out _ ?_; clear hQ; clear Q') | (refine z1r rfl fun Q' hQ => ?_; simp [f1683, f1684k, c1685, f1686, f1687, c1688, f1689, f1690, c1691]; refine hQ.out _ ?_; clear hQ; clear Q'))
              refine z0a (z2V rfl (by simp) (z1E rfl (z0N (z0a (zr rfl rfl rfl (by simp [f1686, f1689]; rfl) ?_)))))
              have ho := z0w h25
              refine z0H ho ?_
              simp [z3D, c1688, c1691]
             ·rw [if_neg c1691] at h25
              obtain ⟨v1269, f1692, h26⟩ := z2k h25
              obtain ⟨v1270, f1693, h27⟩ := z2k h26
              refine z3N rfl rfl rfl rfl ?_; repeat' (first | (refine z1P rfl rfl fun Q' hQ => ?_; simp [f1683, f1684k, c1685, f1686, f1687, c1688, f1689, f1690, c1691, f1692, f1693]; refine hQ.out _ ?_; clear hQ; clear Q') | (refine z4U rfl rfl fun Q1 Q2 h1 h2 => ?_; simp [f1683, f1684k, c1685, f1686, f1687, c1688, f1689, f1690, c1691, f1692, f1693, z8E]; (first | refine h1.out ?_ | refine h2.out ?_); clear h1 h2; clear Q1 Q2; intro Q' hQ; simp [f1683, f1684k, c1685, f1686, f1687, c1688, f1689, f1690, c1691, f1692, f1693]; refine hQ.out _ ?_; clear hQ; clear Q') | (refine z1r rfl fun Q' hQ => ?_; simp [f1683, f1684k, c1685, f1686, f1687, c1688, f1689, f1690, c1691, f1692, f1693]; refine hQ.out _ ?_; clear hQ; clear Q'))
              refine z0a ?_
              by_cases c1694 : v1269 <= v1270
              ·rw [if_pos c1694] at h27
               refine z3i rfl (by simp [c1694]) (zq rfl ?_)
               refine z3N rfl rfl rfl rfl ?_; repeat' ((first | refine z1P rfl rfl fun Q' hQ => ?_ | refine z1r rfl fun Q' hQ => ?_); simp [f1686, f1689, f1693, f1692]; refine hQ.out _ ?_; clear hQ; clear Q')
               refine z0a (zr rfl rfl rfl (by simp [f1686, f1689]; rfl) ?_)
               refine z0N (z0a (zr rfl rfl rfl (by simp [f1686, f1689]; rfl) ?_))
               have ho := z0w h27
               refine z0H ho ?_
               simp [z3D, c1688, c1691]
              ·rw [if_neg c1694] at h27
               refine z2V rfl (by simp [c1694]) (z1E rfl (z0N (z0a (zr rfl rfl rfl (by simp [f1686, f1689]; rfl) ?_))))
               have ho := z0w h27
               refine z0H ho ?_
               simp [z3D, c1688, c1691]
            ·rw [if_neg c1688] at h23
             refine z3N rfl rfl rfl rfl ?_; repeat' (first | (refine z1P rfl rfl fun Q' hQ => ?_; simp [f1683, f1684k, c1685, f1686, f1687, c1688]; refine hQ.out _ ?_; clear hQ; clear Q') | (refine z4U rfl rfl fun Q1 Q2 h1 h2 => ?_; simp [f1683, f1684k, c1685, f1686, f1687, c1688, z8E]; (first | refine h1.out ?_ | refine h2.out ?_); clear h1 h2; clear Q1 Q2; intro Q' hQ; simp [f1683, f1684k, c1685, f1686, f1687, c1688]; refine hQ.out _ ?_; clear hQ; clear Q') | (refine z1r rfl fun Q' hQ => ?_; simp [f1683, f1684k, c1685, f1686, f1687, c1688]; refine hQ.out _ ?_; clear hQ; clear Q'))
             refine z0a (z2V rfl (by simp) (z1E rfl (z0N (z0a (zr rfl rfl rfl (by simp [f1686]; rfl) ?_)))))
             have ho := z0w h23
             refine z0H ho ?_
             simp [z3D, c1688]
           ·rw [if_neg c1685] at h21
            refine z3N rfl rfl rfl rfl ?_; repeat' (first | (refine z1P rfl rfl fun Q' hQ => ?_; simp [f1683, f1684k, c1685]; refine hQ.out _ ?_; clear hQ; clear Q') | (refine z4U rfl rfl fun Q1 Q2 h1 h2 => ?_; simp [f1683, f1684k, c1685, z8E]; (first | refine h1.out ?_ | refine h2.out ?_); clear h1 h2; clear Q1 Q2; intro Q' hQ; simp [f1683, f1684k, c1685]; refine hQ.out _ ?_; clear hQ; clear Q') | (refine z1r rfl fun Q' hQ => ?_; simp [f1683, f1684k, c1685]; refine hQ.out _ ?_; clear hQ; clear Q'))
            refine z0a (z2V rfl (by simp) (z1E rfl (z0N (z0a (zr rfl rfl rfl (by simp; rfl) ?_)))))
            have ho := z0w h21
            refine z0H ho ?_
            simp [z3D]
          ·rw [if_neg c1682] at h19
           refine z2V rfl (by simp [c1682]) (z2O rfl (z1U ?_))
           obtain ⟨rr10, h20, ho10⟩ := z0Z h19
           have hs10 := hr10 _ ho10
           subst hs10
           refine z1z ho10 (z0C rfl (z0N (z0a (zr rfl rfl rfl (by simp; rfl) ?_))))
           have ho := z0w h20
           refine z0H ho ?_
           simp [z7n]
         ·rw [if_neg c1655] at h18
          refine z2V rfl (by simp [c1655]) (z2O rfl (z1U ?_))
          obtain ⟨rr9, h19, ho9⟩ := z0Z h18
          have hs9 := hr9 _ ho9
          subst hs9
          refine z1z ho9 (z0C rfl (z0N ?_))
          have ho := z0w h19
          refine z0H ho ?_
          simp [z7o]
        ·rw [if_neg c1567] at h17
         refine z2V rfl (by simp [c1567]) (z2O rfl (z1U ?_))
         obtain ⟨rr8, h18, ho8⟩ := z0Z h17
         have hs8 := hr8 _ ho8
         subst hs8
         refine z1z ho8 (z0C rfl (z0a (zq rfl (zq rfl (zr rfl rfl rfl (by simp; rfl) ?_)))))
         refine z0a (zb rfl (z2l h18 (z5O a0 v757 v950 w1056) rfl rfl (by simp [z5O]) fun s o11 h19 hr11 => ?_))
         obtain ⟨w1311, w1312⟩ := s
         simp only [z4L] at h19
         simp only [z5O]
         refine zq rfl (zr rfl rfl rfl (by simp; rfl) ?_)
         refine z0a (zq rfl ?_)
         by_cases c1855 : w1311 < (v757.length : Int)
         ·rw [if_pos c1855] at h19
          refine z3i rfl (by simp [c1855]) (z1E rfl (z0a (zq rfl (zb rfl (zq rfl (zr rfl rfl rfl (by simp; rfl) ?_))))))
          refine z0a (zq rfl (zq rfl ?_))
          obtain ⟨v1353, f1856, h20⟩ := z2k h19
          obtain ⟨v1354, f1857, h21⟩ := z1a h20
          have f1857k := Ok.ok _ f1857
          try simp at f1857k
          refine zr rfl rfl rfl (by simp [f1856, f1857k]; rfl) ?_
          refine z0a ?_
          by_cases c1858 : v1354 = 1
          ·rw [if_pos c1858] at h21
           have c1858e := eq_true c1858
           refine z3i rfl (by simp [c1858e]) (z2O rfl (z1U (z0C rfl (z0a (zr rfl rfl rfl (by simp; rfl) ?_)))))
           have ho := z0w h21
           refine z0H ho ?_
           simp [z5O]
          ·rw [if_neg c1858] at h21
           have c1858e := eq_false c1858
           refine z2V rfl (by simp [c1858e]) (z1E rfl (z0a (zq rfl (zr rfl rfl rfl (by simp; rfl) ?_))))
           refine z0a (zb rfl (z2l h21 (z3X a0 v757 v950 w1056 w1311) rfl rfl (by simp [z3X]) fun s o12 h22 hr12 => ?_))
           obtain ⟨w1367, w1368⟩ := s
           simp only [z5V] at h22
           simp only [z3X]
           refine zq rfl (zr rfl rfl rfl (by simp; rfl) ?_)
           refine z0a (zq rfl ?_)
           by_cases c1913 : w1367 < (v757.length : Int)
           ·rw [if_pos c1913] at h22
            refine z3i rfl (by simp [c1913]) (z1E rfl (z0a (zq rfl (zb rfl (zq rfl ?_)))))
            obtain ⟨v1381, f1914, h23⟩ := z2k h22
            refine zr rfl rfl rfl (by simp [f1914]; rfl) ?_
            refine z0a (zq rfl (zq rfl ?_))
            obtain ⟨v1382, f1915, h24⟩ := z2k h23
            by_cases c1916 : (z2a .i64 v1381 v1382) = v1381
            ·rw [if_pos c1916] at h24
             have c1916e := eq_true c1916
             refine zr rfl rfl rfl (by simp [f1915, c1916e]; rfl) ?_
             refine z0a ?_
             by_cases c1917 : w1367 = w1311
             ·rw [if_pos c1917] at h24
              have c1917e := eq_true c1917
              refine z3i rfl (by simp [c1917e]) (z2O rfl (z1U (z0C rfl (z0a (zr rfl rfl rfl (by simp; rfl) ?_)))))
              have ho := z0w h24
              refine z0H ho ?_
              simp [z3X]
             ·rw [if_neg c1917] at h24
              have c1917e := eq_false c1917
              refine z2V rfl (by simp [c1917e]) (z1E rfl (z0a (zq rfl (zr rfl rfl rfl (by simp; rfl) ?_))))
              refine z0a (zq rfl (zq rfl (zr rfl rfl rfl (by simp; rfl) ?_)))
              refine z0a (zb rfl (z2l h24 (z3C a0 v757 v950 w1056 w1311 w1367 w1368 v1381) rfl rfl (by simp [z3C]) fun s o13 h25 hr13 => ?_))
              obtain ⟨w1385, w1386⟩ := s
              simp only [z5U] at h25
              simp only [z3C]
              refine zq rfl (zr rfl rfl rfl (by simp; rfl) ?_)
              refine z0a (zq rfl ?_)
              by_cases c1931 : w1386 < (v757.length : Int)
              ·rw [if_pos c1931] at h25
               refine z3i rfl (by simp [c1931]) (z1E rfl (z0a (zq rfl (zb rfl (zq rfl ?_)))))
               obtain ⟨v1389, f1932, h26⟩ := z2k h25
               refine zr rfl rfl rfl (by simp [f1932]; rfl) ?_
               refine z0a ?_
               by_cases c1933 : w1385 = true
               ·rw [if_pos c1933] at h26
                by_cases c1934 : w1386 = w1367
                ·rw [if_pos c1934] at h26
                 have c1934e := eq_true c1934
                 refine zr rfl rfl rfl (by simp [c1933, c1934e]; rfl) ?_
                 refine z0N (z0a (zr rfl rfl rfl (by simp; rfl) ?_))
                 have ho := z0w h26
                 refine z0H ho ?_
                 simp [z3C, c1933]
                ·rw [if_neg c1934] at h26
                 have c1934e := eq_false c1934
                 by_cases c1935 : w1386 = w1311
                 ·rw [if_pos c1935] at h26
                  have c1935e := eq_true c1935
                  refine zr rfl rfl rfl (by simp [c1933, c1934e, c1935e]; rfl) ?_
                  refine z0N (z0a (zr rfl rfl rfl (by simp; rfl) ?_))
                  have ho := z0w h26
                  refine z0H ho ?_
                  simp [z3C, c1933]
                 ·rw [if_neg c1935] at h26
                  have c1935e := eq_false c1935
                  obtain ⟨v1390, f1936, h27⟩ := z2k h26
                  by_cases c1937 : (z2a .i64 v1389 v1390) = v1389
                  ·rw [if_pos c1937] at h27
                   have c1937e := eq_true c1937
                   refine zr rfl rfl rfl (by simp [c1933, c1934e, c1935e, f1936, c1937e]; rfl) ?_
                   refine z0N (z0a (zr rfl rfl rfl (by simp; rfl) ?_))
                   have ho := z0w h27
                   refine z0H ho ?_
                   simp [z3C, c1933]
                  ·rw [if_neg c1937] at h27
                   have c1937e := eq_false c1937
                   refine zr rfl rfl rfl (by simp [c1933, c1934e, c1935e, f1936, c1937e]; rfl) ?_
                   refine z0N (z0a (zr rfl rfl rfl (by simp; rfl) ?_))
                   have ho := z0w h27
                   refine z0H ho ?_
                   simp [z3C, c1933]
               ·rw [if_neg c1933] at h26
                refine zr rfl rfl rfl (by simp [c1933]; rfl) ?_
                refine z0N (z0a (zr rfl rfl rfl (by simp; rfl) ?_))
                have ho := z0w h26
                refine z0H ho ?_
                simp [z3C, c1933]
              ·rw [if_neg c1931] at h25
               refine z2V rfl (by simp [c1931]) (z2O rfl (z1U ?_))
               obtain ⟨rr13, h26, ho13⟩ := z0Z h25
               have hs13 := hr13 _ ho13
               subst hs13
               refine z1z ho13 (z0C rfl (z0a (zq rfl (zr rfl rfl rfl (by simp; rfl) ?_))))
               refine z0a ?_
               by_cases c1938 : w1385 = true
               ·rw [if_pos c1938] at h26
                refine z3i rfl (by simp [c1938]) ?_
                obtain ⟨v1391, f1939, h27⟩ := z2k h26
                obtain ⟨f1940, h28⟩ := zi7 h27
                refine zeQ rfl rfl rfl rfl ?_
                refine zmW [(0, 0, 3, 1), (1, 2, 3, 2), (2, 3, 3, 3), (3, 5, 3, 4), (4, 8, 3, 5), (5, 1, 2, 6), (5, 4, 2, 7), (5, 9, 1, 8), (6, 4, 2, 9), (6, 9, 1, 10), (7, 6, 3, 11), (8, 1, 2, 10), (8, 4, 2, 12), (9, 6, 0, 13), (10, 4, 2, 14), (11, 1, 2, 13), (11, 7, 2, 15), (11, 9, 1, 16), (12, 6, 3, 16), (13, 7, 2, 17), (13, 9, 1, 18), (14, 6, 0, 18), (15, 1, 2, 17), (15, 9, 1, 19), (16, 1, 2, 18), (16, 7, 2, 19), (17, 9, 1, 20), (18, 7, 2, 20), (19, 1, 2, 20), (19, 10, 2, 21), (20, 10, 2, 22), (21, 1, 2, 22), (22, 11, 0, 23), (23, 12, 2, 24)] 24 (by kernel_rfl) ?_
                refine z0f rfl rfl rfl rfl (by simp [z0b, z0c, f1939, f1940]; rfl) ?_
                refine z0f rfl rfl rfl rfl (by simp [z0b, z0c, f1939, f1940]; rfl) ?_
                refine z0f rfl rfl rfl rfl (by simp [z0b, z0c, f1939, f1940]; rfl) ?_
                refine z0f rfl rfl rfl rfl (by simp [z0b, z0c, f1939, f1940]; rfl) ?_
                refine z0f rfl rfl rfl rfl (by simp [z0b, z0c, f1939, f1940]; rfl) ?_
                refine z0f rfl rfl rfl rfl (by simp [z0b, z0c, f1939, f1940]; rfl) ?_
                refine z0f rfl rfl rfl rfl (by simp [z0b, z0c, f1939, f1940]; rfl) ?_
                refine z0f rfl rfl rfl rfl (by simp [z0b, z0c, f1939, f1940]; rfl) ?_
                refine z0f rfl rfl rfl rfl (by simp [z0b, z0c, f1939, f1940]; rfl) ?_
                refine z0f rfl rfl rfl rfl (by simp [z0b, z0c, f1939, f1940]; rfl) ?_
                refine z0f rfl rfl rfl rfl (by simp [z0b, z0c, f1939, f1940]; rfl) ?_
                refine z0i rfl rfl rfl rfl (by simp [z0b, z0c, f1939, f1940]) ?_
                refine z0f rfl rfl rfl rfl (by simp [z0b, z0c, f1939, f1940]; rfl) ?_
                refine z0f rfl rfl rfl rfl (by simp [z0b, z0c, f1939, f1940]; rfl) ?_
                refine z0f rfl rfl rfl rfl (by simp [z0b, z0c, f1939, f1940]; rfl) ?_
                refine z0i rfl rfl rfl rfl (by simp [z0b, z0c, f1939, f1940]) ?_
                refine z0f rfl rfl rfl rfl (by simp [z0b, z0c, f1939, f1940]; rfl) ?_
                refine z0f rfl rfl rfl rfl (by simp [z0b, z0c, f1939, f1940]; rfl) ?_
                refine z0i rfl rfl rfl rfl (by simp [z0b, z0c, f1939, f1940]) ?_
                refine z0f rfl rfl rfl rfl (by simp [z0b, z0c, f1939, f1940]; rfl) ?_
                refine z0f rfl rfl rfl rfl (by simp [z0b, z0c, f1939, f1940]; rfl) ?_
                refine z0i rfl rfl rfl rfl (by simp [z0b, z0c, f1939, f1940]) ?_
                refine z0i rfl rfl rfl rfl (by simp [z0b, z0c, f1939, f1940]) ?_
                refine z0f rfl rfl rfl rfl (by simp [z0b, z0c, f1939, f1940]; rfl) ?_
                refine z0i rfl rfl rfl rfl (by simp [z0b, z0c, f1939, f1940]) ?_
                refine z0i rfl rfl rfl rfl (by simp [z0b, z0c, f1939, f1940]) ?_
                refine z0f rfl rfl rfl rfl (by simp [z0b, z0c, f1939, f1940]; rfl) ?_
                refine z0i rfl rfl rfl rfl (by simp [z0b, z0c, f1939, f1940]) ?_
                refine z0i rfl rfl rfl rfl (by simp [z0b, z0c, f1939, f1940]) ?_
                refine z0f rfl rfl rfl rfl (by simp [z0b, z0c, f1939, f1940]; rfl) ?_
                refine z0f rfl rfl rfl rfl (by simp [z0b, z0c, f1939, f1940]; rfl) ?_
                refine z0i rfl rfl rfl rfl (by simp [z0b, z0c, f1939, f1940]) ?_
                refine z0f rfl rfl rfl rfl (by simp [z0b, z0c, f1939, f1940]; rfl) ?_
                refine z0f rfl rfl rfl rfl (by simp [z0b, z0c, f1939, f1940]; rfl) ?_
                refine znN rfl ?_
                refine zeC rfl (by simp [f1939, f1940]; rfl) ?_
                refine z0N (z0a (zr rfl rfl rfl (by simp; rfl) ?_))
                have ho := z0w h28
                refine z0H ho ?_
                simp [z3X, c1938]
               ·rw [if_neg c1938] at h26
                refine z2V rfl (by simp [c1938]) (z1E rfl (z0N (z0a (zr rfl rfl rfl (by simp; rfl) ?_))))
                have ho := z0w h26
                refine z0H ho ?_
                simp [z3X, c1938]
            ·rw [if_neg c1916] at h24
             have c1916e := eq_false c1916
             refine zr rfl rfl rfl (by simp [f1915, c1916e]; rfl) ?_
             refine z0a (z3i rfl (by simp) (z2O rfl (z1U (z0C rfl (z0a (zr rfl rfl rfl (by simp; rfl) ?_))))))
             have ho := z0w h24
             refine z0H ho ?_
             simp [z3X]
           ·rw [if_neg c1913] at h22
            refine z2V rfl (by simp [c1913]) (z2O rfl (z1U ?_))
            obtain ⟨rr12, h23, ho12⟩ := z0Z h22
            have hs12 := hr12 _ ho12
            subst hs12
            refine z1z ho12 (z0C rfl (z0N (z0a (zr rfl rfl rfl (by simp; rfl) ?_))))
            have ho := z0w h23
            refine z0H ho ?_
            simp [z5O]
         ·rw [if_neg c1855] at h19
          refine z2V rfl (by simp [c1855]) (z2O rfl (z1U ?_))
          obtain ⟨rr11, h20, ho11⟩ := z0Z h19
          have hs11 := hr11 _ ho11
          subst hs11
          refine z1z ho11 (z0C rfl (z0a (zq rfl (zq rfl (zr rfl rfl rfl (by simp; rfl) ?_)))))
          refine z0a (zb rfl (z2l h20 (z7m a0 v757 v950 w1056 w1312) rfl rfl (by simp [z7m]) fun s o14 h21 hr14 => ?_))
          obtain ⟨w1430, w1431, w1432⟩ := s
          simp only [z7u] at h21
          simp only [z7m]
          refine zq rfl (zr rfl rfl rfl (by simp; rfl) ?_)
          refine z0a (zq rfl ?_)
          by_cases c2038 : w1430 < (v757.length : Int)
          ·rw [if_pos c2038] at h21
           refine z3i rfl (by simp [c2038]) (z1E rfl (z0a (zq rfl (zb rfl (zq rfl (zr rfl rfl rfl (by simp; rfl) ?_))))))
           refine z0a (zq rfl (zr rfl rfl rfl (by simp; rfl) ?_))
           refine z0a (zq rfl (zb rfl (z2l h21 (z7l a0 v757 v950 w1056 w1312 w1430 w1431 w1432) rfl rfl (by simp [z7l]) fun s o15 h22 hr15 => ?_)))
           obtain ⟨w1474, hs15⟩ : ∃ y, y = s := ⟨_, rfl⟩
           subst hs15
           simp only [z7t] at h22
           simp only [z7l]
           refine zq rfl (zq rfl ?_)
           obtain ⟨v1477, f2045, h23⟩ := z2k h22
           obtain ⟨v1478, f2046, h24⟩ := z2k h23
           refine z3N rfl rfl rfl rfl ?_; repeat' ((first | refine z1P rfl rfl fun Q' hQ => ?_ | refine z1r rfl fun Q' hQ => ?_); simp [f2045, f2046]; refine hQ.out _ ?_; clear hQ; clear Q')
           refine z0a ?_
           by_cases c2047 : v1477 = v1478
           ·rw [if_pos c2047] at h24
            have c2047e := eq_true c2047
            refine z2V rfl (by simp [c2047e]) (z2O rfl (z1U ?_))
            obtain ⟨rr15, h25, ho15⟩ := z0Z h24
            have hs15 := hr15 _ ho15
            subst hs15
            refine z1z ho15 (z0C rfl (z0a (zq rfl ?_)))
            obtain ⟨v1479, f2048, h26⟩ := z2k h25
            obtain ⟨v1480, f2049, h27⟩ := z1a h26
            have f2049k := Ok.ok _ f2049
            try simp at f2049k
            refine z3N rfl rfl rfl rfl ?_; repeat' ((first | refine z1P rfl rfl fun Q' hQ => ?_ | refine z1r rfl fun Q' hQ => ?_); simp [f2048, f2049k]; refine hQ.out _ ?_; clear hQ; clear Q')
            refine z0a (zq rfl (zq rfl (zr rfl rfl rfl (by simp; rfl) ?_)))
            refine z0a (zb rfl (z2l h27 (z5N a0 v757 v950 w1056 w1312 w1430 w1432 w1474 v1480) rfl rfl (by simp [z5N]) fun s o16 h28 hr16 => ?_))
            obtain ⟨w1485, w1486⟩ := s
            simp only [z5T] at h28
            simp only [z5N]
            refine zq rfl (zr rfl rfl rfl (by simp; rfl) ?_)
            refine z0a (zq rfl ?_)
            by_cases c2062 : w1485 < (v1480.1.length : Int)
            ·rw [if_pos c2062] at h28
             refine z3i rfl (by simp [c2062]) (z1E rfl (z0a (zq rfl (zb rfl (zq rfl ?_)))))
             obtain ⟨v1491, f2063, h29⟩ := z2k h28
             refine zr rfl rfl rfl (by simp [f2063]; rfl) ?_
             refine z0a (zq rfl ?_)
             obtain ⟨v1492, f2064, h30⟩ := z2k h29
             refine zr rfl rfl rfl (by simp [f2064]; rfl) ?_
             refine z0a ?_
             by_cases c2065 : v1491 = v1492
             ·rw [if_pos c2065] at h30
              have c2065e := eq_true c2065
              refine z3i rfl (by simp [c2065e]) ?_
              obtain ⟨v1493, f2066, h31⟩ := z2k h30
              obtain ⟨v1494, f2067, h32⟩ := z2k h31
              refine z3N rfl rfl rfl rfl ?_; repeat' ((first | refine z1P rfl rfl fun Q' hQ => ?_ | refine z1r rfl fun Q' hQ => ?_); simp [f2066, f2067]; refine hQ.out _ ?_; clear hQ; clear Q')
              refine z0N (z0a (zr rfl rfl rfl (by simp; rfl) ?_))
              have ho := z0w h32
              refine z0H ho ?_
              simp [z5N]
             ·rw [if_neg c2065] at h30
              have c2065e := eq_false c2065
              refine z2V rfl (by simp [c2065e]) (z1E rfl (z0N (z0a (zr rfl rfl rfl (by simp; rfl) ?_))))
              have ho := z0w h30
              refine z0H ho ?_
              simp [z5N]
            ·rw [if_neg c2062] at h28
             refine z2V rfl (by simp [c2062]) (z2O rfl (z1U ?_))
             obtain ⟨rr16, h29, ho16⟩ := z0Z h28
             have hs16 := hr16 _ ho16
             subst hs16
             refine z1z ho16 (z0C rfl (z0a (zq rfl ?_)))
             obtain ⟨v1495, f2068, h30⟩ := z2k h29
             obtain ⟨v1496, f2069, h31⟩ := z1a h30
             have f2069k := Ok.ok _ f2069
             try simp at f2069k
             refine z3N rfl rfl rfl rfl ?_; repeat' ((first | refine z1P rfl rfl fun Q' hQ => ?_ | refine z1r rfl fun Q' hQ => ?_); simp [f2068, f2069k]; refine hQ.out _ ?_; clear hQ; clear Q')
             refine z0a (zq rfl (zr rfl rfl rfl (by simp; rfl) ?_))
             refine z0a (zb rfl (z2l h31 (z5M a0 v757 v950 w1056 w1312 w1430 w1474 w1486 v1496) rfl rfl (by simp [z5M]) fun s o17 h32 hr17 => ?_))
             obtain ⟨w1501, w1502⟩ := s
             simp only [z5S] at h32
             simp only [z5M]
             refine zq rfl (zr rfl rfl rfl (by simp; rfl) ?_)
             refine z0a (zq rfl ?_)
             by_cases c2082 : w1501 < (v1496.1.length : Int)
             ·rw [if_pos c2082] at h32
              refine z3i rfl (by simp [c2082]) (z1E rfl (z0a (zq rfl (zb rfl (zq rfl ?_)))))
              obtain ⟨v1507, f2083, h33⟩ := z2k h32
              refine zr rfl rfl rfl (by simp [f2083]; rfl) ?_
              refine z0a (zq rfl ?_)
              obtain ⟨v1508, f2084, h34⟩ := z2k h33
              refine zr rfl rfl rfl (by simp [f2084]; rfl) ?_
              refine z0a ?_
              by_cases c2085 : v1507 = v1508
              ·rw [if_pos c2085] at h34
               have c2085e := eq_true c2085
               refine z3i rfl (by simp [c2085e]) ?_
               obtain ⟨v1509, f2086, h35⟩ := z2k h34
               obtain ⟨v1510, f2087, h36⟩ := z2k h35
               refine z3N rfl rfl rfl rfl ?_; repeat' ((first | refine z1P rfl rfl fun Q' hQ => ?_ | refine z1r rfl fun Q' hQ => ?_); simp [f2086, f2087]; refine hQ.out _ ?_; clear hQ; clear Q')
               refine z0N (z0a (zr rfl rfl rfl (by simp; rfl) ?_))
               have ho := z0w h36
               refine z0H ho ?_
               simp [z5M]
              ·rw [if_neg c2085] at h34
               have c2085e := eq_false c2085
               refine z2V rfl (by simp [c2085e]) (z1E rfl (z0N (z0a (zr rfl rfl rfl (by simp; rfl) ?_))))
               have ho := z0w h34
               refine z0H ho ?_
               simp [z5M]
             ·rw [if_neg c2082] at h32
              refine z2V rfl (by simp [c2082]) (z2O rfl (z1U ?_))
              obtain ⟨rr17, h33, ho17⟩ := z0Z h32
              have hs17 := hr17 _ ho17
              subst hs17
              refine z1z ho17 (z0C rfl (z0N (z0a (zr rfl rfl rfl (by simp; rfl) ?_))))
              have ho := z0w h33
              refine z0H ho ?_
              simp [z7m]
           ·rw [if_neg c2047] at h24
            have c2047e := eq_false c2047
            refine z3i rfl (by simp [c2047e]) (z1E rfl (z0a (zb rfl (zr rfl rfl rfl (by simp; rfl) ?_))))
            refine z0N ?_
            have ho := z0w h24
            refine z0H ho ?_
            simp [z7l]
          ·rw [if_neg c2038] at h21
           refine z2V rfl (by simp [c2038]) (z2O rfl (z1U ?_))
           obtain ⟨rr14, h22, ho14⟩ := z0Z h21
           have hs14 := hr14 _ ho14
           subst hs14
           refine z1z ho14 (z0C rfl (z0a (zq rfl (zr rfl rfl rfl (by simp; rfl) ?_))))
           refine z0a (zhE rfl ?_)
           cases h22
           simp
  ·rw [if_neg c1043] at h1
   have c1043e := eq_false c1043
   refine z3i rfl (by simp [c1043e]) (zq rfl (zr rfl rfl rfl (by simp; rfl) ?_))
   refine z0a (zhE rfl (zeF ?_))
   cases h1
   simp⟩
end
end
section
open Go
set_option maxRecDepth 100000
theorem zdb : ∀ s : Nat, s < 128 -> z4g (s : Int) = some ((szN s : Nat) : Int) := by decide +kernel
theorem zsD {a b : Nat} (ha : a < 128) (hb : b < 128) : z5L (a : Int) (b : Int) = some (!zqs b a) := by
  unfold z5L
  rw [zdb a ha, Option.bind_some, zdb b hb, Option.bind_some]
  by_cases h : szN a = szN b
  · rw [if_pos (by omega)]
    congr 1
    rw [Bool.eq_iff_iff]
    simp only [decide_eq_true_eq, Bool.not_eq_true', zmG]
    omega
  · rw [if_neg (by omega), Option.bind_some, Option.bind_some]
    congr 1
    rw [Bool.eq_iff_iff]
    simp only [decide_eq_true_eq, Bool.not_eq_true', zmG]
    omega
theorem zuX {S R : List Nat} {x : Nat} (hv : ∀ y ∈ S ++ [x], y < 128) (hs : zkR S) (hl : S.length < 2 ^ 40) {w : Nat} (hw : w = S.length) :
    ∃ S', z0j (z4t (w : Int)) LFm ((w : Int), toI (S ++ x :: R)) = some (.inl (((w + 1 : Nat) : Int), toI (S' ++ R))) /\ zkR S' /\ S'.Perm (S ++ [x]) := by
  refine Exists.elim (z1y (b := z4t (w : Int)) (fun z => ∃ S1 S2, S1 ++ S2 = S /\ z = (((S1.length : Nat) : Int), toI (S1 ++ x :: (S2 ++ R))) /\ ∀ y ∈ S2, zqs x y = true) (fun z => z.1.toNat)
    (fun r => ∃ S', r = .inl (((w + 1 : Nat) : Int), toI (S' ++ R)) /\ zkR S' /\ S'.Perm (S ++ [x])) ?_ LFm ((w : Int), toI (S ++ x :: R)) ⟨S, [], by simp, by rw [hw]; simp, by simp⟩ (by simp only [LFm]; omega)) fun r h => by
      obtain ⟨h1, S', rfl, h2, h3⟩ := h
      exact ⟨S', h1, h2, h3⟩
  rintro z ⟨S1, S2, rfl, rfl, h2⟩
  have hlen : S1.length + S2.length < 2 ^ 40 := by rw [List.length_append] at hl; omega
  have fin : (∀ y ∈ S1, zqs y x = true) -> zkR (S1 ++ x :: S2) /\ (S1 ++ x :: S2).Perm (S1 ++ S2 ++ [x]) := fun hle => by
    refine ⟨?_, ?_⟩
    · rw [zkR, List.pairwise_append] at hs ⊢
      refine ⟨hs.1, List.pairwise_cons.2 ⟨fun y hy => h2 y hy, hs.2.1⟩, fun a ha b hb => ?_⟩
      rcases List.mem_cons.1 hb with rfl | hb
      · exact hle a ha
      · exact hs.2.2 a ha b hb
    · rw [List.append_assoc]
      exact List.Perm.append_left _ (List.perm_append_singleton x S2).symm
  simp only [z4t]
  rcases List.eq_nil_or_concat S1 with rfl | ⟨S0, y, rfl⟩
  · right
    rw [if_neg (by simp)]
    obtain ⟨f1, f2⟩ := fin (fun y hy => by simp at hy)
    refine ⟨_, rfl, x :: S2, ?_, by simpa using f1, by simpa using f2⟩
    have : IntKind.i64.wrap ((w : Int) + 1) = ((w + 1 : Nat) : Int) := by rw [z1Z (by omega) (by omega)]; omega
    rw [this]; simp
  · simp only [List.concat_eq_append] at *
    have hy : y < 128 := hv y (by simp)
    have hx : x < 128 := hv x (by simp)
    have e1 : toI (S0 ++ [y] ++ x :: (S2 ++ R)) = toI S0 ++ (y : Int) :: (x : Int) :: toI (S2 ++ R) := by simp [toI]
    have hn : (S0 ++ [y]).length = (toI S0).length + 1 := by simp [toI]
    have hj : IntKind.i64.wrap ((((toI S0).length + 1 : Nat) : Int) - 1) = (((toI S0).length : Nat) : Int) := by
      rw [hn] at hlen
      rw [z1Z (by omega) (by omega)]; omega
    rw [e1, hn, if_pos (by omega), at1 _ _ _ _ rfl, Option.bind_some, hj, at0 _ _ _ rfl, Option.bind_some, zsD hx hy, Option.bind_some]
    cases hlt : zqs y x with
    | false =>
      left
      rw [if_pos (by rfl), Int.toNat_natCast, zuk _ _ _ _ _ rfl, at0 _ _ _ rfl, Option.bind_some, Int.toNat_natCast, zsR _ _ _ _ rfl]
      refine ⟨_, rfl, ⟨S0, y :: S2, by simp, ?_, fun z hz => ?_⟩, by simp only; omega⟩
      · simp [toI]
      · rcases List.mem_cons.1 hz with rfl | hz
        · rw [zmG] at hlt; rw [zaB]; omega
        · exact h2 z hz
    | true =>
      right
      rw [if_neg (by simp)]
      obtain ⟨f1, f2⟩ := fin (fun z hz => by
        rcases List.mem_append.1 hz with hz | hz
        · rw [zkR, List.pairwise_append, List.pairwise_append] at hs
          have := hs.1.2.2 z hz y (by simp)
          rw [zaB] at *
          omega
        · obtain rfl := List.mem_singleton.1 hz; exact hlt)
      refine ⟨_, rfl, S0 ++ [y] ++ x :: S2, ?_, f1, f2⟩
      have : IntKind.i64.wrap ((w : Int) + 1) = ((w + 1 : Nat) : Int) := by rw [z1Z (by omega) (by omega)]; omega
      rw [this]; simp [toI]
theorem ztj {X : List Nat} (hv : ∀ y ∈ X, y < 128) (hl : X.length < 2 ^ 40) (V : List Int) (hV : V.length = X.length) : ∃ S, z0j (z4u V) LFm (0, toI X) = some (toI S) /\ zkR S /\ S.Perm X := by
  refine Exists.elim (z1y (b := z4u V) (fun z => ∃ S U, z = (((S.length : Nat) : Int), toI (S ++ U)) /\ zkR S /\ (S ++ U).Perm X) (fun z => X.length - z.1.toNat)
    (fun r => ∃ S, r = toI S /\ zkR S /\ S.Perm X) ?_ LFm (0, toI X) ⟨[], X, by simp, by simp, .refl _⟩ (by simp only [LFm]; omega)) fun r h => by
      obtain ⟨h1, S, rfl, h2, h3⟩ := h
      exact ⟨S, h1, h2, h3⟩
  rintro z ⟨S, U, rfl, h1, h2⟩
  have hlen := h2.length_eq
  rw [List.length_append] at hlen
  simp only [z4u]
  cases U with
  | nil =>
    right
    rw [if_neg (by simp at hlen ⊢; omega)]
    exact ⟨_, rfl, S, by simp, h1, by simpa using h2⟩
  | cons u U =>
    left
    rw [if_pos (by simp at hlen ⊢; omega)]
    have hvS : ∀ y ∈ S ++ [u], y < 128 := fun y hy => hv y (h2.mem_iff.1 (by
      rcases List.mem_append.1 hy with hy | hy
      · exact List.mem_append.2 (.inl hy)
      · obtain rfl := List.mem_singleton.1 hy; simp))
    obtain ⟨S', e, s1, s2⟩ := zuX (S := S) (R := U) (x := u) hvS h1 (by simp at hlen hl ⊢; omega) rfl
    rw [e]
    have hS' := s2.length_eq
    simp at hS'
    refine ⟨_, rfl, ⟨S', U, ?_, s1, ?_⟩, ?_⟩
    · simp only [hS']
    · refine List.Perm.trans ?_ h2
      have : S ++ u :: U = S ++ [u] ++ U := by simp
      rw [this]
      exact s2.append_right U
    · simp at hlen ⊢; omega
theorem zvT {d : DFA} {m n : Nat} (hd : DfaOk d m n) (hn : n <= 7) : z7V d = some (toI (z2E d m n)) := by
  have hp := Nat.two_pow_pos n
  have h128 : 2 ^ n <= 128 := Nat.pow_le_pow_right (n := 2) (by omega) hn
  have hf : 2 ^ n - 1 < 2 ^ n := by omega
  have hi := z4a hd hf
  have hl := z0z hi.nd hi.lt
  unfold z7V
  rw [zxn hd (by omega), Option.bind_some, zdr hd (by omega) hf, Option.bind_some]
  refine z0t (s := ((0 : Int), toI (z0J d m n (2 ^ n - 1)).1)) n (fun q => ((q : Int), toI (z7K (z0J d m n (2 ^ n - 1)).1 q))) rfl (by simp only [LFm]; omega) (fun q hq => ?_) ?_
  · have h3' := (z5u hi.nd q).2.2
    simp only [z6w]
    rw [if_pos (by rw [hd.fin]; omega), zkV (by omega), z0m _ (by omega)]
    generalize hX : z7K (z0J d m n (2 ^ n - 1)).1 q = X at *
    refine z0t (s := (false, (0 : Int))) X.length (fun k => (decide (2 ^ q ∈ X.take k), (k : Int))) (by simp) (by simp only [LFm]; omega) (fun k hk => ?_) ?_
    · have ht : X.take (k + 1) = X.take k ++ [X.getD k 0] := by rw [List.getD, List.getElem?_eq_getElem hk, Option.getD_some, List.take_append_getElem]
      simp only [z6v]
      rw [if_pos (by rw [z0d]; omega), z0Y hk, Option.bind_some, zkV (by omega), z5w (by omega), z0T (by omega), ht]
      by_cases h : 2 ^ q ∈ X.take k
      · rw [if_pos (by simpa using h)]
        congr 2
        simp [h]
      · rw [if_neg (by simpa using h)]
        congr 2
        rw [Bool.eq_iff_iff, decide_eq_true_iff, decide_eq_true_iff, List.mem_append, List.mem_singleton]
        constructor
        · intro h'; exact .inr (by omega)
        · rintro (h' | h')
          · exact absurd h' h
          · omega
    · simp only [z6v]
      rw [if_neg (by rw [z0d]; omega), List.take_length, z0T (by omega), z7K, hX]
      by_cases h : 2 ^ q ∈ X
      · rw [if_pos (by simpa using h), if_pos h]
      · rw [if_neg (by simpa using h), if_neg h, z0m _ (by unfold z1c; rw [z0d]; omega), zkV (by omega), z5w (by omega), z3k]
  · obtain ⟨h1, h2, h3⟩ := z5u hi.nd n
    simp only [z6w]
    rw [if_neg (by rw [hd.fin]; omega), z0m _ (by unfold z1c; rw [z0d]; omega)]
    have hv : ∀ y ∈ z7K (z0J d m n (2 ^ n - 1)).1 n, y < 128 := fun y hy => by
      rcases (h2 y).1 hy with h | ⟨i, hi', rfl⟩
      · have := hi.lt y h; omega
      · have : 2 ^ i < 2 ^ n := Nat.pow_lt_pow_right (by omega) hi'
        omega
    obtain ⟨S, e, s1, s2⟩ := ztj hv (by omega) (toI (z7K (z0J d m n (2 ^ n - 1)).1 n)) (z0d _)
    rw [e]
    have : S = z2E d m n := zh3 (s2.trans (z9F _).symm) s1 (z8K _)
    rw [this]
end
section
open Go
set_option maxRecDepth 100000
theorem z8Z {N : Nat} {e : Nat -> Nat -> Bool} (he : EqvN N e) {i : Nat} (hi : i < N) :
    (z6I e N i < (z0P e i).length /\ (z0P e i).getD (z6I e N i) 0 = (z0P e N).getD (z6I e N i) 0 /\ z0P e (i + 1) = z0P e i) ∨
    (z6I e N i = (z0P e i).length /\ (z0P e N).getD (z6I e N i) 0 = i /\ z0P e (i + 1) = z0P e i ++ [i]) := by
  have hc := zuB he hi
  by_cases h : (z0P e i).any (e i) = true
  · left
    obtain ⟨x, hx, hp⟩ := List.any_eq_true.1 h
    have hlt : z6I e N i < (z0P e i).length := by rw [← hc]; exact List.findIdx_lt_length_of_exists ⟨x, hx, hp⟩
    refine ⟨hlt, ?_, by rw [z0P, if_pos h]⟩
    obtain ⟨R, hR⟩ := zcK e (i := i) N (by omega)
    rw [hR, List.getD, List.getD, List.getElem?_append_left hlt]
  · right
    have hlt : z6I e N i = (z0P e i).length := by
      rw [← hc]
      exact List.findIdx_eq_length.2 fun x hx => by
        cases hh : e i x with
        | false => rfl
        | true => exact absurd (List.any_eq_true.2 ⟨x, hx, hh⟩) h
    refine ⟨hlt, ?_, by rw [z0P, if_neg h]⟩
    obtain ⟨R, hR⟩ := zcK e (i := i + 1) N (by omega)
    rw [hR, z0P, if_neg h, hlt, List.getD, List.append_assoc, List.getElem?_append_right (Nat.le_refl _), Nat.sub_self]
    rfl
def zd0 (N : Nat) (f : Nat -> Nat -> Bool) : List (List Bool) := (List.range N).map fun a => (List.range N).map (f a)
theorem z6e {N : Nat} {f g : Nat -> Nat -> Bool} (h : ∀ a b, a < N -> b < N -> f a b = g a b) : zd0 N f = zd0 N g :=
  List.map_congr_left fun a ha => List.map_congr_left fun b hb => h a b (List.mem_range.1 ha) (List.mem_range.1 hb)
theorem zvj {N : Nat} {f : Nat -> Nat -> Bool} {i j : Nat} (hi : i < N) (hj : j < N) (v : Bool) : (zd0 N f).set i (((List.range N).map (f i)).set j v) = zd0 N fun a b => if a = i /\ b = j then v else f a b := by
  apply List.ext_getElem (by simp [zd0])
  intro k h1 h2
  simp only [zd0, List.getElem_set, List.getElem_map, List.getElem_range]
  by_cases e : i = k
  · subst e
    rw [if_pos rfl]
    apply List.ext_getElem (by simp)
    intro l h3 h4
    simp only [List.getElem_set, List.getElem_map, List.getElem_range]
    by_cases e2 : j = l
    · subst e2; simp
    · rw [if_neg e2, if_neg (by omega)]
  · rw [if_neg e]
    apply List.ext_getElem (by simp)
    intro l h3 h4
    simp only [List.getElem_map, List.getElem_range]
    rw [if_neg (by omega)]
theorem zke {N : Nat} {f : Nat -> Nat -> Bool} {i : Nat} (h : i < N) : atI (zd0 N f) (i : Int) = some ((List.range N).map (f i)) := z1q h
section
variable {d : DFA} {m n : Nat} {S : List Nat} (hd : DfaOk d m n) (hn : n <= 7) (hS : SetsP d m n S)
def pOf (S : List Nat) (a x : Nat) : Bool := decide (S.getD a 0 &&& x = S.getD a 0)
include hd hn hS
theorem zuV {j x : Nat} (hj : j < S.length) (hx : x < 2 ^ n) (w : Nat) (hw : w < 4611686018427387904) (f : Nat -> Nat -> Bool) :
    z0j (z6a (toI S) (j : Int) (w : Int) (x : Int)) LFm (0, zd0 S.length f) = z0e (((w + 1 : Nat) : Int), zd0 S.length fun a b => if b = j then f a b || pOf S a x else f a b) := by
  have _u := hd
  have h128 : 2 ^ n <= 128 := Nat.pow_le_pow_right (n := 2) (by omega) hn
  have hSl := z0z hS.nd hS.lt
  refine z0t (s := ((0 : Int), zd0 S.length f)) S.length (fun i => ((i : Int), zd0 S.length fun a b => if b = j /\ a < i then f a b || pOf S a x else f a b)) ?_ (by simp only [LFm]; omega) (fun i hi => ?_) ?_
  · refine Prod.ext rfl ?_
    exact z6e fun a b _ _ => by simp
  · have hil := hS.lt _ (z0p hi)
    simp only [z6a]
    rw [if_pos (by rw [z0d]; omega), z0Y hi, Option.bind_some, zbo (by omega) (by omega), z0T (by omega)]
    by_cases h : S.getD i 0 &&& x = S.getD i 0
    · rw [if_pos (by omega), zke hi, Option.bind_some, z1q hj, Option.bind_some, Int.toNat_natCast, Int.toNat_natCast, zvj hi hj]
      congr 2
      refine z6e fun a b _ _ => ?_
      by_cases e : a = i /\ b = j
      · obtain ⟨rfl, rfl⟩ := e
        have : pOf S a x = true := decide_eq_true h
        rw [if_pos ⟨rfl, rfl⟩, if_pos ⟨rfl, by omega⟩, this, Bool.or_true]
      · rw [if_neg e]
        by_cases e2 : b = j /\ a < i
        · rw [if_pos e2, if_pos ⟨e2.1, by omega⟩]
        · rw [if_neg e2, if_neg (by omega)]
    · rw [if_neg (by omega)]
      congr 2
      refine z6e fun a b _ _ => ?_
      by_cases e : a = i /\ b = j
      · obtain ⟨rfl, rfl⟩ := e
        have : pOf S a x = false := decide_eq_false h
        rw [if_neg (by omega), if_pos ⟨rfl, by omega⟩, this, Bool.or_false]
      · by_cases e2 : b = j /\ a < i
        · rw [if_pos e2, if_pos ⟨e2.1, by omega⟩]
        · rw [if_neg e2, if_neg (by omega)]
  · simp only [z6a]
    rw [if_neg (by rw [z0d]; omega), z0T hw]
    congr 2
    refine Prod.ext rfl ?_
    refine z6e fun a b ha _ => ?_
    by_cases e : b = j
    · rw [if_pos ⟨e, ha⟩, if_pos e]
    · rw [if_neg (fun h => e h.1), if_neg e]
theorem zuW {j : Nat} (hj : j < S.length) (W : List ByteArray) :
    z0j (z6b (toI S) (j : Int) (toI (z0J d m n (S.getD j 0)).1, W)) LFm (0, zd0 S.length fun a b => decide (b < j) && z2W d m n S a b) = z0e (((j + 1 : Nat) : Int), zd0 S.length fun a b => decide (b < j + 1) && z2W d m n S a b) := by
  have h128 : 2 ^ n <= 128 := Nat.pow_le_pow_right (n := 2) (by omega) hn
  have hSl := z0z hS.nd hS.lt
  have hinv := z4a hd (hS.lt _ (z0p hj))
  have hlt := hinv.lt
  have hl := z0z hinv.nd hinv.lt
  generalize hR : (z0J d m n (S.getD j 0)).1 = R at *
  refine z0t (s := ((0 : Int), zd0 S.length fun a b => decide (b < j) && z2W d m n S a b)) R.length (fun k => ((k : Int), zd0 S.length fun a b => if b = j then (R.take k).any (pOf S a) else decide (b < j) && z2W d m n S a b)) ?_ (by simp only [LFm]; omega) (fun k hk => ?_) ?_
  · refine Prod.ext rfl ?_
    refine z6e fun a b _ _ => ?_
    by_cases e : b = j
    · subst e; simp
    · rw [if_neg e]
  · have hx := hlt _ (z0p hk)
    simp only [z6b]
    rw [if_pos (by rw [z0d]; omega), z0Y hk, Option.bind_some, zuV hd hn hS hj hx k (by omega)]
    congr 2
    refine z6e fun a b _ _ => ?_
    by_cases e : b = j
    · rw [if_pos e, if_pos e, if_pos e, List.take_succ_eq_append_getElem hk, List.any_append, List.getD, List.getElem?_eq_getElem hk, Option.getD_some]
      simp
    · rw [if_neg e, if_neg e, if_neg e]
  · simp only [z6b]
    rw [if_neg (by rw [z0d]; omega), z0T (by omega)]
    congr 2
    refine Prod.ext rfl ?_
    refine z6e fun a b _ _ => ?_
    by_cases e : b = j
    · rw [if_pos e, List.take_length, ← hR, e, decide_eq_true (Nat.lt_succ_self j), Bool.true_and]
      rfl
    · rw [if_neg e]
      congr 1
      exact decide_eq_decide.2 (by omega)
theorem zd2 {i : Nat} (hi : i < S.length) : z3a d m n S i <= i := by
  have _u := hn
  rcases z8Z (z6p hd hS) hi with ⟨h1, h2, _⟩ | ⟨h1, h2, _⟩
  · have := za0 (z1F d m n S) i _ (z0p h1)
    rw [h2] at this
    exact Nat.le_of_lt this
  · exact Nat.le_of_eq h2
theorem zfd {i : Nat} (hi : i < S.length) : z1F d m n S i (z3a d m n S i) = true := by
  have _u := hn
  exact (zaz (z6p hd hS) hi).2
theorem znC {i j : Nat} (hi : i < S.length) (hj : j < S.length) (h : z1F d m n S i j = true) : z3a d m n S i = z3a d m n S j := by
  have _u := hn
  unfold z3a
  rw [(zi5 (z6p hd hS) hi hj).2 h]
theorem zu0 {i : Nat} (hi : i < S.length) (Lc : List Int) (hL : Lc = z1b S.length (fun i => ((z3a d m n S i : Nat) : Int)) 0 i) :
    z0j (z5Z (zd0 S.length (z2W d m n S)) (i : Int) Lc) LFm 0 = z0e (((i + 1 : Nat) : Int), z1b S.length (fun i => ((z3a d m n S i : Nat) : Int)) 0 (i + 1)) := by
  have h128 : 2 ^ n <= 128 := Nat.pow_le_pow_right (n := 2) (by omega) hn
  have hSl := z0z hS.nd hS.lt
  have hLl : Lc.length = S.length := by rw [hL, z9O]
  have hset : Lc.set i ((z3a d m n S i : Nat) : Int) = z1b S.length (fun i => ((z3a d m n S i : Nat) : Int)) 0 (i + 1) := by
    rw [hL]; exact z3I (f := fun i => ((z3a d m n S i : Nat) : Int)) (z := 0) hi
  rw [z7X (s := (0 : Int)) i (fun k => (k : Int)) (fun k => z1F d m n S i k) (fun k => z0e (((i + 1 : Nat) : Int), Lc.set i ((z3a d m n S k : Nat) : Int))) (x := z0e (((i + 1 : Nat) : Int), Lc.set i (i : Int))) rfl (by simp only [LFm]; omega)]
  · cases hf : (List.range i).find? fun k => z1F d m n S i k with
    | none =>
      have h0 := zfk.1 hf
      have : z3a d m n S i = i := by
        have h1 := zd2 hd hn hS hi
        refine Classical.byContradiction fun hne => ?_
        have := h0 (z3a d m n S i) (by omega)
        rw [zfd hd hn hS hi] at this
        cases this
      simp only
      rw [← hset, this]
    | some k =>
      obtain ⟨k1, k2, _⟩ := zfj.1 hf
      simp only
      rw [← hset, znC hd hn hS hi (by omega) k2]
  · intro k hk
    have hks : k < S.length := by omega
    have hat : atI (Lc.set i (i : Int)) (k : Int) = some ((z3a d m n S k : Nat) : Int) := by
      rw [z1s (by simp; omega)]
      simp only [List.getElem_set]
      rw [if_neg (by omega)]
      simp only [hL, z1b, List.getElem_map, List.getElem_range]
      rw [if_pos hk]
    simp only [z5Z]
    rw [if_pos (by omega), zke hi, Option.bind_some, z1q hks, Option.bind_some, z0T (by omega)]
    by_cases h1 : z2W d m n S i k = true
    · rw [if_pos h1, zke hks, Option.bind_some, z1q hi, Option.bind_some]
      by_cases h2 : z2W d m n S k i = true
      · rw [if_pos h2, if_pos (by simp [z1F, h1, h2]), Int.toNat_natCast, hat, Option.bind_some, zh4 (by omega), Option.bind_some, zeJ]
      · rw [if_neg h2, if_neg (by simp [z1F, h2]), z0T (by omega)]
    · rw [if_neg h1, if_neg (by simp [z1F, h1]), z0T (by omega)]
  · simp only [z5Z]
    rw [if_neg (by omega), z0T (by omega), Int.toNat_natCast]
end
def mpC : List Nat -> Nat -> List (Int × Int)
  | [], _ => []
  | f :: l, c => (((f : Nat) : Int), ((c : Nat) : Int)) :: mpC l (c + 1)
theorem zs7 : ∀ (l : List Nat) (c0 c : Nat), l.Nodup -> c < l.length -> z8D ((l.getD c 0 : Nat) : Int) (mpC l c0) = some ((c0 + c : Nat) : Int)
  | [], c0, c, _, h2 => by rw [List.length_nil] at h2; omega
  | f :: l, c0, 0, _, h2 => by
    simp only [mpC, z8D, List.getD_cons_zero]
    rw [if_pos trivial]; rfl
  | f :: l, c0, c + 1, h1, h2 => by
    rw [List.length_cons] at h2
    rw [List.nodup_cons] at h1
    have hm := z0p (l := l) (i := c) (by omega)
    have hne : ¬ ((f : Nat) : Int) = ((l.getD c 0 : Nat) : Int) := fun e => h1.1 (by rw [show f = l.getD c 0 by omega]; exact hm)
    simp only [mpC, z8D, List.getD_cons_succ]
    rw [if_neg hne, zs7 l (c0 + 1) c h1.2 (by omega)]
    congr 2; omega
theorem zny (x : Nat) : ∀ (l : List Nat) (c0 : Nat), x ∉ l -> z8D ((x : Nat) : Int) (mpC l c0) = none
  | [], c0, _ => rfl
  | f :: l, c0, h => by
    simp only [mpC, z8D]
    rw [List.mem_cons] at h
    rw [if_neg (fun e => h (.inl (by omega))), zny x l (c0 + 1) (fun hx => h (.inr hx))]
theorem zrj (x v : Nat) : ∀ (l : List Nat) (c0 : Nat), x ∉ l -> v = c0 + l.length -> zaE ((x : Nat) : Int) ((v : Nat) : Int) (mpC l c0) = mpC (l ++ [x]) c0
  | [], c0, _, h => by rw [List.length_nil] at h; subst h; rfl
  | f :: l, c0, h, hv => by
    rw [List.mem_cons] at h
    rw [List.length_cons] at hv
    simp only [mpC, zaE, List.cons_append]
    rw [if_neg (fun e => h (.inl (by omega))), zrj x v l (c0 + 1) (fun hx => h (.inr hx)) (by omega)]
theorem zku (e : Nat -> Nat -> Bool) : ∀ i, (z0P e i).Nodup
  | 0 => by simp [z0P]
  | i + 1 => by
    have ih := zku e i
    unfold z0P
    split
    · exact ih
    · refine List.nodup_append.2 ⟨ih, by simp, fun a ha b hb => ?_⟩
      have := za0 e i a ha
      obtain rfl := List.mem_singleton.1 hb
      omega
theorem zkP {d : DFA} {m n : Nat} {S : List Nat} (hd : DfaOk d m n) (hn : n <= 7) (hS : SetsP d m n S) : z3Z ((List.range S.length).map fun i => ((z3a d m n S i : Nat) : Int)) = some (zmB d m n S) := by
  have h128 : 2 ^ n <= 128 := Nat.pow_le_pow_right (n := 2) (by omega) hn
  have hSl := z0z hS.nd hS.lt
  have he := z6p hd hS
  have hlen : ((List.range S.length).map fun i => ((z3a d m n S i : Nat) : Int)).length = S.length := by simp
  unfold z3Z
  rw [hlen, if_neg (by omega), z0m _ (by unfold z1g; omega), Int.toNat_natCast]
  have f1 : List.replicate S.length (0 : Int) = z1b S.length (fun i => ((z6I (z1F d m n S) S.length i : Nat) : Int)) 0 0 := (z7c _ _ _).symm
  rw [f1]
  refine z0t (s := ((0 : Int), (0 : Int), z1b S.length (fun i => ((z6I (z1F d m n S) S.length i : Nat) : Int)) 0 0, ([] : List (Int × Int)))) S.length (fun i => ((((z0P (z1F d m n S) i).length : Nat) : Int), (i : Int), z1b S.length (fun i => ((z6I (z1F d m n S) S.length i : Nat) : Int)) 0 i, mpC (z0P (z1F d m n S) i) 0)) rfl (by simp only [LFm]; omega) (fun i hi => ?_) ?_
  · have hF := z7a (z1F d m n S) i
    have hset := z3I (f := fun i => ((z6I (z1F d m n S) S.length i : Nat) : Int)) (z := (0 : Int)) hi
    simp only [z3O]
    rw [if_pos (by rw [hlen]; omega), z1q hi, Option.bind_some, z5r hi, Option.bind_some, Int.toNat_natCast, z0T (by omega)]
    rcases z8Z he hi with ⟨q1, q2, q3⟩ | ⟨q1, q2, q3⟩
    · have g := zs7 (z0P (z1F d m n S) i) 0 _ (zku _ i) q1
      rw [q2, Nat.zero_add] at g
      have g : z8D ((z3a d m n S i : Nat) : Int) (mpC (z0P (z1F d m n S) i) 0) = some ((z6I (z1F d m n S) S.length i : Nat) : Int) := g
      rw [g, if_pos (by rfl), Option.getD_some, hset, q3]
    · have hni : i ∉ z0P (z1F d m n S) i := fun h => by have := za0 _ _ _ h; omega
      have ef : z3a d m n S i = i := q2
      rw [ef, zny i _ 0 hni, if_neg (by simp), Option.bind_some, z0T (by omega), zrj i _ _ 0 hni (by omega), q3, ← q1, hset, q1, List.length_append, List.length_singleton]
  · simp only [z3O]
    rw [if_neg (by rw [hlen]; omega), z7b]
    rfl
end
section
open Go
set_option maxRecDepth 100000
theorem zhc {d : DFA} {m n K I J : Nat} {u v : List UInt8} (h1 : Lead d m n K I u) (h2 : Lead d m n I J v) : Lead d m n K J (u ++ v) where
  hw c hc := (List.mem_append.1 hc).elim (h1.hw c) (h2.hw c)
  hK := h1.hK
  hI := h2.hI
  run := by rw [z6U, h1.run, h2.run]
  sz := h2.sz.trans h1.sz
def z4n (S : List Nat) (k : Nat) : List Nat := (z7D S k).map fun t => S.getD t 0
def z6y (d : DFA) (w : List UInt8) (T : List Nat) : List Nat := T.map fun t => T.idxOf (z4R d t w)
theorem zde (d : DFA) (w : List UInt8) (T : List Nat) : (z6y d w T).length = T.length := by simp [z6y]
def clN (d : DFA) (m n : Nat) (S : List Nat) (i : Nat) : Nat := z6I (z1F d m n S) S.length i
def zqe (d : DFA) (S : List Nat) (i a : Nat) : Nat := S.idxOf (mvN d (S.getD i 0) a)
def hwN (d : DFA) (m n : Nat) (S : List Nat) (i a : Nat) : ByteArray := zbp d m n S i ++ zsS a ++ zfB d m n S (zqe d S i a)
section
variable {d : DFA} {m n : Nat} {S : List Nat} (hd : DfaOk d m n) (hn : n <= 7) (hS : SetsP d m n S)
include hd hn hS
theorem zaU {k : Nat} (hk : k < S.length) : (z4n S k).Nodup /\ ∀ t ∈ z4n S k, t ∈ S /\ z7L t (S.getD k 0) /\ t < 2 ^ n := by
  have _u := hd
  have hin : ∀ x ∈ z7D S k, x < S.length := fun x hx => zhf (zcs hx).1
  refine ⟨zeU (zqW S k) fun x hx y hy e => zax hS.nd (hin x hx) (hin y hy) e, fun t ht => ?_⟩
  obtain ⟨x, hx, rfl⟩ := List.mem_map.1 ht
  obtain ⟨h1, h2, h3, _⟩ := zqX hn hS hk hx
  exact ⟨z0p h2, h3, hS.lt _ (z0p h2)⟩
theorem zlS {k : Nat} (hk : k < S.length) {w : List UInt8} (h : Lead d m n (S.getD k 0) (S.getD k 0) w) : ∀ t ∈ z4n S k, z4R d t w ∈ z4n S k := fun t ht => by
  obtain ⟨x, hx, rfl⟩ := List.mem_map.1 ht
  have hm := zuN hd hn hS hk hk h h hx
  have hr := zn6 hS h.hw (z0p (zhf (zcs hx).1) : S.getD x 0 ∈ S)
  exact List.mem_map.2 ⟨_, hm, z3H hr⟩
theorem zh8 {k : Nat} (hk : k < S.length) {w : List UInt8} (h : Lead d m n (S.getD k 0) (S.getD k 0) w) : (z6y d w (z4n S k)).Nodup /\ (∀ p ∈ z6y d w (z4n S k), p < (z4n S k).length) /\ ∀ i, i < (z4n S k).length -> (z4n S k).getD ((z6y d w (z4n S k)).getD i 0) 0 = z4R d ((z4n S k).getD i 0) w := by
  obtain ⟨hnd, hf⟩ := zaU hd hn hS hk
  have hr := zlS hd hn hS hk h
  refine ⟨zeU hnd fun x hx y hy e => ?_, fun p hp => ?_, fun i hi => ?_⟩
  · have e2 : z4R d x w = z4R d y w := by
      rw [← z3H (hr x hx), ← z3H (hr y hy), e]
    exact znm hd hn h (hf x hx).2.1 (hf y hy).2.1 e2
  · obtain ⟨x, hx, rfl⟩ := List.mem_map.1 hp
    exact z7A (hr x hx)
  · have e : (z6y d w (z4n S k)).getD i 0 = (z4n S k).idxOf (z4R d ((z4n S k).getD i 0) w) := by
      simp [z6y, List.getD, hi]
    rw [e, z3H (hr _ (z0p hi))]
theorem zhp {i : Nat} (hi : i < S.length) : Lead d m n (S.getD (z3a d m n S i) 0) (S.getD i 0) (zbp d m n S i).data.toList /\ (zbp d m n S i).size <= 2 ^ n := by
  have hk : z3a d m n S i < S.length := by have := zd2 hd hn hS hi; omega
  obtain ⟨h1, h2⟩ := zdm hd hn hS hk hi (zfd hd hn hS hi)
  have hlk := hS.lt _ (z0p hk)
  obtain ⟨w1, w2, w3⟩ := zio hd hlk h2
  exact ⟨⟨w1, hlk, hS.lt _ (z0p hi), w3, h1⟩, w2⟩
theorem zib {i : Nat} (hi : i < S.length) : Lead d m n (S.getD i 0) (S.getD (z3a d m n S i) 0) (zfB d m n S i).data.toList /\ (zfB d m n S i).size <= 2 ^ n := by
  have hk : z3a d m n S i < S.length := by have := zd2 hd hn hS hi; omega
  have he := zfd hd hn hS hi
  have he' : z1F d m n S (z3a d m n S i) i = true := by
    simp only [z1F, Bool.and_eq_true] at he ⊢; exact he.symm
  obtain ⟨h1, h2⟩ := zdm hd hn hS hi hk he'
  have hli := hS.lt _ (z0p hi)
  obtain ⟨w1, w2, w3⟩ := zio hd hli h2
  exact ⟨⟨w1, hli, hS.lt _ (z0p hk), w3, h1⟩, w2⟩
theorem zsm {i a : Nat} (hi : i < S.length) (ha : a < m) : zqe d S i a < S.length /\ S.getD (zqe d S i a) 0 = mvN d (S.getD i 0) a := by
  have _u := hd
  have _v := hn
  have := hS.cl _ (z0p hi) a ha
  exact ⟨z7A this, z3H this⟩
theorem zxc {i : Nat} (hi : i < S.length) : clN d m n S i < (z8f d m n S).length /\ (z8f d m n S).getD (clN d m n S i) 0 = z3a d m n S i := by
  have _u := hn
  exact ⟨(zaz (z6p hd hS) hi).1, rfl⟩
theorem zml {i a : Nat} (hi : i < S.length) (ha : a < m) (hc : clN d m n S (zqe d S i a) = clN d m n S i) : Lead d m n (S.getD (z3a d m n S i) 0) (S.getD (z3a d m n S i) 0) (hwN d m n S i a).data.toList /\ (hwN d m n S i a).size <= 2 * 2 ^ n + 1 := by
  obtain ⟨j1, j2⟩ := zsm hd hn hS hi ha
  obtain ⟨l1, s1⟩ := zhp hd hn hS hi
  obtain ⟨l2, s2⟩ := zib hd hn hS j1
  have hf : z3a d m n S (zqe d S i a) = z3a d m n S i := by
    unfold z3a; unfold clN at hc; rw [hc]
  rw [hf] at l2
  have h26 : (UInt8.ofNat (97 + a)).toNat = 97 + a := zdg (by have := hd.m6; omega)
  have l3 : Lead d m n (S.getD i 0) (S.getD (zqe d S i a) 0) (zsS a).data.toList := by
    refine ⟨fun c hc => ?_, l1.hI, hS.lt _ (z0p j1), ?_, ?_⟩
    · rw [z8T, List.mem_singleton] at hc
      subst hc; omega
    · rw [z8T, j2, z4R, z4R, h26, Nat.add_sub_cancel_left]
    · have := l1.sz; have := l2.sz; omega
  have l4 := zhc (zhc l1 l3) l2
  refine ⟨?_, ?_⟩
  · unfold hwN; rw [zi6, zi6]; exact l4
  · unfold hwN; rw [zbk, zbk, z4x]; omega
end
abbrev HS := List ByteArray × List (List Nat)
def zeH (d : DFA) (m n : Nat) (S : List Nat) (T : List Nat) (i : Nat) (st : HS) (a : Nat) : HS :=
  if clN d m n S (zqe d S i a) = clN d m n S i then
    (if z6y d (hwN d m n S i a).data.toList T = List.range T.length ∨ z6y d (hwN d m n S i a).data.toList T ∈ st.2 then st else (st.1 ++ [hwN d m n S i a], st.2 ++ [z6y d (hwN d m n S i a).data.toList T]))
  else st
def zjV (d : DFA) (m n : Nat) (S : List Nat) (T : List Nat) (i : Nat) (st : HS) (a : Nat) : HS := (List.range a).foldl (zeH d m n S T i) st
def zij (d : DFA) (m n : Nat) (S : List Nat) (T : List Nat) (c k : Nat) : HS := (List.range k).foldl (fun st i => if clN d m n S i = c then zjV d m n S T i st m else st) ([], [])
theorem zhB (d : DFA) (m n : Nat) (S T : List Nat) (i : Nat) (st : HS) (a : Nat) : zjV d m n S T i st (a + 1) = zeH d m n S T i (zjV d m n S T i st a) a := by
  unfold zjV; rw [List.range_succ, List.foldl_append]; rfl
theorem zo3 (d : DFA) (m n : Nat) (S T : List Nat) (c k : Nat) : zij d m n S T c (k + 1) = if clN d m n S k = c then zjV d m n S T k (zij d m n S T c k) m else zij d m n S T c k := by
  unfold zij; rw [List.range_succ, List.foldl_append]; rfl
def z2I (d : DFA) (m n : Nat) (S : List Nat) (c : Nat) : Nat := (z8f d m n S).getD c 0
structure HInv (d : DFA) (m n : Nat) (S : List Nat) (c : Nat) (B : Nat) (st : HS) : Prop where
  len : st.1.length = st.2.length
  bd : st.1.length <= B
  ok : ∀ j, j < st.1.length -> ∃ w : ByteArray, st.1.getD j ByteArray.empty = w /\ Lead d m n (S.getD (z2I d m n S c) 0) (S.getD (z2I d m n S c) 0) w.data.toList /\ w.size <= 2 * 2 ^ n + 1 /\ st.2.getD j [] = z6y d w.data.toList (z4n S (z2I d m n S c))
section
variable {d : DFA} {m n : Nat} {S : List Nat} (hd : DfaOk d m n) (hn : n <= 7) (hS : SetsP d m n S)
include hd hn hS
theorem zuQ {c i a B : Nat} {st : HS} (h : HInv d m n S c B st) (hi : i < S.length) (ha : a < m) (hc : clN d m n S i = c) : HInv d m n S c (B + 1) (zeH d m n S (z4n S (z2I d m n S c)) i st a) := by
  have h1 : HInv d m n S c (B + 1) st := ⟨h.len, by have := h.bd; omega, h.ok⟩
  unfold zeH
  split
  · rename_i hj
    split
    · exact h1
    · obtain ⟨l1, l2⟩ := zml hd hn hS hi ha hj
      have hf : z2I d m n S c = z3a d m n S i := by unfold z2I; rw [← hc]; exact (zxc hd hn hS hi).2
      rw [← hf] at l1
      refine ⟨by simp [h.len], by have := h.bd; simp; omega, fun j hj => ?_⟩
      rw [List.length_append, List.length_singleton] at hj
      rcases Nat.lt_or_ge j st.1.length with h3 | h3
      · rw [z6G _ h3, z6G _ (by rw [← h.len]; exact h3)]
        exact h.ok j h3
      · have e : j = st.1.length := by omega
        rw [z8Y e, z8Y (by rw [← h.len]; exact e)]
        exact ⟨_, rfl, l1, l2, rfl⟩
  · exact h1
theorem zjU {c i B : Nat} {st : HS} (h : HInv d m n S c B st) (hi : i < S.length) (hc : clN d m n S i = c) : ∀ a, a <= m -> HInv d m n S c (B + a) (zjV d m n S (z4n S (z2I d m n S c)) i st a)
  | 0, _ => h
  | a + 1, ha => by
    rw [zhB]
    exact zuQ hd hn hS (zjU h hi hc a (by omega)) hi (by omega) hc
theorem zsL {c : Nat} : ∀ k, k <= S.length -> HInv d m n S c (k * m) (zij d m n S (z4n S (z2I d m n S c)) c k)
  | 0, _ => ⟨rfl, by simp [zij], fun j hj => by simp [zij] at hj⟩
  | k + 1, hk => by
    have ih := zsL (c := c) k (by omega)
    rw [zo3]
    have e : (k + 1) * m = k * m + m := by rw [Nat.add_mul]; omega
    split
    · rename_i hc
      rw [e]; exact zjU hd hn hS ih (by omega) hc m (Nat.le_refl _)
    · exact ⟨ih.len, by have := ih.bd; omega, ih.ok⟩
end
end
section
open Go
noncomputable section
set_option maxRecDepth 100000
set_option maxHeartbeats 6000000
abbrev z4B (a0 : Imgs) (w236 : Int) (w237 : List Int) (w238 : List Int) (v247 : Int) : Bool × Int -> Option ((Bool × Int) ⊕ ((Int × List Int × List Int) ⊕ List Int))
  | (w249, w250) =>
  if w250 < (w237.length : Int) then
    (atI w237 w250).bind fun v252 =>
    if w249 = true then
      z0e (true, IntKind.i64.wrap (w250 + 1))
    else
      z0e (decide (v252 = v247), IntKind.i64.wrap (w250 + 1))
  else
    z0k <|
    if w249 = true then
      z0e (IntKind.i64.wrap (w236 + 1), w237, w238)
    else
      (atI a0.height w236).bind fun v253 =>
      if 0 < v253 then
        chk (z1c 8 (w237.length + 1)) <|
        chk (z1c 8 (w238.length + 1)) <|
        z0e (IntKind.i64.wrap (w236 + 1), w237 ++ [v247], w238 ++ [v253])
      else
        z0e (IntKind.i64.wrap (w236 + 1), w237, w238)
instance {a0 : Imgs} {w236 : Int} {w237 : List Int} {w238 : List Int} {v247 : Int} : Hd (z4B a0 w236 w237 w238 v247) := ⟨fun (w249, w250) => ([(7, xB w249), (22, xI w250)], [])⟩
abbrev z3t (w324 : Int) : Int × List Int × List Int -> Option ((Int × List Int × List Int) ⊕ ((Int × List Int × List Int) ⊕ List Int))
  | (w418, w419, w420) =>
  if 0 < w418 then
    (atI w420 w418).bind fun v443 =>
    (atI w420 (IntKind.i64.wrap (w418 - 1))).bind fun v444 =>
    if v444 < v443 then
      (atI w419 (IntKind.i64.wrap (w418 - 1))).bind fun v445 =>
      (atI w419 w418).bind fun v446 =>
      (atI (w419.set w418.toNat v445) (IntKind.i64.wrap (w418 - 1))).bind fun v450 =>
      (atI (w420.set w418.toNat v444) (IntKind.i64.wrap (w418 - 1))).bind fun v452 =>
      z0e (IntKind.i64.wrap (w418 - 1), ((w419.set w418.toNat v445).set (IntKind.i64.wrap (w418 - 1)).toNat v446), ((w420.set w418.toNat v444).set (IntKind.i64.wrap (w418 - 1)).toNat v443))
    else
      if v443 = v444 then
        (atI w419 w418).bind fun v455 =>
        (atI w419 (IntKind.i64.wrap (w418 - 1))).bind fun v456 =>
        if v455 < v456 then
          (atI (w419.set w418.toNat v456) (IntKind.i64.wrap (w418 - 1))).bind fun v462 =>
          (atI (w420.set w418.toNat v444) (IntKind.i64.wrap (w418 - 1))).bind fun v464 =>
          z0e (IntKind.i64.wrap (w418 - 1), ((w419.set w418.toNat v456).set (IntKind.i64.wrap (w418 - 1)).toNat v455), ((w420.set w418.toNat v444).set (IntKind.i64.wrap (w418 - 1)).toNat v443))
        else
          z0k <|
          z0e (IntKind.i64.wrap (w324 + 1), w419, w420)
      else
        z0k <|
        z0e (IntKind.i64.wrap (w324 + 1), w419, w420)
  else
    z0k <|
    z0e (IntKind.i64.wrap (w324 + 1), w419, w420)
instance {w324 : Int} : Hd (z3t w324) := ⟨fun (w418, w419, w420) => ([(11, xI w418)], [(3, .os 1 w419.length (w419.map fun x0 => .sc (.int .i64 x0))), (4, .os 1 w420.length (w420.map fun x0 => .sc (.int .i64 x0)))])⟩
abbrev z3u (w237 : List Int) : Int × List Int × List Int -> Option ((Int × List Int × List Int) ⊕ List Int)
  | (w324, w325, w326) =>
  if w324 < (w237.length : Int) then
    z0j (z3t w324) LFm (w324, w325, w326)
  else
    z0k <|
    some w325
instance {w237 : List Int} : Hd (z3u w237) := ⟨fun (w324, w325, w326) => ([(58, xI w324)], [(3, .os 1 w325.length (w325.map fun x0 => .sc (.int .i64 x0))), (4, .os 1 w326.length (w326.map fun x0 => .sc (.int .i64 x0)))])⟩
abbrev z4C (a0 : Imgs) : Int × List Int × List Int -> Option ((Int × List Int × List Int) ⊕ List Int)
  | (w236, w237, w238) =>
  if w236 < (a0.class_.length : Int) then
    (atI a0.class_ w236).bind fun v247 =>
    z0j (z4B a0 w236 w237 w238 v247) LFm (false, 0)
  else
    z0k <|
    z0j (z3u w237) LFm (0, w237, w238)
instance {a0 : Imgs} : Hd (z4C a0) := ⟨fun (w236, w237, w238) => ([(15, xI w236)], [(3, .os 1 w237.length (w237.map fun x0 => .sc (.int .i64 x0))), (4, .os 1 w238.length (w238.map fun x0 => .sc (.int .i64 x0)))])⟩
def z4S (a0 : Imgs) : Option (List Int) :=
  z0j (z4C a0) LFm (0, [], [])
instance ref25_Classes_ok {a0 : Imgs} : Ok (z4S a0) (fun r => L 28 [.agg [.sl a0.sets.length (a0.sets.map fun x0 => .sc (.int .i64 x0)), .sl a0.class_.length (a0.class_.map fun x0 => .sc (.int .i64 x0)), .sl a0.height.length (a0.height.map fun x0 => .sc (.int .i64 x0)), .sl a0.tiles.length (a0.tiles.map fun x0 => .sl x0.length (x0.map fun x1 => .sc (.int .i64 x1))), .sl a0.words.length (a0.words.map fun x0 => .sc (.string x0)), .sl a0.back.length (a0.back.map fun x0 => .sc (.string x0))]] = some (.os 1 r.length (r.map fun x0 => .sc (.int .i64 x0)), [.dead])) := ⟨fun r h => by have h := z4p h; unfold z4S at h; exact z4O zA1 zAA zAS⟩
abbrev z5D (a0 : Imgs) (a1 : Int) : Int -> Option (Int ⊕ Int)
  | w6 =>
  (atI a0.class_ w6).bind fun v8 =>
  if v8 = a1 then
    z0k <|
    some w6
  else
    z0e (IntKind.i64.wrap (w6 + 1))
instance {a0 : Imgs} {a1 : Int} : Hd (z5D a0 a1) := ⟨fun w6 => ([(5, xI w6)], [])⟩
def z6W (a0 : Imgs) (a1 : Int) : Option (Int) :=
  z0j (z5D a0 a1) LFm 0
instance ref25_First_ok {a0 : Imgs} {a1 : Int} : Ok (z6W a0 a1) (fun r => L 29 [.agg [.sl a0.sets.length (a0.sets.map fun x0 => .sc (.int .i64 x0)), .sl a0.class_.length (a0.class_.map fun x0 => .sc (.int .i64 x0)), .sl a0.height.length (a0.height.map fun x0 => .sc (.int .i64 x0)), .sl a0.tiles.length (a0.tiles.map fun x0 => .sl x0.length (x0.map fun x1 => .sc (.int .i64 x1))), .sl a0.words.length (a0.words.map fun x0 => .sc (.string x0)), .sl a0.back.length (a0.back.map fun x0 => .sc (.string x0))], .sc (.int .i64 a1)] = some (.sc (.int .i64 r), [.dead, .dead])) := ⟨fun r h => by have h := z4p h; unfold z6W at h; exact z4O zA0 zC3 zDR⟩
abbrev z5B (a1 : List Int) (w31 : Int) (w32 : List Int) (v41 : Int) : Int × Int -> Option ((Int × Int) ⊕ ((Int × List Int) ⊕ (List Int × Bool)))
  | (w43, w44) =>
  if w44 < (a1.length : Int) then
    (atI a1 w44).bind fun v46 =>
    if v46 = v41 then
      z0e (w44, IntKind.i64.wrap (w44 + 1))
    else
      z0e (w43, IntKind.i64.wrap (w44 + 1))
  else
    z0k <|
    if w43 = (-1) then
      z0k <|
      some ([], false)
    else
      chk (z1c 8 (w32.length + 1)) <|
      z0e (IntKind.i64.wrap (w31 + 1), w32 ++ [w43])
instance {a1 : List Int} {w31 : Int} {w32 : List Int} {v41 : Int} : Hd (z5B a1 w31 w32 v41) := ⟨fun (w43, w44) => ([(12, xI w43), (27, xI w44)], [])⟩
abbrev z5C (a0 : DFA) (a1 : List Int) (a2 : ByteArray) : Int × List Int -> Option ((Int × List Int) ⊕ (List Int × Bool))
  | (w31, w32) =>
  if w31 < (a1.length : Int) then
    (atI a1 w31).bind fun v40 =>
    (z7U a0 v40 a2).bind fun v41 =>
    z0j (z5B a1 w31 w32 v41) LFm ((-1), 0)
  else
    z0k <|
    some (w32, true)
instance {a0 : DFA} {a1 : List Int} {a2 : ByteArray} : Hd (z5C a0 a1 a2) := ⟨fun (w31, w32) => ([(17, xI w31)], [(8, .os 1 w32.length (w32.map fun x0 => .sc (.int .i64 x0)))])⟩
def z6V (a0 : DFA) (a1 : List Int) (a2 : ByteArray) : Option (List Int × Bool) :=
  z0j (z5C a0 a1 a2) LFm (0, [])
instance ref25_Moved_ok {a0 : DFA} {a1 : List Int} {a2 : ByteArray} : Ok (z6V a0 a1 a2) (fun r => L 31 [.agg [.sc (.int .i64 a0.letters), .sc (.int .i64 a0.start), .sl a0.final.length (a0.final.map fun x0 => .sc (.bool x0)), .sl a0.next.length (a0.next.map fun x0 => .sl x0.length (x0.map fun x1 => .sc (.int .i64 x1)))], .sl a1.length (a1.map fun x0 => .sc (.int .i64 x0)), .sc (.string a2)] = some (.tup [.os 1 r.1.length (r.1.map fun x0 => .sc (.int .i64 x0)), .sc (.bool r.2)], [.dead, .dead, .dead])) := ⟨fun r h => by have h := z4p h; unfold z6V at h; exact z4O zzY zC1 zDP⟩
end
end
section
open Go
set_option maxRecDepth 100000
theorem zf8 {κ ν : Type} [DecidableEq κ] (k q : κ) (v : ν) : ∀ m : List (κ × ν), z8D q (zaE k v m) = if k = q then some v else z8D q m
  | [] => rfl
  | (a, u) :: r => by
    simp only [zaE]
    by_cases h : a = k
    · subst h
      rw [if_pos rfl]
      simp only [z8D]
      by_cases h2 : a = q
      · rw [if_pos h2, if_pos h2]
      · rw [if_neg h2, if_neg h2, if_neg h2]
    · rw [if_neg h]
      simp only [z8D, zf8 k q v r]
      by_cases h2 : a = q
      · rw [if_pos h2, if_pos h2, if_neg (fun e => h (h2.trans e.symm))]
      · rw [if_neg h2, if_neg h2]
def zbg (S : List Nat) : Nat -> List (Int × Int)
  | 0 => []
  | k + 1 => zaE ((S.getD k 0 : Nat) : Int) (k : Int) (zbg S k)
theorem zdi {S : List Nat} (hS : S.Nodup) {j : Nat} : ∀ k, k <= S.length -> j < k -> z8D ((S.getD j 0 : Nat) : Int) (zbg S k) = some (j : Int)
  | k + 1, hk, hj => by
    simp only [zbg]
    rw [zf8]
    by_cases e : j = k
    · subst e; rw [if_pos rfl]
    · rw [if_neg (fun h => e (zax hS (by omega) (by omega) (by omega))), zdi hS k (by omega) (by omega)]
theorem zrx {d : DFA} {w : List UInt8} {T : List Nat} {k : Nat} (h : k < T.length) : (z6y d w T).getD k 0 = T.idxOf (z4R d (T.getD k 0) w) := by
  simp [z6y, List.getD, h]
theorem z4r {l : List Nat} {k : Nat} (h : k < l.length) : l.take (k + 1) = l.take k ++ [l.getD k 0] := by
  rw [List.take_succ_eq_append_getElem h, List.getD, List.getElem?_eq_getElem h, Option.getD_some]
theorem ztw {d : DFA} {m n : Nat} (hd : DfaOk d m n) (hn : n <= 12) {T : List Nat} (hT : T.Nodup) (hl : T.length <= 1000) (hlt : ∀ t ∈ T, t < 2 ^ n) {w : ByteArray} (hw : zsY m w) (hr : ∀ t ∈ T, z4R d t w.data.toList ∈ T) : z6V d (toI T) w = some (toI (z6y d w.data.toList T), true) := by
  have hpl := zde d w.data.toList T
  unfold z6V
  refine z0t (s := ((0 : Int), ([] : List Int))) T.length (fun k => ((k : Int), toI ((z6y d w.data.toList T).take k))) rfl (by simp only [LFm]; omega) (fun k hk => ?_) ?_
  · have hm := hr _ (z0p hk)
    have hi := z7A hm
    have hg := z3H hm
    have hp := zrx (d := d) (w := w.data.toList) hk
    simp only [z5C]
    rw [if_pos (by rw [z0d]; omega), z0Y hk, Option.bind_some, zvS hd hn (hlt _ (z0p hk)) hw, Option.bind_some]
    generalize z4R d (T.getD k 0) w.data.toList = s at *
    refine z0t (s := ((-1 : Int), (0 : Int))) T.length (fun q => ((if T.idxOf s < q then ((T.idxOf s : Nat) : Int) else -1), (q : Int))) rfl (by simp only [LFm]; omega) (fun q hq => ?_) ?_
    · simp only [z5B]
      rw [if_pos (by rw [z0d]; omega), z0Y hq, Option.bind_some, z0T (by omega)]
      by_cases e : T.getD q 0 = s
      · have : T.idxOf s = q := zax hT hi hq (by rw [hg, e])
        rw [if_pos (by omega), if_pos (by omega), this]
      · have : T.idxOf s ≠ q := fun h => e (by rw [← h, hg])
        rw [if_neg (by omega)]
        by_cases h3 : T.idxOf s < q
        · rw [if_pos h3, if_pos (by omega)]
        · rw [if_neg h3, if_neg (by omega)]
    · simp only [z5B]
      rw [if_neg (by rw [z0d]; omega), if_pos hi, if_neg (by omega), z0m _ (by unfold z1c; rw [z0d, List.length_take]; omega), z0T (by omega), z4r (by omega), z3k, hp]
  · simp only [z5C]
    rw [if_neg (by rw [z0d]; omega), ← hpl, List.take_length]
section
variable {d : DFA} {m n : Nat} {S : List Nat} (hd : DfaOk d m n) (hn : n <= 7) (hS : SetsP d m n S)
include hd hn hS
theorem z3B {c : Nat} (hc : c < (z8f d m n S).length) : clN d m n S (z2I d m n S c) = c /\ z2I d m n S c < S.length := by
  have _u := hn
  have he := z6p hd hS
  have hk : z2I d m n S c < S.length := zmp hc
  obtain ⟨h1, h2⟩ := zaz he hk
  refine ⟨zmo he (zbi he _ (Nat.le_refl _)) (fun f hf => za0 _ _ f hf) hk h1 hc h2 (he.refl _ hk), hk⟩
theorem ztQ {c : Nat} (hc : c < (z8f d m n S).length) (hSl : S.length < 100000) : z6W (z2m d m n S) (c : Int) = some ((z2I d m n S c : Nat) : Int) := by
  obtain ⟨h1, h2⟩ := z3B hd hn hS hc
  have hat : ∀ i, i < S.length -> atI (z2m d m n S).class_ (i : Int) = some ((clN d m n S i : Nat) : Int) := fun i hi => z1q hi
  unfold z6W
  refine z0t (s := (0 : Int)) (z2I d m n S c) (fun k => (k : Int)) rfl (by simp only [LFm]; omega) (fun k hk => ?_) ?_
  · simp only [z5D]
    rw [hat k (by omega), Option.bind_some, if_neg (fun e => ?_), z0T (by omega)]
    have e' : clN d m n S k = c := by omega
    have := zd2 hd hn hS (i := k) (by omega)
    have e3 : z2I d m n S c = z3a d m n S k := by unfold z2I; rw [← e']; rfl
    omega
  · simp only [z5D]
    rw [hat _ h2, Option.bind_some, if_pos (by rw [h1])]
end
end
section
open Go
set_option maxRecDepth 100000
def leH (H : Nat -> Nat) (a b : Nat) : Prop := H b < H a ∨ (H a = H b /\ a <= b)
abbrev zkS (H : Nat -> Nat) (l : List Nat) : Prop := l.Pairwise (leH H)
theorem zvH {H : Nat -> Nat} {S R : List Nat} {x : Nat} (hs : zkS H S) (hl : S.length < 2 ^ 40) {w : Nat} (hw : w = S.length) :
    ∃ S', z0j (z3t (w : Int)) LFm ((w : Int), toI (S ++ x :: R), toI ((S ++ x :: R).map H)) = some (.inl (((w + 1 : Nat) : Int), toI (S' ++ R), toI ((S' ++ R).map H))) /\ zkS H S' /\ S'.Perm (S ++ [x]) := by
  refine Exists.elim (z1y (b := z3t (w : Int)) (fun z => ∃ S1 S2, S1 ++ S2 = S /\ z = (((S1.length : Nat) : Int), toI (S1 ++ x :: (S2 ++ R)), toI ((S1 ++ x :: (S2 ++ R)).map H)) /\ ∀ y ∈ S2, leH H x y) (fun z => z.1.toNat)
    (fun r => ∃ S', r = .inl (((w + 1 : Nat) : Int), toI (S' ++ R), toI ((S' ++ R).map H)) /\ zkS H S' /\ S'.Perm (S ++ [x])) ?_ LFm ((w : Int), toI (S ++ x :: R), toI ((S ++ x :: R).map H)) ⟨S, [], by simp, by rw [hw]; simp, by simp⟩ (by simp only [LFm]; omega)) fun r h => by
      obtain ⟨h1, S', rfl, h2, h3⟩ := h
      exact ⟨S', h1, h2, h3⟩
  rintro z ⟨S1, S2, rfl, rfl, h2⟩
  have hlen : S1.length + S2.length < 2 ^ 40 := by rw [List.length_append] at hl; omega
  have wS : IntKind.i64.wrap ((w : Int) + 1) = ((w + 1 : Nat) : Int) := by rw [List.length_append] at hw; rw [z1Z (by omega) (by omega)]; omega
  have fin : (∀ y ∈ S1, leH H y x) -> zkS H (S1 ++ x :: S2) /\ (S1 ++ x :: S2).Perm (S1 ++ S2 ++ [x]) := fun hle => by
    refine ⟨?_, ?_⟩
    · rw [zkS, List.pairwise_append] at hs ⊢
      refine ⟨hs.1, List.pairwise_cons.2 ⟨fun y hy => h2 y hy, hs.2.1⟩, fun a ha b hb => ?_⟩
      rcases List.mem_cons.1 hb with rfl | hb
      · exact hle a ha
      · exact hs.2.2 a ha b hb
    · rw [List.append_assoc]
      exact List.Perm.append_left _ (List.perm_append_singleton x S2).symm
  simp only [z3t]
  rcases List.eq_nil_or_concat S1 with rfl | ⟨S0, y, rfl⟩
  · right
    rw [if_neg (by simp)]
    obtain ⟨f1, f2⟩ := fin (fun y hy => by simp at hy)
    refine ⟨_, rfl, x :: S2, ?_, by simpa using f1, by simpa using f2⟩
    rw [wS]; simp
  · simp only [List.concat_eq_append] at *
    have e1 : toI (S0 ++ [y] ++ x :: (S2 ++ R)) = toI S0 ++ (y : Int) :: (x : Int) :: toI (S2 ++ R) := by simp [toI]
    have e2 : toI ((S0 ++ [y] ++ x :: (S2 ++ R)).map H) = toI (S0.map H) ++ (H y : Int) :: (H x : Int) :: toI ((S2 ++ R).map H) := by simp [toI]
    have l1 : (toI S0).length = S0.length := z0d _
    have l2 : (toI (S0.map H)).length = S0.length := by simp [toI]
    have hn : (S0 ++ [y]).length = S0.length + 1 := by simp
    rw [hn] at hlen
    have hj : IntKind.i64.wrap (((S0.length + 1 : Nat) : Int) - 1) = ((S0.length : Nat) : Int) := by
      rw [z1Z (by omega) (by omega)]; omega
    have stay : leH H y x -> (∃ s', (z0k (z0e (IntKind.i64.wrap ((w : Int) + 1), toI S0 ++ (y : Int) :: (x : Int) :: toI (S2 ++ R), toI (S0.map H) ++ (H y : Int) :: (H x : Int) :: toI ((S2 ++ R).map H))) : Option ((Int × List Int × List Int) ⊕ ((Int × List Int × List Int) ⊕ List Int))) = some (.inr s') /\ ∃ S', s' = .inl (((w + 1 : Nat) : Int), toI (S' ++ R), toI ((S' ++ R).map H)) /\ zkS H S' /\ S'.Perm (S0 ++ [y] ++ S2 ++ [x])) := fun hle => by
      obtain ⟨f1, f2⟩ := fin (fun z hz => by
        rcases List.mem_append.1 hz with hz | hz
        · rw [zkS, List.pairwise_append, List.pairwise_append] at hs
          have := hs.1.2.2 z hz y (by simp)
          unfold leH at *
          omega
        · obtain rfl := List.mem_singleton.1 hz; exact hle)
      refine ⟨_, rfl, S0 ++ [y] ++ x :: S2, ?_, f1, f2⟩
      rw [wS]; simp [toI]
    have swap : leH H x y -> ∃ s', (z0e (IntKind.i64.wrap (((S0.length + 1 : Nat) : Int) - 1), (((toI S0 ++ (y : Int) :: (x : Int) :: toI (S2 ++ R)).set (((S0.length + 1 : Nat) : Int)).toNat (y : Int)).set (IntKind.i64.wrap (((S0.length + 1 : Nat) : Int) - 1)).toNat (x : Int)), (((toI (S0.map H) ++ (H y : Int) :: (H x : Int) :: toI ((S2 ++ R).map H)).set (((S0.length + 1 : Nat) : Int)).toNat (H y : Int)).set (IntKind.i64.wrap (((S0.length + 1 : Nat) : Int) - 1)).toNat (H x : Int))) : Option ((Int × List Int × List Int) ⊕ ((Int × List Int × List Int) ⊕ List Int))) = some (.inl s') /\ (∃ S1 S2', S1 ++ S2' = S0 ++ [y] ++ S2 /\ s' = (((S1.length : Nat) : Int), toI (S1 ++ x :: (S2' ++ R)), toI ((S1 ++ x :: (S2' ++ R)).map H)) /\ ∀ y ∈ S2', leH H x y) /\ s'.1.toNat < (((S0 ++ [y]).length : Nat) : Int).toNat := fun hle => by
      rw [hj, Int.toNat_natCast, Int.toNat_natCast, zuk (toI S0) (y : Int) (x : Int) (y : Int) (toI (S2 ++ R)) (by omega), zuk (toI (S0.map H)) (H y : Int) (H x : Int) (H y : Int) (toI ((S2 ++ R).map H)) (by omega), zsR (toI S0) (y : Int) (x : Int) ((y : Int) :: (toI (S2 ++ R))) (by omega), zsR (toI (S0.map H)) (H y : Int) (H x : Int) ((H y : Int) :: (toI ((S2 ++ R).map H))) (by omega)]
      refine ⟨_, rfl, ⟨S0, y :: S2, by simp, ?_, fun z hz => ?_⟩, by simp only [hn]; omega⟩
      · simp [toI]
      · rcases List.mem_cons.1 hz with rfl | hz
        · exact hle
        · exact h2 z hz
    rw [e1, e2, hn, if_pos (by omega), hj, at1 (toI (S0.map H)) (H y : Int) (H x : Int) (toI ((S2 ++ R).map H)) (by omega), Option.bind_some, at0 (toI (S0.map H)) (H y : Int) ((H x : Int) :: (toI ((S2 ++ R).map H))) (by omega), Option.bind_some]
    have g1 : atI ((toI S0 ++ (y : Int) :: (x : Int) :: toI (S2 ++ R)).set (((S0.length + 1 : Nat) : Int)).toNat (y : Int)) ((S0.length : Nat) : Int) = some (y : Int) := by
      rw [Int.toNat_natCast, zuk (toI S0) (y : Int) (x : Int) (y : Int) (toI (S2 ++ R)) (by omega), at0 (toI S0) (y : Int) ((y : Int) :: (toI (S2 ++ R))) (by omega)]
    have g2 : atI ((toI (S0.map H) ++ (H y : Int) :: (H x : Int) :: toI ((S2 ++ R).map H)).set (((S0.length + 1 : Nat) : Int)).toNat (H y : Int)) ((S0.length : Nat) : Int) = some (H y : Int) := by
      rw [Int.toNat_natCast, zuk (toI (S0.map H)) (H y : Int) (H x : Int) (H y : Int) (toI ((S2 ++ R).map H)) (by omega), at0 (toI (S0.map H)) (H y : Int) ((H y : Int) :: (toI ((S2 ++ R).map H))) (by omega)]
    rw [hj, hn] at swap
    by_cases c1 : (H y : Int) < (H x : Int)
    · left
      rw [if_pos c1, at0 (toI S0) (y : Int) ((x : Int) :: (toI (S2 ++ R))) (by omega), Option.bind_some, at1 (toI S0) (y : Int) (x : Int) (toI (S2 ++ R)) (by omega), Option.bind_some, g1, Option.bind_some, g2, Option.bind_some]
      exact swap (.inl (by omega))
    · rw [if_neg c1]
      by_cases c2 : (H x : Int) = (H y : Int)
      · rw [if_pos c2, at1 (toI S0) (y : Int) (x : Int) (toI (S2 ++ R)) (by omega), Option.bind_some, at0 (toI S0) (y : Int) ((x : Int) :: (toI (S2 ++ R))) (by omega), Option.bind_some]
        by_cases c3 : (x : Int) < (y : Int)
        · left
          rw [if_pos c3, g1, Option.bind_some, g2, Option.bind_some]
          exact swap (.inr ⟨by omega, by omega⟩)
        · right
          rw [if_neg c3]
          exact stay (.inr ⟨by omega, by omega⟩)
      · right
        rw [if_neg c2]
        exact stay (.inl (by omega))
theorem ztZ {H : Nat -> Nat} {X : List Nat} (hl : X.length < 2 ^ 40) (V : List Int) (hV : V.length = X.length) : ∃ O, z0j (z3u V) LFm (0, toI X, toI (X.map H)) = some (toI O) /\ zkS H O /\ O.Perm X := by
  refine Exists.elim (z1y (b := z3u V) (fun z => ∃ S U, z = (((S.length : Nat) : Int), toI (S ++ U), toI ((S ++ U).map H)) /\ zkS H S /\ (S ++ U).Perm X) (fun z => X.length - z.1.toNat)
    (fun r => ∃ S, r = toI S /\ zkS H S /\ S.Perm X) ?_ LFm (0, toI X, toI (X.map H)) ⟨[], X, by simp, by simp, .refl _⟩ (by simp only [LFm]; omega)) fun r h => by
      obtain ⟨h1, S, rfl, h2, h3⟩ := h
      exact ⟨S, h1, h2, h3⟩
  rintro z ⟨S, U, rfl, h1, h2⟩
  have hlen := h2.length_eq
  rw [List.length_append] at hlen
  simp only [z3u]
  cases U with
  | nil =>
    right
    rw [if_neg (by simp at hlen ⊢; omega)]
    exact ⟨_, rfl, S, by simp, h1, by simpa using h2⟩
  | cons u U =>
    left
    rw [if_pos (by simp at hlen ⊢; omega)]
    obtain ⟨S', e, s1, s2⟩ := zvH (H := H) (S := S) (R := U) (x := u) h1 (by simp at hlen hl ⊢; omega) rfl
    rw [e]
    have hS' := s2.length_eq
    simp at hS'
    refine ⟨_, rfl, ⟨S', U, ?_, s1, ?_⟩, ?_⟩
    · simp only [hS']
    · refine List.Perm.trans ?_ h2
      have : S ++ u :: U = S ++ [u] ++ U := by simp
      rw [this]
      exact s2.append_right U
    · simp at hlen ⊢; omega
end
section
open Go
set_option maxRecDepth 100000
def z6T (f : Nat -> Nat) : Nat -> Nat
  | 0 => 0
  | k + 1 => z6T f k + f k
theorem zhs {f g : Nat -> Nat} : ∀ k, (∀ i, i < k -> f i <= g i) -> z6T f k <= z6T g k
  | 0, _ => Nat.le_refl _
  | k + 1, h => Nat.add_le_add (zhs k fun i hi => h i (by omega)) (h k (by omega))
theorem zuh {f g : Nat -> Nat} {p : Nat} : ∀ k, (∀ i, i < k -> f i <= g i) -> p < k -> f p < g p -> z6T f k < z6T g k
  | 0, _, hp, _ => by omega
  | k + 1, h, hp, hl => by
    simp only [z6T]
    have h1 := h k (by omega)
    by_cases e : p = k
    · subst e
      have := zhs p fun i hi => h i (by omega)
      omega
    · have := zuh k (fun i hi => h i (by omega)) (by omega) hl
      omega
theorem zjJ {f : Nat -> Nat} {B : Nat} : ∀ k, (∀ i, i < k -> f i <= B) -> z6T f k <= k * B
  | 0, _ => by simp [z6T]
  | k + 1, h => by
    have h1 := zjJ k fun i hi => h i (by omega)
    have h2 := h k (by omega)
    simp only [z6T, Nat.add_mul, Nat.one_mul]
    omega
def hL (N : Nat) (h : Nat -> Nat) : List Int := (List.range N).map fun i => ((h i : Nat) : Int)
theorem zx4 {N : Nat} {h : Nat -> Nat} {i : Nat} (hi : i < N) (v : Nat) : (hL N h).set i ((v : Nat) : Int) = hL N fun a => if a = i then v else h a := by
  apply List.ext_getElem (by simp [hL])
  intro k h1 h2
  simp only [hL, List.getElem_set, List.getElem_map, List.getElem_range]
  by_cases e : i = k
  · rw [if_pos e, if_pos e.symm]
  · rw [if_neg e, if_neg (fun h => e h.symm)]
def okH (b : Nat -> Nat -> Bool) (z : Nat -> Bool) (h : Nat -> Nat) (i j : Nat) : Prop := z i = false -> sbN b j i = true -> h j < h i
theorem ztM {N : Nat} {b : Nat -> Nat -> Bool} (hb : BelN N b) {z : Nat -> Bool} {i j : Nat} (hi : i < N) (hj : j < N) (hz : z i = false) (hs : sbN b j i = true) : zii N b z j < zii N b z i := by
  rw [zhh hb z i hi, hz]
  have := znh (g := fun j => if sbN b j i = true then zii N b z j + 1 else 0) hj
  simp only [hs, if_true] at this
  simp only [Bool.false_eq_true, if_false]
  omega
theorem zvw {N : Nat} {b : Nat -> Nat -> Bool} (hb : BelN N b) {z : Nat -> Bool} {h : Nat -> Nat} (hle : ∀ i, i < N -> h i <= zii N b z i) (ho : ∀ i j, i < N -> j < N -> okH b z h i j) : ∀ i, i < N -> h i = zii N b z i := by
  have : ∀ L i, i < N -> zfH N b i <= L -> zii N b z i <= h i := by
    intro L
    induction L with
    | zero =>
      intro i hi hl
      exfalso
      have := zfn (p := fun _ => false) (q := fun j => b j i) (k := N) (i := i) (fun j _ hf => by simp at hf) hi rfl (hb.refl i hi)
      unfold zfH at hl; omega
    | succ L ih =>
      intro i hi hl
      rw [zhh hb z i hi]
      cases hz : z i with
      | true => simp
      | false =>
        simp only [Bool.false_eq_true, if_false]
        refine z8v fun j hj => ?_
        by_cases hs : sbN b j i = true
        · have h1 := znl hb hi hj hs
          have h2 := ih j hj (by omega)
          have h3 := ho i j hi hj hz hs
          simp only [hs, if_true]
          omega
        · simp [hs]
  exact fun i hi => Nat.le_antisymm (hle i hi) (this _ i hi (Nat.le_refl _))
structure RndH (N : Nat) (b : Nat -> Nat -> Bool) (z : Nat -> Bool) (h0 : Nat -> Nat) (ch : Bool) (h : Nat -> Nat) : Prop where
  lo : ∀ i, i < N -> h0 i <= h i
  hi : ∀ i, i < N -> h i <= zii N b z i
  no : ch = false -> ∀ i, i < N -> h i = h0 i
  yes : ch = true -> ∃ i, i < N /\ h0 i < h i
theorem zwk : ∀ s : Nat, s < 128 -> s ≠ 0 -> szN s ≠ 0 := by decide +kernel
section
variable {d : DFA} {m n : Nat} {S : List Nat} (hd : DfaOk d m n) (hn : n <= 7) (hS : SetsP d m n S) (hpos : ∀ x ∈ S, x ≠ 0)
include hd hn hS hpos
theorem zvv {h0 : Nat -> Nat} {i : Nat} (hi : i < S.length) (ch : Bool) (h : Nat -> Nat) (hr : RndH S.length (z2W d m n S) (z8g S) h0 ch h) (hk : ch = false -> ∀ i', i' < i -> ∀ j, j < S.length -> okH (z2W d m n S) (z8g S) h0 i' j) :
    ∃ ch' h', z0j (z5W (toI S) (zd0 S.length (z2W d m n S)) (i : Int)) LFm (ch, 0, hL S.length h) = z0e (ch', ((i + 1 : Nat) : Int), hL S.length h') /\ RndH S.length (z2W d m n S) (z8g S) h0 ch' h' /\ (ch' = false -> ∀ i', i' < i + 1 -> ∀ j, j < S.length -> okH (z2W d m n S) (z8g S) h0 i' j) := by
  have h128 : 2 ^ n <= 128 := Nat.pow_le_pow_right (n := 2) (by omega) hn
  have hSl := z0z hS.nd hS.lt
  have hb := zkI hd hS
  refine Exists.elim (z1y (b := z5W (toI S) (zd0 S.length (z2W d m n S)) (i : Int)) (fun z => ∃ (ch : Bool) (j : Nat) (h : Nat -> Nat), j <= S.length /\ z = (ch, (j : Int), hL S.length h) /\ RndH S.length (z2W d m n S) (z8g S) h0 ch h /\ (ch = false -> (∀ i', i' < i -> ∀ j, j < S.length -> okH (z2W d m n S) (z8g S) h0 i' j) /\ ∀ j', j' < j -> okH (z2W d m n S) (z8g S) h0 i j')) (fun z => S.length - z.2.1.toNat)
    (fun r => ∃ ch' h', r = .inl (ch', ((i + 1 : Nat) : Int), hL S.length h') /\ RndH S.length (z2W d m n S) (z8g S) h0 ch' h' /\ (ch' = false -> ∀ i', i' < i + 1 -> ∀ j, j < S.length -> okH (z2W d m n S) (z8g S) h0 i' j)) ?_ LFm (ch, 0, hL S.length h) ⟨ch, 0, h, by omega, rfl, hr, fun e => ⟨hk e, fun j' hj' => by omega⟩⟩ (by simp only [LFm]; omega)) fun r hh => by
      obtain ⟨e1, ch', h', rfl, e2, e3⟩ := hh
      exact ⟨ch', h', e1, e2, e3⟩
  rintro z ⟨ch, j, h, hj, rfl, r1, r2⟩
  simp only [z5W]
  by_cases hlt : j < S.length
  · left
    have hil := hS.lt _ (z0p hi)
    have hz0 := zwk _ (by omega) (hpos _ (z0p hi))
    have hgi := zks hb (z8g S) hi
    have hgj := zks hb (z8g S) hlt
    have hhj := r1.hi j hlt
    have hhi := r1.hi i hi
    rw [if_pos (by rw [z0d]; omega), z0Y hi, Option.bind_some, zdb _ (by omega), Option.bind_some, z0T (by omega)]
    have keep : okH (z2W d m n S) (z8g S) h i j -> RndH S.length (z2W d m n S) (z8g S) h0 ch h /\ (ch = false -> (∀ i', i' < i -> ∀ j, j < S.length -> okH (z2W d m n S) (z8g S) h0 i' j) /\ ∀ j', j' < j + 1 -> okH (z2W d m n S) (z8g S) h0 i j') := fun ho => ⟨r1, fun e => ⟨(r2 e).1, fun j' hj' => by
      by_cases ej : j' = j
      · subst ej
        intro q1 q2
        have := ho q1 q2
        rw [r1.no e i hi, r1.no e j' hlt] at this
        exact this
      · exact (r2 e).2 j' (by omega)⟩⟩
    have same : okH (z2W d m n S) (z8g S) h i j -> ∃ s', (z0e (ch, ((j + 1 : Nat) : Int), hL S.length h) : Option ((Bool × Int × List Int) ⊕ ((Bool × Int × List Int) ⊕ ((Bool × List Int) ⊕ (Imgs × Int))))) = some (.inl s') /\ (∃ (ch : Bool) (j : Nat) (h : Nat -> Nat), j <= S.length /\ s' = (ch, (j : Int), hL S.length h) /\ RndH S.length (z2W d m n S) (z8g S) h0 ch h /\ (ch = false -> (∀ i', i' < i -> ∀ j, j < S.length -> okH (z2W d m n S) (z8g S) h0 i' j) /\ ∀ j', j' < j -> okH (z2W d m n S) (z8g S) h0 i j')) /\ S.length - s'.2.1.toNat < S.length - (ch, (j : Int), hL S.length h).2.1.toNat := fun ho =>
      ⟨_, rfl, ⟨ch, j + 1, h, by omega, rfl, (keep ho).1, (keep ho).2⟩, by simp only [Int.toNat_natCast]; omega⟩
    by_cases hz : szN (S.getD i 0) = 1
    · rw [if_neg (by omega)]
      exact same fun q1 _ => absurd hz (of_decide_eq_false q1)
    · rw [if_pos (by omega), zke hlt, Option.bind_some, z1q hi, Option.bind_some]
      have hbz : z8g S i = false := decide_eq_false hz
      by_cases h1 : z2W d m n S j i = true
      · rw [if_pos h1, zke hi, Option.bind_some, z1q hlt, Option.bind_some]
        by_cases h2 : z2W d m n S i j = true
        · rw [if_pos h2]
          exact same fun _ q2 => by simp [sbN, h2] at q2
        · have hs : sbN (z2W d m n S) j i = true := by simp [sbN, h1, h2]
          have hst := ztM hb hi hlt hbz hs
          have a1 : atI (hL S.length h) (i : Int) = some ((h i : Nat) : Int) := z1q hi
          have a2 : atI (hL S.length h) (j : Int) = some ((h j : Nat) : Int) := z1q hlt
          rw [if_neg h2, a1, Option.bind_some, a2, Option.bind_some]
          by_cases h3 : h i <= h j
          · rw [if_pos (by omega), z0T (by omega), Int.toNat_natCast, zx4 hi]
            refine ⟨_, rfl, ⟨true, j + 1, _, by omega, rfl, ⟨fun a ha => ?_, fun a ha => ?_, (fun e => by cases e), fun _ => ⟨i, hi, ?_⟩⟩, (fun e => by cases e)⟩, by simp only [Int.toNat_natCast]; omega⟩
            · have := r1.lo a ha
              by_cases e : a = i
              · subst e; rw [if_pos rfl]; omega
              · rw [if_neg e]; exact this
            · have := r1.hi a ha
              by_cases e : a = i
              · subst e; rw [if_pos rfl]; omega
              · rw [if_neg e]; exact this
            · have := r1.lo i hi
              rw [if_pos rfl]; omega
          · rw [if_neg (by omega)]
            exact same fun _ _ => by omega
      · rw [if_neg h1]
        exact same fun _ q2 => by simp [sbN, h1] at q2
  · right
    obtain rfl : j = S.length := by omega
    rw [if_neg (by rw [z0d]; omega), z0T (by omega)]
    refine ⟨_, rfl, ch, h, rfl, r1, fun e i' hi' => ?_⟩
    by_cases e2 : i' = i
    · subst e2; exact (r2 e).2
    · exact (r2 e).1 i' (by omega)
theorem zq6 {h0 : Nat -> Nat} (h1 : ∀ i, i < S.length -> h0 i <= z5f d m n S i) :
    ∃ ch' h', z0j (z5X (toI S) (zd0 S.length (z2W d m n S))) LFm (false, 0, hL S.length h0) = z0e (ch', hL S.length h') /\ RndH S.length (z2W d m n S) (z8g S) h0 ch' h' /\ (ch' = false -> ∀ i', i' < S.length -> ∀ j, j < S.length -> okH (z2W d m n S) (z8g S) h0 i' j) := by
  have h128 : 2 ^ n <= 128 := Nat.pow_le_pow_right (n := 2) (by omega) hn
  have hSl := z0z hS.nd hS.lt
  refine Exists.elim (z1y (b := z5X (toI S) (zd0 S.length (z2W d m n S))) (fun z => ∃ (ch : Bool) (i : Nat) (h : Nat -> Nat), i <= S.length /\ z = (ch, (i : Int), hL S.length h) /\ RndH S.length (z2W d m n S) (z8g S) h0 ch h /\ (ch = false -> ∀ i', i' < i -> ∀ j, j < S.length -> okH (z2W d m n S) (z8g S) h0 i' j)) (fun z => S.length - z.2.1.toNat)
    (fun r => ∃ ch' h', r = .inl (ch', hL S.length h') /\ RndH S.length (z2W d m n S) (z8g S) h0 ch' h' /\ (ch' = false -> ∀ i', i' < S.length -> ∀ j, j < S.length -> okH (z2W d m n S) (z8g S) h0 i' j)) ?_ LFm (false, 0, hL S.length h0) ⟨false, 0, h0, by omega, rfl, ⟨fun _ _ => Nat.le_refl _, h1, fun _ _ _ => rfl, fun e => by cases e⟩, fun _ i' hi' => by omega⟩ (by simp only [LFm]; omega)) fun r hh => by
      obtain ⟨e1, ch', h', rfl, e2, e3⟩ := hh
      exact ⟨ch', h', e1, e2, e3⟩
  rintro z ⟨ch, i, h, hi, rfl, r1, r2⟩
  simp only [z5X]
  by_cases hlt : i < S.length
  · left
    obtain ⟨ch', h', e1, e2, e3⟩ := zvv hd hn hS hpos hlt ch h r1 r2
    rw [if_pos (by rw [z0d]; omega), e1]
    exact ⟨_, rfl, ⟨ch', i + 1, h', by omega, rfl, e2, e3⟩, by simp only [Int.toNat_natCast]; omega⟩
  · right
    obtain rfl : i = S.length := by omega
    rw [if_neg (by rw [z0d]; omega)]
    exact ⟨_, rfl, ch, h, rfl, r1, r2⟩
theorem ztN {r : Imgs × Int} (C : List Int)
    (hr : z0j (z4L d (toI S) C (zw3 d m n S)) LFm (0, List.replicate S.length ([] : List Int)) = some r) :
    z0j (z5Y d (toI S) (zd0 S.length (z2W d m n S)) C) LFm (true, List.replicate S.length (0 : Int)) = some r := by
  have h128 : 2 ^ n <= 128 := Nat.pow_le_pow_right (n := 2) (by omega) hn
  have hSl := z0z hS.nd hS.lt
  have hb := zkI hd hS
  have f1 : List.replicate S.length (0 : Int) = hL S.length fun _ => 0 := by
    apply List.ext_getElem (by simp [hL]); intro i h1 h2; simp [hL]
  rw [f1]
  have hbound : z6T (fun i => z5f d m n S i - 0) S.length <= S.length * S.length := zjJ _ fun i hi => by
    have := zks hb (z8g S) hi
    show zii _ _ _ i - 0 <= _
    omega
  have hsq : S.length * S.length <= 128 * 128 := Nat.mul_le_mul (by omega) (by omega)
  have mea : ∀ (ch : Bool) (h : Nat -> Nat), (z6T (fun i => z5f d m n S i - ((hL S.length h).getD i 0).toNat) S.length + (if ch = true then 1 else 0)) = z6T (fun i => z5f d m n S i - h i) S.length + (if ch = true then 1 else 0) := fun ch h => by
    congr 1
    have : ∀ k, k <= S.length -> z6T (fun i => z5f d m n S i - ((hL S.length h).getD i 0).toNat) k = z6T (fun i => z5f d m n S i - h i) k := by
      intro k
      induction k with
      | zero => intro _; rfl
      | succ k ih =>
        intro hk
        simp only [z6T]
        rw [ih (by omega)]
        congr 2
        simp [hL, List.getD, show k < S.length by omega]
    exact this _ (Nat.le_refl _)
  refine zba (fun z : Bool × List Int => ∃ h, z.2 = hL S.length h /\ (∀ i, i < S.length -> h i <= z5f d m n S i) /\ (z.1 = false -> ∀ i, i < S.length -> ∀ j, j < S.length -> okH (z2W d m n S) (z8g S) h i j)) (fun z => z6T (fun i => z5f d m n S i - (z.2.getD i 0).toNat) S.length + (if z.1 = true then 1 else 0)) (s := (true, hL S.length fun _ => 0)) ⟨fun _ => 0, rfl, fun _ _ => Nat.zero_le _, fun e => by cases e⟩ (by show z6T (fun i => z5f d m n S i - ((hL S.length fun _ => 0).getD i 0).toNat) S.length + (if true = true then 1 else 0) < LFm; rw [mea]; simp only [LFm, if_true]; omega) ?_
  rintro ⟨ch, z⟩ ⟨h, rfl, q1, q2⟩
  cases ch with
  | false =>
    right
    have e : hL S.length h = zw3 d m n S := List.map_congr_left fun i hi => by
      rw [zvw hb (z := z8g S) q1 (fun i j hi hj => q2 rfl i hi j hj) i (List.mem_range.1 hi)]
      rfl
    simp only [z5Y]
    rw [if_neg (by simp), z0d, Int.toNat_natCast, e, hr]
  | true =>
    left
    obtain ⟨ch', h', e1, e2, e3⟩ := zq6 hd hn hS hpos q1
    simp only [z5Y]
    rw [if_pos trivial, e1]
    refine ⟨_, rfl, ⟨h', rfl, e2.hi, fun e i hi j hj => ?_⟩, ?_⟩
    · intro p1 p2
      have := e3 e i hi j hj p1 p2
      rw [e2.no e i hi, e2.no e j hj]
      exact this
    · show z6T (fun i => z5f d m n S i - ((hL S.length h').getD i 0).toNat) S.length + (if ch' = true then 1 else 0) < z6T (fun i => z5f d m n S i - ((hL S.length h).getD i 0).toNat) S.length + (if true = true then 1 else 0)
      rw [mea, mea]
      cases ch' with
      | false =>
        have : z6T (fun i => z5f d m n S i - h' i) S.length <= z6T (fun i => z5f d m n S i - h i) S.length := zhs _ fun i hi => by
          have := e2.lo i hi; omega
        simp only [if_true, Bool.false_eq_true, if_false]
        omega
      | true =>
        obtain ⟨p, p1, p2⟩ := e2.yes rfl
        have hp := e2.hi p p1
        have : z6T (fun i => z5f d m n S i - h' i) S.length < z6T (fun i => z5f d m n S i - h i) S.length := zuh _ (fun i hi => by have := e2.lo i hi; omega) p1 (by
          show zii _ _ _ p - h' p < zii _ _ _ p - h p
          omega)
        simp only [if_true]
        omega
end
end
section
open Go
set_option maxRecDepth 100000
def zeX (S : List Nat) (i j k : Nat) : Bool := !zd1 S i k || (decide (k = j) || !decide (S.getD j 0 &&& S.getD k 0 = S.getD j 0))
def zka (S : List Nat) (i j : Nat) : Nat -> Bool
  | 0 => true
  | k + 1 => zka S i j k && zeX S i j k
theorem zk9 (S : List Nat) (i j : Nat) : ∀ k, zka S i j k = true ↔ ∀ x, x < k -> zeX S i j x = true
  | 0 => by simp [zka]
  | k + 1 => by
    simp only [zka, Bool.and_eq_true]
    rw [zk9 S i j k]
    constructor
    · rintro ⟨h1, h2⟩ x hx
      by_cases e : x = k
      · subst e; exact h2
      · exact h1 x (by omega)
    · intro h
      exact ⟨fun x hx => h x (by omega), h k (by omega)⟩
theorem zrH (S : List Nat) (i j : Nat) : zka S i j S.length = zeE S i j := by
  rw [Bool.eq_iff_iff, zk9, zeE, List.all_eq_true]
  constructor
  · intro h x hx
    obtain ⟨h1, h2⟩ := List.mem_filter.1 hx
    have := h x (List.mem_range.1 h1)
    simp only [zeX, h2, Bool.not_true, Bool.false_or] at this
    exact this
  · intro h x hx
    unfold zeX
    cases hp : zd1 S i x with
    | false => rfl
    | true =>
      have := h x (List.mem_filter.2 ⟨List.mem_range.2 hx, hp⟩)
      simp only [Bool.not_true, Bool.false_or]
      exact this
def tlN (S : List Nat) (i j : Nat) : List Nat := ((List.range j).filter (zd1 S i)).filter (zeE S i)
theorem zuM (S : List Nat) (i j : Nat) : tlN S i (j + 1) = tlN S i j ++ (if zd1 S i j = true /\ zeE S i j = true then [j] else []) := by
  unfold tlN
  rw [List.range_succ, List.filter_append, List.filter_append]
  congr 1
  by_cases h1 : zd1 S i j = true
  · by_cases h2 : zeE S i j = true
    · simp [h1, h2]
    · simp [h1, h2]
  · simp [h1]
theorem zwh (S : List Nat) (i j : Nat) : (tlN S i j).length <= j := by
  have h1 := List.length_filter_le (zeE S i) ((List.range j).filter (zd1 S i))
  have h2 := List.length_filter_le (zd1 S i) (List.range j)
  rw [List.length_range] at h2
  unfold tlN; omega
def zAs (S : List Nat) : Nat -> List (Int × Int)
  | 0 => []
  | k + 1 => zaE ((S.getD k 0 : Nat) : Int) (k : Int) (zAs S k)
section
variable {d : DFA} {m n : Nat} {S : List Nat} (hd : DfaOk d m n) (hn : n <= 7) (hS : SetsP d m n S) (hpos : ∀ x ∈ S, x ≠ 0)
include hd hn hS hpos
theorem zrG {i j : Nat} (hi : i < S.length) (hj : j < S.length) (R : List (List Int)) (r : List Int) (hr : atI R (i : Int) = some r) (hrl : r.length <= 1000) :
    z0j (z5U (toI S) (i : Int) (j : Int) R ((S.getD j 0 : Nat) : Int)) LFm (true, 0) = z0e (((j + 1 : Nat) : Int), if zeE S i j = true then R.set i (r ++ [(j : Int)]) else R) := by
  have _u := hd
  have _u := hpos
  have h128 : 2 ^ n <= 128 := Nat.pow_le_pow_right (n := 2) (by omega) hn
  have hSl := z0z hS.nd hS.lt
  have hil := hS.lt _ (z0p hi)
  have hjl := hS.lt _ (z0p hj)
  refine z0t (s := (true, (0 : Int))) S.length (fun k => (zka S i j k, (k : Int))) rfl (by simp only [LFm]; omega) (fun k hk => ?_) ?_
  · have hkl := hS.lt _ (z0p hk)
    have tr : zeX S i j k = true -> (z0e ((!false : Bool), ((k + 1 : Nat) : Int)) : Option ((Bool × Int) ⊕ ((Int × List (List Int)) ⊕ ((Int × List (List Int)) ⊕ (Imgs × Int))))) = z0e (true && zeX S i j k, ((k + 1 : Nat) : Int)) := fun h => by rw [h]; rfl
    simp only [z5U]
    rw [if_pos (by rw [z0d]; omega), z0Y hk, Option.bind_some, z0T (by omega), zka]
    cases hm : zka S i j k with
    | false => rw [if_neg (by simp)]; rfl
    | true =>
      rw [if_pos rfl]
      by_cases e1 : k = j
      · rw [if_pos (by omega)]
        exact tr (by simp [zeX, e1])
      · rw [if_neg (by omega)]
        by_cases e2 : k = i
        · rw [if_pos (by omega)]
          exact tr (by simp [zeX, zd1, e2])
        · rw [if_neg (by omega), z0Y hi, Option.bind_some, zbo (by omega) (by omega), zbo (by omega) (by omega)]
          by_cases e3 : S.getD k 0 &&& S.getD i 0 = S.getD k 0
          · have hp : zd1 S i k = true := by
              unfold zd1
              rw [decide_eq_false e2, decide_eq_true e3]; rfl
            have hq : zeX S i j k = !decide (S.getD j 0 &&& S.getD k 0 = S.getD j 0) := by
              unfold zeX
              rw [hp, decide_eq_false e1]; rfl
            rw [if_pos (by omega), hq, show decide (((S.getD j 0 &&& S.getD k 0 : Nat) : Int) = ((S.getD j 0 : Nat) : Int)) = decide (S.getD j 0 &&& S.getD k 0 = S.getD j 0) from decide_eq_decide.2 (by omega)]
            rfl
          · rw [if_neg (by omega)]
            exact tr (by unfold zeX zd1; rw [decide_eq_false e3]; simp)
  · simp only [z5U]
    rw [if_neg (by rw [z0d]; omega), zrH]
    by_cases h : zeE S i j = true
    · rw [if_pos h, if_pos h, hr, Option.bind_some, z0m _ (by unfold z1c; omega), z0T (by omega), Int.toNat_natCast]
    · rw [if_neg h, if_neg h, z0T (by omega)]
theorem zt2 {i : Nat} (hi : i < S.length) (hz : szN (S.getD i 0) ≠ 1) (R : List (List Int)) (hR : R = z1b S.length (fun i => toI (z7D S i)) [] i) :
    z0j (z5V (toI S) (i : Int)) LFm (0, R) = z0e (((i + 1 : Nat) : Int), z1b S.length (fun i => toI (z7D S i)) [] (i + 1)) := by
  have h128 : 2 ^ n <= 128 := Nat.pow_le_pow_right (n := 2) (by omega) hn
  have hSl := z0z hS.nd hS.lt
  have hRl : R.length = S.length := by rw [hR, z9O]
  have hil := hS.lt _ (z0p hi)
  have hfin : R.set i (toI (tlN S i S.length)) = z1b S.length (fun i => toI (z7D S i)) [] (i + 1) := by
    have : tlN S i S.length = z7D S i := by unfold z7D; rw [if_neg hz]; rfl
    rw [this, hR]
    exact z3I (f := fun i => toI (z7D S i)) (z := []) hi
  have h0 : R = R.set i (toI (tlN S i 0)) := by
    have e : R[i]'(by omega) = [] := by simp [hR, z1b]
    have : toI (tlN S i 0) = R[i]'(by omega) := by rw [e]; rfl
    rw [this, List.set_getElem_self]
  refine z0t (s := ((0 : Int), R)) S.length (fun j => ((j : Int), R.set i (toI (tlN S i j)))) (by rw [← h0]; rfl) (by simp only [LFm]; omega) (fun j hj => ?_) ?_
  · have hjl := hS.lt _ (z0p hj)
    have hl := zwh S i j
    simp only [z5V]
    rw [if_pos (by rw [z0d]; omega), z0Y hj, Option.bind_some, z0Y hi, Option.bind_some, zbo (by omega) (by omega), zuM]
    by_cases e1 : S.getD j 0 &&& S.getD i 0 = S.getD j 0
    · rw [if_pos (by omega)]
      by_cases e2 : j = i
      · have hp : ¬ (zd1 S i j = true /\ zeE S i j = true) := fun h => by
          have := h.1
          simp [zd1, e2] at this
        rw [if_pos (by omega), if_neg hp, List.append_nil, z0T (by omega)]
      · have hp : zd1 S i j = true := by
          unfold zd1
          rw [decide_eq_false e2, decide_eq_true e1]; rfl
        rw [if_neg (by omega), zrG hd hn hS hpos hi hj _ (toI (tlN S i j)) (zh4 (by omega)) (by rw [z0d]; omega)]
        by_cases h : zeE S i j = true
        · rw [if_pos h, if_pos ⟨hp, h⟩, zeJ, z3k]
        · rw [if_neg h, if_neg (fun hh => h hh.2), List.append_nil]
    · have hp : ¬ (zd1 S i j = true /\ zeE S i j = true) := fun h => by
        have := h.1
        simp only [zd1, Bool.and_eq_true, decide_eq_true_eq] at this
        exact e1 this.2
      rw [if_neg (by omega), if_neg hp, List.append_nil, z0T (by omega)]
  · simp only [z5V]
    rw [if_neg (by rw [z0d]; omega), hfin, z0T (by omega)]
omit hpos in
theorem zsF {i k : Nat} (hi : i < S.length) (hk : k < S.length) (hm : S.getD k 0 ∈ (z0J d m n (S.getD i 0)).1) (he : k = z3a d m n S i) (W' B : List ByteArray) (hB : B = z1b S.length (zfB d m n S) ByteArray.empty i) :
    z0j (z5S (toI S) (i : Int) (k : Int) W' (toI (z0J d m n (S.getD i 0)).1, (z0J d m n (S.getD i 0)).2)) LFm (0, B) = z0e (((i + 1 : Nat) : Int), W', z1b S.length (zfB d m n S) ByteArray.empty (i + 1)) := by
  have h128 : 2 ^ n <= 128 := Nat.pow_le_pow_right (n := 2) (by omega) hn
  have hSl := z0z hS.nd hS.lt
  have hinv := z4a hd (hS.lt _ (z0p hi))
  have hnd := hinv.nd
  have hlen := hinv.len
  have hl := z0z hinv.nd hinv.lt
  have hfin : B.set i ((z0J d m n (S.getD i 0)).2.getD ((z0J d m n (S.getD i 0)).1.idxOf (S.getD k 0)) ByteArray.empty) = z1b S.length (zfB d m n S) ByteArray.empty (i + 1) := by
    have e := z3I (f := zfB d m n S) (z := ByteArray.empty) hi
    rw [hB, ← e]
    unfold zfB z5I
    rw [← he]
  have hat : atI B (i : Int) = some ByteArray.empty := by rw [hB, z5r hi, if_neg (by omega)]
  generalize (z0J d m n (S.getD i 0)).1 = l at *
  generalize (z0J d m n (S.getD i 0)).2 = ws at *
  have hix := z7A hm
  have hgx := z3H hm
  refine z0t (s := ((0 : Int), B)) l.length (fun q => ((q : Int), if l.idxOf (S.getD k 0) < q then B.set i (ws.getD (l.idxOf (S.getD k 0)) ByteArray.empty) else B)) (by rw [if_neg (by omega)]; rfl) (by simp only [LFm]; omega) (fun q hq => ?_) ?_
  · simp only [z5S]
    rw [if_pos (by rw [z0d]; omega), z0Y hq, Option.bind_some, z0Y hk, Option.bind_some, z0T (by omega)]
    by_cases e : l.getD q 0 = S.getD k 0
    · have hqi := z8w hnd hq
      rw [e] at hqi
      rw [if_pos (by omega), zhu (by omega), Option.bind_some, if_neg (by omega), hat, Option.bind_some, Int.toNat_natCast, if_pos (by omega), hqi]
    · have hqi : l.idxOf (S.getD k 0) ≠ q := fun h => e (by rw [← h]; exact hgx)
      rw [if_neg (by omega)]
      by_cases h : l.idxOf (S.getD k 0) < q
      · rw [if_pos h, if_pos (by omega)]
      · rw [if_neg h, if_neg (by omega)]
  · simp only [z5S]
    rw [if_neg (by rw [z0d]; omega), if_pos hix, hfin, z0T (by omega)]
omit hpos in
theorem zqH {i k : Nat} (hi : i < S.length) (hk : k < S.length) (hm : S.getD i 0 ∈ (z0J d m n (S.getD k 0)).1) (hm' : S.getD k 0 ∈ (z0J d m n (S.getD i 0)).1) (he : k = z3a d m n S i) (W B : List ByteArray) (hW : W = z1b S.length (zbp d m n S) ByteArray.empty i) (hB : B = z1b S.length (zfB d m n S) ByteArray.empty i) :
    z0j (z5T d (toI S) (i : Int) B (k : Int) (toI (z0J d m n (S.getD k 0)).1, (z0J d m n (S.getD k 0)).2)) LFm (0, W) = z0e (((i + 1 : Nat) : Int), z1b S.length (zbp d m n S) ByteArray.empty (i + 1), z1b S.length (zfB d m n S) ByteArray.empty (i + 1)) := by
  have h128 : 2 ^ n <= 128 := Nat.pow_le_pow_right (n := 2) (by omega) hn
  have hSl := z0z hS.nd hS.lt
  have hinv := z4a hd (hS.lt _ (z0p hk))
  have hnd := hinv.nd
  have hlen := hinv.len
  have hl := z0z hinv.nd hinv.lt
  have hfin : W.set i ((z0J d m n (S.getD k 0)).2.getD ((z0J d m n (S.getD k 0)).1.idxOf (S.getD i 0)) ByteArray.empty) = z1b S.length (zbp d m n S) ByteArray.empty (i + 1) := by
    have e := z3I (f := zbp d m n S) (z := ByteArray.empty) hi
    rw [hW, ← e]
    unfold zbp z5I
    rw [← he]
  have hat : atI W (i : Int) = some ByteArray.empty := by rw [hW, z5r hi, if_neg (by omega)]
  have hback := zsF hd hn hS hi hk hm' he (z1b S.length (zbp d m n S) ByteArray.empty (i + 1)) B hB
  have hrch := zdr hd (show n <= 12 by omega) (hS.lt _ (z0p hi))
  generalize (z0J d m n (S.getD k 0)).1 = l at *
  generalize (z0J d m n (S.getD k 0)).2 = ws at *
  have hix := z7A hm
  have hgx := z3H hm
  refine z0t (s := ((0 : Int), W)) l.length (fun q => ((q : Int), if l.idxOf (S.getD i 0) < q then W.set i (ws.getD (l.idxOf (S.getD i 0)) ByteArray.empty) else W)) (by rw [if_neg (by omega)]; rfl) (by simp only [LFm]; omega) (fun q hq => ?_) ?_
  · simp only [z5T]
    rw [if_pos (by rw [z0d]; omega), z0Y hq, Option.bind_some, z0Y hi, Option.bind_some, z0T (by omega)]
    by_cases e : l.getD q 0 = S.getD i 0
    · have hqi := z8w hnd hq
      rw [e] at hqi
      rw [if_pos (by omega), zhu (by omega), Option.bind_some, if_neg (by omega), hat, Option.bind_some, Int.toNat_natCast, if_pos (by omega), hqi]
    · have hqi : l.idxOf (S.getD i 0) ≠ q := fun h => e (by rw [← h]; exact hgx)
      rw [if_neg (by omega)]
      by_cases h : l.idxOf (S.getD i 0) < q
      · rw [if_pos h, if_pos (by omega)]
      · rw [if_neg h, if_neg (by omega)]
  · simp only [z5T]
    rw [if_neg (by rw [z0d]; omega), if_pos hix, hfin, z0Y hi, Option.bind_some, hrch, Option.bind_some, hback]
theorem zuU : z0j (z4L d (toI S) (zmB d m n S) (zw3 d m n S)) LFm (0, List.replicate S.length ([] : List Int)) = some (z2m d m n S, 0) := by
  have h128 : 2 ^ n <= 128 := Nat.pow_le_pow_right (n := 2) (by omega) hn
  have hSl := z0z hS.nd hS.lt
  have he := z6p hd hS
  have f1 : List.replicate S.length ([] : List Int) = z1b S.length (fun i => toI (z7D S i)) [] 0 := (z7c _ _ _).symm
  rw [f1]
  refine z0t (s := ((0 : Int), z1b S.length (fun i => toI (z7D S i)) [] 0)) S.length (fun i => ((i : Int), z1b S.length (fun i => toI (z7D S i)) [] i)) rfl (by simp only [LFm]; omega) (fun i hi => ?_) ?_
  · have hil := hS.lt _ (z0p hi)
    simp only [z4L]
    rw [if_pos (by rw [z0d]; omega), z0Y hi, Option.bind_some, zdb _ (by omega), Option.bind_some]
    by_cases hz : szN (S.getD i 0) = 1
    · have : toI (z7D S i) = [] := by unfold z7D; rw [if_pos hz]; rfl
      rw [if_pos (by omega), z0T (by omega), zky (f := fun i => toI (z7D S i)) (z := []) this]
    · rw [if_neg (by omega)]
      exact zt2 hd hn hS hpos hi hz _ rfl
  · simp only [z4L]
    rw [if_neg (by rw [z0d]; omega), z0d, Int.toNat_natCast]
    congr 1
    have f2 : List.replicate S.length (ByteArray.empty : ByteArray) = z1b S.length (zbp d m n S) ByteArray.empty 0 := (z7c _ _ _).symm
    have f3 : List.replicate S.length (ByteArray.empty : ByteArray) = z1b S.length (zfB d m n S) ByteArray.empty 0 := (z7c _ _ _).symm
    refine z0t (s := ((0 : Int), List.replicate S.length (ByteArray.empty : ByteArray), List.replicate S.length (ByteArray.empty : ByteArray))) S.length (fun i => ((i : Int), z1b S.length (zbp d m n S) ByteArray.empty i, z1b S.length (zfB d m n S) ByteArray.empty i)) (by rw [← f2, ← f3]; rfl) (by simp only [LFm]; omega) (fun i hi => ?_) ?_
    · have hle := zd2 hd hn hS hi
      have heq := zfd hd hn hS hi
      have hk : z3a d m n S i < S.length := by omega
      have heq' := he.symm _ _ hi hk heq
      obtain ⟨_, z2⟩ := zdm hd hn hS hk hi heq
      obtain ⟨_, z4⟩ := zdm hd hn hS hi hk heq'
      simp only [z7u]
      rw [if_pos (by rw [z0d]; omega)]
      refine z0t (s := (0 : Int)) (z3a d m n S i) (fun q => (q : Int)) rfl (by simp only [LFm]; omega) (fun q hq => ?_) ?_
      · have hqs : q < S.length := by omega
        have hne : z6I (z1F d m n S) S.length q ≠ z6I (z1F d m n S) S.length i := fun h => by
          have h1 := znC hd hn hS hqs hi ((zi5 he hqs hi).1 h)
          have h2 := zd2 hd hn hS hqs
          omega
        simp only [z7t]
        rw [zmB, z1q hqs, Option.bind_some, z1q hi, Option.bind_some, if_neg (by omega), z0T (by omega)]
      · have hcl := (zi5 he hk hi).2 heq'
        simp only [z7t]
        rw [zmB, z1q hk, Option.bind_some, z1q hi, Option.bind_some, if_pos (by omega), z0Y hk, Option.bind_some, zdr hd (by omega) (hS.lt _ (z0p hk)), Option.bind_some, zqH hd hn hS hi hk z2 z4 rfl _ _ rfl rfl]
    · simp only [z7u]
      rw [if_neg (by rw [z0d]; omega), z7b, z7b, z7b]
      rfl
theorem zvM : z0j (z6c d (toI S)) LFm (0, ([] : List (Int × Int))) = some (z2m d m n S, 0) := by
  have h128 : 2 ^ n <= 128 := Nat.pow_le_pow_right (n := 2) (by omega) hn
  have hSl := z0z hS.nd hS.lt
  have hrest := zuU hd hn hS hpos
  refine z0t (s := ((0 : Int), ([] : List (Int × Int)))) S.length (fun k => ((k : Int), zAs S k)) rfl (by simp only [LFm]; omega) (fun k hk => ?_) ?_
  · simp only [z6c]
    rw [if_pos (by rw [z0d]; omega), z0Y hk, Option.bind_some, z0T (by omega)]
    rfl
  · simp only [z6c]
    rw [if_neg (by rw [z0d]; omega), z0d, z0m _ (by unfold z1g; omega), Int.toNat_natCast]
    congr 1
    have f1 : List.replicate S.length ([] : List Bool) = z1b S.length (fun _ => List.replicate S.length false) [] 0 := (z7c _ _ _).symm
    rw [f1]
    refine z0t (s := ((0 : Int), z1b S.length (fun _ => List.replicate S.length false) [] 0)) S.length (fun k => ((k : Int), z1b S.length (fun _ => List.replicate S.length false) [] k)) rfl (by simp only [LFm]; omega) (fun k hk => ?_) ?_
    · have hs := z3I (f := fun _ : Nat => List.replicate S.length false) (z := ([] : List Bool)) hk
      simp only [z7x]
      rw [if_pos (by rw [z0d]; omega), z0d, z0m _ (by unfold z1g; omega), z5r hk, Option.bind_some, z0T (by omega), Int.toNat_natCast, Int.toNat_natCast, hs]
    · simp only [z7x]
      rw [if_neg (by rw [z0d]; omega), z7b]
      congr 1
      have f2 : ((List.range S.length).map fun _ => List.replicate S.length false) = zd0 S.length fun a b => decide (b < 0) && z2W d m n S a b := by
        refine List.map_congr_left fun a _ => ?_
        apply List.ext_getElem (by simp)
        intro b h1 h2
        simp
      rw [f2]
      refine z0t (s := ((0 : Int), zd0 S.length fun a b => decide (b < 0) && z2W d m n S a b)) S.length (fun j => ((j : Int), zd0 S.length fun a b => decide (b < j) && z2W d m n S a b)) rfl (by simp only [LFm]; omega) (fun j hj => ?_) ?_
      · simp only [z7w]
        rw [if_pos (by rw [z0d]; omega), z0Y hj, Option.bind_some, zdr hd (by omega) (hS.lt _ (z0p hj)), Option.bind_some]
        exact zuW hd hn hS hj _
      · have f3 : (zd0 S.length fun a b => decide (b < S.length) && z2W d m n S a b) = zd0 S.length (z2W d m n S) := z6e fun a b _ hb => by rw [decide_eq_true hb, Bool.true_and]
        simp only [z7w]
        rw [if_neg (by rw [z0d]; omega), z0d, z0m _ (by unfold z1g; omega), Int.toNat_natCast, f3]
        congr 1
        have f4 : List.replicate S.length (0 : Int) = z1b S.length (fun i => ((z3a d m n S i : Nat) : Int)) 0 0 := (z7c _ _ _).symm
        rw [f4]
        refine z0t (s := ((0 : Int), z1b S.length (fun i => ((z3a d m n S i : Nat) : Int)) 0 0)) S.length (fun i => ((i : Int), z1b S.length (fun i => ((z3a d m n S i : Nat) : Int)) 0 i)) rfl (by simp only [LFm]; omega) (fun i hi => ?_) ?_
        · simp only [z7v]
          rw [if_pos (by rw [z0d]; omega), z5r hi, Option.bind_some]
          exact zu0 hd hn hS hi _ rfl
        · simp only [z7v]
          rw [if_neg (by rw [z0d]; omega), z7b, zkP hd hn hS, Option.bind_some, z0d, z0m _ (by unfold z1g; omega), z0m _ (by unfold z1g; omega), z0m _ (by unfold z1g; omega), Int.toNat_natCast, ztN hd hn hS hpos _ hrest]
end
theorem ztk {d : DFA} {m n : Nat} (hd : DfaOk d m n) (hn : n <= 7) : zaZ d = some (z2m d m n (z2E d m n), 0) := by
  have h128 : 2 ^ n <= 128 := Nat.pow_le_pow_right (n := 2) (by omega) hn
  have hS := z8r hd
  have hSl := z0z hS.nd hS.lt
  unfold zaZ
  rw [zxm (zuy hd (by omega)), zuq hd (by omega), Option.bind_some, if_pos rfl, zvT hd hn, Option.bind_some, if_neg (by rw [z0d]; omega)]
  exact zvM hd hn hS fun x hx => zn5 hd hx
end
section
open Go
set_option maxRecDepth 100000
def hC (d : DFA) (m n : Nat) (S : List Nat) (c : Nat) : Nat := z5f d m n S (z2I d m n S c)
def z7G (d : DFA) (m n : Nat) (S : List Nat) (k : Nat) : List Nat := (List.range (z0P (z1F d m n S) k).length).filter fun c => decide (0 < hC d m n S c)
def zAX (d : DFA) (m n : Nat) (S : List Nat) : Prop := ∀ i, i < S.length -> z5f d m n S i = z5f d m n S (z3a d m n S i)
theorem zs4 {d : DFA} {m n : Nat} (hd : DfaOk d m n) (hn : n <= 7) : zAX d m n (z2E d m n) := fun i hi => by
  have hS := z8r hd
  have hb := zkI hd hS
  have hbot : ∀ i k, i < (z2E d m n).length -> k < (z2E d m n).length -> z8g (z2E d m n) k = true -> z2W d m n (z2E d m n) i k = true -> z8g (z2E d m n) i = true := fun i k hi hk hz h => zsy hd hn hi hk hz h
  have hf := zd2 hd hn hS hi
  have c2 := zfd hd hn hS hi
  simp only [z1F, Bool.and_eq_true] at c2
  exact Nat.le_antisymm (znu hb hbot hi (by omega) c2.1) (znu hb hbot (by omega) hi c2.2)
theorem zkd {l : List Nat} {x q : Nat} (hq : q < l.length) : decide (x ∈ l.take (q + 1)) = (decide (x ∈ l.take q) || decide (l.getD q 0 = x)) := by
  rw [z4r hq, Bool.eq_iff_iff]
  simp only [decide_eq_true_eq, List.mem_append, List.mem_singleton, Bool.or_eq_true]
  exact or_congr_right ⟨fun h => h.symm, fun h => h.symm⟩
section
variable {d : DFA} {m n : Nat} {S : List Nat} (hd : DfaOk d m n) (hn : n <= 7) (hS : SetsP d m n S) (hH : zAX d m n S)
include hd hn hS hH
theorem zts {i : Nat} (hi : i < S.length) : (decide (clN d m n S i ∈ z7G d m n S i) = true -> z7G d m n S (i + 1) = z7G d m n S i) /\ (decide (clN d m n S i ∈ z7G d m n S i) = false -> z7G d m n S (i + 1) = z7G d m n S i ++ (if 0 < z5f d m n S i then [clN d m n S i] else [])) := by
  have _u := hn
  have he := z6p hd hS
  have hfo : hC d m n S (clN d m n S i) = z5f d m n S i := by
    unfold hC; rw [hH i hi]; rfl
  have hmem : clN d m n S i ∈ z7G d m n S i ↔ clN d m n S i < (z0P (z1F d m n S) i).length /\ 0 < z5f d m n S i := by
    unfold z7G; rw [List.mem_filter, List.mem_range, decide_eq_true_eq, hfo]
  rcases z8Z he hi with ⟨h1, _, h3⟩ | ⟨h1, _, h3⟩
  · have e : z7G d m n S (i + 1) = z7G d m n S i := by unfold z7G; rw [h3]
    refine ⟨fun _ => e, fun h => ?_⟩
    have : ¬ 0 < z5f d m n S i := fun hp => by
      rw [decide_eq_false_iff_not] at h
      exact h (hmem.2 ⟨h1, hp⟩)
    rw [e, if_neg this, List.append_nil]
  · have e : z7G d m n S (i + 1) = z7G d m n S i ++ (if 0 < z5f d m n S i then [clN d m n S i] else []) := by
      unfold z7G
      rw [h3, List.length_append, List.length_singleton, List.range_succ, List.filter_append, List.filter_cons, List.filter_nil, ← h1]
      congr 1
      show (if decide (0 < hC d m n S (clN d m n S i)) = true then _ else _) = _
      rw [hfo]
      by_cases hp : 0 < z5f d m n S i
      · rw [if_pos hp, if_pos (by simpa using hp)]; rfl
      · rw [if_neg hp, if_neg (by simpa using hp)]
    refine ⟨fun h => ?_, fun _ => e⟩
    rw [decide_eq_true_eq, hmem] at h
    have := h.1
    unfold clN at this
    omega
theorem zmC (hSl : S.length < 100000) : ∃ O, z4S (z2m d m n S) = some (toI O) /\ zkS (hC d m n S) O /\ O.Perm (z7G d m n S S.length) := by
  have he := z6p hd hS
  have l2 : (z2m d m n S).class_.length = S.length := by simp [z2m, zmB]
  have hcat : ∀ i, i < S.length -> atI (z2m d m n S).class_ (i : Int) = some ((clN d m n S i : Nat) : Int) := fun i hi => z1q hi
  have hhat : ∀ i, i < S.length -> atI (z2m d m n S).height (i : Int) = some ((z5f d m n S i : Nat) : Int) := fun i hi => z1q hi
  have hol : ∀ k, k <= S.length -> (z7G d m n S k).length <= k := fun k hk => by
    have := z7a (z1F d m n S) k
    unfold z7G
    exact Nat.le_trans (List.length_filter_le _ _) (by rw [List.length_range]; exact this)
  obtain ⟨O, e, o1, o2⟩ := ztZ (H := hC d m n S) (X := z7G d m n S S.length) (by have := hol _ (Nat.le_refl _); omega) (toI (z7G d m n S S.length)) (z0d _)
  refine ⟨O, ?_, o1, o2⟩
  unfold z4S
  refine z0t (s := ((0 : Int), ([] : List Int), ([] : List Int))) S.length (fun k => ((k : Int), toI (z7G d m n S k), toI ((z7G d m n S k).map (hC d m n S)))) rfl (by simp only [LFm]; omega) (fun i hi => ?_) ?_
  · have hl := hol i (by omega)
    obtain ⟨s1, s2⟩ := zts hd hn hS hH hi
    have hfo : hC d m n S (clN d m n S i) = z5f d m n S i := by
      unfold hC; rw [hH i hi]; rfl
    simp only [z4C]
    rw [l2, if_pos (by omega), hcat i hi, Option.bind_some]
    refine z0t (s := (false, (0 : Int))) (z7G d m n S i).length (fun q => (decide (clN d m n S i ∈ (z7G d m n S i).take q), (q : Int))) (by simp) (by simp only [LFm]; omega) (fun q hq => ?_) ?_
    · simp only [z4B]
      rw [if_pos (by rw [z0d]; omega), z0Y hq, Option.bind_some, z0T (by omega), zkd hq]
      cases h : decide (clN d m n S i ∈ (z7G d m n S i).take q) with
      | true => rw [if_pos rfl, Bool.true_or]
      | false =>
        rw [if_neg (by simp), Bool.false_or]
        congr 2
        exact decide_eq_decide.2 (by omega)
    · simp only [z4B]
      rw [if_neg (by rw [z0d]; omega), List.take_length, z0T (by omega)]
      cases h : decide (clN d m n S i ∈ z7G d m n S i) with
      | true => rw [if_pos rfl, s1 h]
      | false =>
        rw [if_neg (by simp), hhat i hi, Option.bind_some, s2 h]
        by_cases hp : 0 < z5f d m n S i
        · rw [if_pos (by omega), if_pos hp, z0m _ (by unfold z1c; rw [z0d]; omega), z0m _ (by unfold z1c; simp [toI]; omega), z3k, List.map_append, List.map_cons, List.map_nil, z3k, hfo]
        · rw [if_neg (by omega), if_neg hp, List.append_nil]
  · simp only [z4C]
    rw [l2, if_neg (by omega)]
    congr 1
end
end
section
open Go
noncomputable section
set_option maxRecDepth 100000
set_option maxHeartbeats 6000000
abbrev z7h (v2132 : List Int × Bool) (w2147 : Bool) (w2148 : Int) (v2158 : List Int) : Bool × Int -> Option ((Bool × Int) ⊕ ((Bool × Int) ⊕ ((Int × List ByteArray × List (List Int)) ⊕ ((Int × List ByteArray × List (List Int)) ⊕ ((Int × List Hol) ⊕ (List Hol × Int))))))
  | (w2161, w2162) =>
  if w2162 < (v2132.1.length : Int) then
    if w2161 = true then
      (atI v2132.1 w2162).bind fun v2165 =>
      (atI v2158 w2162).bind fun v2166 =>
      z0e (decide (v2165 = v2166), IntKind.i64.wrap (w2162 + 1))
    else
      z0e (false, IntKind.i64.wrap (w2162 + 1))
  else
    z0k <|
    if w2147 = true then
      z0e (true, IntKind.i64.wrap (w2148 + 1))
    else
      z0e (w2161, IntKind.i64.wrap (w2148 + 1))
instance {v2132 : List Int × Bool} {w2147 : Bool} {w2148 : Int} {v2158 : List Int} : Hd (z7h v2132 w2147 w2148 v2158) := ⟨fun (w2161, w2162) => ([(28, xB w2161), (175, xI w2162)], [])⟩
abbrev z7i (w2084 : Int) (w2085 : List ByteArray) (w2086 : List (List Int)) (v2130 : ByteArray) (v2131 : ByteArray) (v2132 : List Int × Bool) : Bool × Int -> Option ((Bool × Int) ⊕ ((Int × List ByteArray × List (List Int)) ⊕ ((Int × List ByteArray × List (List Int)) ⊕ ((Int × List Hol) ⊕ (List Hol × Int)))))
  | (w2147, w2148) =>
  if w2148 < (w2086.length : Int) then
    (atI w2086 w2148).bind fun v2158 =>
    z0j (z7h v2132 w2147 w2148 v2158) LFm (true, 0)
  else
    z0k <|
    if w2147 = true then
      z0e (IntKind.i64.wrap (w2084 + 1), w2085, w2086)
    else
      chk (z1c 16 (w2085.length + 1)) <|
      chk (z1c 24 (w2086.length + 1)) <|
      z0e (IntKind.i64.wrap (w2084 + 1), w2085 ++ [(v2130 ++ ⟨#[UInt8.ofNat (IntKind.u8.wrap (IntKind.i64.wrap (97 + w2084))).toNat]⟩) ++ v2131], w2086 ++ [v2132.1])
instance {w2084 : Int} {w2085 : List ByteArray} {w2086 : List (List Int)} {v2130 : ByteArray} {v2131 : ByteArray} {v2132 : List Int × Bool} : Hd (z7i w2084 w2085 w2086 v2130 v2131 v2132) := ⟨fun (w2147, w2148) => ([(23, xB w2147), (169, xI w2148)], [])⟩
abbrev z5J (w2084 : Int) (w2085 : List ByteArray) (w2086 : List (List Int)) (v2130 : ByteArray) (v2131 : ByteArray) (v2132 : List Int × Bool) : Bool × Int -> Option ((Bool × Int) ⊕ ((Int × List ByteArray × List (List Int)) ⊕ ((Int × List ByteArray × List (List Int)) ⊕ ((Int × List Hol) ⊕ (List Hol × Int)))))
  | (w2134, w2135) =>
  if w2135 < (v2132.1.length : Int) then
    (atI v2132.1 w2135).bind fun v2137 =>
    if w2134 = true then
      z0e (decide (w2135 = v2137), IntKind.i64.wrap (w2135 + 1))
    else
      z0e (false, IntKind.i64.wrap (w2135 + 1))
  else
    z0k <|
    z0j (z7i w2084 w2085 w2086 v2130 v2131 v2132) LFm (w2134, 0)
instance {w2084 : Int} {w2085 : List ByteArray} {w2086 : List (List Int)} {v2130 : ByteArray} {v2131 : ByteArray} {v2132 : List Int × Bool} : Hd (z5J w2084 w2085 w2086 v2130 v2131 v2132) := ⟨fun (w2134, w2135) => ([(23, xB w2134), (154, xI w2135)], [])⟩
abbrev z3V (a0 : DFA) (v1084 : Imgs × Int) (w1087 : List (Int × Int)) (v1809 : Int) (w1816 : List Int) (w1916 : Int) (v2043 : Int) (v1811 : Int) : Int × List ByteArray × List (List Int) -> Option ((Int × List ByteArray × List (List Int)) ⊕ ((Int × List ByteArray × List (List Int)) ⊕ ((Int × List Hol) ⊕ (List Hol × Int))))
  | (w2084, w2085, w2086) =>
  if w2084 < a0.letters then
    (atI v1084.1.class_ w1916).bind fun v2127 =>
    if v2127 = v1809 then
      (z3Y a0 v2043 w2084).bind fun v2128 =>
      (atI v1084.1.class_ ((z8D v2128 w1087).getD 0)).bind fun v2129 =>
      if v2129 = v1809 then
        (atI v1084.1.words w1916).bind fun v2130 =>
        (atI v1084.1.back ((z8D v2128 w1087).getD 0)).bind fun v2131 =>
        chk (z6K v2130 ⟨#[UInt8.ofNat (IntKind.u8.wrap (IntKind.i64.wrap (97 + w2084))).toNat]⟩) <|
        chk (z6K (v2130 ++ ⟨#[UInt8.ofNat (IntKind.u8.wrap (IntKind.i64.wrap (97 + w2084))).toNat]⟩) v2131) <|
        if 2048 < ((v2130.size : Int) + 1 + (v2131.size : Int)) then
          z0k <|
          z0k <|
          z0k <|
          some ([], 3)
        else
          (z6V a0 w1816 ((v2130 ++ ⟨#[UInt8.ofNat (IntKind.u8.wrap (IntKind.i64.wrap (97 + w2084))).toNat]⟩) ++ v2131)).bind fun v2132 =>
          z0j (z5J w2084 w2085 w2086 v2130 v2131 v2132) LFm (true, 0)
      else
        z0e (IntKind.i64.wrap (w2084 + 1), w2085, w2086)
    else
      z0k <|
      z0e (IntKind.i64.wrap (w1916 + 1), w2085, w2086)
  else
    z0k <|
    z0e (IntKind.i64.wrap (w1916 + 1), w2085, w2086)
instance {a0 : DFA} {v1084 : Imgs × Int} {w1087 : List (Int × Int)} {v1809 : Int} {w1816 : List Int} {w1916 : Int} {v2043 : Int} {v1811 : Int} : Hd (z3V a0 v1084 w1087 v1809 w1816 w1916 v2043 v1811) := ⟨fun (w2084, w2085, w2086) => ([(18, xI w2084)], [(13, .vr [.sc (.int .i64 v1811), .os 1 w1816.length (w1816.map fun x0 => .sc (.int .i64 x0)), .os 1 w2085.length (w2085.map fun x0 => .sc (.string x0)), .os 1 w2086.length (w2086.map fun x0 => .os 1 x0.length (x0.map fun x1 => .sc (.int .i64 x1)))])])⟩
abbrev z7j (a0 : DFA) (v1084 : Imgs × Int) (w1087 : List (Int × Int)) (w1449 : Int) (w1450 : List Hol) (v1809 : Int) (v1811 : Int) (w1816 : List Int) : Int × List ByteArray × List (List Int) -> Option ((Int × List ByteArray × List (List Int)) ⊕ ((Int × List Hol) ⊕ (List Hol × Int)))
  | (w1916, w1917, w1918) =>
  if w1916 < (v1084.1.sets.length : Int) then
    (atI v1084.1.sets w1916).bind fun v2043 =>
    z0j (z3V a0 v1084 w1087 v1809 w1816 w1916 v2043 v1811) LFm (0, w1917, w1918)
  else
    z0k <|
    chk (z1c 80 (w1450.length + 1)) <|
    z0e (IntKind.i64.wrap (w1449 + 1), w1450 ++ [(⟨v1811, w1816, w1917, w1918⟩ : Hol)])
instance {a0 : DFA} {v1084 : Imgs × Int} {w1087 : List (Int × Int)} {w1449 : Int} {w1450 : List Hol} {v1809 : Int} {v1811 : Int} {w1816 : List Int} : Hd (z7j a0 v1084 w1087 w1449 w1450 v1809 v1811 w1816) := ⟨fun (w1916, w1917, w1918) => ([(91, xI w1916)], [(13, .vr [.sc (.int .i64 v1811), .os 1 w1816.length (w1816.map fun x0 => .sc (.int .i64 x0)), .os 1 w1917.length (w1917.map fun x0 => .sc (.string x0)), .os 1 w1918.length (w1918.map fun x0 => .os 1 x0.length (x0.map fun x1 => .sc (.int .i64 x1)))])])⟩
abbrev z5K (a0 : DFA) (v1084 : Imgs × Int) (w1087 : List (Int × Int)) (w1449 : Int) (w1450 : List Hol) (v1809 : Int) (v1811 : Int) (v1812 : List Int) : Int × List Int -> Option ((Int × List Int) ⊕ ((Int × List Hol) ⊕ (List Hol × Int)))
  | (w1815, w1816) =>
  if w1815 < (v1812.length : Int) then
    (atI v1812 w1815).bind fun v1819 =>
    (atI v1084.1.sets v1819).bind fun v1820 =>
    chk (z1c 8 (w1816.length + 1)) <|
    z0e (IntKind.i64.wrap (w1815 + 1), w1816 ++ [v1820])
  else
    z0k <|
    z0j (z7j a0 v1084 w1087 w1449 w1450 v1809 v1811 w1816) LFm (0, [], [])
instance {a0 : DFA} {v1084 : Imgs × Int} {w1087 : List (Int × Int)} {w1449 : Int} {w1450 : List Hol} {v1809 : Int} {v1811 : Int} {v1812 : List Int} : Hd (z5K a0 v1084 w1087 w1449 w1450 v1809 v1811 v1812) := ⟨fun (w1815, w1816) => ([(73, xI w1815)], [(13, .vr [.sc (.int .i64 v1811), .os 1 w1816.length (w1816.map fun x0 => .sc (.int .i64 x0)), .os 1 0 [], .os 1 0 []])])⟩
abbrev z7k (a0 : DFA) (v1084 : Imgs × Int) (w1087 : List (Int × Int)) (v1090 : List Int) : Int × List Hol -> Option ((Int × List Hol) ⊕ (List Hol × Int))
  | (w1449, w1450) =>
  if w1449 < (v1090.length : Int) then
    (atI v1090 w1449).bind fun v1809 =>
    (z6W v1084.1 v1809).bind fun v1810 =>
    (atI v1084.1.sets v1810).bind fun v1811 =>
    (atI v1084.1.tiles v1810).bind fun v1812 =>
    z0j (z5K a0 v1084 w1087 w1449 w1450 v1809 v1811 v1812) LFm (0, [])
  else
    z0k <|
    some (w1450, 0)
instance {a0 : DFA} {v1084 : Imgs × Int} {w1087 : List (Int × Int)} {v1090 : List Int} : Hd (z7k a0 v1084 w1087 v1090) := ⟨fun (w1449, w1450) => ([(54, xI w1449)], [(9, .os 4 w1450.length (w1450.flatMap fun x0 => [.sc (.int .i64 x0.set), .sl x0.tiles.length (x0.tiles.map fun x1 => .sc (.int .i64 x1)), .sl x0.words.length (x0.words.map fun x1 => .sc (.string x1)), .sl x0.perms.length (x0.perms.map fun x1 => .sl x1.length (x1.map fun x2 => .sc (.int .i64 x2)))]))])⟩
abbrev z8s (a0 : DFA) (v1084 : Imgs × Int) : Int × (List (Int × Int)) -> Option ((Int × (List (Int × Int))) ⊕ (List Hol × Int))
  | (w1086, w1087) =>
  if w1086 < (v1084.1.sets.length : Int) then
    (atI v1084.1.sets w1086).bind fun v1089 =>
    z0e (IntKind.i64.wrap (w1086 + 1), zaE v1089 w1086 w1087)
  else
    z0k <|
    (z4S v1084.1).bind fun v1090 =>
    z0j (z7k a0 v1084 w1087 v1090) LFm (0, [])
instance {a0 : DFA} {v1084 : Imgs × Int} : Hd (z8s a0 v1084) := ⟨fun (w1086, w1087) => ([(42, xI w1086)], [(6, .mp (some .i64) (w1087.map fun x0 => (.int .i64 x0.1, .int .i64 x0.2)))])⟩
def z9G (a0 : DFA) : Option (List Hol × Int) :=
  (zaZ a0).bind fun v1084 =>
  if v1084.2 = 0 then
    z0j (z8s a0 v1084) LFm (0, ([] : List (Int × Int)))
  else
    some ([], v1084.2)
instance ref25_Of_ok {a0 : DFA} : Ok (z9G a0) (fun r => L 10 [.agg [.sc (.int .i64 a0.letters), .sc (.int .i64 a0.start), .sl a0.final.length (a0.final.map fun x0 => .sc (.bool x0)), .sl a0.next.length (a0.next.map fun x0 => .sl x0.length (x0.map fun x1 => .sc (.int .i64 x1)))]] = some (.tup [.sl r.1.length (r.1.flatMap fun x0 => [.sc (.int .i64 x0.set), .sl x0.tiles.length (x0.tiles.map fun x1 => .sc (.int .i64 x1)), .sl x0.words.length (x0.words.map fun x1 => .sc (.string x1)), .sl x0.perms.length (x0.perms.map fun x1 => .sl x1.length (x1.map fun x2 => .sc (.int .i64 x2)))]), .sc (.int .i64 r.2)], [.dead])) := ⟨fun r h => by have h := z4p h; unfold z9G at h; exact zsO zAe zAE zAW⟩
end
end
section
open Go
set_option maxRecDepth 100000
def zkQ (d : DFA) (m n : Nat) (S : List Nat) (c : Nat) : Hol := ⟨((S.getD (z2I d m n S c) 0 : Nat) : Int), toI (z4n S (z2I d m n S c)), (zij d m n S (z4n S (z2I d m n S c)) c S.length).1, (zij d m n S (z4n S (z2I d m n S c)) c S.length).2.map toI⟩
theorem zcV {l r : List Nat} {k : Nat} (h1 : k < l.length) (h2 : k < r.length) : l.take (k + 1) = r.take (k + 1) ↔ l.take k = r.take k /\ l.getD k 0 = r.getD k 0 := by
  rw [z4r h1, z4r h2]
  constructor
  · intro h
    have := List.append_inj' h rfl
    exact ⟨this.1, by simpa using this.2⟩
  · rintro ⟨a, b⟩; rw [a, b]
theorem zh7 {N k : Nat} (h : k < N) : (List.range N).getD k 0 = k := by simp [List.getD, h]
theorem zqV {S : List Nat} {k : Nat} : (z4n S k).length = (z7D S k).length := by simp [z4n]
section
variable {d : DFA} {m n : Nat} {S : List Nat} (hd : DfaOk d m n) (hn : n <= 7) (hS : SetsP d m n S)
include hd hn hS
theorem zpt {k : Nat} (hk : k < S.length) : (z4n S k).length <= 128 := by
  have h128 : 2 ^ n <= 128 := Nat.pow_le_pow_right (n := 2) (by omega) hn
  obtain ⟨h1, h2⟩ := zaU hd hn hS hk
  have := z0z h1 fun t ht => (h2 t ht).2.2
  omega
theorem ztu {a : Int} {W : List ByteArray} {Q : List (List Nat)} {u v : ByteArray} {p : List Nat} {L : Nat} (hL : L <= 1000) (hp : p.length = L) (hQ : ∀ y ∈ Q, y.length = L) (hQl : Q.length <= 100000) :
    z0j (z5J a W (Q.map toI) u v (toI p, true)) LFm (true, 0) = if p = List.range L ∨ p ∈ Q then z0e (IntKind.i64.wrap (a + 1), W, Q.map toI) else
      chk (z1c 16 (W.length + 1)) <| chk (z1c 24 ((Q.map toI).length + 1)) <| z0e (IntKind.i64.wrap (a + 1), W ++ [(u ++ ⟨#[UInt8.ofNat (IntKind.u8.wrap (IntKind.i64.wrap (97 + a))).toNat]⟩) ++ v], Q.map toI ++ [toI p]) := by
  have _u := hd
  have _v := hn
  have _w := hS
  refine z0t (s := (true, (0 : Int))) L (fun q => (decide (p.take q = (List.range L).take q), (q : Int))) (by simp) (by simp only [LFm]; omega) (fun q hq => ?_) ?_
  · simp only [z5J]
    rw [if_pos (by rw [z0d]; omega), z0Y (by omega), Option.bind_some, z0T (by omega)]
    have hs := zcV (l := p) (r := List.range L) (k := q) (by omega) (by rw [List.length_range]; exact hq)
    rw [zh7 hq] at hs
    by_cases h : p.take q = (List.range L).take q
    · rw [decide_eq_true h, if_pos rfl]
      congr 2
      refine decide_eq_decide.2 ?_
      rw [hs]
      constructor
      · intro e; exact ⟨h, by omega⟩
      · rintro ⟨_, e⟩; omega
    · rw [decide_eq_false h, if_neg (by simp), decide_eq_false (fun e => h (hs.1 e).1)]
  · simp only [z5J]
    rw [if_neg (by rw [z0d]; omega)]
    have e0 : decide (p.take L = (List.range L).take L) = decide (p = List.range L) := by
      rw [List.take_of_length_le (by omega), List.take_of_length_le (by rw [List.length_range]; omega)]
    rw [e0]
    congr 1
    refine z0t (s := (decide (p = List.range L), (0 : Int))) Q.length (fun q => (decide (p = List.range L) || decide (p ∈ Q.take q), (q : Int))) (by simp) (by simp only [LFm]; omega) (fun q hq => ?_) ?_
    · have hy := hQ _ (List.getElem_mem hq)
      have hat : atI (Q.map toI) (q : Int) = some (toI Q[q]) := by rw [z1s (by simpa using hq)]; simp
      simp only [z7i]
      rw [if_pos (by simp; omega), hat, Option.bind_some]
      have hm : decide (p ∈ Q.take (q + 1)) = (decide (p ∈ Q.take q) || decide (p = Q[q])) := by
        rw [List.take_succ_eq_append_getElem hq, Bool.eq_iff_iff, decide_eq_true_eq, Bool.or_eq_true, decide_eq_true_eq, decide_eq_true_eq, List.mem_append, List.mem_singleton]
      generalize Q[q] = y at *
      refine z0t (s := (true, (0 : Int))) L (fun t => (decide (p.take t = y.take t), (t : Int))) (by simp) (by simp only [LFm]; omega) (fun t ht => ?_) ?_
      · simp only [z7h]
        have hs := zcV (l := p) (r := y) (k := t) (by omega) (by omega)
        rw [if_pos (by rw [z0d]; omega), z0T (by omega)]
        by_cases h : p.take t = y.take t
        · rw [decide_eq_true h, if_pos rfl, z0Y (by omega), Option.bind_some, z0Y (by omega), Option.bind_some]
          congr 2
          refine decide_eq_decide.2 ?_
          rw [hs]
          constructor
          · intro e; exact ⟨h, by omega⟩
          · rintro ⟨_, e⟩; omega
        · rw [decide_eq_false h, if_neg (by simp), decide_eq_false (fun e => h (hs.1 e).1)]
      · simp only [z7h]
        rw [if_neg (by rw [z0d]; omega), List.take_of_length_le (show p.length <= L by omega), List.take_of_length_le (show y.length <= L by omega), z0T (by omega), hm]
        cases h : (decide (p = List.range L) || decide (p ∈ Q.take q)) with
        | true => rw [if_pos rfl, ← Bool.or_assoc, h, Bool.true_or]
        | false => rw [if_neg (by simp), ← Bool.or_assoc, h, Bool.false_or]
    · simp only [z7i]
      rw [if_neg (by simp), List.take_length]
      congr 1
      by_cases h : p = List.range L ∨ p ∈ Q
      · rw [if_pos h, if_pos (by simpa using h)]
      · rw [if_neg h, if_neg (by simpa using h)]
end
end
section
open Go
set_option maxRecDepth 100000
theorem zhR {d : DFA} {m n : Nat} {S : List Nat} {c B : Nat} {st : HS} (h : HInv d m n S c B st) : ∀ y ∈ st.2, y.length = (z4n S (z2I d m n S c)).length := fun y hy => by
  obtain ⟨j, hj, rfl⟩ := List.getElem_of_mem hy
  obtain ⟨w, _, _, _, e⟩ := h.ok j (by rw [h.len]; exact hj)
  rw [List.getD, List.getElem?_eq_getElem hj, Option.getD_some] at e
  rw [e, zde]
theorem zs2 {d : DFA} {m n : Nat} {S : List Nat} {c B : Nat} {st : HS} (h : HInv d m n S c B st) {j : Nat} (hj : j < st.1.length) : Lead d m n (S.getD (z2I d m n S c) 0) (S.getD (z2I d m n S c) 0) (st.1.getD j ByteArray.empty).data.toList /\ (st.1.getD j ByteArray.empty).size <= 2 * 2 ^ n + 1 /\ st.2.getD j [] = z6y d (st.1.getD j ByteArray.empty).data.toList (z4n S (z2I d m n S c)) := by
  obtain ⟨w, e1, e2, e3, e4⟩ := h.ok j hj
  rw [e1]; exact ⟨e2, e3, e4⟩
section
variable {d : DFA} {m n : Nat} {S : List Nat} (hd : DfaOk d m n) (hn : n <= 7) (hS : SetsP d m n S)
include hd hn hS
theorem zry {z : Int} {c i a : Nat} {st : HS} {B : Nat} (hB : B <= 10000) (h : HInv d m n S c B st) (hi : i < S.length) (ha : a < m) (hc : clN d m n S i = c) (hcl : c < (z8f d m n S).length) :
    z3V d (z2m d m n S, 0) (zbg S S.length) (c : Int) (toI (z4n S (z2I d m n S c))) (i : Int) ((S.getD i 0 : Nat) : Int) z ((a : Int), st.1, st.2.map toI) = z0e (((a + 1 : Nat) : Int), (zeH d m n S (z4n S (z2I d m n S c)) i st a).1, (zeH d m n S (z4n S (z2I d m n S c)) i st a).2.map toI) := by
  have h128 : 2 ^ n <= 128 := Nat.pow_le_pow_right (n := 2) (by omega) hn
  have hm := hd.m6
  obtain ⟨j1, j2⟩ := zsm hd hn hS hi ha
  have hcat : ∀ i, i < S.length -> atI (z2m d m n S).class_ (i : Int) = some ((clN d m n S i : Nat) : Int) := fun i hi => z1q hi
  have hwat : ∀ i, i < S.length -> atI (z2m d m n S).words (i : Int) = some (zbp d m n S i) := fun i hi => z1q hi
  have hbat : ∀ i, i < S.length -> atI (z2m d m n S).back (i : Int) = some (zfB d m n S i) := fun i hi => z1q hi
  have hix : (z8D ((mvN d (S.getD i 0) a : Nat) : Int) (zbg S S.length)).getD 0 = ((zqe d S i a : Nat) : Int) := by
    rw [← j2, zdi hS.nd _ (Nat.le_refl _) j1]; rfl
  simp only [z3V]
  rw [hd.lt, if_pos (by omega), hcat i hi, Option.bind_some, if_pos (by omega), zfz hd (by omega) (hS.lt _ (z0p hi)) ha, Option.bind_some, hix, hcat _ j1, Option.bind_some]
  unfold zeH
  by_cases hj : clN d m n S (zqe d S i a) = clN d m n S i
  · obtain ⟨l1, l2⟩ := zml hd hn hS hi ha hj
    have hf : z2I d m n S c = z3a d m n S i := by unfold z2I; rw [← hc]; rfl
    have hk : z2I d m n S c < S.length := (z3B hd hn hS hcl).2
    rw [← hf] at l1
    obtain ⟨_, w1⟩ := zhp hd hn hS hi
    obtain ⟨_, w2⟩ := zib hd hn hS j1
    have htl := zpt hd hn hS hk
    obtain ⟨t1, t2⟩ := zaU hd hn hS hk
    have hwd : (zbp d m n S i ++ zsS a ++ zfB d m n S (zqe d S i a)) = hwN d m n S i a := rfl
    have hbd := h.bd
    have hln := h.len
    rw [if_pos (by omega), hwat i hi, Option.bind_some, hbat _ j1, Option.bind_some, zcG (by omega), z0m _ (by unfold z6K; rw [z4x]; omega), z0m _ (by unfold z6K; rw [zbk, z4x]; omega), if_neg (by omega), hwd,
      ztw hd (by omega) t1 (by omega) (fun t ht => (t2 t ht).2.2) (w := hwN d m n S i a) ⟨by omega, l1.hw⟩ (zlS hd hn hS hk l1), Option.bind_some,
      ztu hd hn hS (L := (z4n S (z2I d m n S c)).length) (by omega) (zde _ _ _) (zhR h) (by omega), if_pos hj, z0T (by omega), zcG (by omega), hwd]
    split
    · rfl
    · rw [z0m _ (by unfold z1c; omega), z0m _ (by unfold z1c; rw [List.length_map]; omega)]
      simp
  · rw [if_neg (by omega), if_neg hj, z0T (by omega)]
theorem ztJ {z : Int} {c i : Nat} (hi : i < S.length) (hcl : c < (z8f d m n S).length) (hSl : S.length <= 128) :
    z0j (z3V d (z2m d m n S, 0) (zbg S S.length) (c : Int) (toI (z4n S (z2I d m n S c))) (i : Int) ((S.getD i 0 : Nat) : Int) z) LFm (0, (zij d m n S (z4n S (z2I d m n S c)) c i).1, (zij d m n S (z4n S (z2I d m n S c)) c i).2.map toI) =
      z0e (((i + 1 : Nat) : Int), (zij d m n S (z4n S (z2I d m n S c)) c (i + 1)).1, (zij d m n S (z4n S (z2I d m n S c)) c (i + 1)).2.map toI) := by
  have hm := hd.m6
  have hm1 := hd.m1
  have hI := zsL hd hn hS (c := c) i (by omega)
  have hcat : atI (z2m d m n S).class_ (i : Int) = some ((clN d m n S i : Nat) : Int) := z1q hi
  have hB : i * m <= 128 * 6 := Nat.mul_le_mul (by omega) hm
  rw [zo3]
  by_cases hc : clN d m n S i = c
  · rw [if_pos hc]
    generalize zij d m n S (z4n S (z2I d m n S c)) c i = st at *
    refine z0t (s := ((0 : Int), st.1, st.2.map toI)) m (fun a => ((a : Int), (zjV d m n S (z4n S (z2I d m n S c)) i st a).1, (zjV d m n S (z4n S (z2I d m n S c)) i st a).2.map toI)) rfl (by simp only [LFm]; omega) (fun a ha => ?_) ?_
    · rw [zry hd hn hS (B := i * m + a) (by omega) (zjU hd hn hS hI hi hc a (by omega)) hi ha hc hcl, zhB]
    · simp only [z3V]
      rw [hd.lt, if_neg (by omega), z0T (by omega)]
  · rw [if_neg hc]
    refine z0t (s := ((0 : Int), _)) 0 (fun _ => ((0 : Int), _)) rfl (by simp only [LFm]; omega) (fun k hk => by omega) ?_
    simp only [z3V]
    rw [hd.lt, if_pos (by omega), hcat, Option.bind_some, if_neg (by omega), z0T (by omega)]
theorem zq8 {c t : Nat} (hcl : c < (z8f d m n S).length) (hSl : S.length <= 128) (D : List Hol) (hD : D.length <= 1000) (ht : t <= 1000) :
    (atI (z2m d m n S).tiles ((z2I d m n S c : Nat) : Int)).bind (fun v => z0j (z5K d (z2m d m n S, 0) (zbg S S.length) (t : Int) D (c : Int) ((S.getD (z2I d m n S c) 0 : Nat) : Int) v) LFm (0, [])) = z0e (((t + 1 : Nat) : Int), D ++ [zkQ d m n S c]) := by
  have hk : z2I d m n S c < S.length := (z3B hd hn hS hcl).2
  have hta : atI (z2m d m n S).tiles ((z2I d m n S c : Nat) : Int) = some (toI (z7D S (z2I d m n S c))) := z1q hk
  have htl := zpt hd hn hS hk
  have hl := zqV (S := S) (k := z2I d m n S c)
  rw [hta, Option.bind_some]
  refine z0t (s := ((0 : Int), ([] : List Int))) (z7D S (z2I d m n S c)).length (fun q => ((q : Int), toI ((z4n S (z2I d m n S c)).take q))) rfl (by simp only [LFm]; omega) (fun q hq => ?_) ?_
  · have hx : (z7D S (z2I d m n S c)).getD q 0 < S.length := zhf (zcs (z0p hq)).1
    have e : (z4n S (z2I d m n S c)).getD q 0 = S.getD ((z7D S (z2I d m n S c)).getD q 0) 0 := by simp [z4n, List.getD, hq]
    have hsat : atI (z2m d m n S).sets (((z7D S (z2I d m n S c)).getD q 0 : Nat) : Int) = some ((S.getD ((z7D S (z2I d m n S c)).getD q 0) 0 : Nat) : Int) := z0Y hx
    simp only [z5K]
    rw [if_pos (by rw [z0d]; omega), z0Y hq, Option.bind_some, hsat, Option.bind_some, z0m _ (by unfold z1c; rw [z0d, List.length_take]; omega), z0T (by omega), z4r (by omega), z3k, e]
  · simp only [z5K]
    rw [if_neg (by rw [z0d]; omega), ← hl, List.take_length]
    congr 1
    have hsl : (z2m d m n S).sets.length = S.length := z0d _
    refine z0t (s := ((0 : Int), ([] : List ByteArray), ([] : List (List Int)))) S.length (fun i => ((i : Int), (zij d m n S (z4n S (z2I d m n S c)) c i).1, (zij d m n S (z4n S (z2I d m n S c)) c i).2.map toI)) rfl (by simp only [LFm]; omega) (fun i hi => ?_) ?_
    · have hsat : atI (z2m d m n S).sets (i : Int) = some ((S.getD i 0 : Nat) : Int) := z0Y hi
      simp only [z7j]
      rw [hsl, if_pos (by omega), hsat, Option.bind_some]
      exact ztJ hd hn hS hi hcl hSl
    · simp only [z7j]
      rw [hsl, if_neg (by omega), z0m _ (by unfold z1c; omega), z0T (by omega)]
      rfl
end
theorem zru {d : DFA} {m n : Nat} (hd : DfaOk d m n) (hn : n <= 7) : ∃ O, z9G d = some (O.map (zkQ d m n (z2E d m n)), 0) /\ zkS (hC d m n (z2E d m n)) O /\ O.Perm (z7G d m n (z2E d m n) (z2E d m n).length) := by
  have h128 : 2 ^ n <= 128 := Nat.pow_le_pow_right (n := 2) (by omega) hn
  have hS := z8r hd
  have hSl := z0z hS.nd hS.lt
  have hH := zs4 hd hn
  unfold z9G
  rw [ztk hd hn, Option.bind_some, if_pos rfl]
  generalize z2E d m n = S at *
  obtain ⟨O, e, o1, o2⟩ := zmC hd hn hS hH (by omega)
  refine ⟨O, ?_, o1, o2⟩
  have hOc : ∀ c ∈ O, c < (z8f d m n S).length := fun c hc => by
    have := o2.mem_iff.1 hc
    unfold z7G at this
    exact List.mem_range.1 (List.mem_filter.1 this).1
  have hOl : O.length <= 128 := by
    rw [o2.length_eq]; unfold z7G
    refine Nat.le_trans (List.length_filter_le _ _) ?_
    rw [List.length_range]
    have := z7a (z1F d m n S) S.length
    omega
  have hsl : (z2m d m n S).sets.length = S.length := z0d _
  refine z0t (s := ((0 : Int), ([] : List (Int × Int)))) S.length (fun k => ((k : Int), zbg S k)) rfl (by simp only [LFm]; omega) (fun k hk => ?_) ?_
  · have hsat : atI (z2m d m n S).sets (k : Int) = some ((S.getD k 0 : Nat) : Int) := z0Y hk
    simp only [z8s]
    rw [hsl, if_pos (by omega), hsat, Option.bind_some, z0T (by omega)]
    rfl
  · simp only [z8s]
    rw [hsl, if_neg (by omega), e, Option.bind_some]
    congr 1
    refine z0t (s := ((0 : Int), ([] : List Hol))) O.length (fun t => ((t : Int), (O.take t).map (zkQ d m n S))) rfl (by simp only [LFm]; omega) (fun t ht => ?_) ?_
    · have hc := hOc _ (z0p ht)
      have hk := (z3B hd hn hS hc).2
      have hsat : atI (z2m d m n S).sets ((z2I d m n S (O.getD t 0) : Nat) : Int) = some ((S.getD (z2I d m n S (O.getD t 0)) 0 : Nat) : Int) := z0Y hk
      simp only [z7k]
      rw [if_pos (by rw [z0d]; omega), z0Y ht, Option.bind_some, ztQ hd hn hS hc (by omega), Option.bind_some, hsat, Option.bind_some, z4r ht, List.map_append, List.map_cons, List.map_nil]
      exact zq8 hd hn hS hc (by omega) _ (by rw [List.length_map, List.length_take]; omega) (by omega)
    · simp only [z7k]
      rw [if_neg (by rw [z0d]; omega), List.take_length]
end
section
open Go
set_option maxRecDepth 100000
def zaF (d : DFA) (m n : Nat) (S : List Nat) (c k : Nat) : List Nat := (List.range k).filter fun j => decide (clN d m n S j = c)
def zeY (d : DFA) (m n : Nat) (S : List Nat) (k : Nat) : List (List Int) := (List.range (z0P (z1F d m n S) k).length).map fun c => toI (zaF d m n S c k)
theorem zeZ (d : DFA) (m n : Nat) (S : List Nat) (c k : Nat) : zaF d m n S c (k + 1) = if clN d m n S k = c then zaF d m n S c k ++ [k] else zaF d m n S c k := by
  unfold zaF
  rw [List.range_succ, List.filter_append, List.filter_cons, List.filter_nil]
  by_cases h : clN d m n S k = c
  · rw [if_pos h, if_pos (by simpa using h)]
  · rw [if_neg h, if_neg (by simpa using h), List.append_nil]
section
variable {d : DFA} {m n : Nat} {S : List Nat} (hd : DfaOk d m n) (hn : n <= 7) (hS : SetsP d m n S)
include hd hn hS
theorem zzn {i : Nat} (hi : i < S.length) {j : Nat} (hj : j < i) : clN d m n S j < (z0P (z1F d m n S) i).length := by
  have _u := hn
  have he := z6p hd hS
  obtain ⟨R, hR⟩ := zcK (z1F d m n S) (i := j + 1) i (by omega)
  have hl : (z0P (z1F d m n S) i).length = (z0P (z1F d m n S) (j + 1)).length + R.length := by rw [hR, List.length_append]
  rcases z8Z he (show j < S.length by omega) with ⟨h1, _, h3⟩ | ⟨h1, _, h3⟩
  · rw [h3] at hl
    unfold clN; omega
  · rw [h3, List.length_append, List.length_singleton] at hl
    unfold clN; omega
theorem zty {i : Nat} (hi : i < S.length) : zaF d m n S (z0P (z1F d m n S) i).length i = [] := by
  unfold zaF
  refine List.filter_eq_nil_iff.2 fun j hj => ?_
  have := zzn hd hn hS hi (List.mem_range.1 hj)
  simp only [decide_eq_true_eq]
  omega
theorem ztx {i : Nat} (hi : i < S.length) (hSl : S.length <= 1000) : z2R (z2m d m n S) ((i : Int), zeY d m n S i) = z0e (((i + 1 : Nat) : Int), zeY d m n S (i + 1)) := by
  have he := z6p hd hS
  have l2 : (z2m d m n S).class_.length = S.length := by simp [z2m, zmB]
  have hcat : atI (z2m d m n S).class_ (i : Int) = some ((clN d m n S i : Nat) : Int) := z1q hi
  have hml : (zeY d m n S i).length = (z0P (z1F d m n S) i).length := by simp [zeY]
  have hfl := z7a (z1F d m n S) i
  have hcl : ∀ c, (toI (zaF d m n S c i)).length <= i := fun c => by
    rw [z0d]; unfold zaF
    exact Nat.le_trans (List.length_filter_le _ _) (by rw [List.length_range]; omega)
  simp only [z2R]
  rw [l2, if_pos (by omega), hcat, Option.bind_some]
  rcases z8Z he hi with ⟨h1, _, h3⟩ | ⟨h1, _, h3⟩
  · have h1' : clN d m n S i < (z0P (z1F d m n S) i).length := h1
    have hc := hcl (clN d m n S i)
    have hat : atI (zeY d m n S i) ((clN d m n S i : Nat) : Int) = some (toI (zaF d m n S (clN d m n S i) i)) := z1q h1'
    rw [if_neg (by omega), hat, Option.bind_some, z0m _ (by unfold z1c; omega), z0T (by omega), Int.toNat_natCast]
    congr 2
    refine List.ext_getElem (by simp [zeY, h3]) fun c c1 c2 => ?_
    have hc' : c < (z0P (z1F d m n S) i).length := by simpa [zeY] using c1
    rw [List.getElem_set]
    simp only [zeY, List.getElem_map, List.getElem_range]
    rw [zeZ]
    by_cases e : clN d m n S i = c
    · rw [if_pos e, if_pos e, z3k, e]
    · rw [if_neg e, if_neg e]
  · have h1' : clN d m n S i = (z0P (z1F d m n S) i).length := h1
    have hat : atI (zeY d m n S i ++ [[]]) ((clN d m n S i : Nat) : Int) = some [] := at0 (zeY d m n S i) [] [] (by omega)
    rw [if_pos (by omega), z0m _ (by unfold z1c; omega), hat, Option.bind_some, z0m _ (by unfold z1c; simp), z0T (by omega), Int.toNat_natCast, List.nil_append, zsR (zeY d m n S i) [] _ [] (by omega)]
    congr 2
    have hlen : (z0P (z1F d m n S) (i + 1)).length = (z0P (z1F d m n S) i).length + 1 := by rw [h3, List.length_append, List.length_singleton]
    show zeY d m n S i ++ [[((i : Nat) : Int)]] = zeY d m n S (i + 1)
    unfold zeY
    rw [hlen, List.range_succ, List.map_append, List.map_cons, List.map_nil]
    congr 1
    · refine List.map_congr_left fun c hc => ?_
      have := List.mem_range.1 hc
      rw [zeZ, if_neg (by omega)]
    · rw [zeZ, if_pos h1', zty hd hn hS hi, List.nil_append]; rfl
theorem ztz {c : Nat} (hc : c < (z8f d m n S).length) : ∃ R, zaF d m n S c S.length = z2I d m n S c :: R := by
  obtain ⟨h1, h2⟩ := z3B hd hn hS hc
  have hh : (zaF d m n S c S.length).head? = some (z2I d m n S c) := by
    unfold zaF
    rw [List.head?_filter, List.find?_range_eq_some]
    refine ⟨by simpa using h1, List.mem_range.2 h2, fun j hj => ?_⟩
    simp only [Bool.not_eq_true', decide_eq_false_iff_not]
    intro e
    have := zd2 hd hn hS (i := j) (by omega)
    have e3 : z2I d m n S c = z3a d m n S j := by unfold z2I; rw [← e]; rfl
    omega
  cases h : zaF d m n S c S.length with
  | nil => rw [h] at hh; cases hh
  | cons x R =>
    rw [h] at hh
    exact ⟨R, by rw [Option.some.inj hh]⟩
theorem zng {c : Nat} (hc : c < (z8f d m n S).length) : atI (zeY d m n S S.length) (c : Int) = some (toI (zaF d m n S c S.length)) /\ atI (toI (zaF d m n S c S.length)) 0 = some ((z2I d m n S c : Nat) : Int) := by
  obtain ⟨R, hR⟩ := ztz hd hn hS hc
  refine ⟨z1q hc, ?_⟩
  rw [hR]
  exact at0 [] _ _ (i := 0) rfl
theorem zmD (hSl : S.length <= 1000) : ∃ O, z3L (z2m d m n S) = some (toI O, zeY d m n S S.length) /\ zkS (hC d m n S) O /\ O.Perm (z7G d m n S S.length) := by
  have he := z6p hd hS
  have l2 : (z2m d m n S).class_.length = S.length := by simp [z2m, zmB]
  have hhat : ∀ i, i < S.length -> atI (z2m d m n S).height (i : Int) = some ((z5f d m n S i : Nat) : Int) := fun i hi => z1q hi
  have hml : (zeY d m n S S.length).length = (z8f d m n S).length := by simp [zeY, z8f]
  have hfl : (z8f d m n S).length <= S.length := z7a (z1F d m n S) S.length
  have hko : ∀ c, c < (z8f d m n S).length -> zvp (zeY d m n S S.length) (z2m d m n S).height (c : Int) = some ((hC d m n S c : Nat) : Int) := fun c hc => by
    obtain ⟨m1, m2⟩ := zng hd hn hS hc
    unfold zvp
    rw [m1, Option.bind_some, m2, Option.bind_some, hhat _ (z3B hd hn hS hc).2]; rfl
  have hout : ∀ c ∈ z7G d m n S S.length, c < (z8f d m n S).length := fun c hc => List.mem_range.1 (List.mem_filter.1 hc).1
  have hol : (z7G d m n S S.length).length <= S.length := by
    unfold z7G
    exact Nat.le_trans (List.length_filter_le _ _) (by rw [List.length_range]; exact hfl)
  have hasc : (toI (z7G d m n S S.length)).Pairwise (· < ·) := by
    unfold toI z7G
    exact List.Pairwise.map _ (fun a b (h : a < b) => by omega) (List.Pairwise.filter _ List.pairwise_lt_range)
  obtain ⟨Z, e, z1, z2⟩ := zr7 (K := zw7 (z2m d m n S).sets (z2m d m n S).class_ (z2m d m n S).height (z2m d m n S).tiles (z2m d m n S).words (z2m d m n S).back (zeY d m n S S.length)) (l := toI (z7G d m n S S.length))
    (fun x hx => by
      obtain ⟨c, hc, rfl⟩ := List.mem_map.1 hx
      have := hout c hc
      exact ⟨by omega, by omega, by rw [hko c this]; rfl⟩) hasc (by rw [z0d]; omega)
  have hZ : ∃ O, Z = toI O /\ O.Perm (z7G d m n S S.length) := by
    refine ⟨Z.map Int.toNat, ?_, ?_⟩
    · unfold toI
      rw [List.map_map]
      refine (List.map_id' Z).symm.trans (List.map_congr_left fun x hx => ?_)
      obtain ⟨c, hc, rfl⟩ := List.mem_map.1 (z2.mem_iff.1 hx)
      simp
    · have := z2.map Int.toNat
      refine this.trans ?_
      unfold toI
      rw [List.map_map]
      have : (Int.toNat ∘ fun x : Nat => (x : Int)) = id := by funext x; simp
      rw [this, List.map_id]
  obtain ⟨O, rfl, hO⟩ := hZ
  refine ⟨O, ?_, ?_, hO⟩
  · unfold z3L
    refine z0t (s := ((0 : Int), ([] : List (List Int)))) S.length (fun k => ((k : Int), zeY d m n S k)) rfl (by simp only [LFm]; omega) (fun i hi => ztx hd hn hS hi hSl) ?_
    simp only [z2R]
    rw [l2, if_neg (by omega)]
    congr 1
    refine z0t (s := ((0 : Int), ([] : List Int))) (z8f d m n S).length (fun k => ((k : Int), toI ((List.range k).filter fun c => decide (0 < hC d m n S c)))) rfl (by simp only [LFm]; omega) (fun c hc => ?_) ?_
    · obtain ⟨m1, m2⟩ := zng hd hn hS hc
      have hq : (toI ((List.range c).filter fun c => decide (0 < hC d m n S c))).length <= c := by
        rw [z0d]
        exact Nat.le_trans (List.length_filter_le _ _) (by rw [List.length_range]; omega)
      simp only [z3q]
      rw [hml, if_pos (by omega), m1, Option.bind_some, m2, Option.bind_some, hhat _ (z3B hd hn hS hc).2, Option.bind_some, z0T (by omega), List.range_succ, List.filter_append, List.filter_cons, List.filter_nil]
      by_cases h : 0 < hC d m n S c
      · have h' : 0 < z5f d m n S (z2I d m n S c) := h
        rw [if_pos (by omega), z0m _ (by unfold z1c; omega), if_pos (by simpa using h), z3k]
      · have h' : ¬ 0 < z5f d m n S (z2I d m n S c) := h
        rw [if_neg (by omega), if_neg (by simpa using h), List.append_nil]
    · simp only [z3q]
      rw [hml, if_neg (by omega), zr5]
      have e' : toI ((List.range (z8f d m n S).length).filter fun c => decide (0 < hC d m n S c)) = toI (z7G d m n S S.length) := rfl
      rw [e', e, Option.bind_some]
  · have z1' : (O.map fun x : Nat => (x : Int)).Pairwise _ := z1
    rw [List.pairwise_map] at z1'
    refine List.Pairwise.imp_of_mem (fun {x y} hx hy h => ?_) z1'
    have ox := hout x (hO.mem_iff.1 hx)
    have oy := hout y (hO.mem_iff.1 hy)
    have h3 : (x : Int) - (zvp (zeY d m n S S.length) (z2m d m n S).height (x : Int)).getD 0 * 1048576 <= (y : Int) - (zvp (zeY d m n S S.length) (z2m d m n S).height (y : Int)).getD 0 * 1048576 := h
    rw [hko x ox, hko y oy, Option.getD_some, Option.getD_some] at h3
    unfold leH
    omega
end
end
section
open Go
noncomputable section
set_option maxRecDepth 100000
set_option maxHeartbeats 6000000
abbrev z3G (a0 : DFA) (a1 : ByteArray) (w79 : Int) (w80 : List Int) : Int × List Int -> Option ((Int × List Int) ⊕ ((Int × List Int) ⊕ List Int))
  | (w103, w104) =>
  if w103 < (w80.length : Int) then
    (atI w104 w103).bind fun v110 =>
    (atI a0.next v110).bind fun v111 =>
    (zmF a1 w79).bind fun v112 =>
    (atI v111 (IntKind.u8.wrap (v112 - 97))).bind fun v113 =>
    z0e (IntKind.i64.wrap (w103 + 1), (w104.set w103.toNat v113))
  else
    z0k <|
    z0e (IntKind.i64.wrap (w79 + 1), w104)
instance {a0 : DFA} {a1 : ByteArray} {w79 : Int} {w80 : List Int} : Hd (z3G a0 a1 w79 w80) := ⟨fun (w103, w104) => ([(31, xI w103)], [(5, .os 1 w104.length (w104.map fun x0 => .sc (.int .i64 x0)))])⟩
abbrev z3Q (a0 : DFA) (a1 : ByteArray) : Int × List Int -> Option ((Int × List Int) ⊕ List Int)
  | (w79, w80) =>
  if w79 < (a1.size : Int) then
    z0j (z3G a0 a1 w79 w80) LFm (0, w80)
  else
    z0k <|
    some w80
instance {a0 : DFA} {a1 : ByteArray} : Hd (z3Q a0 a1) := ⟨fun (w79, w80) => ([(26, xI w79)], [(5, .os 1 w80.length (w80.map fun x0 => .sc (.int .i64 x0)))])⟩
abbrev z3R (a0 : DFA) (a1 : ByteArray) : Int × List Int -> Option ((Int × List Int) ⊕ List Int)
  | (w58, w59) =>
  if w58 < (a0.final.length : Int) then
    (atI w59 w58).bind fun v61 =>
    z0e (IntKind.i64.wrap (w58 + 1), (w59.set w58.toNat w58))
  else
    z0k <|
    z0j (z3Q a0 a1) LFm (0, w59)
instance {a0 : DFA} {a1 : ByteArray} : Hd (z3R a0 a1) := ⟨fun (w58, w59) => ([(16, xI w58)], [(5, .os 1 w59.length (w59.map fun x0 => .sc (.int .i64 x0)))])⟩
def z3z (a0 : DFA) (a1 : ByteArray) : Option (List Int) :=
  chk (z1g 8 (a0.final.length : Int)) <|
  z0j (z3R a0 a1) LFm (0, List.replicate (a0.final.length : Int).toNat (0 : Int))
instance holonomy_action_ok {a0 : DFA} {a1 : ByteArray} : Ok (z3z a0 a1) (fun r => L 37 [.agg [.sc (.int .i64 a0.letters), .sc (.int .i64 a0.start), .sl a0.final.length (a0.final.map fun x0 => .sc (.bool x0)), .sl a0.next.length (a0.next.map fun x0 => .sl x0.length (x0.map fun x1 => .sc (.int .i64 x1)))], .sc (.string a1)] = some (.os 1 r.length (r.map fun x0 => .sc (.int .i64 x0)), [.dead, .dead])) := ⟨fun r h => by have h := z4p h; unfold z3z at h; exact z4O zzV zBY zDM⟩
abbrev z4m (a0 : List Int) (a1 : Int) : Int × Int -> Option ((Int × Int) ⊕ Int)
  | (w7, w8) =>
  if w8 < (a0.length : Int) then
    (atI a0 w8).bind fun v10 =>
    chk (¬ w8 < 0) <|
    if (z2a .i64 (z0l .i64 a1 w8) 1) = 1 then
      chk (¬ v10 < 0) <|
      z0e (orI .i64 w7 (zjM .i64 1 v10), IntKind.i64.wrap (w8 + 1))
    else
      z0e (w7, IntKind.i64.wrap (w8 + 1))
  else
    z0k <|
    some w7
instance {a0 : List Int} {a1 : Int} : Hd (z4m a0 a1) := ⟨fun (w7, w8) => ([(5, xI w7), (10, xI w8)], [])⟩
def z2M (a0 : List Int) (a1 : Int) : Option (Int) :=
  z0j (z4m a0 a1) LFm (0, 0)
instance holonomy_apply_ok {a0 : List Int} {a1 : Int} : Ok (z2M a0 a1) (fun r => L 38 [.sl a0.length (a0.map fun x0 => .sc (.int .i64 x0)), .sc (.int .i64 a1)] = some (.sc (.int .i64 r), [.dead, .dead])) := ⟨fun r h => by have h := z4p h; unfold z2M at h; exact z4O zzU zBX zDL⟩
abbrev z3g (a0 : List Int) : Int -> Option (Int ⊕ Bool)
  | w6 =>
  if w6 < (a0.length : Int) then
    (atI a0 w6).bind fun v8 =>
    if w6 = v8 then
      z0e (IntKind.i64.wrap (w6 + 1))
    else
      z0k <|
      some false
  else
    z0k <|
    some true
instance {a0 : List Int} : Hd (z3g a0) := ⟨fun w6 => ([(7, xI w6)], [])⟩
def z3h (a0 : List Int) : Option (Bool) :=
  z0j (z3g a0) LFm 0
instance holonomy_identical_ok {a0 : List Int} : Ok (z3h a0) (fun r => L 56 [.sl a0.length (a0.map fun x0 => .sc (.int .i64 x0))] = some (.sc (.bool r), [.dead])) := ⟨fun r h => by have h := z4p h; unfold z3h at h; exact z4O zzG zBJ zDx⟩
abbrev z4G (a0 : List Int) : Int × List Int -> Option ((Int × List Int) ⊕ ByteArray)
  | (w7, w8) =>
  if w7 < (a0.length : Int) then
    (atI a0 w7).bind fun v10 =>
    chk (¬ 8 < 0) <|
    chk (z1c 1 (w8.length + 2)) <|
    z0e (IntKind.i64.wrap (w7 + 1), w8 ++ [IntKind.u8.wrap (z0l .i64 v10 8), IntKind.u8.wrap v10])
  else
    z0k <|
    some (z4I w8)
instance {a0 : List Int} : Hd (z4G a0) := ⟨fun (w7, w8) => ([(12, xI w7)], [(3, .os 1 w8.length (w8.map fun x0 => .sc (.int .u8 x0)))])⟩
def z4l (a0 : List Int) : Option (ByteArray) :=
  chk (z1g 1 (IntKind.i64.wrap (2 * (a0.length : Int)))) <|
  z0j (z4G a0) LFm (0, [])
instance holonomy_text_ok {a0 : List Int} : Ok (z4l a0) (fun r => L 57 [.sl a0.length (a0.map fun x0 => .sc (.int .i64 x0))] = some (.sc (.string r), [.dead])) := ⟨fun r h => by have h := z4p h; unfold z4l at h; exact z4O zzF zBI zDw⟩
abbrev z2K (a0 : List Int) (a1 : List Int) (w18 : List (Int × Int)) : Int × List Int -> Option ((Int × List Int) ⊕ List Int)
  | (w23, w24) =>
  if w23 < (a1.length : Int) then
    (atI a1 w23).bind fun v28 =>
    (z2M a0 v28).bind fun v29 =>
    (atI w24 w23).bind fun v30 =>
    z0e (IntKind.i64.wrap (w23 + 1), (w24.set w23.toNat ((z8D v29 w18).getD 0)))
  else
    z0k <|
    some w24
instance {a0 : List Int} {a1 : List Int} {w18 : List (Int × Int)} : Hd (z2K a0 a1 w18) := ⟨fun (w23, w24) => ([(30, xI w23)], [(8, .os 1 w24.length (w24.map fun x0 => .sc (.int .i64 x0)))])⟩
abbrev z2L (a0 : List Int) (a1 : List Int) : Int × (List (Int × Int)) -> Option ((Int × (List (Int × Int))) ⊕ List Int)
  | (w17, w18) =>
  if w17 < (a1.length : Int) then
    (atI a1 w17).bind fun v20 =>
    z0e (IntKind.i64.wrap (w17 + 1), zaE v20 w17 w18)
  else
    z0k <|
    chk (z1g 8 (a1.length : Int)) <|
    z0j (z2K a0 a1 w18) LFm (0, List.replicate (a1.length : Int).toNat (0 : Int))
instance {a0 : List Int} {a1 : List Int} : Hd (z2L a0 a1) := ⟨fun (w17, w18) => ([(16, xI w17)], [(5, .mp (some .i64) (w18.map fun x0 => (.int .i64 x0.1, .int .i64 x0.2)))])⟩
def z2G (a0 : List Int) (a1 : List Int) : Option (List Int) :=
  z0j (z2L a0 a1) LFm (0, ([] : List (Int × Int)))
instance holonomy_permutation_ok {a0 : List Int} {a1 : List Int} : Ok (z2G a0 a1) (fun r => L 55 [.sl a0.length (a0.map fun x0 => .sc (.int .i64 x0)), .sl a1.length (a1.map fun x0 => .sc (.int .i64 x0))] = some (.os 1 r.length (r.map fun x0 => .sc (.int .i64 x0)), [.dead, .dead])) := ⟨fun r h => by have h := z4p h; unfold z2G at h; exact z4O zzH zBK zDy⟩
end
end
section
open Go
set_option maxRecDepth 100000
def zm8 {α : Type} (N : Nat) (f g : Nat -> α) (k : Nat) : List α := (List.range N).map fun i => if i < k then f i else g i
theorem zvg {α : Type} {N : Nat} {f g : Nat -> α} {k : Nat} : (zm8 N f g k).length = N := by simp [zm8]
theorem zvi {α : Type} {N : Nat} {f g : Nat -> α} : zm8 N f g 0 = (List.range N).map g := by simp [zm8]
theorem zvh {α : Type} {N : Nat} {f g : Nat -> α} : zm8 N f g N = (List.range N).map f := List.map_congr_left fun i hi => by rw [if_pos (List.mem_range.1 hi)]
theorem zrI {α : Type} {N : Nat} {f g : Nat -> α} {k : Nat} (h : k < N) : atI (zm8 N f g k) (k : Int) = some (g k) := by
  rw [z1s (by rw [zvg]; exact h)]; simp [zm8]
theorem zm7 {α : Type} {N : Nat} {f g : Nat -> α} {k : Nat} (h : k < N) : (zm8 N f g k).set k (f k) = zm8 N f g (k + 1) := by
  refine List.ext_getElem (by simp [zm8]) fun i h1 h2 => ?_
  have hi : i < N := by simpa [zm8] using h2
  rw [List.getElem_set]
  simp only [zm8, List.getElem_map, List.getElem_range]
  by_cases e : k = i
  · subst e; rw [if_pos rfl, if_pos (Nat.lt_succ_self k)]
  · rw [if_neg e]
    by_cases h3 : i < k
    · rw [if_pos h3, if_pos (by omega)]
    · rw [if_neg h3, if_neg (by omega)]
abbrev ztC (m : Nat) (w : List UInt8) : Prop := ∀ c ∈ w, 97 <= c.toNat /\ c.toNat < 97 + m
theorem zhJ {m : Nat} {c : UInt8} {w : List UInt8} (h : ztC m (c :: w)) : ztC m w /\ c.toNat - 97 < m := ⟨fun c' hc' => h c' (List.mem_cons_of_mem _ hc'), by have := h c (List.mem_cons_self ..); omega⟩
def nxN (d : DFA) (q a : Nat) : Nat := ((d.next.getD q []).getD a 0).toNat
def zo4 (d : DFA) : Nat -> List UInt8 -> Nat
  | q, [] => q
  | q, c :: w => zo4 d (nxN d q (c.toNat - 97)) w
theorem zhn (d : DFA) : ∀ (q : Nat) (u v : List UInt8), zo4 d q (u ++ v) = zo4 d (zo4 d q u) v
  | q, [], v => rfl
  | q, c :: u, v => by simp only [List.cons_append, zo4, zhn]
theorem zvc {d : DFA} {m n : Nat} (hd : DfaOk d m n) {q a : Nat} (hq : q < n) (ha : a < m) : ∃ r, atI d.next (q : Int) = some r /\ atI r (a : Int) = some ((nxN d q a : Nat) : Int) /\ nxN d q a < n := by
  obtain ⟨h1, h2, h3, h4, h5⟩ := zcx hd hq ha
  refine ⟨d.next[q], z1s h1, ?_, ?_⟩
  · rw [z1s h2]; unfold nxN; rw [h3]; congr 1; omega
  · unfold nxN; rw [h3]; omega
theorem zsN {d : DFA} {m n : Nat} (hd : DfaOk d m n) : ∀ {w : List UInt8} {q : Nat}, q < n -> ztC m w -> zo4 d q w < n
  | [], q, hq, _ => hq
  | c :: w, q, hq, hw => by
    obtain ⟨_, _, _, h⟩ := zvc hd hq (zhJ hw).2
    exact zsN (w := w) (q := nxN d q (c.toNat - 97)) hd h (zhJ hw).1
theorem zxi {s n p : Nat} (hs : s < 2 ^ n) (h : s.testBit p = true) : p < n := by
  rcases Nat.lt_or_ge p n with h1 | h1
  · exact h1
  · have := Nat.testBit_lt_two_pow (Nat.lt_of_lt_of_le hs (Nat.pow_le_pow_right (n := 2) (by omega) h1))
    rw [this] at h; cases h
theorem zrn {d : DFA} {m n : Nat} (hd : DfaOk d m n) : ∀ {w : List UInt8} {s p : Nat}, ztC m w -> s < 2 ^ n -> ((z4R d s w).testBit p = true ↔ ∃ i, i < n /\ s.testBit i = true /\ zo4 d i w = p)
  | [], s, p, _, hs => by
    refine ⟨fun h => ⟨p, zxi hs h, h, rfl⟩, ?_⟩
    rintro ⟨i, _, h, rfl⟩; exact h
  | c :: w, s, p, hw, hs => by
    have ha := (zhJ hw).2
    rw [z4R, zrn hd (zhJ hw).1 (zeW hd ha)]
    constructor
    · rintro ⟨j, h1, h2, h3⟩
      obtain ⟨i, i1, i2, i3⟩ := (z8u hd ha j).1 h2
      exact ⟨i, i1, i2, by rw [zo4, nxN, i3]; exact h3⟩
    · rintro ⟨i, h1, h2, h3⟩
      obtain ⟨_, _, _, h⟩ := zvc hd h1 ha
      exact ⟨_, h, (z8u hd ha _).2 ⟨i, h1, h2, rfl⟩, h3⟩
def zo5 (d : DFA) (n : Nat) (w : List UInt8) : List Nat := (List.range n).map fun q => zo4 d q w
theorem zAj (d : DFA) (n : Nat) (w : List UInt8) : toI (zo5 d n w) = (List.range n).map fun q => ((zo4 d q w : Nat) : Int) := by simp [toI, zo5]
theorem zkO {d : DFA} {m n : Nat} (hd : DfaOk d m n) (hn : n <= 12) {w : ByteArray} (hw : ztC m w.data.toList) (hs : w.size < 2 ^ 40) : z3z d w = some (toI (zo5 d n w.data.toList)) := by
  have hl : w.data.toList.length = w.size := by rw [Array.length_toList]; rfl
  have hm := hd.m6
  unfold z3z
  rw [hd.fin, z0m _ (by unfold z1g; omega), Int.toNat_natCast]
  refine z0t (s := ((0 : Int), List.replicate n (0 : Int))) n (fun k => ((k : Int), zm8 n (fun q => (q : Int)) (fun _ => 0) k)) (by rw [zvi]; congr 1; exact (List.ext_getElem (by simp) fun i h1 h2 => by simp)) (by simp only [LFm]; omega) (fun k hk => ?_) ?_
  · simp only [z3R]
    rw [hd.fin, if_pos (by omega), zrI hk, Option.bind_some, z0T (by omega), Int.toNat_natCast, zm7 hk]
  · simp only [z3R]
    rw [hd.fin, if_neg (by omega), zvh]
    congr 1
    refine z0t (s := ((0 : Int), (List.range n).map fun q : Nat => (q : Int))) w.size (fun k => ((k : Int), toI (zo5 d n (w.data.toList.take k)))) (by rw [zAj]; rfl) (by simp only [LFm]; omega) (fun k hk => ?_) ?_
    · have hk' : k < w.data.toList.length := by omega
      have hc := hw _ (List.getElem_mem hk')
      have hb : w[k] = w.data.toList[k] := by rw [zkG hk, List.getD, List.getElem?_eq_getElem hk', Option.getD_some]
      have ht : ztC m (w.data.toList.take k) := fun c hc => hw c (List.mem_of_mem_take hc)
      simp only [z3Q]
      rw [if_pos (by omega)]
      have hst : ∀ q, zo4 d q (w.data.toList.take (k + 1)) = nxN d (zo4 d q (w.data.toList.take k)) (w.data.toList[k].toNat - 97) := fun q => by
        rw [zjH hk', zhn]; rfl
      refine z0t (s := ((0 : Int), toI (zo5 d n (w.data.toList.take k)))) n (fun q => ((q : Int), zm8 n (fun q => ((zo4 d q (w.data.toList.take (k + 1)) : Nat) : Int)) (fun q => ((zo4 d q (w.data.toList.take k) : Nat) : Int)) q)) (by rw [zvi, zAj]; rfl) (by simp only [LFm]; omega) (fun q hq => ?_) ?_
      · obtain ⟨r, r1, r2, r3⟩ := zvc hd (zsN hd hq ht) (a := w.data.toList[k].toNat - 97) (by omega)
        have h256 : w[k].toNat < 256 := w[k].toNat_lt
        have wl : IntKind.u8.wrap ((w.data.toList[k].toNat : Int) - 97) = ((w.data.toList[k].toNat - 97 : Nat) : Int) := by
          rw [IntKind.wrap_u8]; rw [hb] at h256; omega
        simp only [z3G]
        rw [if_pos (by rw [z0d]; simp [zo5]; omega), zrI hq, Option.bind_some, r1, Option.bind_some, zkH hk, Option.bind_some, hb, wl, r2, Option.bind_some, z0T (by omega), Int.toNat_natCast, ← hst, zm7 hq]
      · simp only [z3G]
        rw [if_neg (by rw [z0d]; simp [zo5]), zvh, z0T (by omega), zAj]
    · simp only [z3Q]
      rw [if_neg (by omega), ← hl, List.take_length]
def zqx (F : List Nat) (s : Nat) : Nat -> Nat
  | 0 => 0
  | k + 1 => if s.testBit k = true then zqx F s k ||| 2 ^ F.getD k 0 else zqx F s k
theorem zo1 {F : List Nat} {s p : Nat} : ∀ k, (zqx F s k).testBit p = true ↔ ∃ i, i < k /\ s.testBit i = true /\ F.getD i 0 = p
  | 0 => by simp [zqx]
  | k + 1 => by
    have ih := zo1 (F := F) (s := s) (p := p) k
    unfold zqx
    by_cases hb : s.testBit k = true
    · rw [if_pos hb, Nat.testBit_or, Bool.or_eq_true, ih, Nat.testBit_two_pow]
      constructor
      · rintro (⟨i, h1, h2, h3⟩ | h)
        · exact ⟨i, by omega, h2, h3⟩
        · exact ⟨k, by omega, hb, by simpa using h⟩
      · rintro ⟨i, h1, h2, h3⟩
        by_cases e : i = k
        · subst e; right; simpa using h3
        · left; exact ⟨i, by omega, h2, h3⟩
    · rw [if_neg hb, ih]
      constructor
      · rintro ⟨i, h1, h2, h3⟩; exact ⟨i, by omega, h2, h3⟩
      · rintro ⟨i, h1, h2, h3⟩
        by_cases e : i = k
        · subst e; exact absurd h2 hb
        · exact ⟨i, by omega, h2, h3⟩
theorem zmH {F : List Nat} {s n : Nat} (hF : ∀ x ∈ F, x < n) : ∀ k, k <= F.length -> zqx F s k < 2 ^ n
  | 0, _ => Nat.two_pow_pos n
  | k + 1, hk => by
    unfold zqx
    split
    · exact zv9 (zmH hF k (by omega)) (Nat.pow_lt_pow_right (by omega) (hF _ (z0p (by omega))))
    · exact zmH hF k (by omega)
theorem zu9 {F : List Nat} {s n : Nat} (hn : n <= 12) (hF : ∀ x ∈ F, x < n) (hl : F.length <= 60) (hs : s < 2 ^ 62) : z2M (toI F) (s : Int) = some ((zqx F s F.length : Nat) : Int) := by
  unfold z2M
  have h62 : ∀ k, k <= F.length -> zqx F s k < 2 ^ 62 := fun k hk => Nat.lt_of_lt_of_le (zmH hF k hk) (Nat.pow_le_pow_right (by omega) (by omega))
  refine z0t (s := ((0 : Int), (0 : Int))) F.length (fun k => (((zqx F s k : Nat) : Int), (k : Int))) rfl (by simp only [LFm]; omega) (fun k hk => ?_) ?_
  · have hx := hF _ (z0p hk)
    simp only [z4m]
    rw [if_pos (by rw [z0d]; omega), z0Y hk, Option.bind_some, z0m _ (by omega), z0T (by omega)]
    have hb := zft (a := s) (q := k) hs (by omega)
    by_cases h : s.testBit k = true
    · rw [if_pos (hb.2 h), z0m _ (by omega), z5w (by omega), zm4 (h62 k (by omega)) (Nat.pow_lt_pow_right (by omega) (by omega))]
      simp only [zqx]; rw [if_pos h]
    · rw [if_neg (fun e => h (hb.1 e))]
      simp only [zqx]; rw [if_neg h]
  · simp only [z4m]
    rw [if_neg (by rw [z0d]; omega)]
theorem zkL {d : DFA} {m n : Nat} (hd : DfaOk d m n) (hn : n <= 12) {w : List UInt8} (hw : ztC m w) {s : Nat} (hs : s < 2 ^ n) : z2M (toI (zo5 d n w)) (s : Int) = some ((z4R d s w : Nat) : Int) := by
  have hF : ∀ x ∈ zo5 d n w, x < n := fun x hx => by
    obtain ⟨q, hq, rfl⟩ := List.mem_map.1 hx
    exact zsN hd (List.mem_range.1 hq) hw
  have hl : (zo5 d n w).length = n := by simp [zo5]
  rw [zu9 hn hF (by omega) (Nat.lt_of_lt_of_le hs (Nat.pow_le_pow_right (by omega) (by omega)))]
  congr 2
  refine Nat.eq_of_testBit_eq fun p => ?_
  rw [Bool.eq_iff_iff, zo1, zrn hd hw hs, hl]
  refine exists_congr fun i => and_congr_right fun hi => and_congr_right fun _ => ?_
  simp [zo5, List.getD, hi]
end
section
open Go
set_option maxRecDepth 100000
theorem zfG {d : DFA} {m n : Nat} (hd : DfaOk d m n) (hn : n <= 12) {T : List Nat} (hT : T.Nodup) (hl : T.length <= 1000) (hlt : ∀ t ∈ T, t < 2 ^ n) {w : List UInt8} (hw : ztC m w) (hr : ∀ t ∈ T, z4R d t w ∈ T) : z2G (toI (zo5 d n w)) (toI T) = some (toI (z6y d w T)) := by
  unfold z2G
  refine z0t (s := ((0 : Int), ([] : List (Int × Int)))) T.length (fun k => ((k : Int), zbg T k)) rfl (by simp only [LFm]; omega) (fun k hk => ?_) ?_
  · simp only [z2L]
    rw [if_pos (by rw [z0d]; omega), z0Y hk, Option.bind_some, z0T (by omega)]
    rfl
  · simp only [z2L]
    rw [if_neg (by rw [z0d]; omega), z0d, z0m _ (by unfold z1g; omega), Int.toNat_natCast]
    congr 1
    have e0 : toI (z6y d w T) = (List.range T.length).map fun k => ((T.idxOf (z4R d (T.getD k 0) w) : Nat) : Int) := by
      refine List.ext_getElem (by simp [toI, z6y]) fun i h1 h2 => ?_
      have hi : i < T.length := by simpa [toI, z6y] using h1
      simp [toI, z6y, List.getD, hi]
    rw [e0]
    refine z0t (s := ((0 : Int), List.replicate T.length (0 : Int))) T.length (fun k => ((k : Int), zm8 T.length (fun k => ((T.idxOf (z4R d (T.getD k 0) w) : Nat) : Int)) (fun _ => 0) k)) (by rw [zvi]; congr 1; exact (List.ext_getElem (by simp) fun i h1 h2 => by simp)) (by simp only [LFm]; omega) (fun k hk => ?_) ?_
    · have hm := hr _ (z0p hk)
      have hg := zdi hT T.length (Nat.le_refl _) (z7A hm)
      rw [z3H hm] at hg
      simp only [z2K]
      rw [if_pos (by rw [z0d]; omega), z0Y hk, Option.bind_some, zkL hd hn hw (hlt _ (z0p hk)), Option.bind_some, zrI hk, Option.bind_some, z0T (by omega), Int.toNat_natCast, hg, Option.getD_some, zm7 (f := fun k => ((T.idxOf (z4R d (T.getD k 0) w) : Nat) : Int)) hk]
    · simp only [z2K]
      rw [if_neg (by rw [z0d]; omega), zvh]
theorem zkr {p : List Nat} (hl : p.length <= 100000) : z3h (toI p) = some (decide (p = List.range p.length)) := by
  unfold z3h
  rw [z7X (s := (0 : Int)) p.length (fun k => (k : Int)) (fun k => !decide (p.getD k 0 = k)) (fun _ => some false) (x := some true) rfl (by simp only [LFm]; omega) ?_ ?_]
  · rw [zhZ]
    simp only [Bool.not_not]
    have : ((List.range p.length).all fun k => decide (p.getD k 0 = k)) = decide (p = List.range p.length) := by
      rw [Bool.eq_iff_iff, decide_eq_true_eq, List.all_eq_true]
      constructor
      · intro h
        refine List.ext_getElem (by simp) fun i h1 h2 => ?_
        have := h i (List.mem_range.2 h1)
        rw [decide_eq_true_eq, List.getD, List.getElem?_eq_getElem h1, Option.getD_some] at this
        rw [this, List.getElem_range]
      · intro h k hk
        have hk := List.mem_range.1 hk
        rw [decide_eq_true_eq]
        rw [h, zh7 hk]
    rw [this]
    cases decide (p = List.range p.length) <;> rfl
  · intro k hk
    simp only [z3g]
    rw [if_pos (by rw [z0d]; omega), z0Y hk, Option.bind_some, z0T (by omega)]
    by_cases h : p.getD k 0 = k
    · rw [if_pos (by omega), decide_eq_true h, if_neg (by simp)]
    · rw [if_neg (by omega), decide_eq_false h, if_pos (by simp)]
  · simp only [z3g]
    rw [if_neg (by rw [z0d]; omega)]
def zhr (p : List Nat) : List Int := p.flatMap fun k => [((k / 256 : Nat) : Int), ((k % 256 : Nat) : Int)]
theorem zuO {p : List Nat} (hl : p.length <= 100000) (hp : ∀ k ∈ p, k < 65536) : z4l (toI p) = some (z4I (zhr p)) := by
  have hlen : ∀ q : List Nat, (zhr q).length = 2 * q.length := fun q => by
    unfold zhr; rw [znF (m := 2) (fun _ => rfl)]; omega
  unfold z4l
  rw [z0d, z1Z (by omega) (by omega), z0m _ (by unfold z1g; omega)]
  refine z0t (s := ((0 : Int), ([] : List Int))) p.length (fun k => ((k : Int), zhr (p.take k))) rfl (by simp only [LFm]; omega) (fun k hk => ?_) ?_
  · have h1 := hp _ (z0p hk)
    have h2 := hlen (p.take k)
    rw [List.length_take] at h2
    have e1 : IntKind.u8.wrap (z0l .i64 ((p.getD k 0 : Nat) : Int) 8) = ((p.getD k 0 / 256 : Nat) : Int) := by
      have := zn4 (a := p.getD k 0) (q := 8) (by omega)
      rw [show ((8 : Nat) : Int) = 8 from rfl] at this
      rw [this, Nat.shiftRight_eq_div_pow, IntKind.wrap_u8]; omega
    have e2 : IntKind.u8.wrap ((p.getD k 0 : Nat) : Int) = ((p.getD k 0 % 256 : Nat) : Int) := by rw [IntKind.wrap_u8]; omega
    simp only [z4G]
    rw [if_pos (by rw [z0d]; omega), z0Y hk, Option.bind_some, z0m _ (by omega), z0m _ (by unfold z1c; omega), z0T (by omega), e1, e2, z4r hk]
    unfold zhr
    rw [List.flatMap_append]
    rfl
  · simp only [z4G]
    rw [if_neg (by rw [z0d]; omega), List.take_length]
theorem zuJ : ∀ {p q : List Nat}, (∀ k ∈ p, k < 65536) -> (∀ k ∈ q, k < 65536) -> p.length = q.length -> z4I (zhr p) = z4I (zhr q) -> p = q := by
  have key : ∀ {p q : List Nat}, (∀ k ∈ p, k < 65536) -> (∀ k ∈ q, k < 65536) -> p.length = q.length -> (zhr p).map (fun z : Int => UInt8.ofNat z.toNat) = (zhr q).map (fun z : Int => UInt8.ofNat z.toNat) -> p = q := by
    intro p
    induction p with
    | nil => intro q _ _ hl _; exact (List.eq_nil_of_length_eq_zero hl.symm).symm
    | cons a p ih =>
      intro q hp hq hl h
      cases q with
      | nil => cases hl
      | cons b q =>
        simp only [zhr, List.flatMap_cons, List.cons_append, List.nil_append, List.map_cons, List.cons.injEq] at h
        obtain ⟨h1, h2, h3⟩ := h
        have ha := hp a (List.mem_cons_self ..)
        have hb := hq b (List.mem_cons_self ..)
        have g1 := congrArg UInt8.toNat h1
        have g2 := congrArg UInt8.toNat h2
        simp only [Int.toNat_natCast, UInt8.toNat_ofNat'] at g1 g2
        have : a = b := by omega
        subst this
        rw [ih (fun k hk => hp k (List.mem_cons_of_mem _ hk)) (fun k hk => hq k (List.mem_cons_of_mem _ hk)) (by simpa using hl) h3]
  intro p q hp hq hl h
  refine key hp hq hl ?_
  have := congrArg ByteArray.data h
  simpa [z4I] using this
end
section
open Go
noncomputable section
set_option maxRecDepth 100000
set_option maxHeartbeats 6000000
abbrev z2b (a0 : DFA) (a1 : Imgs) (a2 : List (Int × Int)) (v139 : Int) (w145 : List Int) (w191 : Int) (v236 : Int) (v140 : Int) : Int × List ByteArray × List (List Int) × (List (ByteArray × Bool)) -> Option ((Int × List ByteArray × List (List Int) × (List (ByteArray × Bool))) ⊕ ((Int × List ByteArray × List (List Int) × (List (ByteArray × Bool))) ⊕ (Hol × Int)))
  | (w249, w250, w251, w252) =>
  if w249 < a0.letters then
    (atI a1.sets v236).bind fun v265 =>
    (z3z a0 ⟨#[UInt8.ofNat (IntKind.u8.wrap (IntKind.i64.wrap (97 + w249))).toNat]⟩).bind fun v266 =>
    (z2M v266 v265).bind fun v267 =>
    (atI a1.class_ ((z8D v267 a2).getD 0)).bind fun v268 =>
    (atI a1.class_ v139).bind fun v269 =>
    if v268 = v269 then
      (atI a1.words v236).bind fun v270 =>
      chk (z6K v270 ⟨#[UInt8.ofNat (IntKind.u8.wrap (IntKind.i64.wrap (97 + w249))).toNat]⟩) <|
      (atI a1.back ((z8D v267 a2).getD 0)).bind fun v271 =>
      chk (z6K (v270 ++ ⟨#[UInt8.ofNat (IntKind.u8.wrap (IntKind.i64.wrap (97 + w249))).toNat]⟩) v271) <|
      (z3z a0 ((v270 ++ ⟨#[UInt8.ofNat (IntKind.u8.wrap (IntKind.i64.wrap (97 + w249))).toNat]⟩) ++ v271)).bind fun v272 =>
      (z2G v272 w145).bind fun v273 =>
      (z3h v273).bind fun v274 =>
      if v274 = true then
        z0e (IntKind.i64.wrap (w249 + 1), w250, w251, w252)
      else
        (z4l v273).bind fun v275 =>
        if ((z8D v275 w252).getD false) = true then
          z0e (IntKind.i64.wrap (w249 + 1), w250, w251, w252)
        else
          if 2048 < ((v270.size : Int) + 1 + (v271.size : Int)) then
            z0k <|
            z0k <|
            some ((⟨0, [], [], []⟩ : Hol), 3)
          else
            (z4l v273).bind fun v276 =>
            chk (z1c 16 (w250.length + 1)) <|
            chk (z1c 24 (w251.length + 1)) <|
            z0e (IntKind.i64.wrap (w249 + 1), w250 ++ [(v270 ++ ⟨#[UInt8.ofNat (IntKind.u8.wrap (IntKind.i64.wrap (97 + w249))).toNat]⟩) ++ v271], w251 ++ [v273], zaE v276 true w252)
    else
      z0e (IntKind.i64.wrap (w249 + 1), w250, w251, w252)
  else
    z0k <|
    z0e (IntKind.i64.wrap (w191 + 1), w250, w251, w252)
instance {a0 : DFA} {a1 : Imgs} {a2 : List (Int × Int)} {v139 : Int} {w145 : List Int} {w191 : Int} {v236 : Int} {v140 : Int} : Hd (z2b a0 a1 a2 v139 w145 w191 v236 v140) := ⟨fun (w249, w250, w251, w252) => ([(61, xI w249)], [(11, .vr [.sc (.int .i64 v140), .os 1 w145.length (w145.map fun x0 => .sc (.int .i64 x0)), .os 1 w250.length (w250.map fun x0 => .sc (.string x0)), .os 1 w251.length (w251.map fun x0 => .os 1 x0.length (x0.map fun x1 => .sc (.int .i64 x1)))]), (14, .mp none (w252.map fun x0 => (.string x0.1, .bool x0.2)))])⟩
abbrev z3p (a0 : DFA) (a1 : Imgs) (a2 : List (Int × Int)) (a3 : List Int) (v139 : Int) (v140 : Int) (w145 : List Int) : Int × List ByteArray × List (List Int) × (List (ByteArray × Bool)) -> Option ((Int × List ByteArray × List (List Int) × (List (ByteArray × Bool))) ⊕ (Hol × Int))
  | (w191, w192, w193, w194) =>
  if w191 < (a3.length : Int) then
    (atI a3 w191).bind fun v236 =>
    z0j (z2b a0 a1 a2 v139 w145 w191 v236 v140) LFm (0, w192, w193, w194)
  else
    z0k <|
    some ((⟨v140, w145, w192, w193⟩ : Hol), 0)
instance {a0 : DFA} {a1 : Imgs} {a2 : List (Int × Int)} {a3 : List Int} {v139 : Int} {v140 : Int} {w145 : List Int} : Hd (z3p a0 a1 a2 a3 v139 v140 w145) := ⟨fun (w191, w192, w193, w194) => ([(55, xI w191)], [(11, .vr [.sc (.int .i64 v140), .os 1 w145.length (w145.map fun x0 => .sc (.int .i64 x0)), .os 1 w192.length (w192.map fun x0 => .sc (.string x0)), .os 1 w193.length (w193.map fun x0 => .os 1 x0.length (x0.map fun x1 => .sc (.int .i64 x1)))]), (14, .mp none (w194.map fun x0 => (.string x0.1, .bool x0.2)))])⟩
abbrev z3F (a0 : DFA) (a1 : Imgs) (a2 : List (Int × Int)) (a3 : List Int) (v139 : Int) (v140 : Int) (v141 : List Int) : Int × List Int -> Option ((Int × List Int) ⊕ (Hol × Int))
  | (w144, w145) =>
  if w144 < (v141.length : Int) then
    (atI v141 w144).bind fun v148 =>
    (atI a1.sets v148).bind fun v149 =>
    chk (z1c 8 (w145.length + 1)) <|
    z0e (IntKind.i64.wrap (w144 + 1), w145 ++ [v149])
  else
    z0k <|
    z0j (z3p a0 a1 a2 a3 v139 v140 w145) LFm (0, [], [], ([] : List (ByteArray × Bool)))
instance {a0 : DFA} {a1 : Imgs} {a2 : List (Int × Int)} {a3 : List Int} {v139 : Int} {v140 : Int} {v141 : List Int} : Hd (z3F a0 a1 a2 a3 v139 v140 v141) := ⟨fun (w144, w145) => ([(37, xI w144)], [(11, .vr [.sc (.int .i64 v140), .os 1 w145.length (w145.map fun x0 => .sc (.int .i64 x0)), .os 1 0 [], .os 1 0 []])])⟩
def z3K (a0 : DFA) (a1 : Imgs) (a2 : List (Int × Int)) (a3 : List Int) : Option (Hol × Int) :=
  (atI a3 0).bind fun v139 =>
  (atI a1.sets v139).bind fun v140 =>
  (atI a1.tiles v139).bind fun v141 =>
  z0j (z3F a0 a1 a2 a3 v139 v140 v141) LFm (0, [])
instance holonomy_ofClass_ok {a0 : DFA} {a1 : Imgs} {a2 : List (Int × Int)} {a3 : List Int} : Ok (z3K a0 a1 a2 a3) (fun r => L 26 [.agg [.sc (.int .i64 a0.letters), .sc (.int .i64 a0.start), .sl a0.final.length (a0.final.map fun x0 => .sc (.bool x0)), .sl a0.next.length (a0.next.map fun x0 => .sl x0.length (x0.map fun x1 => .sc (.int .i64 x1)))], .agg [.sl a1.sets.length (a1.sets.map fun x0 => .sc (.int .i64 x0)), .sl a1.class_.length (a1.class_.map fun x0 => .sc (.int .i64 x0)), .sl a1.height.length (a1.height.map fun x0 => .sc (.int .i64 x0)), .sl a1.tiles.length (a1.tiles.map fun x0 => .sl x0.length (x0.map fun x1 => .sc (.int .i64 x1))), .sl a1.words.length (a1.words.map fun x0 => .sc (.string x0)), .sl a1.back.length (a1.back.map fun x0 => .sc (.string x0))], .mr (some .i64) (a2.map fun x0 => (.int .i64 x0.1, .int .i64 x0.2)), .sl a3.length (a3.map fun x0 => .sc (.int .i64 x0))] = some (.tup [.agg [.sc (.int .i64 r.1.set), .sl r.1.tiles.length (r.1.tiles.map fun x0 => .sc (.int .i64 x0)), .sl r.1.words.length (r.1.words.map fun x0 => .sc (.string x0)), .sl r.1.perms.length (r.1.perms.map fun x0 => .sl x0.length (x0.map fun x1 => .sc (.int .i64 x1)))], .sc (.int .i64 r.2)], [.dead, .dead, .dead, .dead])) := ⟨fun r h => by have h := z4p h; unfold z3K at h; exact zsO zA3 zC4 zDS⟩
end
end
section
open Go
noncomputable section
set_option maxRecDepth 100000
set_option maxHeartbeats 6000000
abbrev z4Z (a0 : DFA) (v19 : Imgs × Int) (w22 : List (Int × Int)) (v25 : List Int × List (List Int)) : Int × List Hol -> Option ((Int × List Hol) ⊕ (List Hol × Int))
  | (w29, w30) =>
  if w29 < (v25.1.length : Int) then
    (atI v25.1 w29).bind fun v34 =>
    (atI v25.2 v34).bind fun v35 =>
    (z3K a0 v19.1 w22 v35).bind fun v36 =>
    if v36.2 = 0 then
      chk (z1c 80 (w30.length + 1)) <|
      z0e (IntKind.i64.wrap (w29 + 1), w30 ++ [v36.1])
    else
      z0k <|
      some ([], v36.2)
  else
    z0k <|
    some (w30, 0)
instance {a0 : DFA} {v19 : Imgs × Int} {w22 : List (Int × Int)} {v25 : List Int × List (List Int)} : Hd (z4Z a0 v19 w22 v25) := ⟨fun (w29, w30) => ([(50, xI w29)], [(11, .os 4 w30.length (w30.flatMap fun x0 => [.sc (.int .i64 x0.set), .sl x0.tiles.length (x0.tiles.map fun x1 => .sc (.int .i64 x1)), .sl x0.words.length (x0.words.map fun x1 => .sc (.string x1)), .sl x0.perms.length (x0.perms.map fun x1 => .sl x1.length (x1.map fun x2 => .sc (.int .i64 x2)))]))])⟩
abbrev z5G (a0 : DFA) (v19 : Imgs × Int) : Int × (List (Int × Int)) -> Option ((Int × (List (Int × Int))) ⊕ (List Hol × Int))
  | (w21, w22) =>
  if w21 < (v19.1.sets.length : Int) then
    (atI v19.1.sets w21).bind fun v24 =>
    z0e (IntKind.i64.wrap (w21 + 1), zaE v24 w21 w22)
  else
    z0k <|
    (z3L v19.1).bind fun v25 =>
    chk (z1g 80 (v25.1.length : Int)) <|
    z0j (z4Z a0 v19 w22 v25) LFm (0, [])
instance {a0 : DFA} {v19 : Imgs × Int} : Hd (z5G a0 v19) := ⟨fun (w21, w22) => ([(31, xI w21)], [(6, .mp (some .i64) (w22.map fun x0 => (.int .i64 x0.1, .int .i64 x0.2)))])⟩
def z5o (a0 : DFA) : Option (List Hol × Int) :=
  (z8X a0).bind fun v19 =>
  if v19.2 = 0 then
    z0j (z5G a0 v19) LFm (0, ([] : List (Int × Int)))
  else
    some ([], v19.2)
instance holonomy_Of_ok {a0 : DFA} : Ok (z5o a0) (fun r => L 9 [.agg [.sc (.int .i64 a0.letters), .sc (.int .i64 a0.start), .sl a0.final.length (a0.final.map fun x0 => .sc (.bool x0)), .sl a0.next.length (a0.next.map fun x0 => .sl x0.length (x0.map fun x1 => .sc (.int .i64 x1)))]] = some (.tup [.sl r.1.length (r.1.flatMap fun x0 => [.sc (.int .i64 x0.set), .sl x0.tiles.length (x0.tiles.map fun x1 => .sc (.int .i64 x1)), .sl x0.words.length (x0.words.map fun x1 => .sc (.string x1)), .sl x0.perms.length (x0.perms.map fun x1 => .sl x1.length (x1.map fun x2 => .sc (.int .i64 x2)))]), .sc (.int .i64 r.2)], [.dead])) := ⟨fun r h => by have h := z4p h; unfold z5o at h; exact zsO zCj fn9 bd9⟩
end
end
section
open Go
set_option maxRecDepth 100000
def zd5 : List (List Nat) -> List (ByteArray × Bool) := List.foldl (fun mp q => zaE (z4I (zhr q)) true mp) []
theorem zrk (Q : List (List Nat)) (p : List Nat) : zd5 (Q ++ [p]) = zaE (z4I (zhr p)) true (zd5 Q) := by
  unfold zd5; rw [List.foldl_append]; rfl
theorem ztc {L : Nat} {p : List Nat} (hp : p.length = L) (hb : ∀ k ∈ p, k < 65536) : ∀ {Q : List (List Nat)}, (∀ q ∈ Q, q.length = L /\ ∀ k ∈ q, k < 65536) -> (((z8D (z4I (zhr p)) (zd5 Q)).getD false) = true ↔ p ∈ Q) := by
  have key : ∀ (Q : List (List Nat)) (mp : List (ByteArray × Bool)), (∀ q ∈ Q, q.length = L /\ ∀ k ∈ q, k < 65536) -> (((z8D (z4I (zhr p)) (Q.foldl (fun mp q => zaE (z4I (zhr q)) true mp) mp)).getD false) = true ↔ (p ∈ Q ∨ ((z8D (z4I (zhr p)) mp).getD false) = true)) := by
    intro Q
    induction Q with
    | nil => intro mp _; simp
    | cons q Q ih =>
      intro mp hQ
      rw [List.foldl_cons, ih _ (fun x hx => hQ x (List.mem_cons_of_mem _ hx)), zf8, List.mem_cons]
      have hq := hQ q (List.mem_cons_self ..)
      by_cases e : q = p
      · subst e
        rw [if_pos rfl]; simp
      · have : ¬ z4I (zhr q) = z4I (zhr p) := fun h => e (zuJ hq.2 hb (by rw [hq.1, hp]) h)
        rw [if_neg this]
        constructor
        · rintro (h | h)
          · exact .inl (.inr h)
          · exact .inr h
        · rintro ((h | h) | h)
          · exact absurd h.symm e
          · exact .inl h
          · exact .inr h
  intro Q hQ
  have := key Q [] hQ
  rw [show zd5 Q = Q.foldl (fun mp q => zaE (z4I (zhr q)) true mp) [] from rfl, this]
  simp [z8D]
def ztE (d : DFA) (m n : Nat) (S T : List Nat) (l : List Nat) : HS := l.foldl (fun st i => zjV d m n S T i st m) ([], [])
theorem zvl (d : DFA) (m n : Nat) (S T : List Nat) (c k : Nat) : ztE d m n S T (zaF d m n S c k) = zij d m n S T c k := by
  unfold ztE zaF zij
  rw [List.foldl_filter]
  congr 1
  funext st i
  by_cases h : clN d m n S i = c
  · rw [if_pos (by simpa using h), if_pos h]
  · rw [if_neg (by simpa using h), if_neg h]
theorem ztD (d : DFA) (m n : Nat) (S T l : List Nat) (i : Nat) : ztE d m n S T (l ++ [i]) = zjV d m n S T i (ztE d m n S T l) m := by
  unfold ztE; rw [List.foldl_append]; rfl
section
variable {d : DFA} {m n : Nat} {S : List Nat} (hd : DfaOk d m n) (hn : n <= 7) (hS : SetsP d m n S)
include hd hn hS
theorem zrM {c k i : Nat} (h : i ∈ zaF d m n S c k) : i < k /\ clN d m n S i = c := by
  have _u := hd
  have _v := hn
  have _w := hS
  unfold zaF at h
  rw [List.mem_filter, List.mem_range, decide_eq_true_eq] at h
  exact h
theorem zwU {c : Nat} : ∀ {l : List Nat}, (∀ i ∈ l, i < S.length /\ clN d m n S i = c) -> HInv d m n S c (l.length * m) (ztE d m n S (z4n S (z2I d m n S c)) l) := by
  have key : ∀ (l : List Nat) (st : HS) (B : Nat), HInv d m n S c B st -> (∀ i ∈ l, i < S.length /\ clN d m n S i = c) -> HInv d m n S c (B + l.length * m) (l.foldl (fun st i => zjV d m n S (z4n S (z2I d m n S c)) i st m) st) := by
    intro l
    induction l with
    | nil => intro st B h _; simpa using h
    | cons i l ih =>
      intro st B h hl
      have hi := hl i (List.mem_cons_self ..)
      have := ih _ _ (zjU hd hn hS h hi.1 hi.2 m (Nat.le_refl _)) (fun j hj => hl j (List.mem_cons_of_mem _ hj))
      rw [List.foldl_cons]
      have e : B + (i :: l).length * m = B + m + l.length * m := by rw [List.length_cons, Nat.add_mul]; omega
      rw [e]; exact this
  intro l hl
  have := key l ([], []) 0 ⟨rfl, by simp, fun j hj => by simp at hj⟩ hl
  rw [Nat.zero_add] at this
  exact this
theorem zvt {c B : Nat} {st : HS} (hc : c < (z8f d m n S).length) (h : HInv d m n S c B st) : ∀ q ∈ st.2, q.length = (z4n S (z2I d m n S c)).length /\ ∀ k ∈ q, k < 65536 := fun q hq => by
  have hk := (z3B hd hn hS hc).2
  have htl := zpt hd hn hS hk
  refine ⟨zhR h q hq, fun k hkq => ?_⟩
  obtain ⟨j, hj, rfl⟩ := List.getElem_of_mem hq
  obtain ⟨l1, l2, l3⟩ := zs2 h (j := j) (by rw [h.len]; exact hj)
  rw [List.getD, List.getElem?_eq_getElem hj, Option.getD_some] at l3
  rw [l3] at hkq
  have := (zh8 hd hn hS hk l1).2.1 k hkq
  omega
theorem zme {c i a : Nat} {st : HS} {B : Nat} {w : Int} (hB : B <= 10000) (h : HInv d m n S c B st) (hi : i < S.length) (ha : a < m) (hc : clN d m n S i = c) (hcl : c < (z8f d m n S).length) (z : Int) :
    z2b d (z2m d m n S) (zbg S S.length) ((z2I d m n S c : Nat) : Int) (toI (z4n S (z2I d m n S c))) w (i : Int) z ((a : Int), st.1, st.2.map toI, zd5 st.2) = z0e (((a + 1 : Nat) : Int), (zeH d m n S (z4n S (z2I d m n S c)) i st a).1, (zeH d m n S (z4n S (z2I d m n S c)) i st a).2.map toI, zd5 (zeH d m n S (z4n S (z2I d m n S c)) i st a).2) := by
  have h128 : 2 ^ n <= 128 := Nat.pow_le_pow_right (n := 2) (by omega) hn
  have hm := hd.m6
  obtain ⟨j1, j2⟩ := zsm hd hn hS hi ha
  obtain ⟨f1, hk⟩ := z3B hd hn hS hcl
  have hsat : atI (z2m d m n S).sets (i : Int) = some ((S.getD i 0 : Nat) : Int) := z0Y hi
  have hcat : ∀ i, i < S.length -> atI (z2m d m n S).class_ (i : Int) = some ((clN d m n S i : Nat) : Int) := fun i hi => z1q hi
  have hwat : atI (z2m d m n S).words (i : Int) = some (zbp d m n S i) := z1q hi
  have hbat : ∀ i, i < S.length -> atI (z2m d m n S).back (i : Int) = some (zfB d m n S i) := fun i hi => z1q hi
  have hix : (z8D ((mvN d (S.getD i 0) a : Nat) : Int) (zbg S S.length)).getD 0 = ((zqe d S i a : Nat) : Int) := by
    rw [← j2, zdi hS.nd _ (Nat.le_refl _) j1]; rfl
  have h26 : (UInt8.ofNat (97 + a)).toNat = 97 + a := zdg (by omega)
  have hlw : ztC m (zsS a).data.toList := fun c hc => by
    rw [z8T, List.mem_singleton] at hc
    subst hc; omega
  have hap : z2M (toI (zo5 d n (zsS a).data.toList)) ((S.getD i 0 : Nat) : Int) = some ((mvN d (S.getD i 0) a : Nat) : Int) := by
    rw [zkL hd (by omega) hlw (hS.lt _ (z0p hi)), z8T, z4R, z4R, h26, Nat.add_sub_cancel_left]
  simp only [z2b]
  rw [hd.lt, if_pos (by omega), hsat, Option.bind_some, zcG (by omega), zkO hd (by omega) hlw (by rw [z4x]; omega), Option.bind_some, hap, Option.bind_some, hix, hcat _ j1, Option.bind_some, hcat _ hk, Option.bind_some, f1]
  unfold zeH
  by_cases hj : clN d m n S (zqe d S i a) = clN d m n S i
  · obtain ⟨l1, l2⟩ := zml hd hn hS hi ha hj
    have hf : z2I d m n S c = z3a d m n S i := by unfold z2I; rw [← hc]; rfl
    rw [← hf] at l1
    obtain ⟨_, w1⟩ := zhp hd hn hS hi
    obtain ⟨_, w2⟩ := zib hd hn hS j1
    have htl := zpt hd hn hS hk
    obtain ⟨t1, t2⟩ := zaU hd hn hS hk
    have hwd : (zbp d m n S i ++ zsS a ++ zfB d m n S (zqe d S i a)) = hwN d m n S i a := rfl
    have hbd := h.bd
    have hln := h.len
    have hpl := zde d (hwN d m n S i a).data.toList (z4n S (z2I d m n S c))
    have hpf := (zh8 hd hn hS hk l1).2.1
    have hp6 : ∀ k ∈ z6y d (hwN d m n S i a).data.toList (z4n S (z2I d m n S c)), k < 65536 := fun k hk' => by have := hpf k hk'; omega
    have hsg := ztc hpl hp6 (zvt hd hn hS hcl h)
    rw [if_pos (by omega), hwat, Option.bind_some, z0m _ (by unfold z6K; rw [z4x]; omega), hbat _ j1, Option.bind_some, z0m _ (by unfold z6K; rw [zbk, z4x]; omega), hwd,
      zkO hd (by omega) l1.hw (by omega), Option.bind_some, zfG hd (by omega) t1 (by omega) (fun t ht => (t2 t ht).2.2) l1.hw (zlS hd hn hS hk l1), Option.bind_some, zkr (by omega), Option.bind_some, hpl, if_pos hj, z0T (by omega)]
    by_cases hid : z6y d (hwN d m n S i a).data.toList (z4n S (z2I d m n S c)) = List.range (z4n S (z2I d m n S c)).length
    · rw [if_pos (by simpa using hid), if_pos (.inl hid)]
    · rw [if_neg (by simpa using hid), zuO (by omega) hp6, Option.bind_some]
      by_cases hin : z6y d (hwN d m n S i a).data.toList (z4n S (z2I d m n S c)) ∈ st.2
      · rw [if_pos (hsg.2 hin), if_pos (.inr hin)]
      · rw [if_neg (fun e => hin (hsg.1 e)), if_neg (by omega), Option.bind_some, z0m _ (by unfold z1c; omega), z0m _ (by unfold z1c; rw [List.length_map]; omega), if_neg (fun e => e.elim hid hin)]
        simp only [zrk, List.map_append, List.map_cons, List.map_nil]
  · rw [if_neg (by omega), if_neg hj, z0T (by omega)]
theorem zq5 {c i : Nat} {st : HS} {B : Nat} {w : Nat} (hB : B <= 9000) (h : HInv d m n S c B st) (hi : i < S.length) (hc : clN d m n S i = c) (hcl : c < (z8f d m n S).length) (hw : w < 1000) (z : Int) :
    z0j (z2b d (z2m d m n S) (zbg S S.length) ((z2I d m n S c : Nat) : Int) (toI (z4n S (z2I d m n S c))) (w : Int) (i : Int) z) LFm (0, st.1, st.2.map toI, zd5 st.2) = z0e (((w + 1 : Nat) : Int), (zjV d m n S (z4n S (z2I d m n S c)) i st m).1, (zjV d m n S (z4n S (z2I d m n S c)) i st m).2.map toI, zd5 (zjV d m n S (z4n S (z2I d m n S c)) i st m).2) := by
  have hm := hd.m6
  refine z0t (s := ((0 : Int), st.1, st.2.map toI, zd5 st.2)) m (fun a => ((a : Int), (zjV d m n S (z4n S (z2I d m n S c)) i st a).1, (zjV d m n S (z4n S (z2I d m n S c)) i st a).2.map toI, zd5 (zjV d m n S (z4n S (z2I d m n S c)) i st a).2)) rfl (by simp only [LFm]; omega) (fun a ha => ?_) ?_
  · rw [zme hd hn hS (B := B + a) (by omega) (zjU hd hn hS h hi hc a (by omega)) hi ha hc hcl, zhB]
  · simp only [z2b]
    rw [hd.lt, if_neg (by omega), z0T (by omega)]
theorem zpK {c : Nat} (hcl : c < (z8f d m n S).length) (hSl : S.length <= 128) : z3K d (z2m d m n S) (zbg S S.length) (toI (zaF d m n S c S.length)) = some (zkQ d m n S c, 0) := by
  have hm := hd.m6
  obtain ⟨f1, hk⟩ := z3B hd hn hS hcl
  obtain ⟨_, m2⟩ := zng hd hn hS hcl
  have hta : atI (z2m d m n S).tiles ((z2I d m n S c : Nat) : Int) = some (toI (z7D S (z2I d m n S c))) := z1q hk
  have hsat : atI (z2m d m n S).sets ((z2I d m n S c : Nat) : Int) = some ((S.getD (z2I d m n S c) 0 : Nat) : Int) := z0Y hk
  have htl := zpt hd hn hS hk
  have hl := zqV (S := S) (k := z2I d m n S c)
  have hmf : ∀ i ∈ zaF d m n S c S.length, i < S.length /\ clN d m n S i = c := fun i hi => zrM hd hn hS hi
  have hml : (zaF d m n S c S.length).length <= 128 := by
    unfold zaF
    exact Nat.le_trans (List.length_filter_le _ _) (by rw [List.length_range]; exact hSl)
  unfold z3K
  rw [m2, Option.bind_some, hsat, Option.bind_some, hta, Option.bind_some]
  refine z0t (s := ((0 : Int), ([] : List Int))) (z7D S (z2I d m n S c)).length (fun q => ((q : Int), toI ((z4n S (z2I d m n S c)).take q))) rfl (by simp only [LFm]; omega) (fun q hq => ?_) ?_
  · have hx : (z7D S (z2I d m n S c)).getD q 0 < S.length := zhf (zcs (z0p hq)).1
    have e : (z4n S (z2I d m n S c)).getD q 0 = S.getD ((z7D S (z2I d m n S c)).getD q 0) 0 := by simp [z4n, List.getD, hq]
    have hsat : atI (z2m d m n S).sets (((z7D S (z2I d m n S c)).getD q 0 : Nat) : Int) = some ((S.getD ((z7D S (z2I d m n S c)).getD q 0) 0 : Nat) : Int) := z0Y hx
    simp only [z3F]
    rw [if_pos (by rw [z0d]; omega), z0Y hq, Option.bind_some, hsat, Option.bind_some, z0m _ (by unfold z1c; rw [z0d, List.length_take]; omega), z0T (by omega), z4r (by omega), z3k, e]
  · simp only [z3F]
    rw [if_neg (by rw [z0d]; omega), ← hl, List.take_length]
    congr 1
    refine z0t (s := ((0 : Int), ([] : List ByteArray), ([] : List (List Int)), ([] : List (ByteArray × Bool)))) (zaF d m n S c S.length).length (fun k => ((k : Int), (ztE d m n S (z4n S (z2I d m n S c)) ((zaF d m n S c S.length).take k)).1, (ztE d m n S (z4n S (z2I d m n S c)) ((zaF d m n S c S.length).take k)).2.map toI, zd5 (ztE d m n S (z4n S (z2I d m n S c)) ((zaF d m n S c S.length).take k)).2)) rfl (by simp only [LFm]; omega) (fun k hk' => ?_) ?_
    · have hmem := hmf _ (z0p hk')
      have hI := zwU hd hn hS (c := c) (l := (zaF d m n S c S.length).take k) (fun i hi => hmf i (List.mem_of_mem_take hi))
      have hB : ((zaF d m n S c S.length).take k).length * m <= 128 * 6 := Nat.mul_le_mul (by rw [List.length_take]; omega) hm
      simp only [z3p]
      rw [if_pos (by rw [z0d]; omega), z0Y hk', Option.bind_some, zq5 hd hn hS (by omega) hI hmem.1 hmem.2 hcl (by omega), z4r hk', ztD]
    · simp only [z3p]
      rw [if_neg (by rw [z0d]; omega), List.take_length, zvl]
      rfl
end
theorem zx2 {d : DFA} {m n : Nat} (hd : DfaOk d m n) (hn : n <= 7) : ∃ O, z5o d = some (O.map (zkQ d m n (z2E d m n)), 0) /\ zkS (hC d m n (z2E d m n)) O /\ O.Perm (z7G d m n (z2E d m n) (z2E d m n).length) := by
  have h128 : 2 ^ n <= 128 := Nat.pow_le_pow_right (n := 2) (by omega) hn
  have hS := z8r hd
  have hSl := z0z hS.nd hS.lt
  unfold z5o
  rw [zAk hd hn, Option.bind_some, if_pos rfl]
  generalize z2E d m n = S at *
  obtain ⟨O, e, o1, o2⟩ := zmD hd hn hS (by omega)
  refine ⟨O, ?_, o1, o2⟩
  have hOc : ∀ c ∈ O, c < (z8f d m n S).length := fun c hc => by
    have := o2.mem_iff.1 hc
    unfold z7G at this
    exact List.mem_range.1 (List.mem_filter.1 this).1
  have hOl : O.length <= 128 := by
    rw [o2.length_eq]; unfold z7G
    refine Nat.le_trans (List.length_filter_le _ _) ?_
    rw [List.length_range]
    have := z7a (z1F d m n S) S.length
    omega
  have hsl : (z2m d m n S).sets.length = S.length := z0d _
  refine z0t (s := ((0 : Int), ([] : List (Int × Int)))) S.length (fun k => ((k : Int), zbg S k)) rfl (by simp only [LFm]; omega) (fun k hk => ?_) ?_
  · have hsat : atI (z2m d m n S).sets (k : Int) = some ((S.getD k 0 : Nat) : Int) := z0Y hk
    simp only [z5G]
    rw [hsl, if_pos (by omega), hsat, Option.bind_some, z0T (by omega)]
    rfl
  · simp only [z5G]
    rw [hsl, if_neg (by omega), e, Option.bind_some, z0m _ (by unfold z1g; rw [z0d]; omega)]
    congr 1
    refine z0t (s := ((0 : Int), ([] : List Hol))) O.length (fun t => ((t : Int), (O.take t).map (zkQ d m n S))) rfl (by simp only [LFm]; omega) (fun t ht => ?_) ?_
    · have hc := hOc _ (z0p ht)
      have hma := (zng hd hn hS hc).1
      simp only [z4Z]
      rw [if_pos (by rw [z0d]; omega), z0Y ht, Option.bind_some, hma, Option.bind_some, zpK hd hn hS hc (by omega), Option.bind_some, if_pos rfl, z0m _ (by unfold z1c; rw [List.length_map, List.length_take]; omega), z0T (by omega), z4r ht, List.map_append, List.map_cons, List.map_nil]
    · simp only [z4Z]
      rw [if_neg (by rw [z0d]; omega), List.take_length]
theorem zv8 {H : Nat -> Nat} {O P X : List Nat} (h1 : zkS H O) (h2 : zkS H P) (p1 : O.Perm X) (p2 : P.Perm X) : O = P := by
  refine List.Perm.eq_of_pairwise (le := leH H) (fun a b _ _ h3 h4 => ?_) h1 h2 (p1.trans p2.symm)
  unfold leH at h3 h4
  omega
theorem zvL {d : DFA} {m n : Nat} (hd : DfaOk d m n) (hn : n <= 7) : ∃ X, z5o d = some (X, 0) /\ z9G d = some (X, 0) /\ ∃ O : List Nat, X = O.map (zkQ d m n (z2E d m n)) /\ O.Perm (z7G d m n (z2E d m n) (z2E d m n).length) := by
  obtain ⟨O, e, o1, o2⟩ := zx2 hd hn
  obtain ⟨P, f, p1, p2⟩ := zru hd hn
  obtain rfl := zv8 o1 p1 o2 p2
  exact ⟨_, e, f, O, rfl, o2⟩
end
section
open Go
set_option maxRecDepth 100000
def zxs (a : Nat) : ByteArray := ⟨#[UInt8.ofNat (IntKind.u8.wrap (IntKind.i64.wrap (97 + (a : Int)))).toNat]⟩
def zpC (W : List ByteArray) (w : ByteArray) : Nat -> Option (List Int)
  | 0 => some []
  | a + 1 => match zpC W w a with
    | none => none
    | some row => if z6K w (zxs a) then (match z0j (z2U W (a : Int) row) LFm (w ++ zxs a, -1) with
      | some (.inl (x, r)) => if x = ((a + 1 : Nat) : Int) then some r else none
      | _ => none) else none
def zw8 (m L : Nat) : Bool := match z5l m L with
  | none => false
  | some W => decide (1 <= W.length) && decide (W.length <= 7) && W.all fun w => match zpC W w m with
    | none => false
    | some r => decide (r.length = m) && r.all fun x => decide (0 <= x /\ x < (W.length : Int))
theorem zvI : zw8 1 1 = true /\ zw8 1 2 = true /\ zw8 2 1 = true /\ zw8 2 2 = true := ⟨by kernel_rfl, by kernel_rfl, by kernel_rfl, by kernel_rfl⟩
theorem zxk {m : Nat} {W : List ByteArray} {i : Int} {fs : List Bool} {rs : List (List Int)} {w : ByteArray} {v : Int × Tape} {r : List Int} (hm : m <= 6) (h : zpC W w m = some r) :
    z0j (z2w (m : Int) W i fs rs w v) LFm (0, []) = chk (z1c 24 (rs.length + 1)) (z0e (IntKind.i64.wrap (i + 1), v.2.l, v.2.at_, fs ++ [decide (v.1 = 1)], rs ++ [r])) := by
  have key : ∀ a, a <= m -> ∃ r', zpC W w a = some r' := by
    have : ∀ j a, a + j = m -> ∃ r', zpC W w a = some r' := by
      intro j
      induction j with
      | zero => intro a ha; obtain rfl : a = m := by omega
                exact ⟨r, h⟩
      | succ j ih =>
        intro a ha
        obtain ⟨r', hr'⟩ := ih (a + 1) (by omega)
        rw [zpC] at hr'
        split at hr'
        · cases hr'
        · rename_i row hrow; exact ⟨row, hrow⟩
    intro a ha
    exact this (m - a) a (by omega)
  refine z0t (s := ((0 : Int), ([] : List Int))) m (fun a => ((a : Int), (zpC W w a).getD [])) rfl (by simp only [LFm]; omega) (fun a ha => ?_) ?_
  · obtain ⟨r1, h1⟩ := key a (by omega)
    obtain ⟨r2, h2⟩ := key (a + 1) (by omega)
    rw [h1, h2, Option.getD_some, Option.getD_some]
    rw [zpC, h1] at h2
    simp only [z2w]
    rw [if_pos (by omega)]
    dsimp only at h2
    split at h2
    case isFalse => cases h2
    rename_i hc
    change chk (z6K w (zxs a)) (z0j (z2U W (a : Int) r1) LFm (w ++ zxs a, -1)) = _
    rw [z0m _ hc]
    split at h2
    · rename_i x q hq
      split at h2
      · rename_i hx
        cases h2
        rw [← hx]
        exact hq
      · cases h2
    · cases h2
  · simp only [z2w]
    rw [if_neg (by omega), h, Option.getD_some]
end
section
open Go
set_option maxRecDepth 100000
def defT : List (List Int) := [[1, 2], [3, 4], [5, 6], [3, 4], [5, 6], [3, 4], [5, 6]]
theorem zCd (l s : Int) (f : List Bool) : (z2E ⟨l, s, f, defT⟩ 2 7).length = 10 := by kernel_rfl
def zvW (m L : Nat) : Bool := match z5l m L with
  | none => true
  | some W => decide (W.length <= 5) || (decide (W.length = 7) && decide (m = 2) && decide ((W.map fun w => zpC W w m) = defT.map some))
theorem zwj : zvW 1 1 = true /\ zvW 1 2 = true /\ zvW 2 1 = true /\ zvW 2 2 = true := ⟨by kernel_rfl, by kernel_rfl, by kernel_rfl, by kernel_rfl⟩
theorem zqY (m L : Nat) : match z5l m L with
  | none => True
  | some W => 1 <= m /\ m <= 2 -> 1 <= L /\ L <= 2 -> W.length <= 5 ∨ (W.length = 7 /\ m = 2 /\ (W.map fun w => zpC W w m) = defT.map some) := by
  cases hW : z5l m L with
  | none => trivial
  | some W =>
    intro hm hL
    have h : zvW m L = true := by
      obtain ⟨c1, c2, c3, c4⟩ := zwj
      rcases (by omega : (m = 1 /\ L = 1) ∨ (m = 1 /\ L = 2) ∨ (m = 2 /\ L = 1) ∨ (m = 2 /\ L = 2)) with ⟨rfl, rfl⟩ | ⟨rfl, rfl⟩ | ⟨rfl, rfl⟩ | ⟨rfl, rfl⟩
      · exact c1
      · exact c2
      · exact c3
      · exact c4
    unfold zvW at h
    rw [hW] at h
    simpa [and_assoc] using h
theorem zn2 {d : DFA} {m n : Nat} (hd : DfaOk d m n) (hn : n <= 5) : (z2E d m n).length <= 32 := by
  have hS := z8r hd
  have := z0z hS.nd hS.lt
  have h32 : 2 ^ n <= 32 := Nat.pow_le_pow_right (n := 2) (by omega) hn
  omega
theorem zkB {t : Tape} (ht : TapeOk t) (m : Nat) (hm : 1 <= m /\ m <= 2) : ∃ d t' n, z3d t m = some (d, t') /\ DfaOk d m n /\ n <= 7 /\ TapeOk t' /\ (n <= 5 ∨ (n = 7 /\ m = 2 /\ d.next = defT)) := by
  unfold z3d
  obtain ⟨v, t1, e1, v0, v1, ht1⟩ := z6l ht 2 (by omega) (by omega)
  simp only [e1, Option.bind_some]
  obtain ⟨k, rfl⟩ := Int.eq_ofNat_of_zero_le v0
  have hw : IntKind.i64.wrap (1 + (k : Int)) = ((k + 1 : Nat) : Int) := by rw [z1Z (by omega) (by omega)]; omega
  rw [hw]
  have hchk : zw8 m (k + 1) = true := by
    obtain ⟨c1, c2, c3, c4⟩ := zvI
    rcases (by omega : (m = 1 /\ k = 0) ∨ (m = 1 /\ k = 1) ∨ (m = 2 /\ k = 0) ∨ (m = 2 /\ k = 1)) with ⟨rfl, rfl⟩ | ⟨rfl, rfl⟩ | ⟨rfl, rfl⟩ | ⟨rfl, rfl⟩
    · exact c1
    · exact c2
    · exact c3
    · exact c4
  have hsmall := zqY m (k + 1)
  have htab : m = 2 /\ k = 1 ∨ ¬ (m = 2 /\ k = 1) := Decidable.em _
  unfold zw8 at hchk
  split at hchk
  · cases hchk
  rename_i W hW
  simp only [Bool.and_eq_true, decide_eq_true_eq, List.all_eq_true] at hchk
  obtain ⟨⟨hW1, hW7⟩, hrow⟩ := hchk
  rw [hW, Option.bind_some]
  have hfin : ∀ nx : List (List Int), nx.map some = (W.map fun w => zpC W w m) -> W.length <= 5 ∨ (W.length = 7 /\ m = 2 /\ nx = defT) := fun nx hnx => by
    rw [hW] at hsmall
    rcases hsmall hm (by omega) with h | ⟨h1, h2, h3⟩
    · exact .inl h
    · refine .inr ⟨h1, h2, ?_⟩
      rw [h3] at hnx
      have := congrArg (fun l => l.map (fun o : Option (List Int) => o.getD [])) hnx
      simpa [Function.comp_def] using this
  refine Exists.elim (z1y (b := z3c (m : Int) W) (fun z => 0 <= z.1 /\ z.1 <= W.length /\ TapeOk ⟨z.2.1, z.2.2.1⟩ /\ (z.2.2.2.1.length : Int) = z.1 /\ (z.2.2.2.2.length : Int) = z.1 /\ (∀ r ∈ z.2.2.2.2, z8e m W.length r) /\ z.2.2.2.2.map some = (W.take z.1.toNat).map fun w => zpC W w m) (fun z => W.length + 1 - z.1.toNat)
    (fun r => DfaOk r.1 m W.length /\ TapeOk r.2 /\ r.1.next.map some = W.map fun w => zpC W w m) ?_ LFm (0, t1.l, t1.at_, [], []) ⟨by simp, by simp, ht1, by simp, by simp, by simp, by simp⟩ (by simp only [LFm]; omega)) fun r h => ⟨r.1, r.2, W.length, h.1, h.2.1, hW7, h.2.2.1, hfin r.1.next h.2.2.2⟩
  rintro ⟨i, tl, ta, fs, rs⟩ ⟨i0, i1, i2, i3, i4, i5, i6⟩
  simp only at i0 i1 i2 i3 i4 i5 i6 ⊢
  obtain ⟨i, rfl⟩ := Int.eq_ofNat_of_zero_le i0
  simp only [z3c]
  by_cases hi : (i : Int) < (W.length : Int)
  · left
    have hi' : i < W.length := by omega
    rw [if_pos hi, z1s hi', Option.bind_some]
    obtain ⟨u, t3, e3, u0, u1, ht3⟩ := z6l i2 2 (by omega) (by omega)
    rw [e3, Option.bind_some, z0m _ (by unfold z1c; omega)]
    have hr := hrow _ (List.getElem_mem hi')
    split at hr
    · cases hr
    rename_i r hr0
    simp only [Bool.and_eq_true, decide_eq_true_eq, List.all_eq_true] at hr
    rw [zxk (by omega) hr0, z0m _ (by unfold z1c; omega), z1Z (by omega) (by omega)]
    refine ⟨_, rfl, ⟨by simp only; omega, by simp only; omega, ht3, by simp only [List.length_append, List.length_singleton]; omega, by simp only [List.length_append, List.length_singleton]; omega, fun y hy => ?_, ?_⟩, by simp only; omega⟩
    rotate_left
    · rw [Int.toNat_natCast] at i6
      have e : ((i : Int) + 1).toNat = i + 1 := by omega
      rw [e, List.map_append, i6, List.take_succ_eq_append_getElem hi', List.map_append, List.map_cons, List.map_nil, List.map_cons, List.map_nil, hr0]
    rcases zb4.1 hy with h | rfl
    · exact i5 y h
    · exact ⟨hr.1, fun x hx => hr.2 x hx⟩
  · right
    rw [if_neg hi]
    exact ⟨_, rfl, ⟨rfl, by omega, by omega, by omega, by simp only; omega, by simp only; omega, by simp only; omega, by simp only; omega, i5⟩, i2, by rw [i6, show (i : Int).toNat = W.length by omega, List.take_length]⟩
theorem zvQ {t : Tape} (ht : TapeOk t) (m most : Nat) (hm : 1 <= m /\ m <= 2) (hk : 1 <= most /\ most <= 5) : ∃ d t' n, z4j t m most = some (d, t') /\ DfaOk d m n /\ n <= 7 /\ TapeOk t' /\ (z2E d m n).length <= 32 := by
  unfold z4j
  obtain ⟨v, t1, e1, v0, v1, ht1⟩ := z6l ht 6 (by omega) (by omega)
  simp only [e1, Option.bind_some]
  split
  · obtain ⟨d, t', n, e, h1, h2, h3⟩ := zpJ ht1 m most (by omega) (by omega)
    exact ⟨d, t', n, by rw [e, Option.bind_some], h1, by omega, h3, zn2 h1 (by omega)⟩
  · split
    · have : (if (4 : Int) < (most : Int) then (4 : Int) else (most : Int)) = ((min most 4 : Nat) : Int) := by split <;> omega
      rw [this]
      obtain ⟨d, t', n, e, h1, h2, h3⟩ := zto ht1 m (min most 4) (by omega) (by omega)
      exact ⟨d, t', n, by rw [e, Option.bind_some], h1, by omega, h3, zn2 h1 (by omega)⟩
    · split
      · obtain ⟨d, t', n, e, h1, h2, h3, h4⟩ := zkB ht1 m hm
        refine ⟨d, t', n, by rw [e, Option.bind_some], h1, h2, h3, ?_⟩
        rcases h4 with h4 | ⟨rfl, rfl, h4⟩
        · exact zn2 h1 h4
        · obtain ⟨l, s, f, nx⟩ := d
          simp only at h4
          subst h4
          rw [zCd]; omega
      · obtain ⟨d, t', n, e, h1, h2, h3⟩ := zux ht1 m most (by omega) (by omega)
        exact ⟨d, t', n, by rw [e, Option.bind_some], h1, by omega, h3, zn2 h1 (by omega)⟩
end
section
open Go
noncomputable section
set_option maxRecDepth 100000
set_option maxHeartbeats 6000000
abbrev z6x (a0 : List ByteArray) (a1 : List ByteArray) : Int -> Option (Int ⊕ Bool)
  | w10 =>
  if w10 < (a0.length : Int) then
    (atI a0 w10).bind fun v13 =>
    (atI a1 w10).bind fun v14 =>
    if v13 = v14 then
      z0e (IntKind.i64.wrap (w10 + 1))
    else
      z0k <|
      some false
  else
    z0k <|
    some true
instance {a0 : List ByteArray} {a1 : List ByteArray} : Hd (z6x a0 a1) := ⟨fun w10 => ([(13, xI w10)], [])⟩
def z7W (a0 : List ByteArray) (a1 : List ByteArray) : Option (Bool) :=
  if (a0.length : Int) = (a1.length : Int) then
    z0j (z6x a0 a1) LFm 0
  else
    some false
instance ref01_Same_ok {a0 : List ByteArray} {a1 : List ByteArray} : Ok (z7W a0 a1) (fun r => L 32 [.sl a0.length (a0.map fun x0 => .sc (.string x0)), .sl a1.length (a1.map fun x0 => .sc (.string x0))] = some (.sc (.bool r), [.dead, .dead])) := ⟨fun r h => by have h := z4p h; unfold z7W at h; exact z4O zzX zC0 zDO⟩
abbrev z5y (v298 : Hol) (v299 : Hol) (w324 : Int) (v341 : List Int) : Int -> Option (Int ⊕ (Int ⊕ (Int ⊕ Bool)))
  | w348 =>
  if w348 < (v341.length : Int) then
    (atI v298.perms w324).bind fun v353 =>
    (atI v353 w348).bind fun v354 =>
    (atI v299.perms w324).bind fun v355 =>
    (atI v355 w348).bind fun v356 =>
    if v354 = v356 then
      z0e (IntKind.i64.wrap (w348 + 1))
    else
      z0k <|
      z0k <|
      z0k <|
      some false
  else
    z0k <|
    z0e (IntKind.i64.wrap (w324 + 1))
instance {v298 : Hol} {v299 : Hol} {w324 : Int} {v341 : List Int} : Hd (z5y v298 v299 w324 v341) := ⟨fun w348 => ([(103, xI w348)], [])⟩
abbrev z5z (w238 : Int) (v298 : Hol) (v299 : Hol) : Int -> Option (Int ⊕ (Int ⊕ Bool))
  | w324 =>
  if w324 < (v298.perms.length : Int) then
    (atI v298.perms w324).bind fun v341 =>
    (atI v299.perms w324).bind fun v342 =>
    if (v341.length : Int) = (v342.length : Int) then
      z0j (z5y v298 v299 w324 v341) LFm 0
    else
      z0k <|
      z0k <|
      some false
  else
    z0k <|
    z0e (IntKind.i64.wrap (w238 + 1))
instance {w238 : Int} {v298 : Hol} {v299 : Hol} : Hd (z5z w238 v298 v299) := ⟨fun w324 => ([(81, xI w324)], [])⟩
abbrev z5A (w238 : Int) (v298 : Hol) (v299 : Hol) : Int -> Option (Int ⊕ (Int ⊕ Bool))
  | w303 =>
  if w303 < (v298.tiles.length : Int) then
    (atI v298.tiles w303).bind fun v306 =>
    (atI v299.tiles w303).bind fun v307 =>
    if v306 = v307 then
      z0e (IntKind.i64.wrap (w303 + 1))
    else
      z0k <|
      z0k <|
      some false
  else
    z0k <|
    z0j (z5z w238 v298 v299) LFm 0
instance {w238 : Int} {v298 : Hol} {v299 : Hol} : Hd (z5A w238 v298 v299) := ⟨fun w303 => ([(63, xI w303)], [])⟩
abbrev z6t (a0 : List Hol) (a1 : List Hol) : Int -> Option (Int ⊕ Bool)
  | w238 =>
  if w238 < (a0.length : Int) then
    (atI a0 w238).bind fun v298 =>
    (atI a1 w238).bind fun v299 =>
    if v298.set = v299.set then
      if (v298.tiles.length : Int) = (v299.tiles.length : Int) then
        (z7W v298.words v299.words).bind fun v300 =>
        if v300 = true then
          if (v298.perms.length : Int) = (v299.perms.length : Int) then
            z0j (z5A w238 v298 v299) LFm 0
          else
            z0k <|
            some false
        else
          z0k <|
          some false
      else
        z0k <|
        some false
    else
      z0k <|
      some false
  else
    z0k <|
    some true
instance {a0 : List Hol} {a1 : List Hol} : Hd (z6t a0 a1) := ⟨fun w238 => ([(18, xI w238)], [])⟩
def z7T (a0 : List Hol) (a1 : List Hol) : Option (Bool) :=
  if (a0.length : Int) = (a1.length : Int) then
    z0j (z6t a0 a1) LFm 0
  else
    some false
instance ref25_Same_ok {a0 : List Hol} {a1 : List Hol} : Ok (z7T a0 a1) (fun r => L 11 [.sl a0.length (a0.flatMap fun x0 => [.sc (.int .i64 x0.set), .sl x0.tiles.length (x0.tiles.map fun x1 => .sc (.int .i64 x1)), .sl x0.words.length (x0.words.map fun x1 => .sc (.string x1)), .sl x0.perms.length (x0.perms.map fun x1 => .sl x1.length (x1.map fun x2 => .sc (.int .i64 x2)))]), .sl a1.length (a1.flatMap fun x0 => [.sc (.int .i64 x0.set), .sl x0.tiles.length (x0.tiles.map fun x1 => .sc (.int .i64 x1)), .sl x0.words.length (x0.words.map fun x1 => .sc (.string x1)), .sl x0.perms.length (x0.perms.map fun x1 => .sl x1.length (x1.map fun x2 => .sc (.int .i64 x2)))])] = some (.sc (.bool r), [.dead, .dead])) := ⟨fun r h => by have h := z4p h; unfold z7T at h; exact z4O zAd zCc zE0⟩
end
end
section
def Mo (C0 C1 : z0q) : Prop := ∀ f a o, C0 f a = some o -> C1 f a = some o
section
variable {P : Program} {C0 C1 : z0q}
theorem zdq (hMo : Mo C0 C1) {wio : FuncId -> Nat -> Bool} {fr fr' : Fr} {f : FuncId} {args : List E} {dst : Option Nat} (h : zbm C0 wio fr f args dst = some fr') : Ev fun m => zbm C1 wio fr f args dst = some fr' := by
  unfold zbm at h ⊢
  split at h
  · cases h
  · rename_i ts deps io ha
    split at h
    · cases h
    · rename_i r outs hc
      refine ⟨0, fun m _ => ?_⟩
      show (match C1 f ts with | none => none | some (r, outs) => _) = _
      rw [hMo _ _ _ hc]
      exact h
theorem zrC (hMo : Mo C0 C1) {wio : FuncId -> Nat -> Bool} {fr fr' : Fr} {o : Oper} (h : opF P C0 wio fr o = some fr') : Ev fun m => opF P C1 wio fr o = some fr' := by
  unfold opF at h ⊢
  split at h
  · exact .pure fun _ => h
  · split at h
    · exact zdq hMo h
    · cases h
  · exact .pure fun _ => h
  · exact .pure fun _ => h
theorem znS (hMo : Mo C0 C1) {wio : FuncId -> Nat -> Bool} {fr fr' : Fr} {o : Oper} (h : z9W P C0 wio fr o = some fr') : Ev fun m => z9W P C1 wio fr o = some fr' := by
  unfold z9W at h ⊢
  split at h
  · split at h
    · split at h
      · exact zdq hMo h
      · cases h
    · cases h
  · exact .pure fun _ => h
theorem zud (hMo : Mo C0 C1) {wio : FuncId -> Nat -> Bool} {M : Nat -> Bool} {fr fr' : Fr} {o : Oper} (h : wrF P C0 wio M fr o = some fr') : Ev fun m => wrF P C1 wio M fr o = some fr' := by
  unfold wrF at h ⊢
  split at h
  · split at h
    · cases h
    · split at h
      · exact zdq hMo h
      · split at h
        · rename_i hM
          simp only [hM, if_true]
          exact zdq hMo h
        · cases h
      · cases h
  · exact .pure fun _ => h
  · exact .pure fun _ => h
  · exact .pure fun _ => h
  · cases h
theorem zlY (hMo : Mo C0 C1) {wio : FuncId -> Nat -> Bool} {ops : Array Oper} : ∀ {l : List Oper} {fr fr' : Fr}, zlZ P C0 wio ops l fr = some fr' -> Ev fun m => zlZ P C1 wio ops l fr = some fr'
  | [], fr, fr', h => .pure fun _ => h
  | o :: rest, fr, fr', h => by
    simp only [zlZ] at h ⊢
    split at h
    · cases h
    · split at h
      · rename_i fr1 h1
        exact (zrC hMo h1).both (zlY hMo h) fun m a1 a2 => by rw [a1]; exact a2
      · cases h
    · split at h
      · rename_i fr1 h1
        exact (zlY hMo h)
      · cases h
theorem zdn (hMo : Mo C0 C1) {wio : FuncId -> Nat -> Bool} {same : Bool} {M : Nat -> Bool} {ops : Array Oper} : ∀ {l : List (Nat × Oper × Nat)} {fr fr' : Fr}, z9c P C0 wio same M ops l fr = some fr' -> Ev fun m => z9c P C1 wio same M ops l fr = some fr'
  | [], fr, fr', h => .pure fun _ => h
  | (k, o, mk) :: rest, fr, fr', h => by
    simp only [z9c] at h ⊢
    split at h
    · cases h
    · split at h
      · exact zdn hMo h
      · cases h
    · split at h
      · rename_i hm
        simp only [if_pos hm]
        split at h
        · split at h
          · exact zdn hMo h
          · cases h
        · cases h
      · rename_i hm
        simp only [if_neg hm]
        split at h
        · rename_i fr1 h1
          have h2 : Ev fun m => (if mk = 2 then opF P C1 wio fr o else if same = true then z9W P C1 wio fr o else wrF P C1 wio M fr o) = some fr1 := by
            by_cases e : mk = 2
            · simp only [if_pos e] at h1 ⊢; exact zrC hMo h1
            · simp only [if_neg e] at h1 ⊢
              by_cases e2 : same = true
              · simp only [if_pos e2] at h1 ⊢; exact znS hMo h1
              · simp only [if_neg e2] at h1 ⊢; exact zud hMo h1
          exact h2.both (zdn hMo h) fun m a1 a2 => by rw [a1]; exact a2
        · cases h
theorem z9P (hMo : Mo C0 C1) {wio : FuncId -> Nat -> Bool} {same : Bool} {M : Nat -> Bool} {ops : Array Oper} : ∀ {l : SchT} {fr fr' : Fr}, z5c P C0 wio same M ops l fr = some fr' -> Ev fun m => z5c P C1 wio same M ops l fr = some fr'
  | .nil, fr, fr', h => .pure fun _ => h
  | .alt x y, fr, fr', h => by
    simp only [z5c] at h ⊢
    split at h
    · rename_i f1 f2 h1 h2
      obtain ⟨rfl, hs⟩ := zcE h
      exact (z9P hMo h1).both (z9P hMo h2) fun m a1 a2 => by rw [a1, a2]; exact zdd hs
    · cases h
  | .op k mk rest, fr, fr', h => by
    simp only [z5c] at h ⊢
    split at h
    · cases h
    rename_i o ho
    try simp only [ho]
    split at h
    · cases h
    · split at h
      · exact z9P hMo h
      · cases h
    · split at h
      · rename_i hm
        simp only [if_pos hm]
        split at h
        · split at h
          · exact z9P hMo h
          · cases h
        · cases h
      · rename_i hm
        simp only [if_neg hm]
        split at h
        · rename_i fr1 h1
          have h2 : Ev fun m => (if mk = 2 then opF P C1 wio fr o else if same = true then z9W P C1 wio fr o else wrF P C1 wio M fr o) = some fr1 := by
            by_cases e : mk = 2
            · simp only [if_pos e] at h1 ⊢; exact zrC hMo h1
            · simp only [if_neg e] at h1 ⊢
              by_cases e2 : same = true
              · simp only [if_pos e2] at h1 ⊢; exact znS hMo h1
              · simp only [if_neg e2] at h1 ⊢; exact zud hMo h1
          exact h2.both (z9P hMo h) fun m a1 a2 => by rw [a1]; exact a2
        · cases h
theorem zqg (hMo : Mo C0 C1) {c : Cfg} {id : Nat} {ops : Array Oper} {fr fr' : Fr} (h : z7J P C0 c id ops fr = some fr') : Ev fun m => z7J P C1 c id ops fr = some fr' := by
  unfold z7J at h ⊢
  split at h
  · exact z9P hMo h
  · split at h
    · exact zdn hMo h
    · cases h
theorem znp (hMo : Mo C0 C1) {B : z0q -> Fr -> Option (X × Fr)} {cn : Fr -> Fr} (hB : ∀ fr o, B C0 fr = some o -> Ev fun m => B C1 fr = some o) : ∀ {n : Nat} {fr : Fr} {o : X × Fr}, zbf (B C0) cn n fr = some o -> Ev fun m => zbf (B C1) cn n fr = some o
  | 0, fr, o, h => by cases h
  | n + 1, fr, o, h => by
    simp only [zbf] at h ⊢
    split at h
    · rename_i fr1 h1
      exact (hB _ _ h1).both (znp hMo hB h) fun m a1 a2 => by rw [a1]; exact a2
    · rename_i x fr1 hne h1
      refine (hB _ _ h1).imp fun m a1 => ?_
      rw [a1]
      cases x with
      | n => exact absurd rfl hne
      | x i => exact h
      | r => exact h
    · cases h
theorem znQ (hMo : Mo C0 C1) {c : Cfg} {LF : Nat} : ∀ (b : Code) {fr : Fr} {o : X × Fr}, z2A P C0 c LF b fr = some o -> Ev fun m => z2A P C1 c LF b fr = some o := by
  intro b
  induction b with
  | skip => intro fr o h; exact .pure fun _ => h
  | label l => intro fr o h; exact .pure fun _ => h
  | exit id => intro fr o h; exact .pure fun _ => h
  | ret => intro fr o h; exact .pure fun _ => h
  | goto l => intro fr o h; cases h
  | scope c ih => intro fr o h; simp only [z2A] at h ⊢; exact ih h
  | refuse s => intro fr o h; cases h
  | rangeFunc => intro fr o h; cases h
  | region id ops draw =>
    intro fr o h
    simp only [z2A] at h ⊢
    split at h
    · rename_i hd
      simp only [hd, if_true]
      split at h
      · rename_i fr1 h1
        exact (zqg hMo h1).imp fun m a1 => by rw [a1]; exact h
      · cases h
    · rename_i hd
      simp only [hd, Bool.false_eq_true, if_false]
      split at h
      · rename_i fr1 h1
        exact (zlY hMo h1).imp fun m a1 => by rw [a1]; exact h
      · cases h
  | seq a b ih1 ih2 =>
    intro fr o h
    simp only [z2A] at h ⊢
    split at h
    · rename_i fr1 h1
      exact (ih1 h1).both (ih2 h) fun m a1 a2 => by rw [a1]; exact a2
    · rename_i hne
      refine (ih1 h).imp fun m a1 => ?_
      rw [a1]
      obtain ⟨x, fr1⟩ := o
      cases x with
      | n => exact absurd h (hne _)
      | x i => rfl
      | r => rfl
  | cond c x y ih1 ih2 =>
    intro fr o h
    simp only [z2A] at h ⊢
    split at h
    · exact ih1 h
    · exact ih2 h
    · cases h
  | block id c ih =>
    intro fr o h
    simp only [z2A] at h ⊢
    split at h
    · rename_i i fr1 h1
      exact (ih h1).imp fun m a1 => by rw [a1]; exact h
    · rename_i hne
      refine (ih h).imp fun m a1 => ?_
      rw [a1]
      obtain ⟨x, fr1⟩ := o
      cases x with
      | n => rfl
      | x i => exact absurd h (hne _ _)
      | r => rfl
  | loop b ih =>
    intro fr o h
    simp only [z2A] at h ⊢
    exact znp hMo (B := fun C fr => z2A P C c LF b fr) (fun fr o h => ih h) h
theorem zro (hMo : Mo C0 C1) {c : Cfg} {LF : Nat} {fn : Func} {args : List T} {o : T × List T} (h : zih P C0 c LF fn args = some o) : Ev fun m => zih P C1 c LF fn args = some o := by
  unfold zih at h ⊢
  split at h
  · rename_i hc
    simp only [if_pos hc]
    split at h
    · cases h
    · rename_i b hb
      split at h
      · rename_i fr h1
        exact (znQ hMo _ h1).imp fun m a1 => by rw [a1]; exact h
      · rename_i fr h1
        exact (znQ hMo _ h1).imp fun m a1 => by rw [a1]; exact h
      · cases h
  · cases h
end
theorem znk {P : Program} {X : z0q} {cf : FuncId -> Option Cfg} : ∀ n, Mo (z2Z P X cf n) (z2Z P X cf (n + 1))
  | 0 => fun f a o h => by
    simp only [z2Z] at h ⊢
    split at h
    · cases h
    · rename_i hc
      first
        | exact h
        | (rw [hc]; exact h)
  | n + 1 => fun f a o h => by
    simp only [z2Z] at h
    split at h
    · rename_i c hc
      split at h
      · rename_i fn hfn
        obtain ⟨k, hk⟩ := zro (znk n) h
        exact zkh hc hfn (hk k (Nat.le_refl _))
      · cases h
    · rename_i hc
      simp only [z2Z, hc]
      exact h
theorem zbb {P : Program} {X : z0q} {cf : FuncId -> Option Cfg} (n : Nat) {f : FuncId} {a : List T} {o : T × List T} (h : z2Z P X cf n f a = some o) : Lim P X cf f a = some o := by
  refine zrR (d := n) fun m hm => ?_
  obtain ⟨k, rfl⟩ := Nat.exists_eq_add_of_le hm
  clear hm
  induction k with
  | zero => exact h
  | succ k ih => exact znk (n + k) f a o ih
def tab : List (FuncId × List T × T × List T) -> z0q
  | [] => fun _ _ => none
  | (g, b, r, os) :: l => fun f a => if (Nat.beq g f && znM b a) = true then some (r, os) else tab l f a
theorem zug {C : z0q} : ∀ {l : List (FuncId × List T × T × List T)}, (∀ x ∈ l, C x.1 x.2.1 = some x.2.2) -> Mo (tab l) C
  | [], _ => fun f a o h => by cases h
  | (g, b, r, os) :: l, hl => fun f a o h => by
    simp only [tab] at h
    split at h
    · rename_i hc
      simp only [Bool.and_eq_true] at hc
      cases h
      have := hl _ (List.mem_cons_self ..)
      rw [← Nat.eq_of_beq_eq_true hc.1, ← z7I hc.2]
      exact this
    · exact zug (fun x hx => hl x (List.mem_cons_of_mem _ hx)) f a o h
noncomputable def zkj (P : Program) (X : z0q) (cf : FuncId -> Option Cfg) (S : z0q) : Nat -> z0q
  | 0 => S
  | n + 1 => fun f a => match S f a with
    | some o => some o
    | none => match cf f with
      | some c => (match P.funcs[f]? with | some fn => zih P (zkj P X cf S n) c LFm fn a | none => none)
      | none => X f a
theorem zki {P : Program} {X : z0q} {cf : FuncId -> Option Cfg} {S : z0q} (hS : Mo S (Lim P X cf)) : ∀ n, Mo (zkj P X cf S n) (Lim P X cf)
  | 0 => hS
  | n + 1 => fun f a o h => by
    simp only [zkj] at h
    split at h
    · rename_i o' ho
      cases h
      exact hS f a o ho
    · split at h
      · rename_i c hc
        split at h
        · rename_i fn hfn
          obtain ⟨k, hk⟩ := zro (zki hS n) h
          exact zrQ hc hfn (hk k (Nat.le_refl _))
        · cases h
      · rename_i hc
        exact zrS hc h
theorem zvn {P : Program} {X : z0q} {cf : FuncId -> Option Cfg} (l : List (FuncId × List T × T × List T)) (n : Nat) {f : FuncId} {a : List T} {o : T × List T} (h : zkj P X cf (tab l) n f a = some o) (hl : ∀ x ∈ l, Lim P X cf x.1 x.2.1 = some x.2.2) : Lim P X cf f a = some o :=
  zki (zug hl) n f a o h
end
end Go.Proofs.Ytodliknibbafeaa

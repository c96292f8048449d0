/- Proved here: a part of the proof of the law at hand, in one text: no condition. -/
import Derived.Test.YtodliknibbafeaaMHC3
set_option linter.unusedVariables false
set_option linter.unusedSimpArgs false
section
namespace Go.Proofs.Ytodliknibbafeaa
open Go
noncomputable section
set_option maxRecDepth 100000
set_option maxHeartbeats 6000000
def z4p (a0 : Int) (a1 : Int) : Option (Bool) :=
  (z2J a0).bind fun v5 =>
  (z2J a1).bind fun v6 =>
  if v5 = v6 then
    some (decide (a0 < a1))
  else
    (z2J a0).bind fun v7 =>
    (z2J a1).bind fun v8 =>
    some (decide (v8 < v7))
instance ref24_before_ok {a0 : Int} {a1 : Int} : Ok (z4p a0 a1) (fun r => L 77 [.sc (.int .i64 a0), .sc (.int .i64 a1)] = some (.sc (.bool r), [.dead, .dead])) := ⟨fun r h => by have h := z6H h; unfold z4p at h; exact z7i zAE zCg zDF⟩
abbrev z4W (w98 : Int) (w99 : List Int) : Bool × Int → Option ((Bool × Int) ⊕ ((Int × List Int) ⊕ List Int))
  | (w106, w107) =>
  if w107 < (w99.length : Int) then
    (atI w99 w107).bind fun v109 =>
    if w106 = true then
      z0q (true, IntKind.i64.wrap (w107 + 1))
    else
      z0q (decide (v109 = (zuE .i64 1 (IntKind.u64.wrap w98))), IntKind.i64.wrap (w107 + 1))
  else
    z0v <|
    if w106 = true then
      z0q (IntKind.i64.wrap (w98 + 1), w99)
    else
      chk (z0T 8 (w99.length + 1)) <|
      z0q (IntKind.i64.wrap (w98 + 1), w99 ++ [zuE .i64 1 (IntKind.u64.wrap w98)])
instance {w98 : Int} {w99 : List Int} : Hd (z4W w98 w99) := ⟨fun (w106, w107) => ([(7, xB w106), (31, xI w107)], [])⟩
abbrev z2Y (w133 : Int) : Int × List Int → Option ((Int × List Int) ⊕ ((Int × List Int) ⊕ List Int))
  | (w165, w166) =>
  if 0 < w165 then
    (atI w166 w165).bind fun v174 =>
    (atI w166 (IntKind.i64.wrap (w165 - 1))).bind fun v175 =>
    (z4p v174 v175).bind fun v176 =>
    if v176 = true then
      (atI (w166.set w165.toNat v175) (IntKind.i64.wrap (w165 - 1))).bind fun v180 =>
      z0q (IntKind.i64.wrap (w165 - 1), ((w166.set w165.toNat v175).set (IntKind.i64.wrap (w165 - 1)).toNat v174))
    else
      z0v <|
      z0q (IntKind.i64.wrap (w133 + 1), w166)
  else
    z0v <|
    z0q (IntKind.i64.wrap (w133 + 1), w166)
instance {w133 : Int} : Hd (z2Y w133) := ⟨fun (w165, w166) => ([(12, xI w165)], [(10, .os 1 w166.length (w166.map fun x0 => .sc (.int .i64 x0)))])⟩
abbrev z2Z (w99 : List Int) : Int × List Int → Option ((Int × List Int) ⊕ List Int)
  | (w133, w134) =>
  if w133 < (w99.length : Int) then
    z0y (z2Y w133) LFm (w133, w134)
  else
    z0v <|
    some w134
instance {w99 : List Int} : Hd (z2Z w99) := ⟨fun (w133, w134) => ([(54, xI w133)], [(10, .os 1 w134.length (w134.map fun x0 => .sc (.int .i64 x0)))])⟩
abbrev z4X (a0 : DFA) : Int × List Int → Option ((Int × List Int) ⊕ List Int)
  | (w98, w99) =>
  if w98 < (a0.final.length : Int) then
    chk (¬ (IntKind.u64.wrap w98) < 0) <|
    z0y (z4W w98 w99) LFm (false, 0)
  else
    z0v <|
    chk (z0T 8 (w99.length)) <|
    z0y (z2Z w99) LFm (0, w99)
instance {a0 : DFA} : Hd (z4X a0) := ⟨fun (w98, w99) => ([(23, xI w98)], [(3, .os 1 w99.length (w99.map fun x0 => .sc (.int .i64 x0)))])⟩
def z6s (a0 : DFA) : Option (List Int) :=
  (z6u a0).bind fun v91 =>
  (z2A a0 v91).bind fun v92 =>
  z0y (z4X a0) LFm (0, v92.1)
instance ref24_Sets_ok {a0 : DFA} : Ok (z6s a0) (fun r => L 58 [.agg [.sc (.int .i64 a0.letters), .sc (.int .i64 a0.start), .sl a0.final.length (a0.final.map fun x0 => .sc (.bool x0)), .sl a0.next.length (a0.next.map fun x0 => .sl x0.length (x0.map fun x1 => .sc (.int .i64 x1)))]] = some (.os 1 r.length (r.map fun x0 => .sc (.int .i64 x0)), [.dead])) := ⟨fun r h => by have h := z6H h; unfold z6s at h; exact z7i zAN zCo zDN⟩
abbrev z2q (a0 : List Int) : Int × Int × List Int × (List (Int × Int)) → Option ((Int × Int × List Int × (List (Int × Int))) ⊕ List Int)
  | (w15, w13, w14, w16) =>
  if w13 < (a0.length : Int) then
    (atI a0 w13).bind fun v20 =>
    if ((zaS v20 w16).isSome) = true then
      (atI w14 w13).bind fun v21 =>
      z0q (w15, IntKind.i64.wrap (w13 + 1), (w14.set w13.toNat ((zaS v20 w16).getD 0)), w16)
    else
      (atI w14 w13).bind fun v22 =>
      z0q (IntKind.i64.wrap (w15 + 1), IntKind.i64.wrap (w13 + 1), (w14.set w13.toNat w15), zf2 v20 w15 w16)
  else
    z0v <|
    some w14
instance {a0 : List Int} : Hd (z2q a0) := ⟨fun (w15, w13, w14, w16) => ([(4, xI w15), (19, xI w13)], [(3, .os 1 w14.length (w14.map fun x0 => .sc (.int .i64 x0))), (5, .mp (some .i64) (w16.map fun x0 => (.int .i64 x0.1, .int .i64 x0.2)))])⟩
def z2D (a0 : List Int) : Option (List Int) :=
  if 4096 < (a0.length : Int) then
    some []
  else
    chk (z1V 8 (a0.length : Int)) <|
    z0y (z2q a0) LFm (0, 0, List.replicate (a0.length : Int).toNat (0 : Int), ([] : List (Int × Int)))
instance ref03_Canonical_ok {a0 : List Int} : Ok (z2D a0) (fun r => L 60 [.sl a0.length (a0.map fun x0 => .sc (.int .i64 x0))] = some (.os 1 r.length (r.map fun x0 => .sc (.int .i64 x0)), [.dead])) := ⟨fun r h => by have h := z6H h; unfold z2D at h; exact z7i zAL zCn zDM⟩
def z4E (v757 : List Int) (w807 : Int) (w863 : Int) (v877 : Int) : Int × List (List Bool) → Option ((Int × List (List Bool)) ⊕ ((Int × List (List Bool)) ⊕ ((Int × List (List Bool)) ⊕ (Imgs × Int))))
  | (w881, w882) =>
  if w881 < (v757.length : Int) then
    (atI v757 w881).bind fun v886 =>
    if (zoY .i64 v886 v877) = v886 then
      (atI w882 w881).bind fun v887 =>
      (atI v887 w807).bind fun v888 =>
      z0q (IntKind.i64.wrap (w881 + 1), (w882.set w881.toNat (v887.set w807.toNat true)))
    else
      z0q (IntKind.i64.wrap (w881 + 1), w882)
  else
    z0v <|
    z0q (IntKind.i64.wrap (w863 + 1), w882)
def z4v (a0 : DFA) (v757 : List Int) (w807 : Int) (v850 : List Int × List ByteArray) (w863 : Int) (v877 : Int) : Int × List (List Bool) → Fr
  | (w881, w882) => ⟨418, [(1, .one (.a 1 [] (0))), (2, .one (.a 2 [] (0))), (5, .one (.a 5 [] (0))), (6, .one (.t none (.sc (.int .i64 (v757.length : Int))))), (10, .one (.h 10 [])), (12, .one (.t none (.sc (.int .i64 w807)))), (17, .one (.t none (.sc (.int .i64 v877)))), (82, .one (.h 5 [0])), (83, .one (.t none (.sc (.int .i64 (v757.length : Int))))), (84, .one (.t none (.sc (.int .i64 w807)))), (95, .one (.h 14 [])), (96, .one (.t none (.sc (.int .i64 (v850.1.length : Int))))), (97, .one (.t none (.sc (.int .i64 w863)))), (102, .one (.h 5 [0])), (103, .one (.t none (.sc (.int .i64 (v757.length : Int))))), (104, .one (.t none (.sc (.int .i64 w881))))], [(1, .vr [.sc (.int .i64 a0.letters), .sc (.int .i64 a0.start), .sl a0.final.length (a0.final.map fun x0 => .sc (.bool x0)), .sl a0.next.length (a0.next.map fun x0 => .sl x0.length (x0.map fun x1 => .sc (.int .i64 x1)))]), (2, .vr [.os 1 0 [], .os 1 0 [], .os 1 0 [], .os 1 0 [], .os 1 0 [], .os 1 0 []]), (5, .vr [.os 1 v757.length (v757.map fun x0 => .sc (.int .i64 x0)), .os 1 0 [], .os 1 0 [], .os 1 0 [], .os 1 0 [], .os 1 0 []]), (10, .os 1 w882.length (w882.map fun x0 => .os 1 x0.length (x0.map fun x1 => .sc (.bool x1)))), (14, .os 1 v850.1.length (v850.1.map fun x0 => .sc (.int .i64 x0)))]⟩
def z4F (v757 : List Int) (w807 : Int) (v850 : List Int × List ByteArray) : Int × List (List Bool) → Option ((Int × List (List Bool)) ⊕ ((Int × List (List Bool)) ⊕ (Imgs × Int)))
  | (w863, w864) =>
  if w863 < (v850.1.length : Int) then
    (atI v850.1 w863).bind fun v877 =>
    z0y (z4E v757 w807 w863 v877) LFm (0, w864)
  else
    z0v <|
    z0q (IntKind.i64.wrap (w807 + 1), w864)
def z5H (a0 : DFA) (v757 : List Int) (w807 : Int) (v850 : List Int × List ByteArray) : Int × List (List Bool) → Fr
  | (w863, w864) => ⟨418, [(1, .one (.a 1 [] (0))), (2, .one (.a 2 [] (0))), (5, .one (.a 5 [] (0))), (6, .one (.t none (.sc (.int .i64 (v757.length : Int))))), (10, .one (.h 10 [])), (12, .one (.t none (.sc (.int .i64 w807)))), (82, .one (.h 5 [0])), (83, .one (.t none (.sc (.int .i64 (v757.length : Int))))), (84, .one (.t none (.sc (.int .i64 w807)))), (95, .one (.h 14 [])), (96, .one (.t none (.sc (.int .i64 (v850.1.length : Int))))), (97, .one (.t none (.sc (.int .i64 w863))))], [(1, .vr [.sc (.int .i64 a0.letters), .sc (.int .i64 a0.start), .sl a0.final.length (a0.final.map fun x0 => .sc (.bool x0)), .sl a0.next.length (a0.next.map fun x0 => .sl x0.length (x0.map fun x1 => .sc (.int .i64 x1)))]), (2, .vr [.os 1 0 [], .os 1 0 [], .os 1 0 [], .os 1 0 [], .os 1 0 [], .os 1 0 []]), (5, .vr [.os 1 v757.length (v757.map fun x0 => .sc (.int .i64 x0)), .os 1 0 [], .os 1 0 [], .os 1 0 [], .os 1 0 [], .os 1 0 []]), (10, .os 1 w864.length (w864.map fun x0 => .os 1 x0.length (x0.map fun x1 => .sc (.bool x1)))), (14, .os 1 v850.1.length (v850.1.map fun x0 => .sc (.int .i64 x0)))]⟩
def z4D (w808 : List (List Bool)) (w908 : Int) (w909 : List Int) : Int → Option (Int ⊕ ((Int × List Int) ⊕ (Imgs × Int)))
  | w937 =>
  if w937 < w908 then
    (atI w808 w908).bind fun v944 =>
    (atI v944 w937).bind fun v945 =>
    if v945 = true then
      (atI w808 w937).bind fun v946 =>
      (atI v946 w908).bind fun v947 =>
      if v947 = true then
        (atI (w909.set w908.toNat w908) w937).bind fun v948 =>
        (atI (w909.set w908.toNat w908) w908).bind fun v949 =>
        z0v <|
        z0q (IntKind.i64.wrap (w908 + 1), ((w909.set w908.toNat w908).set w908.toNat v948))
      else
        z0q (IntKind.i64.wrap (w937 + 1))
    else
      z0q (IntKind.i64.wrap (w937 + 1))
  else
    z0v <|
    z0q (IntKind.i64.wrap (w908 + 1), (w909.set w908.toNat w908))
def z4t (a0 : DFA) (v757 : List Int) (w808 : List (List Bool)) (w908 : Int) (w909 : List Int) : Int → Fr
  | w937 => ⟨418, [(1, .one (.a 1 [] (0))), (2, .one (.a 2 [] (0))), (5, .one (.a 5 [] (0))), (6, .one (.t none (.sc (.int .i64 (v757.length : Int))))), (10, .one (.h 10 [])), (20, .one (.h 20 [])), (21, .one (.t none (.sc (.int .i64 w908)))), (22, .one (.t none (.sc (.int .i64 w937)))), (126, .one (.t none (.sc (.int .i64 (v757.length : Int))))), (127, .one (.t none (.sc (.int .i64 w908))))], [(1, .vr [.sc (.int .i64 a0.letters), .sc (.int .i64 a0.start), .sl a0.final.length (a0.final.map fun x0 => .sc (.bool x0)), .sl a0.next.length (a0.next.map fun x0 => .sl x0.length (x0.map fun x1 => .sc (.int .i64 x1)))]), (2, .vr [.os 1 0 [], .os 1 0 [], .os 1 0 [], .os 1 0 [], .os 1 0 [], .os 1 0 []]), (5, .vr [.os 1 v757.length (v757.map fun x0 => .sc (.int .i64 x0)), .os 1 0 [], .os 1 0 [], .os 1 0 [], .os 1 0 [], .os 1 0 []]), (10, .os 1 w808.length (w808.map fun x0 => .os 1 x0.length (x0.map fun x1 => .sc (.bool x1)))), (20, .os 1 (w909.set w908.toNat w908).length ((w909.set w908.toNat w908).map fun x0 => .sc (.int .i64 x0)))]⟩
def z4A (v757 : List Int) (w808 : List (List Bool)) (w1205 : Int) : Bool × Int × List Int → Option ((Bool × Int × List Int) ⊕ ((Bool × Int × List Int) ⊕ ((Bool × List Int) ⊕ (Imgs × Int))))
  | (w1251, w1250, w1252) =>
  if w1250 < (v757.length : Int) then
    (atI v757 w1205).bind fun v1263 =>
    (z2J v1263).bind fun v1264 =>
    if 1 < v1264 then
      (atI w808 w1250).bind fun v1265 =>
      (atI v1265 w1205).bind fun v1266 =>
      if v1266 = true then
        (atI w808 w1205).bind fun v1267 =>
        (atI v1267 w1250).bind fun v1268 =>
        if v1268 = true then
          z0q (w1251, IntKind.i64.wrap (w1250 + 1), w1252)
        else
          (atI w1252 w1205).bind fun v1269 =>
          (atI w1252 w1250).bind fun v1270 =>
          if v1269 ≤ v1270 then
            z0q (true, IntKind.i64.wrap (w1250 + 1), (w1252.set w1205.toNat (IntKind.i64.wrap (v1270 + 1))))
          else
            z0q (w1251, IntKind.i64.wrap (w1250 + 1), w1252)
      else
        z0q (w1251, IntKind.i64.wrap (w1250 + 1), w1252)
    else
      z0q (w1251, IntKind.i64.wrap (w1250 + 1), w1252)
  else
    z0v <|
    z0q (w1251, IntKind.i64.wrap (w1205 + 1), w1252)
def z2j (a0 : DFA) (v757 : List Int) (w808 : List (List Bool)) (v950 : List Int) (w1205 : Int) : Bool × Int × List Int → Fr
  | (w1251, w1250, w1252) => ⟨418, [(1, .one (.a 1 [] (0))), (2, .one (.a 2 [] (0))), (5, .one (.a 5 [] (0))), (10, .one (.h 10 [])), (23, .one (.t none (.sc (.bool w1251)))), (24, .one (.t none (.sc (.int .i64 w1205)))), (181, .one (.t none (.sc (.int .i64 (v757.length : Int))))), (182, .one (.t none (.sc (.int .i64 w1205)))), (187, .one (.t none (.sc (.int .i64 (v757.length : Int))))), (188, .one (.t none (.sc (.int .i64 w1250))))], [(1, .vr [.sc (.int .i64 a0.letters), .sc (.int .i64 a0.start), .sl a0.final.length (a0.final.map fun x0 => .sc (.bool x0)), .sl a0.next.length (a0.next.map fun x0 => .sl x0.length (x0.map fun x1 => .sc (.int .i64 x1)))]), (2, .vr [.os 1 0 [], .os 1 0 [], .os 1 0 [], .os 1 0 [], .os 1 0 [], .os 1 0 []]), (5, .vr [.os 1 v757.length (v757.map fun x0 => .sc (.int .i64 x0)), .os 1 v950.length (v950.map fun x0 => .sc (.int .i64 x0)), .os 1 w1252.length (w1252.map fun x0 => .sc (.int .i64 x0)), .os 1 (List.replicate (v757.length : Int).toNat ([] : List Int)).length ((List.replicate (v757.length : Int).toNat ([] : List Int)).map fun x0 => .os 1 x0.length (x0.map fun x1 => .sc (.int .i64 x1))), .os 1 (List.replicate (v757.length : Int).toNat (ByteArray.empty : ByteArray)).length ((List.replicate (v757.length : Int).toNat (ByteArray.empty : ByteArray)).map fun x0 => .sc (.string x0)), .os 1 (List.replicate (v757.length : Int).toNat (ByteArray.empty : ByteArray)).length ((List.replicate (v757.length : Int).toNat (ByteArray.empty : ByteArray)).map fun x0 => .sc (.string x0))]), (10, .os 1 w808.length (w808.map fun x0 => .os 1 x0.length (x0.map fun x1 => .sc (.bool x1))))]⟩
def z4B (v757 : List Int) (w808 : List (List Bool)) : Bool × Int × List Int → Option ((Bool × Int × List Int) ⊕ ((Bool × List Int) ⊕ (Imgs × Int)))
  | (w1204, w1205, w1206) =>
  if w1205 < (v757.length : Int) then
    z0y (z4A v757 w808 w1205) LFm (w1204, 0, w1206)
  else
    z0v <|
    z0q (w1204, w1206)
def z5F (a0 : DFA) (v757 : List Int) (w808 : List (List Bool)) (v950 : List Int) : Bool × Int × List Int → Fr
  | (w1204, w1205, w1206) => ⟨418, [(1, .one (.a 1 [] (0))), (2, .one (.a 2 [] (0))), (5, .one (.a 5 [] (0))), (10, .one (.h 10 [])), (23, .one (.t none (.sc (.bool w1204)))), (181, .one (.t none (.sc (.int .i64 (v757.length : Int))))), (182, .one (.t none (.sc (.int .i64 w1205))))], [(1, .vr [.sc (.int .i64 a0.letters), .sc (.int .i64 a0.start), .sl a0.final.length (a0.final.map fun x0 => .sc (.bool x0)), .sl a0.next.length (a0.next.map fun x0 => .sl x0.length (x0.map fun x1 => .sc (.int .i64 x1)))]), (2, .vr [.os 1 0 [], .os 1 0 [], .os 1 0 [], .os 1 0 [], .os 1 0 [], .os 1 0 []]), (5, .vr [.os 1 v757.length (v757.map fun x0 => .sc (.int .i64 x0)), .os 1 v950.length (v950.map fun x0 => .sc (.int .i64 x0)), .os 1 w1206.length (w1206.map fun x0 => .sc (.int .i64 x0)), .os 1 (List.replicate (v757.length : Int).toNat ([] : List Int)).length ((List.replicate (v757.length : Int).toNat ([] : List Int)).map fun x0 => .os 1 x0.length (x0.map fun x1 => .sc (.int .i64 x1))), .os 1 (List.replicate (v757.length : Int).toNat (ByteArray.empty : ByteArray)).length ((List.replicate (v757.length : Int).toNat (ByteArray.empty : ByteArray)).map fun x0 => .sc (.string x0)), .os 1 (List.replicate (v757.length : Int).toNat (ByteArray.empty : ByteArray)).length ((List.replicate (v757.length : Int).toNat (ByteArray.empty : ByteArray)).map fun x0 => .sc (.string x0))]), (10, .os 1 w808.length (w808.map fun x0 => .os 1 x0.length (x0.map fun x1 => .sc (.bool x1))))]⟩
def z4y (v757 : List Int) (w1311 : Int) (w1367 : Int) (w1368 : List (List Int)) (v1381 : Int) : Bool × Int → Option ((Bool × Int) ⊕ ((Int × List (List Int)) ⊕ ((Int × List (List Int)) ⊕ (Imgs × Int))))
  | (w1385, w1386) =>
  if w1386 < (v757.length : Int) then
    (atI v757 w1386).bind fun v1389 =>
    if w1385 = true then
      if w1386 = w1367 then
        z0q (!false, IntKind.i64.wrap (w1386 + 1))
      else
        if w1386 = w1311 then
          z0q (!false, IntKind.i64.wrap (w1386 + 1))
        else
          (atI v757 w1311).bind fun v1390 =>
          if (zoY .i64 v1389 v1390) = v1389 then
            z0q (!(decide ((zoY .i64 v1381 v1389) = v1381)), IntKind.i64.wrap (w1386 + 1))
          else
            z0q (!false, IntKind.i64.wrap (w1386 + 1))
    else
      z0q (false, IntKind.i64.wrap (w1386 + 1))
  else
    z0v <|
    if w1385 = true then
      (atI w1368 w1311).bind fun v1391 =>
      chk (z0T 8 (v1391.length + 1)) <|
      z0q (IntKind.i64.wrap (w1367 + 1), (w1368.set w1311.toNat (v1391 ++ [w1367])))
    else
      z0q (IntKind.i64.wrap (w1367 + 1), w1368)
def z2i (a0 : DFA) (v757 : List Int) (v950 : List Int) (w1056 : List Int) (w1311 : Int) (w1367 : Int) (w1368 : List (List Int)) (v1381 : Int) : Bool × Int → Fr
  | (w1385, w1386) => ⟨418, [(1, .one (.a 1 [] (0))), (2, .one (.a 2 [] (0))), (5, .one (.a 5 [] (0))), (26, .one (.t none (.sc (.int .i64 w1311)))), (27, .one (.t none (.sc (.int .i64 w1367)))), (28, .one (.t none (.sc (.int .i64 v1381)))), (29, .one (.t none (.sc (.bool w1385)))), (244, .one (.t none (.sc (.int .i64 (v757.length : Int))))), (245, .one (.t none (.sc (.int .i64 w1311)))), (256, .one (.h 5 [0])), (257, .one (.t none (.sc (.int .i64 (v757.length : Int))))), (258, .one (.t none (.sc (.int .i64 w1367)))), (278, .one (.h 5 [0])), (279, .one (.t none (.sc (.int .i64 (v757.length : Int))))), (280, .one (.t none (.sc (.int .i64 w1386))))], [(1, .vr [.sc (.int .i64 a0.letters), .sc (.int .i64 a0.start), .sl a0.final.length (a0.final.map fun x0 => .sc (.bool x0)), .sl a0.next.length (a0.next.map fun x0 => .sl x0.length (x0.map fun x1 => .sc (.int .i64 x1)))]), (2, .vr [.os 1 0 [], .os 1 0 [], .os 1 0 [], .os 1 0 [], .os 1 0 [], .os 1 0 []]), (5, .vr [.os 1 v757.length (v757.map fun x0 => .sc (.int .i64 x0)), .os 1 v950.length (v950.map fun x0 => .sc (.int .i64 x0)), .os 1 w1056.length (w1056.map fun x0 => .sc (.int .i64 x0)), .os 1 w1368.length (w1368.map fun x0 => .os 1 x0.length (x0.map fun x1 => .sc (.int .i64 x1))), .os 1 (List.replicate (v757.length : Int).toNat (ByteArray.empty : ByteArray)).length ((List.replicate (v757.length : Int).toNat (ByteArray.empty : ByteArray)).map fun x0 => .sc (.string x0)), .os 1 (List.replicate (v757.length : Int).toNat (ByteArray.empty : ByteArray)).length ((List.replicate (v757.length : Int).toNat (ByteArray.empty : ByteArray)).map fun x0 => .sc (.string x0))])]⟩
def z4z (v757 : List Int) (w1311 : Int) : Int × List (List Int) → Option ((Int × List (List Int)) ⊕ ((Int × List (List Int)) ⊕ (Imgs × Int)))
  | (w1367, w1368) =>
  if w1367 < (v757.length : Int) then
    (atI v757 w1367).bind fun v1381 =>
    (atI v757 w1311).bind fun v1382 =>
    if (zoY .i64 v1381 v1382) = v1381 then
      if w1367 = w1311 then
        z0q (IntKind.i64.wrap (w1367 + 1), w1368)
      else
        z0y (z4y v757 w1311 w1367 w1368 v1381) LFm (true, 0)
    else
      z0q (IntKind.i64.wrap (w1367 + 1), w1368)
  else
    z0v <|
    z0q (IntKind.i64.wrap (w1311 + 1), w1368)
def z2B (a0 : DFA) (v757 : List Int) (v950 : List Int) (w1056 : List Int) (w1311 : Int) : Int × List (List Int) → Fr
  | (w1367, w1368) => ⟨418, [(1, .one (.a 1 [] (0))), (2, .one (.a 2 [] (0))), (5, .one (.a 5 [] (0))), (26, .one (.t none (.sc (.int .i64 w1311)))), (244, .one (.t none (.sc (.int .i64 (v757.length : Int))))), (245, .one (.t none (.sc (.int .i64 w1311)))), (256, .one (.h 5 [0])), (257, .one (.t none (.sc (.int .i64 (v757.length : Int))))), (258, .one (.t none (.sc (.int .i64 w1367))))], [(1, .vr [.sc (.int .i64 a0.letters), .sc (.int .i64 a0.start), .sl a0.final.length (a0.final.map fun x0 => .sc (.bool x0)), .sl a0.next.length (a0.next.map fun x0 => .sl x0.length (x0.map fun x1 => .sc (.int .i64 x1)))]), (2, .vr [.os 1 0 [], .os 1 0 [], .os 1 0 [], .os 1 0 [], .os 1 0 [], .os 1 0 []]), (5, .vr [.os 1 v757.length (v757.map fun x0 => .sc (.int .i64 x0)), .os 1 v950.length (v950.map fun x0 => .sc (.int .i64 x0)), .os 1 w1056.length (w1056.map fun x0 => .sc (.int .i64 x0)), .os 1 w1368.length (w1368.map fun x0 => .os 1 x0.length (x0.map fun x1 => .sc (.int .i64 x1))), .os 1 (List.replicate (v757.length : Int).toNat (ByteArray.empty : ByteArray)).length ((List.replicate (v757.length : Int).toNat (ByteArray.empty : ByteArray)).map fun x0 => .sc (.string x0)), .os 1 (List.replicate (v757.length : Int).toNat (ByteArray.empty : ByteArray)).length ((List.replicate (v757.length : Int).toNat (ByteArray.empty : ByteArray)).map fun x0 => .sc (.string x0))])]⟩
def z4w (v757 : List Int) (w1430 : Int) (w1474 : Int) (w1486 : List ByteArray) (v1496 : List Int × List ByteArray) : Int × List ByteArray → Option ((Int × List ByteArray) ⊕ ((Int × List ByteArray × List ByteArray) ⊕ (Imgs × Int)))
  | (w1501, w1502) =>
  if w1501 < (v1496.1.length : Int) then
    (atI v1496.1 w1501).bind fun v1507 =>
    (atI v757 w1474).bind fun v1508 =>
    if v1507 = v1508 then
      (atI v1496.2 w1501).bind fun v1509 =>
      (atI w1502 w1430).bind fun v1510 =>
      z0q (IntKind.i64.wrap (w1501 + 1), (w1502.set w1430.toNat v1509))
    else
      z0q (IntKind.i64.wrap (w1501 + 1), w1502)
  else
    z0v <|
    z0q (IntKind.i64.wrap (w1430 + 1), w1486, w1502)
def z4q (a0 : DFA) (v757 : List Int) (v950 : List Int) (w1056 : List Int) (w1312 : List (List Int)) (w1430 : Int) (w1474 : Int) (w1486 : List ByteArray) (v1496 : List Int × List ByteArray) : Int × List ByteArray → Fr
  | (w1501, w1502) => ⟨418, [(1, .one (.a 1 [] (0))), (2, .one (.a 2 [] (0))), (5, .one (.a 5 [] (0))), (32, .one (.t none (.sc (.int .i64 w1430)))), (33, .one (.t none (.sc (.int .i64 w1474)))), (35, .one (.h 35 [])), (333, .one (.t none (.sc (.int .i64 (v757.length : Int))))), (334, .one (.t none (.sc (.int .i64 w1430)))), (393, .one (.h 34 [])), (394, .one (.t none (.sc (.int .i64 (v1496.1.length : Int))))), (395, .one (.t none (.sc (.int .i64 w1501))))], [(1, .vr [.sc (.int .i64 a0.letters), .sc (.int .i64 a0.start), .sl a0.final.length (a0.final.map fun x0 => .sc (.bool x0)), .sl a0.next.length (a0.next.map fun x0 => .sl x0.length (x0.map fun x1 => .sc (.int .i64 x1)))]), (2, .vr [.os 1 0 [], .os 1 0 [], .os 1 0 [], .os 1 0 [], .os 1 0 [], .os 1 0 []]), (5, .vr [.os 1 v757.length (v757.map fun x0 => .sc (.int .i64 x0)), .os 1 v950.length (v950.map fun x0 => .sc (.int .i64 x0)), .os 1 w1056.length (w1056.map fun x0 => .sc (.int .i64 x0)), .os 1 w1312.length (w1312.map fun x0 => .os 1 x0.length (x0.map fun x1 => .sc (.int .i64 x1))), .os 1 w1486.length (w1486.map fun x0 => .sc (.string x0)), .os 1 w1502.length (w1502.map fun x0 => .sc (.string x0))]), (35, .os 1 v1496.2.length (v1496.2.map fun x0 => .sc (.string x0))), (34, .os 1 v1496.1.length (v1496.1.map fun x0 => .sc (.int .i64 x0)))]⟩
def z4x (a0 : DFA) (v757 : List Int) (w1430 : Int) (w1432 : List ByteArray) (w1474 : Int) (v1480 : List Int × List ByteArray) : Int × List ByteArray → Option ((Int × List ByteArray) ⊕ ((Int × List ByteArray × List ByteArray) ⊕ (Imgs × Int)))
  | (w1485, w1486) =>
  if w1485 < (v1480.1.length : Int) then
    (atI v1480.1 w1485).bind fun v1491 =>
    (atI v757 w1430).bind fun v1492 =>
    if v1491 = v1492 then
      (atI v1480.2 w1485).bind fun v1493 =>
      (atI w1486 w1430).bind fun v1494 =>
      z0q (IntKind.i64.wrap (w1485 + 1), (w1486.set w1430.toNat v1493))
    else
      z0q (IntKind.i64.wrap (w1485 + 1), w1486)
  else
    z0v <|
    (atI v757 w1430).bind fun v1495 =>
    (z2A a0 v1495).bind fun v1496 =>
    z0y (z4w v757 w1430 w1474 w1486 v1496) LFm (0, w1432)
def z4r (a0 : DFA) (v757 : List Int) (v950 : List Int) (w1056 : List Int) (w1312 : List (List Int)) (w1430 : Int) (w1432 : List ByteArray) (w1474 : Int) (v1480 : List Int × List ByteArray) : Int × List ByteArray → Fr
  | (w1485, w1486) => ⟨418, [(1, .one (.a 1 [] (0))), (2, .one (.a 2 [] (0))), (5, .one (.a 5 [] (0))), (32, .one (.t none (.sc (.int .i64 w1430)))), (33, .one (.t none (.sc (.int .i64 w1474)))), (35, .one (.h 35 [])), (333, .one (.t none (.sc (.int .i64 (v757.length : Int))))), (334, .one (.t none (.sc (.int .i64 w1430)))), (360, .one (.h 34 [])), (361, .one (.t none (.sc (.int .i64 (v1480.1.length : Int))))), (362, .one (.t none (.sc (.int .i64 w1485))))], [(1, .vr [.sc (.int .i64 a0.letters), .sc (.int .i64 a0.start), .sl a0.final.length (a0.final.map fun x0 => .sc (.bool x0)), .sl a0.next.length (a0.next.map fun x0 => .sl x0.length (x0.map fun x1 => .sc (.int .i64 x1)))]), (2, .vr [.os 1 0 [], .os 1 0 [], .os 1 0 [], .os 1 0 [], .os 1 0 [], .os 1 0 []]), (5, .vr [.os 1 v757.length (v757.map fun x0 => .sc (.int .i64 x0)), .os 1 v950.length (v950.map fun x0 => .sc (.int .i64 x0)), .os 1 w1056.length (w1056.map fun x0 => .sc (.int .i64 x0)), .os 1 w1312.length (w1312.map fun x0 => .os 1 x0.length (x0.map fun x1 => .sc (.int .i64 x1))), .os 1 w1486.length (w1486.map fun x0 => .sc (.string x0)), .os 1 w1432.length (w1432.map fun x0 => .sc (.string x0))]), (35, .os 1 v1480.2.length (v1480.2.map fun x0 => .sc (.string x0))), (34, .os 1 v1480.1.length (v1480.1.map fun x0 => .sc (.int .i64 x0)))]⟩
def z5L (a0 : DFA) (v757 : List Int) (v950 : List Int) (w1430 : Int) (w1431 : List ByteArray) (w1432 : List ByteArray) : Int → Option (Int ⊕ ((Int × List ByteArray × List ByteArray) ⊕ (Imgs × Int)))
  | w1474 =>
  (atI v950 w1474).bind fun v1477 =>
  (atI v950 w1430).bind fun v1478 =>
  if v1477 = v1478 then
    z0v <|
    (atI v757 w1474).bind fun v1479 =>
    (z2A a0 v1479).bind fun v1480 =>
    z0y (z4x a0 v757 w1430 w1432 w1474 v1480) LFm (0, w1431)
  else
    z0q (IntKind.i64.wrap (w1474 + 1))
def z5D (a0 : DFA) (v757 : List Int) (v950 : List Int) (w1056 : List Int) (w1312 : List (List Int)) (w1430 : Int) (w1431 : List ByteArray) (w1432 : List ByteArray) : Int → Fr
  | w1474 => ⟨418, [(1, .one (.a 1 [] (0))), (2, .one (.a 2 [] (0))), (5, .one (.a 5 [] (0))), (32, .one (.t none (.sc (.int .i64 w1430)))), (33, .one (.t none (.sc (.int .i64 w1474)))), (333, .one (.t none (.sc (.int .i64 (v757.length : Int))))), (334, .one (.t none (.sc (.int .i64 w1430))))], [(1, .vr [.sc (.int .i64 a0.letters), .sc (.int .i64 a0.start), .sl a0.final.length (a0.final.map fun x0 => .sc (.bool x0)), .sl a0.next.length (a0.next.map fun x0 => .sl x0.length (x0.map fun x1 => .sc (.int .i64 x1)))]), (2, .vr [.os 1 0 [], .os 1 0 [], .os 1 0 [], .os 1 0 [], .os 1 0 [], .os 1 0 []]), (5, .vr [.os 1 v757.length (v757.map fun x0 => .sc (.int .i64 x0)), .os 1 v950.length (v950.map fun x0 => .sc (.int .i64 x0)), .os 1 w1056.length (w1056.map fun x0 => .sc (.int .i64 x0)), .os 1 w1312.length (w1312.map fun x0 => .os 1 x0.length (x0.map fun x1 => .sc (.int .i64 x1))), .os 1 w1431.length (w1431.map fun x0 => .sc (.string x0)), .os 1 w1432.length (w1432.map fun x0 => .sc (.string x0))])]⟩
def z5M (a0 : DFA) (v757 : List Int) (v950 : List Int) (w1056 : List Int) (w1312 : List (List Int)) : Int × List ByteArray × List ByteArray → Option ((Int × List ByteArray × List ByteArray) ⊕ (Imgs × Int))
  | (w1430, w1431, w1432) =>
  if w1430 < (v757.length : Int) then
    z0y (z5L a0 v757 v950 w1430 w1431 w1432) LFm 0
  else
    z0v <|
    some ((⟨v757, v950, w1056, w1312, w1431, w1432⟩ : Imgs), 0)
def z5E (a0 : DFA) (v757 : List Int) (v950 : List Int) (w1056 : List Int) (w1312 : List (List Int)) : Int × List ByteArray × List ByteArray → Fr
  | (w1430, w1431, w1432) => ⟨418, [(1, .one (.a 1 [] (0))), (2, .one (.a 2 [] (0))), (5, .one (.a 5 [] (0))), (333, .one (.t none (.sc (.int .i64 (v757.length : Int))))), (334, .one (.t none (.sc (.int .i64 w1430))))], [(1, .vr [.sc (.int .i64 a0.letters), .sc (.int .i64 a0.start), .sl a0.final.length (a0.final.map fun x0 => .sc (.bool x0)), .sl a0.next.length (a0.next.map fun x0 => .sl x0.length (x0.map fun x1 => .sc (.int .i64 x1)))]), (2, .vr [.os 1 0 [], .os 1 0 [], .os 1 0 [], .os 1 0 [], .os 1 0 [], .os 1 0 []]), (5, .vr [.os 1 v757.length (v757.map fun x0 => .sc (.int .i64 x0)), .os 1 v950.length (v950.map fun x0 => .sc (.int .i64 x0)), .os 1 w1056.length (w1056.map fun x0 => .sc (.int .i64 x0)), .os 1 w1312.length (w1312.map fun x0 => .os 1 x0.length (x0.map fun x1 => .sc (.int .i64 x1))), .os 1 w1431.length (w1431.map fun x0 => .sc (.string x0)), .os 1 w1432.length (w1432.map fun x0 => .sc (.string x0))])]⟩
def z3r (a0 : DFA) (v757 : List Int) (v950 : List Int) (w1056 : List Int) : Int × List (List Int) → Option ((Int × List (List Int)) ⊕ (Imgs × Int))
  | (w1311, w1312) =>
  if w1311 < (v757.length : Int) then
    (atI v757 w1311).bind fun v1353 =>
    (z2J v1353).bind fun v1354 =>
    if v1354 = 1 then
      z0q (IntKind.i64.wrap (w1311 + 1), w1312)
    else
      z0y (z4z v757 w1311) LFm (0, w1312)
  else
    z0v <|
    z0y (z5M a0 v757 v950 w1056 w1312) LFm (0, List.replicate (v757.length : Int).toNat (ByteArray.empty : ByteArray), List.replicate (v757.length : Int).toNat (ByteArray.empty : ByteArray))
def z4s (a0 : DFA) (v757 : List Int) (v950 : List Int) (w1056 : List Int) : Int × List (List Int) → Fr
  | (w1311, w1312) => ⟨418, [(1, .one (.a 1 [] (0))), (2, .one (.a 2 [] (0))), (5, .one (.a 5 [] (0))), (244, .one (.t none (.sc (.int .i64 (v757.length : Int))))), (245, .one (.t none (.sc (.int .i64 w1311))))], [(1, .vr [.sc (.int .i64 a0.letters), .sc (.int .i64 a0.start), .sl a0.final.length (a0.final.map fun x0 => .sc (.bool x0)), .sl a0.next.length (a0.next.map fun x0 => .sl x0.length (x0.map fun x1 => .sc (.int .i64 x1)))]), (2, .vr [.os 1 0 [], .os 1 0 [], .os 1 0 [], .os 1 0 [], .os 1 0 [], .os 1 0 []]), (5, .vr [.os 1 v757.length (v757.map fun x0 => .sc (.int .i64 x0)), .os 1 v950.length (v950.map fun x0 => .sc (.int .i64 x0)), .os 1 w1056.length (w1056.map fun x0 => .sc (.int .i64 x0)), .os 1 w1312.length (w1312.map fun x0 => .os 1 x0.length (x0.map fun x1 => .sc (.int .i64 x1))), .os 1 (List.replicate (v757.length : Int).toNat (ByteArray.empty : ByteArray)).length ((List.replicate (v757.length : Int).toNat (ByteArray.empty : ByteArray)).map fun x0 => .sc (.string x0)), .os 1 (List.replicate (v757.length : Int).toNat (ByteArray.empty : ByteArray)).length ((List.replicate (v757.length : Int).toNat (ByteArray.empty : ByteArray)).map fun x0 => .sc (.string x0))])]⟩
def z4C (a0 : DFA) (v757 : List Int) (w808 : List (List Bool)) (v950 : List Int) : Bool × List Int → Option ((Bool × List Int) ⊕ (Imgs × Int))
  | (w1055, w1056) =>
  if w1055 = true then
    z0y (z4B v757 w808) LFm (false, 0, w1056)
  else
    z0v <|
    z0y (z3r a0 v757 v950 w1056) LFm (0, List.replicate (v757.length : Int).toNat ([] : List Int))
def z5G (a0 : DFA) (v757 : List Int) (w808 : List (List Bool)) (v950 : List Int) : Bool × List Int → Fr
  | (w1055, w1056) => ⟨418, [(1, .one (.a 1 [] (0))), (2, .one (.a 2 [] (0))), (5, .one (.a 5 [] (0))), (10, .one (.h 10 [])), (23, .one (.t none (.sc (.bool w1055))))], [(1, .vr [.sc (.int .i64 a0.letters), .sc (.int .i64 a0.start), .sl a0.final.length (a0.final.map fun x0 => .sc (.bool x0)), .sl a0.next.length (a0.next.map fun x0 => .sl x0.length (x0.map fun x1 => .sc (.int .i64 x1)))]), (2, .vr [.os 1 0 [], .os 1 0 [], .os 1 0 [], .os 1 0 [], .os 1 0 [], .os 1 0 []]), (5, .vr [.os 1 v757.length (v757.map fun x0 => .sc (.int .i64 x0)), .os 1 v950.length (v950.map fun x0 => .sc (.int .i64 x0)), .os 1 w1056.length (w1056.map fun x0 => .sc (.int .i64 x0)), .os 1 (List.replicate (v757.length : Int).toNat ([] : List Int)).length ((List.replicate (v757.length : Int).toNat ([] : List Int)).map fun x0 => .os 1 x0.length (x0.map fun x1 => .sc (.int .i64 x1))), .os 1 (List.replicate (v757.length : Int).toNat (ByteArray.empty : ByteArray)).length ((List.replicate (v757.length : Int).toNat (ByteArray.empty : ByteArray)).map fun x0 => .sc (.string x0)), .os 1 (List.replicate (v757.length : Int).toNat (ByteArray.empty : ByteArray)).length ((List.replicate (v757.length : Int).toNat (ByteArray.empty : ByteArray)).map fun x0 => .sc (.string x0))]), (10, .os 1 w808.length (w808.map fun x0 => .os 1 x0.length (x0.map fun x1 => .sc (.bool x1))))]⟩
def z5N (a0 : DFA) (v757 : List Int) (w808 : List (List Bool)) : Int × List Int → Option ((Int × List Int) ⊕ (Imgs × Int))
  | (w908, w909) =>
  if w908 < (v757.length : Int) then
    (atI w909 w908).bind fun v930 =>
    z0y (z4D w808 w908 w909) LFm 0
  else
    z0v <|
    (z2D w909).bind fun v950 =>
    chk (z1V 8 (v757.length : Int)) <|
    chk (z1V 24 (v757.length : Int)) <|
    chk (z1V 16 (v757.length : Int)) <|
    z0y (z4C a0 v757 w808 v950) LFm (true, List.replicate (v757.length : Int).toNat (0 : Int))
def z4u (a0 : DFA) (v757 : List Int) (w808 : List (List Bool)) : Int × List Int → Fr
  | (w908, w909) => ⟨418, [(1, .one (.a 1 [] (0))), (2, .one (.a 2 [] (0))), (5, .one (.a 5 [] (0))), (6, .one (.t none (.sc (.int .i64 (v757.length : Int))))), (10, .one (.h 10 [])), (20, .one (.h 20 [])), (126, .one (.t none (.sc (.int .i64 (v757.length : Int))))), (127, .one (.t none (.sc (.int .i64 w908))))], [(1, .vr [.sc (.int .i64 a0.letters), .sc (.int .i64 a0.start), .sl a0.final.length (a0.final.map fun x0 => .sc (.bool x0)), .sl a0.next.length (a0.next.map fun x0 => .sl x0.length (x0.map fun x1 => .sc (.int .i64 x1)))]), (2, .vr [.os 1 0 [], .os 1 0 [], .os 1 0 [], .os 1 0 [], .os 1 0 [], .os 1 0 []]), (5, .vr [.os 1 v757.length (v757.map fun x0 => .sc (.int .i64 x0)), .os 1 0 [], .os 1 0 [], .os 1 0 [], .os 1 0 [], .os 1 0 []]), (10, .os 1 w808.length (w808.map fun x0 => .os 1 x0.length (x0.map fun x1 => .sc (.bool x1)))), (20, .os 1 w909.length (w909.map fun x0 => .sc (.int .i64 x0)))]⟩
def z5O (a0 : DFA) (v757 : List Int) : Int × List (List Bool) → Option ((Int × List (List Bool)) ⊕ (Imgs × Int))
  | (w807, w808) =>
  if w807 < (v757.length : Int) then
    (atI v757 w807).bind fun v849 =>
    (z2A a0 v849).bind fun v850 =>
    z0y (z4F v757 w807 v850) LFm (0, w808)
  else
    z0v <|
    chk (z1V 8 (v757.length : Int)) <|
    z0y (z5N a0 v757 w808) LFm (0, List.replicate (v757.length : Int).toNat (0 : Int))
def z5I (a0 : DFA) (v757 : List Int) : Int × List (List Bool) → Fr
  | (w807, w808) => ⟨418, [(1, .one (.a 1 [] (0))), (2, .one (.a 2 [] (0))), (5, .one (.a 5 [] (0))), (6, .one (.t none (.sc (.int .i64 (v757.length : Int))))), (10, .one (.h 10 [])), (82, .one (.h 5 [0])), (83, .one (.t none (.sc (.int .i64 (v757.length : Int))))), (84, .one (.t none (.sc (.int .i64 w807))))], [(1, .vr [.sc (.int .i64 a0.letters), .sc (.int .i64 a0.start), .sl a0.final.length (a0.final.map fun x0 => .sc (.bool x0)), .sl a0.next.length (a0.next.map fun x0 => .sl x0.length (x0.map fun x1 => .sc (.int .i64 x1)))]), (2, .vr [.os 1 0 [], .os 1 0 [], .os 1 0 [], .os 1 0 [], .os 1 0 [], .os 1 0 []]), (5, .vr [.os 1 v757.length (v757.map fun x0 => .sc (.int .i64 x0)), .os 1 0 [], .os 1 0 [], .os 1 0 [], .os 1 0 [], .os 1 0 []]), (10, .os 1 w808.length (w808.map fun x0 => .os 1 x0.length (x0.map fun x1 => .sc (.bool x1))))]⟩
def z5P (a0 : DFA) (v757 : List Int) : Int × List (List Bool) → Option ((Int × List (List Bool)) ⊕ (Imgs × Int))
  | (w763, w764) =>
  if w763 < (v757.length : Int) then
    chk (z1V 1 (v757.length : Int)) <|
    (atI w764 w763).bind fun v766 =>
    z0q (IntKind.i64.wrap (w763 + 1), (w764.set w763.toNat (List.replicate (v757.length : Int).toNat (false : Bool))))
  else
    z0v <|
    z0y (z5O a0 v757) LFm (0, w764)
def z5J (a0 : DFA) (v757 : List Int) : Int × List (List Bool) → Fr
  | (w763, w764) => ⟨418, [(1, .one (.a 1 [] (0))), (2, .one (.a 2 [] (0))), (5, .one (.a 5 [] (0))), (6, .one (.t none (.sc (.int .i64 (v757.length : Int))))), (10, .one (.h 10 [])), (71, .one (.t none (.sc (.int .i64 (v757.length : Int))))), (72, .one (.t none (.sc (.int .i64 w763))))], [(1, .vr [.sc (.int .i64 a0.letters), .sc (.int .i64 a0.start), .sl a0.final.length (a0.final.map fun x0 => .sc (.bool x0)), .sl a0.next.length (a0.next.map fun x0 => .sl x0.length (x0.map fun x1 => .sc (.int .i64 x1)))]), (2, .vr [.os 1 0 [], .os 1 0 [], .os 1 0 [], .os 1 0 [], .os 1 0 [], .os 1 0 []]), (5, .vr [.os 1 v757.length (v757.map fun x0 => .sc (.int .i64 x0)), .os 1 0 [], .os 1 0 [], .os 1 0 [], .os 1 0 [], .os 1 0 []]), (10, .os 1 w764.length (w764.map fun x0 => .os 1 x0.length (x0.map fun x1 => .sc (.bool x1))))]⟩
def z4G (a0 : DFA) (v757 : List Int) : Int × (List (Int × Int)) → Option ((Int × (List (Int × Int))) ⊕ (Imgs × Int))
  | (w759, w760) =>
  if w759 < (v757.length : Int) then
    (atI v757 w759).bind fun v762 =>
    z0q (IntKind.i64.wrap (w759 + 1), zf2 v762 w759 w760)
  else
    z0v <|
    chk (z1V 24 (v757.length : Int)) <|
    z0y (z5P a0 v757) LFm (0, List.replicate (v757.length : Int).toNat ([] : List Bool))
def z5K (a0 : DFA) (v757 : List Int) : Int × (List (Int × Int)) → Fr
  | (w759, w760) => ⟨418, [(1, .one (.a 1 [] (0))), (2, .one (.a 2 [] (0))), (5, .one (.a 5 [] (0))), (6, .one (.t none (.sc (.int .i64 (v757.length : Int))))), (7, .one (.h 7 [])), (57, .one (.h 5 [0])), (58, .one (.t none (.sc (.int .i64 (v757.length : Int))))), (59, .one (.t none (.sc (.int .i64 w759))))], [(1, .vr [.sc (.int .i64 a0.letters), .sc (.int .i64 a0.start), .sl a0.final.length (a0.final.map fun x0 => .sc (.bool x0)), .sl a0.next.length (a0.next.map fun x0 => .sl x0.length (x0.map fun x1 => .sc (.int .i64 x1)))]), (2, .vr [.os 1 0 [], .os 1 0 [], .os 1 0 [], .os 1 0 [], .os 1 0 [], .os 1 0 []]), (5, .vr [.os 1 v757.length (v757.map fun x0 => .sc (.int .i64 x0)), .os 1 0 [], .os 1 0 [], .os 1 0 [], .os 1 0 [], .os 1 0 []]), (7, .mp (some .i64) (w760.map fun x0 => (.int .i64 x0.1, .int .i64 x0.2)))]⟩
def zaA (a0 : DFA) : Option (Imgs × Int) :=
  (z6t a0).bind fun v756 =>
  if v756 = 0 then
    (z6s a0).bind fun v757 =>
    if 400 < (v757.length : Int) then
      some ((⟨[], [], [], [], [], []⟩ : Imgs), 3)
    else
      z0y (z4G a0 v757) LFm (0, ([] : List (Int × Int)))
  else
    some ((⟨[], [], [], [], [], []⟩ : Imgs), v756)
instance ref24_Of_ok {a0 : DFA} : Ok (zaA a0) (fun r => L 27 [.agg [.sc (.int .i64 a0.letters), .sc (.int .i64 a0.start), .sl a0.final.length (a0.final.map fun x0 => .sc (.bool x0)), .sl a0.next.length (a0.next.map fun x0 => .sl x0.length (x0.map fun x1 => .sc (.int .i64 x1)))]] = some (.tup [.agg [.os 1 r.1.sets.length (r.1.sets.map fun x0 => .sc (.int .i64 x0)), .os 1 r.1.class_.length (r.1.class_.map fun x0 => .sc (.int .i64 x0)), .os 1 r.1.height.length (r.1.height.map fun x0 => .sc (.int .i64 x0)), .os 1 r.1.tiles.length (r.1.tiles.map fun x0 => .os 1 x0.length (x0.map fun x1 => .sc (.int .i64 x1))), .os 1 r.1.words.length (r.1.words.map fun x0 => .sc (.string x0)), .os 1 r.1.back.length (r.1.back.map fun x0 => .sc (.string x0))], .sc (.int .i64 r.2)], [.dead])) := ⟨fun r h0 => by
  simp only [zaA] at h0
  refine zlC zB5 zBv (zcC zBH ⟨of_decide_eq_true rfl, of_decide_eq_true rfl⟩ ?_)
  simp only [z4L, z3M, z3F, z5T, z4P]
  refine zq rfl (zr rfl rfl rfl (by simp; rfl) ?_)
  refine z0a (zq rfl (zq rfl ?_))
  obtain ⟨v756, f1042, h1⟩ := z0i h0
  have f1042k := Ok.ok _ f1042
  try simp at f1042k
  refine zr rfl rfl rfl (by simp [f1042k]; rfl) ?_
  refine z0a (zq rfl (zr rfl rfl rfl (by simp; rfl) ?_))
  refine z0a ?_
  by_cases c1043 : v756 = 0
  ·rw [if_pos c1043] at h1
   have c1043e := eq_true c1043
   refine z0V rfl (by simp [c1043e]) (z0G rfl (z0a (zq rfl ?_)))
   obtain ⟨v757, f1044, h2⟩ := z0i h1
   have f1044k := Ok.ok _ f1044
   try simp at f1044k
   refine zr rfl rfl rfl (by simp [f1044k]; rfl) ?_
   refine z0a (zq rfl (zr rfl rfl rfl (by simp; rfl) ?_))
   refine z0a (zq rfl (zq rfl (zr rfl rfl rfl (by simp; rfl) ?_)))
   refine z0a ?_
   by_cases c1045 : 400 < (v757.length : Int)
   ·rw [if_pos c1045] at h2
    refine z1c rfl (by simp [c1045]) (zq rfl (zr rfl rfl rfl (by simp; rfl) ?_))
    refine z0a (z3m rfl (z3O ?_))
    cases h2
    simp
   ·rw [if_neg c1045] at h2
    refine z0V rfl (by simp [c1045]) (z0G rfl (z0a (zq rfl (zr rfl rfl rfl (by simp; rfl) ?_))))
    refine z0a (zq rfl (zq rfl (zr rfl rfl rfl (by simp; rfl) ?_)))
    refine z0a (zb rfl (z0R h2 (z5K a0 v757) rfl rfl (by simp [z5K]) fun s o1 h3 hr1 => ?_))
    obtain ⟨w759, w760⟩ := s
    simp only [z4G] at h3
    simp only [z5K]
    refine zq rfl (zr rfl rfl rfl (by simp; rfl) ?_)
    refine z0a (zq rfl ?_)
    by_cases c1050 : w759 < (v757.length : Int)
    ·rw [if_pos c1050] at h3
     refine z1c rfl (by simp [c1050]) (z0G rfl (z0a (zq rfl (zb rfl (zq rfl ?_)))))
     obtain ⟨v762, f1051, h4⟩ := z0U h3
     refine zr rfl rfl rfl (by simp [f1051]; rfl) ?_
     refine z0a (zr rfl rfl rfl (by simp; rfl) ?_)
     refine z0m (z0a (zr rfl rfl rfl (by simp; rfl) ?_))
     have ho := z0h h4
     refine z0n ho ?_
     simp [z5K]
    ·rw [if_neg c1050] at h3
     refine z0V rfl (by simp [c1050]) (z0Z rfl (z0H ?_))
     obtain ⟨rr1, h4, ho1⟩ := z0w h3
     have hs1 := hr1 _ ho1
     subst hs1
     refine z0C ho1 (z0l rfl (z0a (zq rfl ?_)))
     obtain ⟨f1052, h5⟩ := zxl h4
     refine zr rfl rfl rfl (by simp [f1052]; rfl) ?_
     refine z0a (zq rfl (zq rfl (zr rfl rfl rfl (by simp [f1052]; rfl) ?_)))
     refine z0a (zb rfl (z0R h5 (z5J a0 v757) rfl rfl (by simp [z5J]) fun s o2 h6 hr2 => ?_))
     obtain ⟨w763, w764⟩ := s
     simp only [z5P] at h6
     simp only [z5J]
     refine zq rfl (zr rfl rfl rfl (by simp; rfl) ?_)
     refine z0a (zq rfl ?_)
     by_cases c1059 : w763 < (v757.length : Int)
     ·rw [if_pos c1059] at h6
      refine z1c rfl (by simp [c1059]) (z0G rfl (z0a (zq rfl (zb rfl (zq rfl (zr rfl rfl rfl (by simp; rfl) ?_))))))
      refine z0a ?_
      obtain ⟨f1060, h7⟩ := zC3 h6
      obtain ⟨v766, f1061, h8⟩ := z0U h7
      refine zr rfl rfl rfl (by simp [f1060, f1061]; rfl) ?_
      refine z0m (z0a (zr rfl rfl rfl (by simp; rfl) ?_))
      have ho := z0h h8
      refine z0n ho ?_
      simp [z5J]
     ·rw [if_neg c1059] at h6
      refine z0V rfl (by simp [c1059]) (z0Z rfl (z0H ?_))
      obtain ⟨rr2, h7, ho2⟩ := z0w h6
      have hs2 := hr2 _ ho2
      subst hs2
      refine z0C ho2 (z0l rfl (z0a (zq rfl (zq rfl (zr rfl rfl rfl (by simp; rfl) ?_)))))
      refine z0a (zb rfl (z0R h7 (z5I a0 v757) rfl rfl (by simp [z5I]) fun s o3 h8 hr3 => ?_))
      obtain ⟨w807, w808⟩ := s
      simp only [z5O] at h8
      simp only [z5I]
      refine zq rfl (zr rfl rfl rfl (by simp; rfl) ?_)
      refine z0a (zq rfl ?_)
      by_cases c1170 : w807 < (v757.length : Int)
      ·rw [if_pos c1170] at h8
       refine z1c rfl (by simp [c1170]) (z0G rfl (z0a (zq rfl (zb rfl (zq rfl ?_)))))
       obtain ⟨v849, f1171, h9⟩ := z0U h8
       refine zr rfl rfl rfl (by simp [f1171]; rfl) ?_
       refine z0a (zq rfl ?_)
       obtain ⟨v850, f1172, h10⟩ := z0i h9
       have f1172k := Ok.ok _ f1172
       try simp at f1172k
       refine zr rfl rfl rfl (by simp [f1172k]; rfl) ?_
       refine z0a (zq rfl (zr rfl rfl rfl (by simp; rfl) ?_))
       refine z0a (zb rfl (z0R h10 (z5H a0 v757 w807 v850) rfl rfl (by simp [z5H]) fun s o4 h11 hr4 => ?_))
       obtain ⟨w863, w864⟩ := s
       simp only [z4F] at h11
       simp only [z5H]
       refine zq rfl (zr rfl rfl rfl (by simp; rfl) ?_)
       refine z0a (zq rfl ?_)
       by_cases c1207 : w863 < (v850.1.length : Int)
       ·rw [if_pos c1207] at h11
        refine z1c rfl (by simp [c1207]) (z0G rfl (z0a (zq rfl (zb rfl (zq rfl ?_)))))
        obtain ⟨v877, f1208, h12⟩ := z0U h11
        refine zr rfl rfl rfl (by simp [f1208]; rfl) ?_
        refine z0a (zq rfl (zr rfl rfl rfl (by simp; rfl) ?_))
        refine z0a (zb rfl (z0R h12 (z4v a0 v757 w807 v850 w863 v877) rfl rfl (by simp [z4v]) fun s o5 h13 hr5 => ?_))
        obtain ⟨w881, w882⟩ := s
        simp only [z4E] at h13
        simp only [z4v]
        refine zq rfl (zr rfl rfl rfl (by simp; rfl) ?_)
        refine z0a (zq rfl ?_)
        by_cases c1219 : w881 < (v757.length : Int)
        ·rw [if_pos c1219] at h13
         refine z1c rfl (by simp [c1219]) (z0G rfl (z0a (zq rfl (zb rfl (zq rfl ?_)))))
         obtain ⟨v886, f1220, h14⟩ := z0U h13
         refine zr rfl rfl rfl (by simp [f1220]; rfl) ?_
         refine z0a (zq rfl (zr rfl rfl rfl (by simp; rfl) ?_))
         refine z0a ?_
         by_cases c1221 : (zoY .i64 v886 v877) = v886
         ·rw [if_pos c1221] at h14
          have c1221e := eq_true c1221
          refine z1c rfl (by simp [c1221e]) ?_
          obtain ⟨v887, f1222, h15⟩ := z0U h14
          obtain ⟨v888, f1223, h16⟩ := z0U h15
          refine zr rfl rfl rfl (by simp [f1222, f1223]; rfl) ?_
          refine z0m (z0a (zr rfl rfl rfl (by simp [f1222]; rfl) ?_))
          have ho := z0h h16
          refine z0n ho ?_
          simp [z4v]
         ·rw [if_neg c1221] at h14
          have c1221e := eq_false c1221
          refine z0V rfl (by simp [c1221e]) (z0G rfl (z0m (z0a (zr rfl rfl rfl (by simp; rfl) ?_))))
          have ho := z0h h14
          refine z0n ho ?_
          simp [z4v]
        ·rw [if_neg c1219] at h13
         refine z0V rfl (by simp [c1219]) (z0Z rfl (z0H ?_))
         obtain ⟨rr5, h14, ho5⟩ := z0w h13
         have hs5 := hr5 _ ho5
         subst hs5
         refine z0C ho5 (z0l rfl (z0m (z0a (zr rfl rfl rfl (by simp; rfl) ?_))))
         have ho := z0h h14
         refine z0n ho ?_
         simp [z5H]
       ·rw [if_neg c1207] at h11
        refine z0V rfl (by simp [c1207]) (z0Z rfl (z0H ?_))
        obtain ⟨rr4, h12, ho4⟩ := z0w h11
        have hs4 := hr4 _ ho4
        subst hs4
        refine z0C ho4 (z0l rfl (z0m (z0a (zr rfl rfl rfl (by simp; rfl) ?_))))
        have ho := z0h h12
        refine z0n ho ?_
        simp [z5I]
      ·rw [if_neg c1170] at h8
       refine z0V rfl (by simp [c1170]) (z0Z rfl (z0H ?_))
       obtain ⟨rr3, h9, ho3⟩ := z0w h8
       have hs3 := hr3 _ ho3
       subst hs3
       refine z0C ho3 (z0l rfl (z0a (zq rfl ?_)))
       obtain ⟨f1224, h10⟩ := zxl h9
       refine zr rfl rfl rfl (by simp [f1224]; rfl) ?_
       refine z0a (zq rfl (zq rfl (zr rfl rfl rfl (by simp [f1224]; rfl) ?_)))
       refine z0a (zb rfl (z0R h10 (z4u a0 v757 w808) rfl rfl (by simp [z4u]) fun s o6 h11 hr6 => ?_))
       obtain ⟨w908, w909⟩ := s
       simp only [z5N] at h11
       simp only [z4u]
       refine zq rfl (zr rfl rfl rfl (by simp; rfl) ?_)
       refine z0a (zq rfl ?_)
       by_cases c1279 : w908 < (v757.length : Int)
       ·rw [if_pos c1279] at h11
        refine z1c rfl (by simp [c1279]) (z0G rfl (z0a (zq rfl (zb rfl (zq rfl (zr rfl rfl rfl (by simp; rfl) ?_))))))
        refine z0a (zq rfl ?_)
        obtain ⟨v930, f1280, h12⟩ := z0U h11
        refine zr rfl rfl rfl (by simp [f1280]; rfl) ?_
        refine z0a (zq rfl (zr rfl rfl rfl (by simp; rfl) ?_))
        refine z0a (zb rfl (z0R h12 (z4t a0 v757 w808 w908 w909) rfl rfl (by simp [z4t]) fun s o7 h13 hr7 => ?_))
        obtain ⟨w937, hs7⟩ : ∃ y, y = s := ⟨_, rfl⟩
        subst hs7
        simp only [z4D] at h13
        simp only [z4t]
        refine zq rfl (zq rfl (zr rfl rfl rfl (by simp; rfl) ?_))
        refine z0a ?_
        by_cases c1299 : w937 < w908
        ·rw [if_pos c1299] at h13
         refine z1c rfl (by simp [c1299]) (z0G rfl (z0a (zq rfl (zb rfl (zq rfl ?_)))))
         obtain ⟨v944, f1300, h14⟩ := z0U h13
         obtain ⟨v945, f1301, h15⟩ := z0U h14
         by_cases c1302 : v945 = true
         ·rw [if_pos c1302] at h15
          obtain ⟨v946, f1303, h16⟩ := z0U h15
          obtain ⟨v947, f1304, h17⟩ := z0U h16
          refine zr rfl rfl rfl (by simp [f1300, f1301, c1302, f1303, f1304]; rfl) ?_
          refine z0a ?_
          by_cases c1305 : v947 = true
          ·rw [if_pos c1305] at h17
           refine z1c rfl (by simp [c1305]) (zq rfl ?_)
           obtain ⟨v948, f1306, h18⟩ := z0i h17
           obtain ⟨f1306a, f1306b, f1306c, f1306d, f1306e⟩ := z3H f1306
           try simp only [List.length_set] at f1306b f1306c
           have f1306s : ∀ hh, ((w909.set w908.toNat w908).map (fun x0 : Int => (.sc (.int .i64 x0) : T)))[w937.toNat]'hh = (fun x0 : Int => (.sc (.int .i64 x0) : T)) v948 := fun hh => by rw [List.getElem_map]; exact congrArg (fun x0 : Int => (.sc (.int .i64 x0) : T)) (f1306e _)
           try simp only [List.map_set] at f1306s
           obtain ⟨v949, f1307, h19⟩ := z0i h18
           obtain ⟨f1307a, f1307b, f1307c, f1307d, f1307e⟩ := z3H f1307
           try simp only [List.length_set] at f1307b f1307c
           have f1307s : ∀ hh, ((w909.set w908.toNat w908).map (fun x0 : Int => (.sc (.int .i64 x0) : T)))[w908.toNat]'hh = (fun x0 : Int => (.sc (.int .i64 x0) : T)) v949 := fun hh => by rw [List.getElem_map]; exact congrArg (fun x0 : Int => (.sc (.int .i64 x0) : T)) (f1307e _)
           try simp only [List.map_set] at f1307s
           refine zr rfl rfl rfl (by simp [f1300, f1303, f1306a, f1306b, f1306c, f1306d, f1306e, f1306s, f1307a, f1307b, f1307c, f1307d, f1307e, f1307s]; rfl) ?_
           refine z0a (z0Z rfl (zfH rfl (z0H ?_)))
           obtain ⟨rr7, h20, ho7⟩ := z0w h19
           have hs7 := hr7 _ ho7
           subst hs7
           refine z0C ho7 (z0l rfl (z0m (z0a (zr rfl rfl rfl (by simp [f1300, f1303]; rfl) ?_))))
           have ho := z0h h20
           refine z0n ho ?_
           simp [z4u, c1302, c1305]
          ·rw [if_neg c1305] at h17
           refine z0V rfl (by simp [c1305]) (z0G rfl (z0m (z0a (zr rfl rfl rfl (by simp [f1300, f1303]; rfl) ?_))))
           have ho := z0h h17
           refine z0n ho ?_
           simp [z4t, c1302, c1305]
         ·rw [if_neg c1302] at h15
          refine zr rfl rfl rfl (by simp [f1300, f1301, c1302]; rfl) ?_
          refine z0a (z0V rfl (by simp) (z0G rfl (z0m (z0a (zr rfl rfl rfl (by simp [f1300]; rfl) ?_)))))
          have ho := z0h h15
          refine z0n ho ?_
          simp [z4t, c1302]
        ·rw [if_neg c1299] at h13
         refine z0V rfl (by simp [c1299]) (z0Z rfl (z0H ?_))
         obtain ⟨rr7, h14, ho7⟩ := z0w h13
         have hs7 := hr7 _ ho7
         subst hs7
         refine z0C ho7 (z0l rfl (z0m (z0a (zr rfl rfl rfl (by simp; rfl) ?_))))
         have ho := z0h h14
         refine z0n ho ?_
         simp [z4u]
       ·rw [if_neg c1279] at h11
        refine z0V rfl (by simp [c1279]) (z0Z rfl (z0H ?_))
        obtain ⟨rr6, h12, ho6⟩ := z0w h11
        have hs6 := hr6 _ ho6
        subst hs6
        refine z0C ho6 (z0l rfl (z0a (zq rfl ?_)))
        obtain ⟨v950, f1308, h13⟩ := z0i h12
        have f1308k := Ok.ok _ f1308
        try simp at f1308k
        refine zr rfl rfl rfl (by simp [f1308k]; rfl) ?_
        refine z0a (zq rfl ?_)
        obtain ⟨f1309, h14⟩ := zxl h13
        obtain ⟨f1310, h15⟩ := zxl h14
        obtain ⟨f1311, h16⟩ := zxl h15
        refine zaC rfl rfl rfl rfl ?_
        refine zhJ [(0, 0, 0, 1), (1, 2, 3, 2), (2, 4, 3, 3), (3, 6, 3, 4), (4, 1, 1, 5), (4, 3, 1, 6), (4, 5, 1, 7), (4, 7, 1, 8), (5, 8, 0, 12), (6, 1, 1, 9), (6, 5, 1, 13), (6, 7, 1, 14), (7, 1, 1, 10), (7, 3, 1, 13), (7, 7, 1, 15), (8, 1, 1, 11), (8, 3, 1, 14), (8, 5, 1, 15), (9, 8, 0, 18), (10, 8, 0, 20), (11, 8, 0, 21), (12, 3, 1, 18), (12, 5, 1, 20), (12, 7, 1, 21), (12, 9, 2, 22), (13, 1, 1, 16), (13, 7, 1, 23), (14, 1, 1, 17), (14, 5, 1, 23), (15, 1, 1, 19), (15, 3, 1, 23), (16, 8, 0, 25), (17, 8, 0, 26), (18, 5, 1, 25), (18, 7, 1, 26), (18, 9, 2, 27), (19, 8, 0, 28), (20, 3, 1, 25), (20, 7, 1, 28), (20, 9, 2, 29), (21, 3, 1, 26), (21, 5, 1, 28), (21, 9, 2, 30), (22, 3, 1, 27), (22, 5, 1, 29), (22, 7, 1, 30), (23, 1, 1, 24), (24, 8, 0, 31), (25, 7, 1, 31), (25, 9, 2, 32), (26, 5, 1, 31), (26, 9, 2, 33), (27, 10, 0, 34), (28, 3, 1, 31), (28, 9, 2, 35), (29, 3, 1, 32), (29, 7, 1, 35), (30, 3, 1, 33), (30, 5, 1, 35), (31, 9, 2, 36), (32, 10, 0, 37), (33, 10, 0, 38), (34, 5, 1, 37), (34, 7, 1, 38), (34, 11, 2, 39), (35, 3, 1, 36), (36, 10, 0, 40), (37, 7, 1, 40), (37, 11, 2, 41), (38, 5, 1, 40), (38, 11, 2, 42), (39, 5, 1, 41), (39, 7, 1, 42), (40, 11, 2, 43), (41, 12, 0, 44), (42, 5, 1, 43), (43, 12, 0, 45), (44, 7, 1, 45), (44, 13, 2, 46), (45, 13, 2, 47), (46, 7, 1, 47), (47, 14, 0, 48), (48, 15, 2, 49)] 49 (by kernel_rfl) ?_
        refine z0e rfl rfl rfl rfl (by simp [z0b, z0c, f1309, f1310, f1311]; rfl) ?_
        refine z0e rfl rfl rfl rfl (by simp [z0b, z0c, f1309, f1310, f1311]; rfl) ?_
        refine z0e rfl rfl rfl rfl (by simp [z0b, z0c, f1309, f1310, f1311]; rfl) ?_
        refine z0e rfl rfl rfl rfl (by simp [z0b, z0c, f1309, f1310, f1311]; rfl) ?_
        refine z0e rfl rfl rfl rfl (by simp [z0b, z0c, f1309, f1310, f1311]; rfl) ?_
        refine z0e rfl rfl rfl rfl (by simp [z0b, z0c, f1309, f1310, f1311]; rfl) ?_
        refine z0e rfl rfl rfl rfl (by simp [z0b, z0c, f1309, f1310, f1311]; rfl) ?_
        refine z0e rfl rfl rfl rfl (by simp [z0b, z0c, f1309, f1310, f1311]; rfl) ?_
        refine z0e rfl rfl rfl rfl (by simp [z0b, z0c, f1309, f1310, f1311]; rfl) ?_
        refine z0e rfl rfl rfl rfl (by simp [z0b, z0c, f1309, f1310, f1311]; rfl) ?_
        refine z0e rfl rfl rfl rfl (by simp [z0b, z0c, f1309, f1310, f1311]; rfl) ?_
        refine z0e rfl rfl rfl rfl (by simp [z0b, z0c, f1309, f1310, f1311]; rfl) ?_
        refine z0e rfl rfl rfl rfl (by simp [z0b, z0c, f1309, f1310, f1311]; rfl) ?_
        refine z0f rfl rfl rfl rfl (by simp [z0b, z0c, f1309, f1310, f1311]) ?_
        refine z0e rfl rfl rfl rfl (by simp [z0b, z0c, f1309, f1310, f1311]; rfl) ?_
        refine z0e rfl rfl rfl rfl (by simp [z0b, z0c, f1309, f1310, f1311]; rfl) ?_
        refine z0f rfl rfl rfl rfl (by simp [z0b, z0c, f1309, f1310, f1311]) ?_
        refine z0f rfl rfl rfl rfl (by simp [z0b, z0c, f1309, f1310, f1311]) ?_
        refine z0e rfl rfl rfl rfl (by simp [z0b, z0c, f1309, f1310, f1311]; rfl) ?_
        refine z0e rfl rfl rfl rfl (by simp [z0b, z0c, f1309, f1310, f1311]; rfl) ?_
        refine z0e rfl rfl rfl rfl (by simp [z0b, z0c, f1309, f1310, f1311]; rfl) ?_
        refine z0f rfl rfl rfl rfl (by simp [z0b, z0c, f1309, f1310, f1311]) ?_
        refine z0f rfl rfl rfl rfl (by simp [z0b, z0c, f1309, f1310, f1311]) ?_
        refine z0f rfl rfl rfl rfl (by simp [z0b, z0c, f1309, f1310, f1311]) ?_
        refine z0e rfl rfl rfl rfl (by simp [z0b, z0c, f1309, f1310, f1311]; rfl) ?_
        refine z0e rfl rfl rfl rfl (by simp [z0b, z0c, f1309, f1310, f1311]; rfl) ?_
        refine z0e rfl rfl rfl rfl (by simp [z0b, z0c, f1309, f1310, f1311]; rfl) ?_
        refine z0e rfl rfl rfl rfl (by simp [z0b, z0c, f1309, f1310, f1311]; rfl) ?_
        refine z0f rfl rfl rfl rfl (by simp [z0b, z0c, f1309, f1310, f1311]) ?_
        refine z0e rfl rfl rfl rfl (by simp [z0b, z0c, f1309, f1310, f1311]; rfl) ?_
        refine z0f rfl rfl rfl rfl (by simp [z0b, z0c, f1309, f1310, f1311]) ?_
        refine z0e rfl rfl rfl rfl (by simp [z0b, z0c, f1309, f1310, f1311]; rfl) ?_
        refine z0e rfl rfl rfl rfl (by simp [z0b, z0c, f1309, f1310, f1311]; rfl) ?_
        refine z0f rfl rfl rfl rfl (by simp [z0b, z0c, f1309, f1310, f1311]) ?_
        refine z0f rfl rfl rfl rfl (by simp [z0b, z0c, f1309, f1310, f1311]) ?_
        refine z0e rfl rfl rfl rfl (by simp [z0b, z0c, f1309, f1310, f1311]; rfl) ?_
        refine z0e rfl rfl rfl rfl (by simp [z0b, z0c, f1309, f1310, f1311]; rfl) ?_
        refine z0f rfl rfl rfl rfl (by simp [z0b, z0c, f1309, f1310, f1311]) ?_
        refine z0f rfl rfl rfl rfl (by simp [z0b, z0c, f1309, f1310, f1311]) ?_
        refine z0e rfl rfl rfl rfl (by simp [z0b, z0c, f1309, f1310, f1311]; rfl) ?_
        refine z0f rfl rfl rfl rfl (by simp [z0b, z0c, f1309, f1310, f1311]) ?_
        refine z0f rfl rfl rfl rfl (by simp [z0b, z0c, f1309, f1310, f1311]) ?_
        refine z0e rfl rfl rfl rfl (by simp [z0b, z0c, f1309, f1310, f1311]; rfl) ?_
        refine z0f rfl rfl rfl rfl (by simp [z0b, z0c, f1309, f1310, f1311]) ?_
        refine z0f rfl rfl rfl rfl (by simp [z0b, z0c, f1309, f1310, f1311]) ?_
        refine z0f rfl rfl rfl rfl (by simp [z0b, z0c, f1309, f1310, f1311]) ?_
        refine z0e rfl rfl rfl rfl (by simp [z0b, z0c, f1309, f1310, f1311]; rfl) ?_
        refine z0e rfl rfl rfl rfl (by simp [z0b, z0c, f1309, f1310, f1311]; rfl) ?_
        refine z0f rfl rfl rfl rfl (by simp [z0b, z0c, f1309, f1310, f1311]) ?_
        refine z0e rfl rfl rfl rfl (by simp [z0b, z0c, f1309, f1310, f1311]; rfl) ?_
        refine z0f rfl rfl rfl rfl (by simp [z0b, z0c, f1309, f1310, f1311]) ?_
        refine z0e rfl rfl rfl rfl (by simp [z0b, z0c, f1309, f1310, f1311]; rfl) ?_
        refine z0e rfl rfl rfl rfl (by simp [z0b, z0c, f1309, f1310, f1311]; rfl) ?_
        refine z0f rfl rfl rfl rfl (by simp [z0b, z0c, f1309, f1310, f1311]) ?_
        refine z0e rfl rfl rfl rfl (by simp [z0b, z0c, f1309, f1310, f1311]; rfl) ?_
        refine z0f rfl rfl rfl rfl (by simp [z0b, z0c, f1309, f1310, f1311]) ?_
        refine z0f rfl rfl rfl rfl (by simp [z0b, z0c, f1309, f1310, f1311]) ?_
        refine z0f rfl rfl rfl rfl (by simp [z0b, z0c, f1309, f1310, f1311]) ?_
        refine z0f rfl rfl rfl rfl (by simp [z0b, z0c, f1309, f1310, f1311]) ?_
        refine z0e rfl rfl rfl rfl (by simp [z0b, z0c, f1309, f1310, f1311]; rfl) ?_
        refine z0e rfl rfl rfl rfl (by simp [z0b, z0c, f1309, f1310, f1311]; rfl) ?_
        refine z0e rfl rfl rfl rfl (by simp [z0b, z0c, f1309, f1310, f1311]; rfl) ?_
        refine z0f rfl rfl rfl rfl (by simp [z0b, z0c, f1309, f1310, f1311]) ?_
        refine z0f rfl rfl rfl rfl (by simp [z0b, z0c, f1309, f1310, f1311]) ?_
        refine z0e rfl rfl rfl rfl (by simp [z0b, z0c, f1309, f1310, f1311]; rfl) ?_
        refine z0f rfl rfl rfl rfl (by simp [z0b, z0c, f1309, f1310, f1311]) ?_
        refine z0e rfl rfl rfl rfl (by simp [z0b, z0c, f1309, f1310, f1311]; rfl) ?_
        refine z0f rfl rfl rfl rfl (by simp [z0b, z0c, f1309, f1310, f1311]) ?_
        refine z0e rfl rfl rfl rfl (by simp [z0b, z0c, f1309, f1310, f1311]; rfl) ?_
        refine z0f rfl rfl rfl rfl (by simp [z0b, z0c, f1309, f1310, f1311]) ?_
        refine z0e rfl rfl rfl rfl (by simp [z0b, z0c, f1309, f1310, f1311]; rfl) ?_
        refine z0f rfl rfl rfl rfl (by simp [z0b, z0c, f1309, f1310, f1311]) ?_
        refine z0f rfl rfl rfl rfl (by simp [z0b, z0c, f1309, f1310, f1311]) ?_
        refine z0e rfl rfl rfl rfl (by simp [z0b, z0c, f1309, f1310, f1311]; rfl) ?_
        refine z0e rfl rfl rfl rfl (by simp [z0b, z0c, f1309, f1310, f1311]; rfl) ?_
        refine z0f rfl rfl rfl rfl (by simp [z0b, z0c, f1309, f1310, f1311]) ?_
        refine z0e rfl rfl rfl rfl (by simp [z0b, z0c, f1309, f1310, f1311]; rfl) ?_
        refine z0f rfl rfl rfl rfl (by simp [z0b, z0c, f1309, f1310, f1311]) ?_
        refine z0e rfl rfl rfl rfl (by simp [z0b, z0c, f1309, f1310, f1311]; rfl) ?_
        refine z0e rfl rfl rfl rfl (by simp [z0b, z0c, f1309, f1310, f1311]; rfl) ?_
        refine z0f rfl rfl rfl rfl (by simp [z0b, z0c, f1309, f1310, f1311]) ?_
        refine z0e rfl rfl rfl rfl (by simp [z0b, z0c, f1309, f1310, f1311]; rfl) ?_
        refine z0e rfl rfl rfl rfl (by simp [z0b, z0c, f1309, f1310, f1311]; rfl) ?_
        refine zi3 rfl ?_
        refine zas rfl (by simp [f1309, f1310, f1311]; rfl) ?_
        refine z0a (zq rfl (zq rfl (zr rfl rfl rfl (by simp; rfl) ?_)))
        refine z0a (zb rfl (z0R h16 (z5G a0 v757 w808 v950) rfl rfl (by simp [z5G]) fun s o8 h17 hr8 => ?_))
        obtain ⟨w1055, w1056⟩ := s
        simp only [z4C] at h17
        simp only [z5G]
        refine zq rfl (zq rfl (zr rfl rfl rfl (by simp; rfl) ?_))
        refine z0a ?_
        by_cases c1567 : w1055 = true
        ·rw [if_pos c1567] at h17
         refine z1c rfl (by simp [c1567]) (z0G rfl (z0a (zb rfl (zq rfl (zr rfl rfl rfl (by simp; rfl) ?_)))))
         refine z0a (zq rfl (zr rfl rfl rfl (by simp; rfl) ?_))
         refine z0a (zb rfl (z0R h17 (z5F a0 v757 w808 v950) rfl rfl (by simp [z5F]) fun s o9 h18 hr9 => ?_))
         obtain ⟨w1204, w1205, w1206⟩ := s
         simp only [z4B] at h18
         simp only [z5F]
         refine zq rfl (zr rfl rfl rfl (by simp; rfl) ?_)
         refine z0a (zq rfl ?_)
         by_cases c1655 : w1205 < (v757.length : Int)
         ·rw [if_pos c1655] at h18
          refine z1c rfl (by simp [c1655]) (z0G rfl (z0a (zq rfl (zb rfl (zq rfl (zr rfl rfl rfl (by simp; rfl) ?_))))))
          refine z0a (zq rfl (zr rfl rfl rfl (by simp; rfl) ?_))
          refine z0a (zb rfl (z0R h18 (z2j a0 v757 w808 v950 w1205) rfl rfl (by simp [z2j]) fun s o10 h19 hr10 => ?_))
          obtain ⟨w1251, w1250, w1252⟩ := s
          simp only [z4A] at h19
          simp only [z2j]
          refine zq rfl (zr rfl rfl rfl (by simp; rfl) ?_)
          refine z0a (zq rfl ?_)
          by_cases c1682 : w1250 < (v757.length : Int)
          ·rw [if_pos c1682] at h19
           refine z1c rfl (by simp [c1682]) (z0G rfl (z0a (zq rfl (zb rfl (zq rfl (zr rfl rfl rfl (by simp; rfl) ?_))))))
           refine z0a (zq rfl ?_)
           obtain ⟨v1263, f1683, h20⟩ := z0U h19
           obtain ⟨v1264, f1684, h21⟩ := z0i h20
           have f1684k := Ok.ok _ f1684
           try simp at f1684k
           by_cases c1685 : 1 < v1264
           ·rw [if_pos c1685] at h21
            obtain ⟨v1265, f1686, h22⟩ := z0U h21
            obtain ⟨v1266, f1687, h23⟩ := z0U h22
            by_cases c1688 : v1266 = true
            ·rw [if_pos c1688] at h23
             obtain ⟨v1267, f1689, h24⟩ := z0U h23
             obtain ⟨v1268, f1690, h25⟩ := z0U h24
             by_cases c1691 : v1268 = true
             ·rw [if_pos c1691] at h25
              refine z0I rfl rfl rfl rfl ?_; repeat' (first | (refine z0r rfl rfl fun Q' hQ => ?_; simp [f1683, f1684k, c1685, f1686, f1687, c1688, f1689, f1690, c1691]; refine hQ.out _ ?_; clear hQ; clear Q') | (refine z0u rfl rfl fun Q1 Q2 h1 h2 => ?_; simp [f1683, f1684k, c1685, f1686, f1687, c1688, f1689, f1690, c1691, z0J]; (first | refine h1.out ?_ | refine h2.out ?_); clear h1 h2; clear Q1 Q2; intro Q' hQ; simp [f1683, f1684k, c1685, f1686, f1687, c1688, f1689, f1690, c1691]; refine hQ.out _ ?_; clear hQ; clear Q') | (refine z0k rfl fun Q' hQ => ?_; simp [f1683, f1684k, c1685, f1686, f1687, c1688, f1689, f1690, c1691]; refine hQ.out _ ?_; clear hQ; clear Q'))
              refine z0a (z0V rfl (by simp) (z0G rfl (z0m (z0a (zr rfl rfl rfl (by simp [f1686, f1689]; rfl) ?_)))))
              have ho := z0h h25
              refine z0n ho ?_
              simp [z2j, c1688, c1691]
             ·rw [if_neg c1691] at h25
              obtain ⟨v1269, f1692, h26⟩ := z0U h25
              obtain ⟨v1270, f1693, h27⟩ := z0U h26
              refine z0I rfl rfl rfl rfl ?_; repeat' (first | (refine z0r rfl rfl fun Q' hQ => ?_; simp [f1683, f1684k, c1685, f1686, f1687, c1688, f1689, f1690, c1691, f1692, f1693]; refine hQ.out _ ?_; clear hQ; clear Q') | (refine z0u rfl rfl fun Q1 Q2 h1 h2 => ?_; simp [f1683, f1684k, c1685, f1686, f1687, c1688, f1689, f1690, c1691, f1692, f1693, z0J]; (first | refine h1.out ?_ | refine h2.out ?_); clear h1 h2; clear Q1 Q2; intro Q' hQ; simp [f1683, f1684k, c1685, f1686, f1687, c1688, f1689, f1690, c1691, f1692, f1693]; refine hQ.out _ ?_; clear hQ; clear Q') | (refine z0k rfl fun Q' hQ => ?_; simp [f1683, f1684k, c1685, f1686, f1687, c1688, f1689, f1690, c1691, f1692, f1693]; refine hQ.out _ ?_; clear hQ; clear Q'))
              refine z0a ?_
              by_cases c1694 : v1269 ≤ v1270
              ·rw [if_pos c1694] at h27
               refine z1c rfl (by simp [c1694]) (zq rfl ?_)
               refine z0I rfl rfl rfl rfl ?_; repeat' ((first | refine z0r rfl rfl fun Q' hQ => ?_ | refine z0k rfl fun Q' hQ => ?_); simp [f1686, f1689, f1693, f1692]; refine hQ.out _ ?_; clear hQ; clear Q')
               refine z0a (zr rfl rfl rfl (by simp [f1686, f1689]; rfl) ?_)
               refine z0m (z0a (zr rfl rfl rfl (by simp [f1686, f1689]; rfl) ?_))
               have ho := z0h h27
               refine z0n ho ?_
               simp [z2j, c1688, c1691]
              ·rw [if_neg c1694] at h27
               refine z0V rfl (by simp [c1694]) (z0G rfl (z0m (z0a (zr rfl rfl rfl (by simp [f1686, f1689]; rfl) ?_))))
               have ho := z0h h27
               refine z0n ho ?_
               simp [z2j, c1688, c1691]
            ·rw [if_neg c1688] at h23
             refine z0I rfl rfl rfl rfl ?_; repeat' (first | (refine z0r rfl rfl fun Q' hQ => ?_; simp [f1683, f1684k, c1685, f1686, f1687, c1688]; refine hQ.out _ ?_; clear hQ; clear Q') | (refine z0u rfl rfl fun Q1 Q2 h1 h2 => ?_; simp [f1683, f1684k, c1685, f1686, f1687, c1688, z0J]; (first | refine h1.out ?_ | refine h2.out ?_); clear h1 h2; clear Q1 Q2; intro Q' hQ; simp [f1683, f1684k, c1685, f1686, f1687, c1688]; refine hQ.out _ ?_; clear hQ; clear Q') | (refine z0k rfl fun Q' hQ => ?_; simp [f1683, f1684k, c1685, f1686, f1687, c1688]; refine hQ.out _ ?_; clear hQ; clear Q'))
             refine z0a (z0V rfl (by simp) (z0G rfl (z0m (z0a (zr rfl rfl rfl (by simp [f1686]; rfl) ?_)))))
             have ho := z0h h23
             refine z0n ho ?_
             simp [z2j, c1688]
           ·rw [if_neg c1685] at h21
            refine z0I rfl rfl rfl rfl ?_; repeat' (first | (refine z0r rfl rfl fun Q' hQ => ?_; simp [f1683, f1684k, c1685]; refine hQ.out _ ?_; clear hQ; clear Q') | (refine z0u rfl rfl fun Q1 Q2 h1 h2 => ?_; simp [f1683, f1684k, c1685, z0J]; (first | refine h1.out ?_ | refine h2.out ?_); clear h1 h2; clear Q1 Q2; intro Q' hQ; simp [f1683, f1684k, c1685]; refine hQ.out _ ?_; clear hQ; clear Q') | (refine z0k rfl fun Q' hQ => ?_; simp [f1683, f1684k, c1685]; refine hQ.out _ ?_; clear hQ; clear Q'))
            refine z0a (z0V rfl (by simp) (z0G rfl (z0m (z0a (zr rfl rfl rfl (by simp; rfl) ?_)))))
            have ho := z0h h21
            refine z0n ho ?_
            simp [z2j]
          ·rw [if_neg c1682] at h19
           refine z0V rfl (by simp [c1682]) (z0Z rfl (z0H ?_))
           obtain ⟨rr10, h20, ho10⟩ := z0w h19
           have hs10 := hr10 _ ho10
           subst hs10
           refine z0C ho10 (z0l rfl (z0m (z0a (zr rfl rfl rfl (by simp; rfl) ?_))))
           have ho := z0h h20
           refine z0n ho ?_
           simp [z5F]
         ·rw [if_neg c1655] at h18
          refine z0V rfl (by simp [c1655]) (z0Z rfl (z0H ?_))
          obtain ⟨rr9, h19, ho9⟩ := z0w h18
          have hs9 := hr9 _ ho9
          subst hs9
          refine z0C ho9 (z0l rfl (z0m ?_))
          have ho := z0h h19
          refine z0n ho ?_
          simp [z5G]
        ·rw [if_neg c1567] at h17
         refine z0V rfl (by simp [c1567]) (z0Z rfl (z0H ?_))
         obtain ⟨rr8, h18, ho8⟩ := z0w h17
         have hs8 := hr8 _ ho8
         subst hs8
         refine z0C ho8 (z0l rfl (z0a (zq rfl (zq rfl (zr rfl rfl rfl (by simp; rfl) ?_)))))
         refine z0a (zb rfl (z0R h18 (z4s a0 v757 v950 w1056) rfl rfl (by simp [z4s]) fun s o11 h19 hr11 => ?_))
         obtain ⟨w1311, w1312⟩ := s
         simp only [z3r] at h19
         simp only [z4s]
         refine zq rfl (zr rfl rfl rfl (by simp; rfl) ?_)
         refine z0a (zq rfl ?_)
         by_cases c1855 : w1311 < (v757.length : Int)
         ·rw [if_pos c1855] at h19
          refine z1c rfl (by simp [c1855]) (z0G rfl (z0a (zq rfl (zb rfl (zq rfl (zr rfl rfl rfl (by simp; rfl) ?_))))))
          refine z0a (zq rfl (zq rfl ?_))
          obtain ⟨v1353, f1856, h20⟩ := z0U h19
          obtain ⟨v1354, f1857, h21⟩ := z0i h20
          have f1857k := Ok.ok _ f1857
          try simp at f1857k
          refine zr rfl rfl rfl (by simp [f1856, f1857k]; rfl) ?_
          refine z0a ?_
          by_cases c1858 : v1354 = 1
          ·rw [if_pos c1858] at h21
           have c1858e := eq_true c1858
           refine z1c rfl (by simp [c1858e]) (z0Z rfl (z0H (z0l rfl (z0a (zr rfl rfl rfl (by simp; rfl) ?_)))))
           have ho := z0h h21
           refine z0n ho ?_
           simp [z4s]
          ·rw [if_neg c1858] at h21
           have c1858e := eq_false c1858
           refine z0V rfl (by simp [c1858e]) (z0G rfl (z0a (zq rfl (zr rfl rfl rfl (by simp; rfl) ?_))))
           refine z0a (zb rfl (z0R h21 (z2B a0 v757 v950 w1056 w1311) rfl rfl (by simp [z2B]) fun s o12 h22 hr12 => ?_))
           obtain ⟨w1367, w1368⟩ := s
           simp only [z4z] at h22
           simp only [z2B]
           refine zq rfl (zr rfl rfl rfl (by simp; rfl) ?_)
           refine z0a (zq rfl ?_)
           by_cases c1913 : w1367 < (v757.length : Int)
           ·rw [if_pos c1913] at h22
            refine z1c rfl (by simp [c1913]) (z0G rfl (z0a (zq rfl (zb rfl (zq rfl ?_)))))
            obtain ⟨v1381, f1914, h23⟩ := z0U h22
            refine zr rfl rfl rfl (by simp [f1914]; rfl) ?_
            refine z0a (zq rfl (zq rfl ?_))
            obtain ⟨v1382, f1915, h24⟩ := z0U h23
            by_cases c1916 : (zoY .i64 v1381 v1382) = v1381
            ·rw [if_pos c1916] at h24
             have c1916e := eq_true c1916
             refine zr rfl rfl rfl (by simp [f1915, c1916e]; rfl) ?_
             refine z0a ?_
             by_cases c1917 : w1367 = w1311
             ·rw [if_pos c1917] at h24
              have c1917e := eq_true c1917
              refine z1c rfl (by simp [c1917e]) (z0Z rfl (z0H (z0l rfl (z0a (zr rfl rfl rfl (by simp; rfl) ?_)))))
              have ho := z0h h24
              refine z0n ho ?_
              simp [z2B]
             ·rw [if_neg c1917] at h24
              have c1917e := eq_false c1917
              refine z0V rfl (by simp [c1917e]) (z0G rfl (z0a (zq rfl (zr rfl rfl rfl (by simp; rfl) ?_))))
              refine z0a (zq rfl (zq rfl (zr rfl rfl rfl (by simp; rfl) ?_)))
              refine z0a (zb rfl (z0R h24 (z2i a0 v757 v950 w1056 w1311 w1367 w1368 v1381) rfl rfl (by simp [z2i]) fun s o13 h25 hr13 => ?_))
              obtain ⟨w1385, w1386⟩ := s
              simp only [z4y] at h25
              simp only [z2i]
              refine zq rfl (zr rfl rfl rfl (by simp; rfl) ?_)
              refine z0a (zq rfl ?_)
              by_cases c1931 : w1386 < (v757.length : Int)
              ·rw [if_pos c1931] at h25
               refine z1c rfl (by simp [c1931]) (z0G rfl (z0a (zq rfl (zb rfl (zq rfl ?_)))))
               obtain ⟨v1389, f1932, h26⟩ := z0U h25
               refine zr rfl rfl rfl (by simp [f1932]; rfl) ?_
               refine z0a ?_
               by_cases c1933 : w1385 = true
               ·rw [if_pos c1933] at h26
                by_cases c1934 : w1386 = w1367
                ·rw [if_pos c1934] at h26
                 have c1934e := eq_true c1934
                 refine zr rfl rfl rfl (by simp [c1933, c1934e]; rfl) ?_
                 refine z0m (z0a (zr rfl rfl rfl (by simp; rfl) ?_))
                 have ho := z0h h26
                 refine z0n ho ?_
                 simp [z2i, c1933]
                ·rw [if_neg c1934] at h26
                 have c1934e := eq_false c1934
                 by_cases c1935 : w1386 = w1311
                 ·rw [if_pos c1935] at h26
                  have c1935e := eq_true c1935
                  refine zr rfl rfl rfl (by simp [c1933, c1934e, c1935e]; rfl) ?_
                  refine z0m (z0a (zr rfl rfl rfl (by simp; rfl) ?_))
                  have ho := z0h h26
                  refine z0n ho ?_
                  simp [z2i, c1933]
                 ·rw [if_neg c1935] at h26
                  have c1935e := eq_false c1935
                  obtain ⟨v1390, f1936, h27⟩ := z0U h26
                  by_cases c1937 : (zoY .i64 v1389 v1390) = v1389
                  ·rw [if_pos c1937] at h27
                   have c1937e := eq_true c1937
                   refine zr rfl rfl rfl (by simp [c1933, c1934e, c1935e, f1936, c1937e]; rfl) ?_
                   refine z0m (z0a (zr rfl rfl rfl (by simp; rfl) ?_))
                   have ho := z0h h27
                   refine z0n ho ?_
                   simp [z2i, c1933]
                  ·rw [if_neg c1937] at h27
                   have c1937e := eq_false c1937
                   refine zr rfl rfl rfl (by simp [c1933, c1934e, c1935e, f1936, c1937e]; rfl) ?_
                   refine z0m (z0a (zr rfl rfl rfl (by simp; rfl) ?_))
                   have ho := z0h h27
                   refine z0n ho ?_
                   simp [z2i, c1933]
               ·rw [if_neg c1933] at h26
                refine zr rfl rfl rfl (by simp [c1933]; rfl) ?_
                refine z0m (z0a (zr rfl rfl rfl (by simp; rfl) ?_))
                have ho := z0h h26
                refine z0n ho ?_
                simp [z2i, c1933]
              ·rw [if_neg c1931] at h25
               refine z0V rfl (by simp [c1931]) (z0Z rfl (z0H ?_))
               obtain ⟨rr13, h26, ho13⟩ := z0w h25
               have hs13 := hr13 _ ho13
               subst hs13
               refine z0C ho13 (z0l rfl (z0a (zq rfl (zr rfl rfl rfl (by simp; rfl) ?_))))
               refine z0a ?_
               by_cases c1938 : w1385 = true
               ·rw [if_pos c1938] at h26
                refine z1c rfl (by simp [c1938]) ?_
                obtain ⟨v1391, f1939, h27⟩ := z0U h26
                obtain ⟨f1940, h28⟩ := z7m h27
                refine zaC rfl rfl rfl rfl ?_
                refine zhJ [(0, 0, 3, 1), (1, 2, 3, 2), (2, 3, 3, 3), (3, 5, 3, 4), (4, 8, 3, 5), (5, 1, 2, 6), (5, 4, 2, 7), (5, 9, 1, 8), (6, 4, 2, 9), (6, 9, 1, 10), (7, 6, 3, 11), (8, 1, 2, 10), (8, 4, 2, 12), (9, 6, 0, 13), (10, 4, 2, 14), (11, 1, 2, 13), (11, 7, 2, 15), (11, 9, 1, 16), (12, 6, 3, 16), (13, 7, 2, 17), (13, 9, 1, 18), (14, 6, 0, 18), (15, 1, 2, 17), (15, 9, 1, 19), (16, 1, 2, 18), (16, 7, 2, 19), (17, 9, 1, 20), (18, 7, 2, 20), (19, 1, 2, 20), (19, 10, 2, 21), (20, 10, 2, 22), (21, 1, 2, 22), (22, 11, 0, 23), (23, 12, 2, 24)] 24 (by kernel_rfl) ?_
                refine z0e rfl rfl rfl rfl (by simp [z0b, z0c, f1939, f1940]; rfl) ?_
                refine z0e rfl rfl rfl rfl (by simp [z0b, z0c, f1939, f1940]; rfl) ?_
                refine z0e rfl rfl rfl rfl (by simp [z0b, z0c, f1939, f1940]; rfl) ?_
                refine z0e rfl rfl rfl rfl (by simp [z0b, z0c, f1939, f1940]; rfl) ?_
                refine z0e rfl rfl rfl rfl (by simp [z0b, z0c, f1939, f1940]; rfl) ?_
                refine z0e rfl rfl rfl rfl (by simp [z0b, z0c, f1939, f1940]; rfl) ?_
                refine z0e rfl rfl rfl rfl (by simp [z0b, z0c, f1939, f1940]; rfl) ?_
                refine z0e rfl rfl rfl rfl (by simp [z0b, z0c, f1939, f1940]; rfl) ?_
                refine z0e rfl rfl rfl rfl (by simp [z0b, z0c, f1939, f1940]; rfl) ?_
                refine z0e rfl rfl rfl rfl (by simp [z0b, z0c, f1939, f1940]; rfl) ?_
                refine z0e rfl rfl rfl rfl (by simp [z0b, z0c, f1939, f1940]; rfl) ?_
                refine z0f rfl rfl rfl rfl (by simp [z0b, z0c, f1939, f1940]) ?_
                refine z0e rfl rfl rfl rfl (by simp [z0b, z0c, f1939, f1940]; rfl) ?_
                refine z0e rfl rfl rfl rfl (by simp [z0b, z0c, f1939, f1940]; rfl) ?_
                refine z0e rfl rfl rfl rfl (by simp [z0b, z0c, f1939, f1940]; rfl) ?_
                refine z0f rfl rfl rfl rfl (by simp [z0b, z0c, f1939, f1940]) ?_
                refine z0e rfl rfl rfl rfl (by simp [z0b, z0c, f1939, f1940]; rfl) ?_
                refine z0e rfl rfl rfl rfl (by simp [z0b, z0c, f1939, f1940]; rfl) ?_
                refine z0f rfl rfl rfl rfl (by simp [z0b, z0c, f1939, f1940]) ?_
                refine z0e rfl rfl rfl rfl (by simp [z0b, z0c, f1939, f1940]; rfl) ?_
                refine z0e rfl rfl rfl rfl (by simp [z0b, z0c, f1939, f1940]; rfl) ?_
                refine z0f rfl rfl rfl rfl (by simp [z0b, z0c, f1939, f1940]) ?_
                refine z0f rfl rfl rfl rfl (by simp [z0b, z0c, f1939, f1940]) ?_
                refine z0e rfl rfl rfl rfl (by simp [z0b, z0c, f1939, f1940]; rfl) ?_
                refine z0f rfl rfl rfl rfl (by simp [z0b, z0c, f1939, f1940]) ?_
                refine z0f rfl rfl rfl rfl (by simp [z0b, z0c, f1939, f1940]) ?_
                refine z0e rfl rfl rfl rfl (by simp [z0b, z0c, f1939, f1940]; rfl) ?_
                refine z0f rfl rfl rfl rfl (by simp [z0b, z0c, f1939, f1940]) ?_
                refine z0f rfl rfl rfl rfl (by simp [z0b, z0c, f1939, f1940]) ?_
                refine z0e rfl rfl rfl rfl (by simp [z0b, z0c, f1939, f1940]; rfl) ?_
                refine z0e rfl rfl rfl rfl (by simp [z0b, z0c, f1939, f1940]; rfl) ?_
                refine z0f rfl rfl rfl rfl (by simp [z0b, z0c, f1939, f1940]) ?_
                refine z0e rfl rfl rfl rfl (by simp [z0b, z0c, f1939, f1940]; rfl) ?_
                refine z0e rfl rfl rfl rfl (by simp [z0b, z0c, f1939, f1940]; rfl) ?_
                refine zi3 rfl ?_
                refine zas rfl (by simp [f1939, f1940]; rfl) ?_
                refine z0m (z0a (zr rfl rfl rfl (by simp; rfl) ?_))
                have ho := z0h h28
                refine z0n ho ?_
                simp [z2B, c1938]
               ·rw [if_neg c1938] at h26
                refine z0V rfl (by simp [c1938]) (z0G rfl (z0m (z0a (zr rfl rfl rfl (by simp; rfl) ?_))))
                have ho := z0h h26
                refine z0n ho ?_
                simp [z2B, c1938]
            ·rw [if_neg c1916] at h24
             have c1916e := eq_false c1916
             refine zr rfl rfl rfl (by simp [f1915, c1916e]; rfl) ?_
             refine z0a (z1c rfl (by simp) (z0Z rfl (z0H (z0l rfl (z0a (zr rfl rfl rfl (by simp; rfl) ?_))))))
             have ho := z0h h24
             refine z0n ho ?_
             simp [z2B]
           ·rw [if_neg c1913] at h22
            refine z0V rfl (by simp [c1913]) (z0Z rfl (z0H ?_))
            obtain ⟨rr12, h23, ho12⟩ := z0w h22
            have hs12 := hr12 _ ho12
            subst hs12
            refine z0C ho12 (z0l rfl (z0m (z0a (zr rfl rfl rfl (by simp; rfl) ?_))))
            have ho := z0h h23
            refine z0n ho ?_
            simp [z4s]
         ·rw [if_neg c1855] at h19
          refine z0V rfl (by simp [c1855]) (z0Z rfl (z0H ?_))
          obtain ⟨rr11, h20, ho11⟩ := z0w h19
          have hs11 := hr11 _ ho11
          subst hs11
          refine z0C ho11 (z0l rfl (z0a (zq rfl (zq rfl (zr rfl rfl rfl (by simp; rfl) ?_)))))
          refine z0a (zb rfl (z0R h20 (z5E a0 v757 v950 w1056 w1312) rfl rfl (by simp [z5E]) fun s o14 h21 hr14 => ?_))
          obtain ⟨w1430, w1431, w1432⟩ := s
          simp only [z5M] at h21
          simp only [z5E]
          refine zq rfl (zr rfl rfl rfl (by simp; rfl) ?_)
          refine z0a (zq rfl ?_)
          by_cases c2038 : w1430 < (v757.length : Int)
          ·rw [if_pos c2038] at h21
           refine z1c rfl (by simp [c2038]) (z0G rfl (z0a (zq rfl (zb rfl (zq rfl (zr rfl rfl rfl (by simp; rfl) ?_))))))
           refine z0a (zq rfl (zr rfl rfl rfl (by simp; rfl) ?_))
           refine z0a (zq rfl (zb rfl (z0R h21 (z5D a0 v757 v950 w1056 w1312 w1430 w1431 w1432) rfl rfl (by simp [z5D]) fun s o15 h22 hr15 => ?_)))
           obtain ⟨w1474, hs15⟩ : ∃ y, y = s := ⟨_, rfl⟩
           subst hs15
           simp only [z5L] at h22
           simp only [z5D]
           refine zq rfl (zq rfl ?_)
           obtain ⟨v1477, f2045, h23⟩ := z0U h22
           obtain ⟨v1478, f2046, h24⟩ := z0U h23
           refine z0I rfl rfl rfl rfl ?_; repeat' ((first | refine z0r rfl rfl fun Q' hQ => ?_ | refine z0k rfl fun Q' hQ => ?_); simp [f2045, f2046]; refine hQ.out _ ?_; clear hQ; clear Q')
           refine z0a ?_
           by_cases c2047 : v1477 = v1478
           ·rw [if_pos c2047] at h24
            have c2047e := eq_true c2047
            refine z0V rfl (by simp [c2047e]) (z0Z rfl (z0H ?_))
            obtain ⟨rr15, h25, ho15⟩ := z0w h24
            have hs15 := hr15 _ ho15
            subst hs15
            refine z0C ho15 (z0l rfl (z0a (zq rfl ?_)))
            obtain ⟨v1479, f2048, h26⟩ := z0U h25
            obtain ⟨v1480, f2049, h27⟩ := z0i h26
            have f2049k := Ok.ok _ f2049
            try simp at f2049k
            refine z0I rfl rfl rfl rfl ?_; repeat' ((first | refine z0r rfl rfl fun Q' hQ => ?_ | refine z0k rfl fun Q' hQ => ?_); simp [f2048, f2049k]; refine hQ.out _ ?_; clear hQ; clear Q')
            refine z0a (zq rfl (zq rfl (zr rfl rfl rfl (by simp; rfl) ?_)))
            refine z0a (zb rfl (z0R h27 (z4r a0 v757 v950 w1056 w1312 w1430 w1432 w1474 v1480) rfl rfl (by simp [z4r]) fun s o16 h28 hr16 => ?_))
            obtain ⟨w1485, w1486⟩ := s
            simp only [z4x] at h28
            simp only [z4r]
            refine zq rfl (zr rfl rfl rfl (by simp; rfl) ?_)
            refine z0a (zq rfl ?_)
            by_cases c2062 : w1485 < (v1480.1.length : Int)
            ·rw [if_pos c2062] at h28
             refine z1c rfl (by simp [c2062]) (z0G rfl (z0a (zq rfl (zb rfl (zq rfl ?_)))))
             obtain ⟨v1491, f2063, h29⟩ := z0U h28
             refine zr rfl rfl rfl (by simp [f2063]; rfl) ?_
             refine z0a (zq rfl ?_)
             obtain ⟨v1492, f2064, h30⟩ := z0U h29
             refine zr rfl rfl rfl (by simp [f2064]; rfl) ?_
             refine z0a ?_
             by_cases c2065 : v1491 = v1492
             ·rw [if_pos c2065] at h30
              have c2065e := eq_true c2065
              refine z1c rfl (by simp [c2065e]) ?_
              obtain ⟨v1493, f2066, h31⟩ := z0U h30
              obtain ⟨v1494, f2067, h32⟩ := z0U h31
              refine z0I rfl rfl rfl rfl ?_; repeat' ((first | refine z0r rfl rfl fun Q' hQ => ?_ | refine z0k rfl fun Q' hQ => ?_); simp [f2066, f2067]; refine hQ.out _ ?_; clear hQ; clear Q')
              refine z0m (z0a (zr rfl rfl rfl (by simp; rfl) ?_))
              have ho := z0h h32
              refine z0n ho ?_
              simp [z4r]
             ·rw [if_neg c2065] at h30
              have c2065e := eq_false c2065
              refine z0V rfl (by simp [c2065e]) (z0G rfl (z0m (z0a (zr rfl rfl rfl (by simp; rfl) ?_))))
              have ho := z0h h30
              refine z0n ho ?_
              simp [z4r]
            ·rw [if_neg c2062] at h28
             refine z0V rfl (by simp [c2062]) (z0Z rfl (z0H ?_))
             obtain ⟨rr16, h29, ho16⟩ := z0w h28
             have hs16 := hr16 _ ho16
             subst hs16
             refine z0C ho16 (z0l rfl (z0a (zq rfl ?_)))
             obtain ⟨v1495, f2068, h30⟩ := z0U h29
             obtain ⟨v1496, f2069, h31⟩ := z0i h30
             have f2069k := Ok.ok _ f2069
             try simp at f2069k
             refine z0I rfl rfl rfl rfl ?_; repeat' ((first | refine z0r rfl rfl fun Q' hQ => ?_ | refine z0k rfl fun Q' hQ => ?_); simp [f2068, f2069k]; refine hQ.out _ ?_; clear hQ; clear Q')
             refine z0a (zq rfl (zr rfl rfl rfl (by simp; rfl) ?_))
             refine z0a (zb rfl (z0R h31 (z4q a0 v757 v950 w1056 w1312 w1430 w1474 w1486 v1496) rfl rfl (by simp [z4q]) fun s o17 h32 hr17 => ?_))
             obtain ⟨w1501, w1502⟩ := s
             simp only [z4w] at h32
             simp only [z4q]
             refine zq rfl (zr rfl rfl rfl (by simp; rfl) ?_)
             refine z0a (zq rfl ?_)
             by_cases c2082 : w1501 < (v1496.1.length : Int)
             ·rw [if_pos c2082] at h32
              refine z1c rfl (by simp [c2082]) (z0G rfl (z0a (zq rfl (zb rfl (zq rfl ?_)))))
              obtain ⟨v1507, f2083, h33⟩ := z0U h32
              refine zr rfl rfl rfl (by simp [f2083]; rfl) ?_
              refine z0a (zq rfl ?_)
              obtain ⟨v1508, f2084, h34⟩ := z0U h33
              refine zr rfl rfl rfl (by simp [f2084]; rfl) ?_
              refine z0a ?_
              by_cases c2085 : v1507 = v1508
              ·rw [if_pos c2085] at h34
               have c2085e := eq_true c2085
               refine z1c rfl (by simp [c2085e]) ?_
               obtain ⟨v1509, f2086, h35⟩ := z0U h34
               obtain ⟨v1510, f2087, h36⟩ := z0U h35
               refine z0I rfl rfl rfl rfl ?_; repeat' ((first | refine z0r rfl rfl fun Q' hQ => ?_ | refine z0k rfl fun Q' hQ => ?_); simp [f2086, f2087]; refine hQ.out _ ?_; clear hQ; clear Q')
               refine z0m (z0a (zr rfl rfl rfl (by simp; rfl) ?_))
               have ho := z0h h36
               refine z0n ho ?_
               simp [z4q]
              ·rw [if_neg c2085] at h34
               have c2085e := eq_false c2085
               refine z0V rfl (by simp [c2085e]) (z0G rfl (z0m (z0a (zr rfl rfl rfl (by simp; rfl) ?_))))
               have ho := z0h h34
               refine z0n ho ?_
               simp [z4q]
             ·rw [if_neg c2082] at h32
              refine z0V rfl (by simp [c2082]) (z0Z rfl (z0H ?_))
              obtain ⟨rr17, h33, ho17⟩ := z0w h32
              have hs17 := hr17 _ ho17
              subst hs17
              refine z0C ho17 (z0l rfl (z0m (z0a (zr rfl rfl rfl (by simp; rfl) ?_))))
              have ho := z0h h33
              refine z0n ho ?_
              simp [z5E]
           ·rw [if_neg c2047] at h24
            have c2047e := eq_false c2047
            refine z1c rfl (by simp [c2047e]) (z0G rfl (z0a (zb rfl (zr rfl rfl rfl (by simp; rfl) ?_))))
            refine z0m ?_
            have ho := z0h h24
            refine z0n ho ?_
            simp [z5D]
          ·rw [if_neg c2038] at h21
           refine z0V rfl (by simp [c2038]) (z0Z rfl (z0H ?_))
           obtain ⟨rr14, h22, ho14⟩ := z0w h21
           have hs14 := hr14 _ ho14
           subst hs14
           refine z0C ho14 (z0l rfl (z0a (zq rfl (zr rfl rfl rfl (by simp; rfl) ?_))))
           refine z0a (z3m rfl ?_)
           cases h22
           simp
  ·rw [if_neg c1043] at h1
   have c1043e := eq_false c1043
   refine z1c rfl (by simp [c1043e]) (zq rfl (zr rfl rfl rfl (by simp; rfl) ?_))
   refine z0a (z3m rfl (z3O ?_))
   cases h1
   simp⟩
end
end Go.Proofs.Ytodliknibbafeaa
end
section
namespace Go.Proofs.Ytodliknibbafeaa
open Go
set_option maxRecDepth 100000
theorem zd9 : ∀ s : Nat, s < 128 → z2J (s : Int) = some ((szN s : Nat) : Int) := by decide +kernel
theorem zua {a b : Nat} (ha : a < 128) (hb : b < 128) : z4p (a : Int) (b : Int) = some (!zub b a) := by
  unfold z4p
  rw [zd9 a ha, Option.bind_some, zd9 b hb, Option.bind_some]
  by_cases h : szN a = szN b
  · rw [if_pos (by omega)]
    congr 1
    rw [Bool.eq_iff_iff]
    simp only [decide_eq_true_eq, Bool.not_eq_true', znh]
    omega
  · rw [if_neg (by omega), Option.bind_some, Option.bind_some]
    congr 1
    rw [Bool.eq_iff_iff]
    simp only [decide_eq_true_eq, Bool.not_eq_true', znh]
    omega
theorem zwg {S R : List Nat} {x : Nat} (hv : ∀ y ∈ S ++ [x], y < 128) (hs : zlE S) (hl : S.length < 2 ^ 40) {w : Nat} (hw : w = S.length) :
    ∃ S', z0y (z2Y (w : Int)) LFm ((w : Int), toI (S ++ x :: R)) = some (.inl (((w + 1 : Nat) : Int), toI (S' ++ R))) ∧ zlE S' ∧ S'.Perm (S ++ [x]) := by
  refine Exists.elim (z1q (b := z2Y (w : Int)) (fun z => ∃ S1 S2, S1 ++ S2 = S ∧ z = (((S1.length : Nat) : Int), toI (S1 ++ x :: (S2 ++ R))) ∧ ∀ y ∈ S2, zub x y = true) (fun z => z.1.toNat)
    (fun r => ∃ S', r = .inl (((w + 1 : Nat) : Int), toI (S' ++ R)) ∧ zlE S' ∧ S'.Perm (S ++ [x])) ?_ LFm ((w : Int), toI (S ++ x :: R)) ⟨S, [], by simp, by rw [hw]; simp, by simp⟩ (by simp only [LFm]; omega)) fun r h => by
      obtain ⟨h1, S', rfl, h2, h3⟩ := h
      exact ⟨S', h1, h2, h3⟩
  rintro z ⟨S1, S2, rfl, rfl, h2⟩
  have hlen : S1.length + S2.length < 2 ^ 40 := by rw [List.length_append] at hl; omega
  have fin : (∀ y ∈ S1, zub y x = true) → zlE (S1 ++ x :: S2) ∧ (S1 ++ x :: S2).Perm (S1 ++ S2 ++ [x]) := fun hle => by
    refine ⟨?_, ?_⟩
    · rw [zlE, List.pairwise_append] at hs ⊢
      refine ⟨hs.1, List.pairwise_cons.2 ⟨fun y hy => h2 y hy, hs.2.1⟩, fun a ha b hb => ?_⟩
      rcases List.mem_cons.1 hb with rfl | hb
      · exact hle a ha
      · exact hs.2.2 a ha b hb
    · rw [List.append_assoc]
      exact List.Perm.append_left _ (List.perm_append_singleton x S2).symm
  simp only [z2Y]
  rcases List.eq_nil_or_concat S1 with rfl | ⟨S0, y, rfl⟩
  · right
    rw [if_neg (by simp)]
    obtain ⟨f1, f2⟩ := fin (fun y hy => by simp at hy)
    refine ⟨_, rfl, x :: S2, ?_, by simpa using f1, by simpa using f2⟩
    have : IntKind.i64.wrap ((w : Int) + 1) = ((w + 1 : Nat) : Int) := by rw [z2U (by omega) (by omega)]; omega
    rw [this]; simp
  · simp only [List.concat_eq_append] at *
    have hy : y < 128 := hv y (by simp)
    have hx : x < 128 := hv x (by simp)
    have e1 : toI (S0 ++ [y] ++ x :: (S2 ++ R)) = toI S0 ++ (y : Int) :: (x : Int) :: toI (S2 ++ R) := by simp [toI]
    have hn : (S0 ++ [y]).length = (toI S0).length + 1 := by simp [toI]
    have hj : IntKind.i64.wrap ((((toI S0).length + 1 : Nat) : Int) - 1) = (((toI S0).length : Nat) : Int) := by
      rw [hn] at hlen
      rw [z2U (by omega) (by omega)]; omega
    rw [e1, hn, if_pos (by omega), at1 _ _ _ _ rfl, Option.bind_some, hj, at0 _ _ _ rfl, Option.bind_some, zua hx hy, Option.bind_some]
    cases hlt : zub y x with
    | false =>
      left
      rw [if_pos (by rfl), Int.toNat_natCast, zxK _ _ _ _ _ rfl, at0 _ _ _ rfl, Option.bind_some, Int.toNat_natCast, zyv _ _ _ _ rfl]
      refine ⟨_, rfl, ⟨S0, y :: S2, by simp, ?_, fun z hz => ?_⟩, by simp only; omega⟩
      · simp [toI]
      · rcases List.mem_cons.1 hz with rfl | hz
        · rw [znh] at hlt; rw [z9G]; omega
        · exact h2 z hz
    | true =>
      right
      rw [if_neg (by simp)]
      obtain ⟨f1, f2⟩ := fin (fun z hz => by
        rcases List.mem_append.1 hz with hz | hz
        · rw [zlE, List.pairwise_append, List.pairwise_append] at hs
          have := hs.1.2.2 z hz y (by simp)
          rw [z9G] at *
          omega
        · obtain rfl := List.mem_singleton.1 hz; exact hlt)
      refine ⟨_, rfl, S0 ++ [y] ++ x :: S2, ?_, f1, f2⟩
      have : IntKind.i64.wrap ((w : Int) + 1) = ((w + 1 : Nat) : Int) := by rw [z2U (by omega) (by omega)]; omega
      rw [this]; simp [toI]
theorem zuM {X : List Nat} (hv : ∀ y ∈ X, y < 128) (hl : X.length < 2 ^ 40) (V : List Int) (hV : V.length = X.length) : ∃ S, z0y (z2Z V) LFm (0, toI X) = some (toI S) ∧ zlE S ∧ S.Perm X := by
  refine Exists.elim (z1q (b := z2Z V) (fun z => ∃ S U, z = (((S.length : Nat) : Int), toI (S ++ U)) ∧ zlE S ∧ (S ++ U).Perm X) (fun z => X.length - z.1.toNat)
    (fun r => ∃ S, r = toI S ∧ zlE S ∧ S.Perm X) ?_ LFm (0, toI X) ⟨[], X, by simp, by simp, .refl _⟩ (by simp only [LFm]; omega)) fun r h => by
      obtain ⟨h1, S, rfl, h2, h3⟩ := h
      exact ⟨S, h1, h2, h3⟩
  rintro z ⟨S, U, rfl, h1, h2⟩
  have hlen := h2.length_eq
  rw [List.length_append] at hlen
  simp only [z2Z]
  cases U with
  | nil =>
    right
    rw [if_neg (by simp at hlen ⊢; omega)]
    exact ⟨_, rfl, S, by simp, h1, by simpa using h2⟩
  | cons u U =>
    left
    rw [if_pos (by simp at hlen ⊢; omega)]
    have hvS : ∀ y ∈ S ++ [u], y < 128 := fun y hy => hv y (h2.mem_iff.1 (by
      rcases List.mem_append.1 hy with hy | hy
      · exact List.mem_append.2 (.inl hy)
      · obtain rfl := List.mem_singleton.1 hy; simp))
    obtain ⟨S', e, s1, s2⟩ := zwg (S := S) (R := U) (x := u) hvS h1 (by simp at hlen hl ⊢; omega) rfl
    rw [e]
    have hS' := s2.length_eq
    simp at hS'
    refine ⟨_, rfl, ⟨S', U, ?_, s1, ?_⟩, ?_⟩
    · simp only [hS']
    · refine List.Perm.trans ?_ h2
      have : S ++ u :: U = S ++ [u] ++ U := by simp
      rw [this]
      exact s2.append_right U
    · simp at hlen ⊢; omega
theorem zxd {d : DFA} {m n : Nat} (hd : DfaOk d m n) (hn : n ≤ 7) : z6s d = some (toI (z2S d m n)) := by
  have hp := Nat.two_pow_pos n
  have h128 : 2 ^ n ≤ 128 := Nat.pow_le_pow_right (n := 2) (by omega) hn
  have hf : 2 ^ n - 1 < 2 ^ n := by omega
  have hi := z3B hd hf
  have hl := z0Q hi.nd hi.lt
  unfold z6s
  rw [zvU hd (by omega), Option.bind_some, zdm hd (by omega) hf, Option.bind_some]
  refine z0N (s := ((0 : Int), toI (z0Y d m n (2 ^ n - 1)).1)) n (fun q => ((q : Int), toI (z7W (z0Y d m n (2 ^ n - 1)).1 q))) rfl (by simp only [LFm]; omega) (fun q hq => ?_) ?_
  · have h3' := (z6F hi.nd q).2.2
    simp only [z4X]
    rw [if_pos (by rw [hd.fin]; omega), zp7 (by omega), z0B _ (by omega)]
    generalize hX : z7W (z0Y d m n (2 ^ n - 1)).1 q = X at *
    refine z0N (s := (false, (0 : Int))) X.length (fun k => (decide (2 ^ q ∈ X.take k), (k : Int))) (by simp) (by simp only [LFm]; omega) (fun k hk => ?_) ?_
    · have ht : X.take (k + 1) = X.take k ++ [X.getD k 0] := by rw [List.getD, List.getElem?_eq_getElem hk, Option.getD_some, List.take_append_getElem]
      simp only [z4W]
      rw [if_pos (by rw [z0s]; omega), z1H hk, Option.bind_some, zp7 (by omega), z8G (by omega), z1b (by omega), ht]
      by_cases h : 2 ^ q ∈ X.take k
      · rw [if_pos (by simpa using h)]
        congr 2
        simp [h]
      · rw [if_neg (by simpa using h)]
        congr 2
        rw [Bool.eq_iff_iff, decide_eq_true_iff, decide_eq_true_iff, List.mem_append, List.mem_singleton]
        constructor
        · intro h'; exact .inr (by omega)
        · rintro (h' | h')
          · exact absurd h' h
          · omega
    · simp only [z4W]
      rw [if_neg (by rw [z0s]; omega), List.take_length, z1b (by omega), z7W, hX]
      by_cases h : 2 ^ q ∈ X
      · rw [if_pos (by simpa using h), if_pos h]
      · rw [if_neg (by simpa using h), if_neg h, z0B _ (by unfold z0T; rw [z0s]; omega), zp7 (by omega), z8G (by omega), z5t]
  · obtain ⟨h1, h2, h3⟩ := z6F hi.nd n
    simp only [z4X]
    rw [if_neg (by rw [hd.fin]; omega), z0B _ (by unfold z0T; rw [z0s]; omega)]
    have hv : ∀ y ∈ z7W (z0Y d m n (2 ^ n - 1)).1 n, y < 128 := fun y hy => by
      rcases (h2 y).1 hy with h | ⟨i, hi', rfl⟩
      · have := hi.lt y h; omega
      · have : 2 ^ i < 2 ^ n := Nat.pow_lt_pow_right (by omega) hi'
        omega
    obtain ⟨S, e, s1, s2⟩ := zuM hv (by omega) (toI (z7W (z0Y d m n (2 ^ n - 1)).1 n)) (z0s _)
    rw [e]
    have : S = z2S d m n := zhN (s2.trans (z8F _).symm) s1 (z7D _)
    rw [this]
end Go.Proofs.Ytodliknibbafeaa
end
section
namespace Go.Proofs.Ytodliknibbafeaa
open Go
set_option maxRecDepth 100000
theorem zfs {N : Nat} {e : Nat → Nat → Bool} (he : EqvN N e) {i : Nat} (hi : i < N) :
    (zdj e N i < (z1h e i).length ∧ (z1h e i).getD (zdj e N i) 0 = (z1h e N).getD (zdj e N i) 0 ∧ z1h e (i + 1) = z1h e i) ∨
    (zdj e N i = (z1h e i).length ∧ (z1h e N).getD (zdj e N i) 0 = i ∧ z1h e (i + 1) = z1h e i ++ [i]) := by
  have hc := zyl he hi
  by_cases h : (z1h e i).any (e i) = true
  · left
    obtain ⟨x, hx, hp⟩ := List.any_eq_true.1 h
    have hlt : zdj e N i < (z1h e i).length := by rw [← hc]; exact List.findIdx_lt_length_of_exists ⟨x, hx, hp⟩
    refine ⟨hlt, ?_, by rw [z1h, if_pos h]⟩
    obtain ⟨R, hR⟩ := zfo e (i := i) N (by omega)
    rw [hR, List.getD, List.getD, List.getElem?_append_left hlt]
  · right
    have hlt : zdj e N i = (z1h e i).length := by
      rw [← hc]
      exact List.findIdx_eq_length.2 fun x hx => by
        cases hh : e i x with
        | false => rfl
        | true => exact absurd (List.any_eq_true.2 ⟨x, hx, hh⟩) h
    refine ⟨hlt, ?_, by rw [z1h, if_neg h]⟩
    obtain ⟨R, hR⟩ := zfo e (i := i + 1) N (by omega)
    rw [hR, z1h, if_neg h, hlt, List.getD, List.append_assoc, List.getElem?_append_right (Nat.le_refl _), Nat.sub_self]
    rfl
def zcY (N : Nat) (f : Nat → Nat → Bool) : List (List Bool) := (List.range N).map fun a => (List.range N).map (f a)
theorem z4I {N : Nat} {f g : Nat → Nat → Bool} (h : ∀ a b, a < N → b < N → f a b = g a b) : zcY N f = zcY N g :=
  List.map_congr_left fun a ha => List.map_congr_left fun b hb => h a b (List.mem_range.1 ha) (List.mem_range.1 hb)
theorem zwB {N : Nat} {f : Nat → Nat → Bool} {i j : Nat} (hi : i < N) (hj : j < N) (v : Bool) : (zcY N f).set i (((List.range N).map (f i)).set j v) = zcY N fun a b => if a = i ∧ b = j then v else f a b := by
  apply List.ext_getElem (by simp [zcY])
  intro k h1 h2
  simp only [zcY, List.getElem_set, List.getElem_map, List.getElem_range]
  by_cases e : i = k
  · subst e
    rw [if_pos rfl]
    apply List.ext_getElem (by simp)
    intro l h3 h4
    simp only [List.getElem_set, List.getElem_map, List.getElem_range]
    by_cases e2 : j = l
    · subst e2; simp
    · rw [if_neg e2, if_neg (by omega)]
  · rw [if_neg e]
    apply List.ext_getElem (by simp)
    intro l h3 h4
    simp only [List.getElem_map, List.getElem_range]
    rw [if_neg (by omega)]
theorem zl1 {N : Nat} {f : Nat → Nat → Bool} {i : Nat} (h : i < N) : atI (zcY N f) (i : Int) = some ((List.range N).map (f i)) := z3e h
section
variable {d : DFA} {m n : Nat} {S : List Nat} (hd : DfaOk d m n) (hn : n ≤ 7) (hS : SetsP d m n S)
def pOf (S : List Nat) (a x : Nat) : Bool := decide (S.getD a 0 &&& x = S.getD a 0)
include hd hn hS
theorem zwe {j x : Nat} (hj : j < S.length) (hx : x < 2 ^ n) (w : Nat) (hw : w < 4611686018427387904) (f : Nat → Nat → Bool) :
    z0y (z4E (toI S) (j : Int) (w : Int) (x : Int)) LFm (0, zcY S.length f) = z0q (((w + 1 : Nat) : Int), zcY S.length fun a b => if b = j then f a b || pOf S a x else f a b) := by
  have _u := hd
  have h128 : 2 ^ n ≤ 128 := Nat.pow_le_pow_right (n := 2) (by omega) hn
  have hSl := z0Q hS.nd hS.lt
  refine z0N (s := ((0 : Int), zcY S.length f)) S.length (fun i => ((i : Int), zcY S.length fun a b => if b = j ∧ a < i then f a b || pOf S a x else f a b)) ?_ (by simp only [LFm]; omega) (fun i hi => ?_) ?_
  · refine Prod.ext rfl ?_
    exact z4I fun a b _ _ => by simp
  · have hil := hS.lt _ (z0x hi)
    simp only [z4E]
    rw [if_pos (by rw [z0s]; omega), z1H hi, Option.bind_some, zb2 (by omega) (by omega), z1b (by omega)]
    by_cases h : S.getD i 0 &&& x = S.getD i 0
    · rw [if_pos (by omega), zl1 hi, Option.bind_some, z3e hj, Option.bind_some, Int.toNat_natCast, Int.toNat_natCast, zwB hi hj]
      congr 2
      refine z4I fun a b _ _ => ?_
      by_cases e : a = i ∧ b = j
      · obtain ⟨rfl, rfl⟩ := e
        have : pOf S a x = true := decide_eq_true h
        rw [if_pos ⟨rfl, rfl⟩, if_pos ⟨rfl, by omega⟩, this, Bool.or_true]
      · rw [if_neg e]
        by_cases e2 : b = j ∧ a < i
        · rw [if_pos e2, if_pos ⟨e2.1, by omega⟩]
        · rw [if_neg e2, if_neg (by omega)]
    · rw [if_neg (by omega)]
      congr 2
      refine z4I fun a b _ _ => ?_
      by_cases e : a = i ∧ b = j
      · obtain ⟨rfl, rfl⟩ := e
        have : pOf S a x = false := decide_eq_false h
        rw [if_neg (by omega), if_pos ⟨rfl, by omega⟩, this, Bool.or_false]
      · by_cases e2 : b = j ∧ a < i
        · rw [if_pos e2, if_pos ⟨e2.1, by omega⟩]
        · rw [if_neg e2, if_neg (by omega)]
  · simp only [z4E]
    rw [if_neg (by rw [z0s]; omega), z1b hw]
    congr 2
    refine Prod.ext rfl ?_
    refine z4I fun a b ha _ => ?_
    by_cases e : b = j
    · rw [if_pos ⟨e, ha⟩, if_pos e]
    · rw [if_neg (fun h => e h.1), if_neg e]
theorem zwf {j : Nat} (hj : j < S.length) (W : List ByteArray) :
    z0y (z4F (toI S) (j : Int) (toI (z0Y d m n (S.getD j 0)).1, W)) LFm (0, zcY S.length fun a b => decide (b < j) && z4O d m n S a b) = z0q (((j + 1 : Nat) : Int), zcY S.length fun a b => decide (b < j + 1) && z4O d m n S a b) := by
  have h128 : 2 ^ n ≤ 128 := Nat.pow_le_pow_right (n := 2) (by omega) hn
  have hSl := z0Q hS.nd hS.lt
  have hinv := z3B hd (hS.lt _ (z0x hj))
  have hlt := hinv.lt
  have hl := z0Q hinv.nd hinv.lt
  generalize hR : (z0Y d m n (S.getD j 0)).1 = R at *
  refine z0N (s := ((0 : Int), zcY S.length fun a b => decide (b < j) && z4O d m n S a b)) R.length (fun k => ((k : Int), zcY S.length fun a b => if b = j then (R.take k).any (pOf S a) else decide (b < j) && z4O d m n S a b)) ?_ (by simp only [LFm]; omega) (fun k hk => ?_) ?_
  · refine Prod.ext rfl ?_
    refine z4I fun a b _ _ => ?_
    by_cases e : b = j
    · subst e; simp
    · rw [if_neg e]
  · have hx := hlt _ (z0x hk)
    simp only [z4F]
    rw [if_pos (by rw [z0s]; omega), z1H hk, Option.bind_some, zwe hd hn hS hj hx k (by omega)]
    congr 2
    refine z4I fun a b _ _ => ?_
    by_cases e : b = j
    · rw [if_pos e, if_pos e, if_pos e, List.take_succ_eq_append_getElem hk, List.any_append, List.getD, List.getElem?_eq_getElem hk, Option.getD_some]
      simp
    · rw [if_neg e, if_neg e, if_neg e]
  · simp only [z4F]
    rw [if_neg (by rw [z0s]; omega), z1b (by omega)]
    congr 2
    refine Prod.ext rfl ?_
    refine z4I fun a b _ _ => ?_
    by_cases e : b = j
    · rw [if_pos e, List.take_length, ← hR, e, decide_eq_true (Nat.lt_succ_self j), Bool.true_and]
      rfl
    · rw [if_neg e]
      congr 1
      exact decide_eq_decide.2 (by omega)
theorem zfq {i : Nat} (hi : i < S.length) : z1W d m n S i ≤ i := by
  have _u := hn
  rcases zfs (zaX hd hS) hi with ⟨h1, h2, _⟩ | ⟨h1, h2, _⟩
  · have := zaV (z7e d m n S) i _ (z0x h1)
    rw [h2] at this
    exact Nat.le_of_lt this
  · exact Nat.le_of_eq h2
theorem zfr {i : Nat} (hi : i < S.length) : z7e d m n S i (z1W d m n S i) = true := by
  have _u := hn
  exact (zfB (zaX hd hS) hi).2
theorem zoz {i j : Nat} (hi : i < S.length) (hj : j < S.length) (h : z7e d m n S i j = true) : z1W d m n S i = z1W d m n S j := by
  have _u := hn
  unfold z1W
  rw [(zna (zaX hd hS) hi hj).2 h]
theorem zvk {i : Nat} (hi : i < S.length) (Lc : List Int) (hL : Lc = z1z S.length (fun i => ((z1W d m n S i : Nat) : Int)) 0 i) :
    z0y (z4D (zcY S.length (z4O d m n S)) (i : Int) Lc) LFm 0 = z0q (((i + 1 : Nat) : Int), z1z S.length (fun i => ((z1W d m n S i : Nat) : Int)) 0 (i + 1)) := by
  have h128 : 2 ^ n ≤ 128 := Nat.pow_le_pow_right (n := 2) (by omega) hn
  have hSl := z0Q hS.nd hS.lt
  have hLl : Lc.length = S.length := by rw [hL, ziJ]
  have hset : Lc.set i ((z1W d m n S i : Nat) : Int) = z1z S.length (fun i => ((z1W d m n S i : Nat) : Int)) 0 (i + 1) := by
    rw [hL]; exact z8M (f := fun i => ((z1W d m n S i : Nat) : Int)) (z := 0) hi
  rw [z4J (s := (0 : Int)) i (fun k => (k : Int)) (fun k => z7e d m n S i k) (fun k => z0q (((i + 1 : Nat) : Int), Lc.set i ((z1W d m n S k : Nat) : Int))) (x := z0q (((i + 1 : Nat) : Int), Lc.set i (i : Int))) rfl (by simp only [LFm]; omega)]
  · cases hf : (List.range i).find? fun k => z7e d m n S i k with
    | none =>
      have h0 := zlo.1 hf
      have : z1W d m n S i = i := by
        have h1 := zfq hd hn hS hi
        refine Classical.byContradiction fun hne => ?_
        have := h0 (z1W d m n S i) (by omega)
        rw [zfr hd hn hS hi] at this
        cases this
      simp only
      rw [← hset, this]
    | some k =>
      obtain ⟨k1, k2, _⟩ := zln.1 hf
      simp only
      rw [← hset, zoz hd hn hS hi (by omega) k2]
  · intro k hk
    have hks : k < S.length := by omega
    have hat : atI (Lc.set i (i : Int)) (k : Int) = some ((z1W d m n S k : Nat) : Int) := by
      rw [z0L (by simp; omega)]
      simp only [List.getElem_set]
      rw [if_neg (by omega)]
      simp only [hL, z1z, List.getElem_map, List.getElem_range]
      rw [if_pos hk]
    simp only [z4D]
    rw [if_pos (by omega), zl1 hi, Option.bind_some, z3e hks, Option.bind_some, z1b (by omega)]
    by_cases h1 : z4O d m n S i k = true
    · rw [if_pos h1, zl1 hks, Option.bind_some, z3e hi, Option.bind_some]
      by_cases h2 : z4O d m n S k i = true
      · rw [if_pos h2, if_pos (by simp [z7e, h1, h2]), Int.toNat_natCast, hat, Option.bind_some, zvB (by omega), Option.bind_some, zsH]
      · rw [if_neg h2, if_neg (by simp [z7e, h2]), z1b (by omega)]
    · rw [if_neg h1, if_neg (by simp [z7e, h1]), z1b (by omega)]
  · simp only [z4D]
    rw [if_neg (by omega), z1b (by omega), Int.toNat_natCast]
end
def mpC : List Nat → Nat → List (Int × Int)
  | [], _ => []
  | f :: l, c => (((f : Nat) : Int), ((c : Nat) : Int)) :: mpC l (c + 1)
theorem ztF : ∀ (l : List Nat) (c0 c : Nat), l.Nodup → c < l.length → zaS ((l.getD c 0 : Nat) : Int) (mpC l c0) = some ((c0 + c : Nat) : Int)
  | [], c0, c, _, h2 => by rw [List.length_nil] at h2; omega
  | f :: l, c0, 0, _, h2 => by
    simp only [mpC, zaS, List.getD_cons_zero]
    rw [if_pos trivial]; rfl
  | f :: l, c0, c + 1, h1, h2 => by
    rw [List.length_cons] at h2
    rw [List.nodup_cons] at h1
    have hm := z0x (l := l) (i := c) (by omega)
    have hne : ¬ ((f : Nat) : Int) = ((l.getD c 0 : Nat) : Int) := fun e => h1.1 (by rw [show f = l.getD c 0 by omega]; exact hm)
    simp only [mpC, zaS, List.getD_cons_succ]
    rw [if_neg hne, ztF l (c0 + 1) c h1.2 (by omega)]
    congr 2; omega
theorem zov (x : Nat) : ∀ (l : List Nat) (c0 : Nat), x ∉ l → zaS ((x : Nat) : Int) (mpC l c0) = none
  | [], c0, _ => rfl
  | f :: l, c0, h => by
    simp only [mpC, zaS]
    rw [List.mem_cons] at h
    rw [if_neg (fun e => h (.inl (by omega))), zov x l (c0 + 1) (fun hx => h (.inr hx))]
theorem zsN (x v : Nat) : ∀ (l : List Nat) (c0 : Nat), x ∉ l → v = c0 + l.length → zf2 ((x : Nat) : Int) ((v : Nat) : Int) (mpC l c0) = mpC (l ++ [x]) c0
  | [], c0, _, h => by rw [List.length_nil] at h; subst h; rfl
  | f :: l, c0, h, hv => by
    rw [List.mem_cons] at h
    rw [List.length_cons] at hv
    simp only [mpC, zf2, List.cons_append]
    rw [if_neg (fun e => h (.inl (by omega))), zsN x v l (c0 + 1) (fun hx => h (.inr hx)) (by omega)]
theorem zlk (e : Nat → Nat → Bool) : ∀ i, (z1h e i).Nodup
  | 0 => by simp [z1h]
  | i + 1 => by
    have ih := zlk e i
    unfold z1h
    split
    · exact ih
    · refine List.nodup_append.2 ⟨ih, by simp, fun a ha b hb => ?_⟩
      have := zaV e i a ha
      obtain rfl := List.mem_singleton.1 hb
      omega
theorem zlD {d : DFA} {m n : Nat} {S : List Nat} (hd : DfaOk d m n) (hn : n ≤ 7) (hS : SetsP d m n S) : z2D ((List.range S.length).map fun i => ((z1W d m n S i : Nat) : Int)) = some (zxo d m n S) := by
  have h128 : 2 ^ n ≤ 128 := Nat.pow_le_pow_right (n := 2) (by omega) hn
  have hSl := z0Q hS.nd hS.lt
  have he := zaX hd hS
  have hlen : ((List.range S.length).map fun i => ((z1W d m n S i : Nat) : Int)).length = S.length := by simp
  unfold z2D
  rw [hlen, if_neg (by omega), z0B _ (by unfold z1V; omega), Int.toNat_natCast]
  have f1 : List.replicate S.length (0 : Int) = z1z S.length (fun i => ((zdj (z7e d m n S) S.length i : Nat) : Int)) 0 0 := (zi1 _ _ _).symm
  rw [f1]
  refine z0N (s := ((0 : Int), (0 : Int), z1z S.length (fun i => ((zdj (z7e d m n S) S.length i : Nat) : Int)) 0 0, ([] : List (Int × Int)))) S.length (fun i => ((((z1h (z7e d m n S) i).length : Nat) : Int), (i : Int), z1z S.length (fun i => ((zdj (z7e d m n S) S.length i : Nat) : Int)) 0 i, mpC (z1h (z7e d m n S) i) 0)) rfl (by simp only [LFm]; omega) (fun i hi => ?_) ?_
  · have hF := zfp (z7e d m n S) i
    have hset := z8M (f := fun i => ((zdj (z7e d m n S) S.length i : Nat) : Int)) (z := (0 : Int)) hi
    simp only [z2q]
    rw [if_pos (by rw [hlen]; omega), z3e hi, Option.bind_some, zfz hi, Option.bind_some, Int.toNat_natCast, z1b (by omega)]
    rcases zfs he hi with ⟨q1, q2, q3⟩ | ⟨q1, q2, q3⟩
    · have g := ztF (z1h (z7e d m n S) i) 0 _ (zlk _ i) q1
      rw [q2, Nat.zero_add] at g
      have g : zaS ((z1W d m n S i : Nat) : Int) (mpC (z1h (z7e d m n S) i) 0) = some ((zdj (z7e d m n S) S.length i : Nat) : Int) := g
      rw [g, if_pos (by rfl), Option.getD_some, hset, q3]
    · have hni : i ∉ z1h (z7e d m n S) i := fun h => by have := zaV _ _ _ h; omega
      have ef : z1W d m n S i = i := q2
      rw [ef, zov i _ 0 hni, if_neg (by simp), Option.bind_some, z1b (by omega), zsN i _ _ 0 hni (by omega), q3, ← q1, hset, q1, List.length_append, List.length_singleton]
  · simp only [z2q]
    rw [if_neg (by rw [hlen]; omega), zi0]
    rfl
end Go.Proofs.Ytodliknibbafeaa
end
section
namespace Go.Proofs.Ytodliknibbafeaa
open Go
set_option maxRecDepth 100000
theorem zhV {d : DFA} {m n K I J : Nat} {u v : List UInt8} (h1 : Lead d m n K I u) (h2 : Lead d m n I J v) : Lead d m n K J (u ++ v) where
  hw c hc := (List.mem_append.1 hc).elim (h1.hw c) (h2.hw c)
  hK := h1.hK
  hI := h2.hI
  run := by rw [z5m, h1.run, h2.run]
  sz := h2.sz.trans h1.sz
def z3u (S : List Nat) (k : Nat) : List Nat := (z8P S k).map fun t => S.getD t 0
def z5s (d : DFA) (w : List UInt8) (T : List Nat) : List Nat := T.map fun t => T.idxOf (z2T d t w)
theorem zaH (d : DFA) (w : List UInt8) (T : List Nat) : (z5s d w T).length = T.length := by simp [z5s]
def clN (d : DFA) (m n : Nat) (S : List Nat) (i : Nat) : Nat := zdj (z7e d m n S) S.length i
def zuq (d : DFA) (S : List Nat) (i a : Nat) : Nat := S.idxOf (mvN d (S.getD i 0) a)
def hwN (d : DFA) (m n : Nat) (S : List Nat) (i a : Nat) : ByteArray := znn d m n S i ++ zwE a ++ zni d m n S (zuq d S i a)
section
variable {d : DFA} {m n : Nat} {S : List Nat} (hd : DfaOk d m n) (hn : n ≤ 7) (hS : SetsP d m n S)
include hd hn hS
theorem zat {k : Nat} (hk : k < S.length) : (z3u S k).Nodup ∧ ∀ t ∈ z3u S k, t ∈ S ∧ z5u t (S.getD k 0) ∧ t < 2 ^ n := by
  have _u := hd
  have hin : ∀ x ∈ z8P S k, x < S.length := fun x hx => ztx (zf1 hx).1
  refine ⟨zfd (zsu S k) fun x hx y hy e => z9D hS.nd (hin x hx) (hin y hy) e, fun t ht => ?_⟩
  obtain ⟨x, hx, rfl⟩ := List.mem_map.1 ht
  obtain ⟨h1, h2, h3, _⟩ := zsv hn hS hk hx
  exact ⟨z0x h2, h3, hS.lt _ (z0x h2)⟩
theorem zss {k : Nat} (hk : k < S.length) {w : List UInt8} (h : Lead d m n (S.getD k 0) (S.getD k 0) w) : ∀ t ∈ z3u S k, z2T d t w ∈ z3u S k := fun t ht => by
  obtain ⟨x, hx, rfl⟩ := List.mem_map.1 ht
  have hm := zw5 hd hn hS hk hk h h hx
  have hr := zsR hS h.hw (z0x (ztx (zf1 hx).1) : S.getD x 0 ∈ S)
  exact List.mem_map.2 ⟨_, hm, z3W hr⟩
theorem zr1 {k : Nat} (hk : k < S.length) {w : List UInt8} (h : Lead d m n (S.getD k 0) (S.getD k 0) w) : (z5s d w (z3u S k)).Nodup ∧ (∀ p ∈ z5s d w (z3u S k), p < (z3u S k).length) ∧ ∀ i, i < (z3u S k).length → (z3u S k).getD ((z5s d w (z3u S k)).getD i 0) 0 = z2T d ((z3u S k).getD i 0) w := by
  obtain ⟨hnd, hf⟩ := zat hd hn hS hk
  have hr := zss hd hn hS hk h
  refine ⟨zfd hnd fun x hx y hy e => ?_, fun p hp => ?_, fun i hi => ?_⟩
  · have e2 : z2T d x w = z2T d y w := by
      rw [← z3W (hr x hx), ← z3W (hr y hy), e]
    exact zoj hd hn h (hf x hx).2.1 (hf y hy).2.1 e2
  · obtain ⟨x, hx, rfl⟩ := List.mem_map.1 hp
    exact zd0 (hr x hx)
  · have e : (z5s d w (z3u S k)).getD i 0 = (z3u S k).idxOf (z2T d ((z3u S k).getD i 0) w) := by
      simp [z5s, List.getD, hi]
    rw [e, z3W (hr _ (z0x hi))]
theorem znm {i : Nat} (hi : i < S.length) : Lead d m n (S.getD (z1W d m n S i) 0) (S.getD i 0) (znn d m n S i).data.toList ∧ (znn d m n S i).size ≤ 2 ^ n := by
  have hk : z1W d m n S i < S.length := by have := zfq hd hn hS hi; omega
  obtain ⟨h1, h2⟩ := zdg hd hn hS hk hi (zfr hd hn hS hi)
  have hlk := hS.lt _ (z0x hk)
  obtain ⟨w1, w2, w3⟩ := ziW hd hlk h2
  exact ⟨⟨w1, hlk, hS.lt _ (z0x hi), w3, h1⟩, w2⟩
theorem zoU {i : Nat} (hi : i < S.length) : Lead d m n (S.getD i 0) (S.getD (z1W d m n S i) 0) (zni d m n S i).data.toList ∧ (zni d m n S i).size ≤ 2 ^ n := by
  have hk : z1W d m n S i < S.length := by have := zfq hd hn hS hi; omega
  have he := zfr hd hn hS hi
  have he' : z7e d m n S (z1W d m n S i) i = true := by
    simp only [z7e, Bool.and_eq_true] at he ⊢; exact he.symm
  obtain ⟨h1, h2⟩ := zdg hd hn hS hi hk he'
  have hli := hS.lt _ (z0x hi)
  obtain ⟨w1, w2, w3⟩ := ziW hd hli h2
  exact ⟨⟨w1, hli, hS.lt _ (z0x hk), w3, h1⟩, w2⟩
theorem zvP {i a : Nat} (hi : i < S.length) (ha : a < m) : zuq d S i a < S.length ∧ S.getD (zuq d S i a) 0 = mvN d (S.getD i 0) a := by
  have _u := hd
  have _v := hn
  have := hS.cl _ (z0x hi) a ha
  exact ⟨zd0 this, z3W this⟩
theorem zym {i : Nat} (hi : i < S.length) : clN d m n S i < (zrs d m n S).length ∧ (zrs d m n S).getD (clN d m n S i) 0 = z1W d m n S i := by
  have _u := hn
  exact ⟨(zfB (zaX hd hS) hi).1, rfl⟩
theorem ztA {i a : Nat} (hi : i < S.length) (ha : a < m) (hc : clN d m n S (zuq d S i a) = clN d m n S i) : Lead d m n (S.getD (z1W d m n S i) 0) (S.getD (z1W d m n S i) 0) (hwN d m n S i a).data.toList ∧ (hwN d m n S i a).size ≤ 2 * 2 ^ n + 1 := by
  obtain ⟨j1, j2⟩ := zvP hd hn hS hi ha
  obtain ⟨l1, s1⟩ := znm hd hn hS hi
  obtain ⟨l2, s2⟩ := zoU hd hn hS j1
  have hf : z1W d m n S (zuq d S i a) = z1W d m n S i := by
    unfold z1W; unfold clN at hc; rw [hc]
  rw [hf] at l2
  have h26 : (UInt8.ofNat (97 + a)).toNat = 97 + a := ziw (by have := hd.m6; omega)
  have l3 : Lead d m n (S.getD i 0) (S.getD (zuq d S i a) 0) (zwE a).data.toList := by
    refine ⟨fun c hc => ?_, l1.hI, hS.lt _ (z0x j1), ?_, ?_⟩
    · rw [zfi, List.mem_singleton] at hc
      subst hc; omega
    · rw [zfi, j2, z2T, z2T, h26, Nat.add_sub_cancel_left]
    · have := l1.sz; have := l2.sz; omega
  have l4 := zhV (zhV l1 l3) l2
  refine ⟨?_, ?_⟩
  · unfold hwN; rw [ziO, ziO]; exact l4
  · unfold hwN; rw [zdk, zdk, z7K]; omega
end
abbrev HS := List ByteArray × List (List Nat)
def zmC (d : DFA) (m n : Nat) (S : List Nat) (T : List Nat) (i : Nat) (st : HS) (a : Nat) : HS :=
  if clN d m n S (zuq d S i a) = clN d m n S i then
    (if z5s d (hwN d m n S i a).data.toList T = List.range T.length ∨ z5s d (hwN d m n S i a).data.toList T ∈ st.2 then st else (st.1 ++ [hwN d m n S i a], st.2 ++ [z5s d (hwN d m n S i a).data.toList T]))
  else st
def zvC (d : DFA) (m n : Nat) (S : List Nat) (T : List Nat) (i : Nat) (st : HS) (a : Nat) : HS := (List.range a).foldl (zmC d m n S T i) st
def zi7 (d : DFA) (m n : Nat) (S : List Nat) (T : List Nat) (c k : Nat) : HS := (List.range k).foldl (fun st i => if clN d m n S i = c then zvC d m n S T i st m else st) ([], [])
theorem zo2 (d : DFA) (m n : Nat) (S T : List Nat) (i : Nat) (st : HS) (a : Nat) : zvC d m n S T i st (a + 1) = zmC d m n S T i (zvC d m n S T i st a) a := by
  unfold zvC; rw [List.range_succ, List.foldl_append]; rfl
theorem zp0 (d : DFA) (m n : Nat) (S T : List Nat) (c k : Nat) : zi7 d m n S T c (k + 1) = if clN d m n S k = c then zvC d m n S T k (zi7 d m n S T c k) m else zi7 d m n S T c k := by
  unfold zi7; rw [List.range_succ, List.foldl_append]; rfl
def z2n (d : DFA) (m n : Nat) (S : List Nat) (c : Nat) : Nat := (zrs d m n S).getD c 0
structure HInv (d : DFA) (m n : Nat) (S : List Nat) (c : Nat) (B : Nat) (st : HS) : Prop where
  len : st.1.length = st.2.length
  bd : st.1.length ≤ B
  ok : ∀ j, j < st.1.length → ∃ w : ByteArray, st.1.getD j ByteArray.empty = w ∧ Lead d m n (S.getD (z2n d m n S c) 0) (S.getD (z2n d m n S c) 0) w.data.toList ∧ w.size ≤ 2 * 2 ^ n + 1 ∧ st.2.getD j [] = z5s d w.data.toList (z3u S (z2n d m n S c))
section
variable {d : DFA} {m n : Nat} {S : List Nat} (hd : DfaOk d m n) (hn : n ≤ 7) (hS : SetsP d m n S)
include hd hn hS
theorem zw8 {c i a B : Nat} {st : HS} (h : HInv d m n S c B st) (hi : i < S.length) (ha : a < m) (hc : clN d m n S i = c) : HInv d m n S c (B + 1) (zmC d m n S (z3u S (z2n d m n S c)) i st a) := by
  have h1 : HInv d m n S c (B + 1) st := ⟨h.len, by have := h.bd; omega, h.ok⟩
  unfold zmC
  split
  · rename_i hj
    split
    · exact h1
    · obtain ⟨l1, l2⟩ := ztA hd hn hS hi ha hj
      have hf : z2n d m n S c = z1W d m n S i := by unfold z2n; rw [← hc]; exact (zym hd hn hS hi).2
      rw [← hf] at l1
      refine ⟨by simp [h.len], by have := h.bd; simp; omega, fun j hj => ?_⟩
      rw [List.length_append, List.length_singleton] at hj
      rcases Nat.lt_or_ge j st.1.length with h3 | h3
      · rw [z7b _ h3, z7b _ (by rw [← h.len]; exact h3)]
        exact h.ok j h3
      · have e : j = st.1.length := by omega
        rw [zaT e, zaT (by rw [← h.len]; exact e)]
        exact ⟨_, rfl, l1, l2, rfl⟩
  · exact h1
theorem zsV {c i B : Nat} {st : HS} (h : HInv d m n S c B st) (hi : i < S.length) (hc : clN d m n S i = c) : ∀ a, a ≤ m → HInv d m n S c (B + a) (zvC d m n S (z3u S (z2n d m n S c)) i st a)
  | 0, _ => h
  | a + 1, ha => by
    rw [zo2]
    exact zw8 hd hn hS (zsV h hi hc a (by omega)) hi (by omega) hc
theorem zui {c : Nat} : ∀ k, k ≤ S.length → HInv d m n S c (k * m) (zi7 d m n S (z3u S (z2n d m n S c)) c k)
  | 0, _ => ⟨rfl, by simp [zi7], fun j hj => by simp [zi7] at hj⟩
  | k + 1, hk => by
    have ih := zui (c := c) k (by omega)
    rw [zp0]
    have e : (k + 1) * m = k * m + m := by rw [Nat.add_mul]; omega
    split
    · rename_i hc
      rw [e]; exact zsV hd hn hS ih (by omega) hc m (Nat.le_refl _)
    · exact ⟨ih.len, by have := ih.bd; omega, ih.ok⟩
end
end Go.Proofs.Ytodliknibbafeaa
end
section
namespace Go.Proofs.Ytodliknibbafeaa
open Go
noncomputable section
set_option maxRecDepth 100000
set_option maxHeartbeats 6000000
def z3h (a0 : Imgs) (w236 : Int) (w237 : List Int) (w238 : List Int) (v247 : Int) : Bool × Int → Option ((Bool × Int) ⊕ ((Int × List Int × List Int) ⊕ List Int))
  | (w249, w250) =>
  if w250 < (w237.length : Int) then
    (atI w237 w250).bind fun v252 =>
    if w249 = true then
      z0q (true, IntKind.i64.wrap (w250 + 1))
    else
      z0q (decide (v252 = v247), IntKind.i64.wrap (w250 + 1))
  else
    z0v <|
    if w249 = true then
      z0q (IntKind.i64.wrap (w236 + 1), w237, w238)
    else
      (atI a0.height w236).bind fun v253 =>
      if 0 < v253 then
        chk (z0T 8 (w237.length + 1)) <|
        chk (z0T 8 (w238.length + 1)) <|
        z0q (IntKind.i64.wrap (w236 + 1), w237 ++ [v247], w238 ++ [v253])
      else
        z0q (IntKind.i64.wrap (w236 + 1), w237, w238)
def z2m (a0 : Imgs) (w236 : Int) (w237 : List Int) (w238 : List Int) (v247 : Int) : Bool × Int → Fr
  | (w249, w250) => ⟨136, [(1, .one (.a 1 [] (0))), (3, .one (.h 3 [])), (4, .one (.h 4 [])), (5, .one (.t none (.sc (.int .i64 w236)))), (6, .one (.t none (.sc (.int .i64 v247)))), (7, .one (.t none (.sc (.bool w249)))), (13, .one (.t none (.sl a0.class_.length (a0.class_.map fun x0 => .sc (.int .i64 x0))))), (14, .one (.t none (.sc (.int .i64 (a0.class_.length : Int))))), (15, .one (.t none (.sc (.int .i64 w236)))), (20, .one (.h 3 [])), (21, .one (.t none (.sc (.int .i64 (w237.length : Int))))), (22, .one (.t none (.sc (.int .i64 w250))))], [(1, .vr [.sl a0.sets.length (a0.sets.map fun x0 => .sc (.int .i64 x0)), .sl a0.class_.length (a0.class_.map fun x0 => .sc (.int .i64 x0)), .sl a0.height.length (a0.height.map fun x0 => .sc (.int .i64 x0)), .sl a0.tiles.length (a0.tiles.map fun x0 => .sl x0.length (x0.map fun x1 => .sc (.int .i64 x1))), .sl a0.words.length (a0.words.map fun x0 => .sc (.string x0)), .sl a0.back.length (a0.back.map fun x0 => .sc (.string x0))]), (3, .os 1 w237.length (w237.map fun x0 => .sc (.int .i64 x0))), (4, .os 1 w238.length (w238.map fun x0 => .sc (.int .i64 x0)))]⟩
def z2c (w324 : Int) : Int × List Int × List Int → Option ((Int × List Int × List Int) ⊕ ((Int × List Int × List Int) ⊕ List Int))
  | (w418, w419, w420) =>
  if 0 < w418 then
    (atI w420 w418).bind fun v443 =>
    (atI w420 (IntKind.i64.wrap (w418 - 1))).bind fun v444 =>
    if v444 < v443 then
      (atI w419 (IntKind.i64.wrap (w418 - 1))).bind fun v445 =>
      (atI w419 w418).bind fun v446 =>
      (atI (w419.set w418.toNat v445) (IntKind.i64.wrap (w418 - 1))).bind fun v450 =>
      (atI (w420.set w418.toNat v444) (IntKind.i64.wrap (w418 - 1))).bind fun v452 =>
      z0q (IntKind.i64.wrap (w418 - 1), ((w419.set w418.toNat v445).set (IntKind.i64.wrap (w418 - 1)).toNat v446), ((w420.set w418.toNat v444).set (IntKind.i64.wrap (w418 - 1)).toNat v443))
    else
      if v443 = v444 then
        (atI w419 w418).bind fun v455 =>
        (atI w419 (IntKind.i64.wrap (w418 - 1))).bind fun v456 =>
        if v455 < v456 then
          (atI (w419.set w418.toNat v456) (IntKind.i64.wrap (w418 - 1))).bind fun v462 =>
          (atI (w420.set w418.toNat v444) (IntKind.i64.wrap (w418 - 1))).bind fun v464 =>
          z0q (IntKind.i64.wrap (w418 - 1), ((w419.set w418.toNat v456).set (IntKind.i64.wrap (w418 - 1)).toNat v455), ((w420.set w418.toNat v444).set (IntKind.i64.wrap (w418 - 1)).toNat v443))
        else
          z0v <|
          z0q (IntKind.i64.wrap (w324 + 1), w419, w420)
      else
        z0v <|
        z0q (IntKind.i64.wrap (w324 + 1), w419, w420)
  else
    z0v <|
    z0q (IntKind.i64.wrap (w324 + 1), w419, w420)
def z2b (w237 : List Int) (w324 : Int) : Int × List Int × List Int → Fr
  | (w418, w419, w420) => ⟨136, [(3, .one (.h 3 [])), (4, .one (.h 4 [])), (11, .one (.t none (.sc (.int .i64 w418)))), (57, .one (.t none (.sc (.int .i64 (w237.length : Int))))), (58, .one (.t none (.sc (.int .i64 w324))))], [(3, .os 1 w419.length (w419.map fun x0 => .sc (.int .i64 x0))), (4, .os 1 w420.length (w420.map fun x0 => .sc (.int .i64 x0)))]⟩
def z2d (w237 : List Int) : Int × List Int × List Int → Option ((Int × List Int × List Int) ⊕ List Int)
  | (w324, w325, w326) =>
  if w324 < (w237.length : Int) then
    z0y (z2c w324) LFm (w324, w325, w326)
  else
    z0v <|
    some w325
def z1G (w237 : List Int) : Int × List Int × List Int → Fr
  | (w324, w325, w326) => ⟨136, [(3, .one (.h 3 [])), (4, .one (.h 4 [])), (57, .one (.t none (.sc (.int .i64 (w237.length : Int))))), (58, .one (.t none (.sc (.int .i64 w324))))], [(3, .os 1 w325.length (w325.map fun x0 => .sc (.int .i64 x0))), (4, .os 1 w326.length (w326.map fun x0 => .sc (.int .i64 x0)))]⟩
def z3i (a0 : Imgs) : Int × List Int × List Int → Option ((Int × List Int × List Int) ⊕ List Int)
  | (w236, w237, w238) =>
  if w236 < (a0.class_.length : Int) then
    (atI a0.class_ w236).bind fun v247 =>
    z0y (z3h a0 w236 w237 w238 v247) LFm (false, 0)
  else
    z0v <|
    z0y (z2d w237) LFm (0, w237, w238)
def z1O (a0 : Imgs) : Int × List Int × List Int → Fr
  | (w236, w237, w238) => ⟨136, [(1, .one (.a 1 [] (0))), (3, .one (.h 3 [])), (4, .one (.h 4 [])), (13, .one (.t none (.sl a0.class_.length (a0.class_.map fun x0 => .sc (.int .i64 x0))))), (14, .one (.t none (.sc (.int .i64 (a0.class_.length : Int))))), (15, .one (.t none (.sc (.int .i64 w236))))], [(1, .vr [.sl a0.sets.length (a0.sets.map fun x0 => .sc (.int .i64 x0)), .sl a0.class_.length (a0.class_.map fun x0 => .sc (.int .i64 x0)), .sl a0.height.length (a0.height.map fun x0 => .sc (.int .i64 x0)), .sl a0.tiles.length (a0.tiles.map fun x0 => .sl x0.length (x0.map fun x1 => .sc (.int .i64 x1))), .sl a0.words.length (a0.words.map fun x0 => .sc (.string x0)), .sl a0.back.length (a0.back.map fun x0 => .sc (.string x0))]), (3, .os 1 w237.length (w237.map fun x0 => .sc (.int .i64 x0))), (4, .os 1 w238.length (w238.map fun x0 => .sc (.int .i64 x0)))]⟩
def z3y (a0 : Imgs) : Option (List Int) :=
  z0y (z3i a0) LFm (0, [], [])
instance ref25_Classes_ok {a0 : Imgs} : Ok (z3y a0) (fun r => L 28 [.agg [.sl a0.sets.length (a0.sets.map fun x0 => .sc (.int .i64 x0)), .sl a0.class_.length (a0.class_.map fun x0 => .sc (.int .i64 x0)), .sl a0.height.length (a0.height.map fun x0 => .sc (.int .i64 x0)), .sl a0.tiles.length (a0.tiles.map fun x0 => .sl x0.length (x0.map fun x1 => .sc (.int .i64 x1))), .sl a0.words.length (a0.words.map fun x0 => .sc (.string x0)), .sl a0.back.length (a0.back.map fun x0 => .sc (.string x0))]] = some (.os 1 r.length (r.map fun x0 => .sc (.int .i64 x0)), [.dead])) := ⟨fun r h0 => by
  simp only [z3y] at h0
  refine zlC zB4 zBu (zcC zBG ⟨of_decide_eq_true rfl, of_decide_eq_true rfl⟩ ?_)
  simp only [z4L, z3M, z3F, z5T, z4P]
  refine zq rfl (zr rfl rfl rfl (by simp; rfl) ?_)
  refine z0a (zq rfl (zr rfl rfl rfl (by simp; rfl) ?_))
  refine z0a (zq rfl (zq rfl (zr rfl rfl rfl (by simp; rfl) ?_)))
  refine z0a (zb rfl (z0R h0 (z1O a0) rfl rfl (by simp [z1O]) fun s o1 h1 hr1 => ?_))
  obtain ⟨w236, w237, w238⟩ := s
  simp only [z3i] at h1
  simp only [z1O]
  refine zq rfl (zr rfl rfl rfl (by simp; rfl) ?_)
  refine z0a (zq rfl ?_)
  by_cases c189 : w236 < (a0.class_.length : Int)
  ·rw [if_pos c189] at h1
   refine z1c rfl (by simp [c189]) (z0G rfl (z0a (zq rfl (zb rfl (zq rfl ?_)))))
   obtain ⟨v247, f190, h2⟩ := z0U h1
   refine zr rfl rfl rfl (by simp [f190]; rfl) ?_
   refine z0a (zq rfl (zr rfl rfl rfl (by simp; rfl) ?_))
   refine z0a (zq rfl (zq rfl (zr rfl rfl rfl (by simp; rfl) ?_)))
   refine z0a (zb rfl (z0R h2 (z2m a0 w236 w237 w238 v247) rfl rfl (by simp [z2m]) fun s o2 h3 hr2 => ?_))
   obtain ⟨w249, w250⟩ := s
   simp only [z3h] at h3
   simp only [z2m]
   refine zq rfl (zr rfl rfl rfl (by simp; rfl) ?_)
   refine z0a (zq rfl ?_)
   by_cases c196 : w250 < (w237.length : Int)
   ·rw [if_pos c196] at h3
    refine z1c rfl (by simp [c196]) (z0G rfl (z0a (zq rfl (zb rfl (zq rfl ?_)))))
    obtain ⟨v252, f197, h4⟩ := z0U h3
    refine zr rfl rfl rfl (by simp [f197]; rfl) ?_
    refine z0a ?_
    by_cases c198 : w249 = true
    ·rw [if_pos c198] at h4
     refine zr rfl rfl rfl (by simp [c198]; rfl) ?_
     refine z0m (z0a (zr rfl rfl rfl (by simp; rfl) ?_))
     have ho := z0h h4
     refine z0n ho ?_
     simp [z2m, c198]
    ·rw [if_neg c198] at h4
     refine zr rfl rfl rfl (by simp [c198]; rfl) ?_
     refine z0m (z0a (zr rfl rfl rfl (by simp; rfl) ?_))
     have ho := z0h h4
     refine z0n ho ?_
     simp [z2m, c198]
   ·rw [if_neg c196] at h3
    refine z0V rfl (by simp [c196]) (z0Z rfl (z0H ?_))
    obtain ⟨rr2, h4, ho2⟩ := z0w h3
    have hs2 := hr2 _ ho2
    subst hs2
    refine z0C ho2 (z0l rfl (z0a (zq rfl ?_)))
    by_cases c199 : w249 = true
    ·rw [if_pos c199] at h4
     refine zr rfl rfl rfl (by simp [c199]; rfl) ?_
     refine z0a (z0V rfl (by simp) (z0G rfl (z0m (z0a (zr rfl rfl rfl (by simp; rfl) ?_)))))
     have ho := z0h h4
     refine z0n ho ?_
     simp [z1O, c199]
    ·rw [if_neg c199] at h4
     obtain ⟨v253, f200, h5⟩ := z0U h4
     refine zr rfl rfl rfl (by simp [c199, f200]; rfl) ?_
     refine z0a ?_
     by_cases c201 : 0 < v253
     ·rw [if_pos c201] at h5
      refine z1c rfl (by simp [c201]) ?_
      obtain ⟨f202, h6⟩ := z7m h5
      obtain ⟨f203, h7⟩ := z7m h6
      refine zaC rfl rfl rfl rfl ?_
      refine z0E rfl rfl (by simp [z0b, z0c, f202, f200, f203]; rfl) ?_
      refine z0E rfl rfl (by simp [z0b, z0c, f202, f200, f203]; rfl) ?_
      refine z0E rfl rfl (by simp [z0b, z0c, f202, f200, f203]; rfl) ?_
      refine z0E rfl rfl (by simp [z0b, z0c, f202, f200, f203]; rfl) ?_
      refine z0E rfl rfl (by simp [z0b, z0c, f202, f200, f203]; rfl) ?_
      refine z5k ?_
      refine z0E rfl rfl (by simp [z0b, z0c, f202, f200, f203]; rfl) ?_
      refine z5k ?_
      refine z0E rfl rfl (by simp [z0b, z0c, f202, f200, f203]; rfl) ?_
      refine z0E rfl rfl (by simp [z0b, z0c, f202, f200, f203]; rfl) ?_
      refine z0E rfl rfl (by simp [z0b, z0c, f202, f200, f203]; rfl) ?_
      refine z0E rfl rfl (by simp [z0b, z0c, f202, f200, f203]; rfl) ?_
      refine z0E rfl rfl (by simp [z0b, z0c, f202, f200, f203]; rfl) ?_
      refine z0E rfl rfl (by simp [z0b, z0c, f202, f200, f203]; rfl) ?_
      refine z0E rfl rfl (by simp [z0b, z0c, f202, f200, f203]; rfl) ?_
      refine z0E rfl rfl (by simp [z0b, z0c, f202, f200, f203]; rfl) ?_
      refine z6p ?_
      refine ⟨?_, ?_⟩
      ·refine z0E rfl rfl (by simp [z0b, z0c, f202, f200, f203]; rfl) ?_
       refine z0E rfl rfl (by simp [z0b, z0c, f202, f200, f203]; rfl) ?_
       refine z0E rfl rfl (by simp [z0b, z0c, f202, f200, f203]; rfl) ?_
       refine z5k ?_
       refine z0E rfl rfl (by simp [z0b, z0c, f202, f200, f203]; rfl) ?_
       refine z0E rfl rfl (by simp [z0b, z0c, f202, f200, f203]; rfl) ?_
       refine z0E rfl rfl (by simp [z0b, z0c, f202, f200, f203]; rfl) ?_
       refine z0E rfl rfl (by simp [z0b, z0c, f202, f200, f203]; rfl) ?_
       refine z0E rfl rfl (by simp [z0b, z0c, f202, f200, f203]; rfl) ?_
       refine z6p ?_
       refine ⟨?_, ?_⟩
       ·refine z0E rfl rfl (by simp [z0b, z0c, f202, f200, f203]; rfl) ?_
        refine z0E rfl rfl (by simp [z0b, z0c, f202, f200, f203]; rfl) ?_
        refine z0E rfl rfl (by simp [z0b, z0c, f202, f200, f203]; rfl) ?_
        refine z0E rfl rfl (by simp [z0b, z0c, f202, f200, f203]; rfl) ?_
        refine z0E rfl rfl (by simp [z0b, z0c, f202, f200, f203]; rfl) ?_
        refine z6p ?_
        simp [z5r, f202, f200, f203]
       simp [z5r, f202, f200, f203]
      refine ⟨?_, ?_⟩
      ·refine z0E rfl rfl (by simp [z0b, z0c, f202, f200, f203]; rfl) ?_
       refine z0E rfl rfl (by simp [z0b, z0c, f202, f200, f203]; rfl) ?_
       refine z0E rfl rfl (by simp [z0b, z0c, f202, f200, f203]; rfl) ?_
       refine z5k ?_
       refine z0E rfl rfl (by simp [z0b, z0c, f202, f200, f203]; rfl) ?_
       refine z5k ?_
       refine z0E rfl rfl (by simp [z0b, z0c, f202, f200, f203]; rfl) ?_
       refine z0E rfl rfl (by simp [z0b, z0c, f202, f200, f203]; rfl) ?_
       refine z0E rfl rfl (by simp [z0b, z0c, f202, f200, f203]; rfl) ?_
       refine z0E rfl rfl (by simp [z0b, z0c, f202, f200, f203]; rfl) ?_
       refine z0E rfl rfl (by simp [z0b, z0c, f202, f200, f203]; rfl) ?_
       refine z6p ?_
       refine ⟨?_, ?_⟩
       ·refine z0E rfl rfl (by simp [z0b, z0c, f202, f200, f203]; rfl) ?_
        refine z0E rfl rfl (by simp [z0b, z0c, f202, f200, f203]; rfl) ?_
        refine z0E rfl rfl (by simp [z0b, z0c, f202, f200, f203]; rfl) ?_
        refine z0E rfl rfl (by simp [z0b, z0c, f202, f200, f203]; rfl) ?_
        refine z0E rfl rfl (by simp [z0b, z0c, f202, f200, f203]; rfl) ?_
        refine z6p ?_
        simp [z5r, f202, f200, f203]
       refine ⟨?_, ?_⟩
       ·refine z0E rfl rfl (by simp [z0b, z0c, f202, f200, f203]; rfl) ?_
        refine z0E rfl rfl (by simp [z0b, z0c, f202, f200, f203]; rfl) ?_
        refine z0E rfl rfl (by simp [z0b, z0c, f202, f200, f203]; rfl) ?_
        refine z0E rfl rfl (by simp [z0b, z0c, f202, f200, f203]; rfl) ?_
        refine z0E rfl rfl (by simp [z0b, z0c, f202, f200, f203]; rfl) ?_
        refine z0E rfl rfl (by simp [z0b, z0c, f202, f200, f203]; rfl) ?_
        refine z6p ?_
        simp [z5r, f202, f200, f203]
       simp [z5r, f202, f200, f203]
      refine zas rfl (by simp [f202, f200, f203]; rfl) ?_
      refine z0m (z0a (zr rfl rfl rfl (by simp; rfl) ?_))
      have ho := z0h h7
      refine z0n ho ?_
      simp [z1O, c199]
     ·rw [if_neg c201] at h5
      refine z0V rfl (by simp [c201]) (z0G rfl (z0m (z0a (zr rfl rfl rfl (by simp; rfl) ?_))))
      have ho := z0h h5
      refine z0n ho ?_
      simp [z1O, c199]
  ·rw [if_neg c189] at h1
   refine z0V rfl (by simp [c189]) (z0Z rfl (z0H ?_))
   obtain ⟨rr1, h2, ho1⟩ := z0w h1
   have hs1 := hr1 _ ho1
   subst hs1
   refine z0C ho1 (z0l rfl (z0a (zq rfl (zq rfl (zr rfl rfl rfl (by simp; rfl) ?_)))))
   refine z0a (zb rfl (z0R h2 (z1G w237) rfl rfl (by simp [z1G]) fun s o3 h3 hr3 => ?_))
   obtain ⟨w324, w325, w326⟩ := s
   simp only [z2d] at h3
   simp only [z1G]
   refine zq rfl (zr rfl rfl rfl (by simp; rfl) ?_)
   refine z0a (zq rfl ?_)
   by_cases c290 : w324 < (w237.length : Int)
   ·rw [if_pos c290] at h3
    refine z1c rfl (by simp [c290]) (z0G rfl (z0a (zq rfl (zb rfl (zq rfl (zr rfl rfl rfl (by simp; rfl) ?_))))))
    refine z0a (zq rfl (zr rfl rfl rfl (by simp; rfl) ?_))
    refine z0a (zb rfl (z0R h3 (z2b w237 w324) rfl rfl (by simp [z2b]) fun s o4 h4 hr4 => ?_))
    obtain ⟨w418, w419, w420⟩ := s
    simp only [z2c] at h4
    simp only [z2b]
    refine zq rfl (zq rfl ?_)
    by_cases c319 : 0 < w418
    ·rw [if_pos c319] at h4
     obtain ⟨v443, f320, h5⟩ := z0U h4
     obtain ⟨v444, f321, h6⟩ := z0U h5
     by_cases c322 : v444 < v443
     ·rw [if_pos c322] at h6
      refine z0I rfl rfl rfl rfl ?_; repeat' (first | (refine z0r rfl rfl fun Q' hQ => ?_; simp [c319, f320, f321, c322]; refine hQ.out _ ?_; clear hQ; clear Q') | (refine z0u rfl rfl fun Q1 Q2 h1 h2 => ?_; simp [c319, f320, f321, c322, z0J]; (first | refine h1.out ?_ | refine h2.out ?_); clear h1 h2; clear Q1 Q2; intro Q' hQ; simp [c319, f320, f321, c322]; refine hQ.out _ ?_; clear hQ; clear Q') | (refine z0k rfl fun Q' hQ => ?_; simp [c319, f320, f321, c322]; refine hQ.out _ ?_; clear hQ; clear Q'))
      refine z0a (z1c rfl (by simp) (z0G rfl (z0a (zq rfl (zb rfl ?_)))))
      obtain ⟨v445, f323, h7⟩ := z0U h6
      obtain ⟨v446, f324, h8⟩ := z0U h7
      obtain ⟨v450, f325, h9⟩ := z0i h8
      obtain ⟨f325a, f325b, f325c, f325d, f325e⟩ := z3H f325
      try simp only [List.length_set] at f325b f325c
      have f325s : ∀ hh, ((w419.set w418.toNat v445).map (fun x0 : Int => (.sc (.int .i64 x0) : T)))[(IntKind.i64.wrap (w418 - 1)).toNat]'hh = (fun x0 : Int => (.sc (.int .i64 x0) : T)) v450 := fun hh => by rw [List.getElem_map]; exact congrArg (fun x0 : Int => (.sc (.int .i64 x0) : T)) (f325e _)
      try simp only [List.map_set] at f325s
      obtain ⟨v452, f326, h10⟩ := z0i h9
      obtain ⟨f326a, f326b, f326c, f326d, f326e⟩ := z3H f326
      try simp only [List.length_set] at f326b f326c
      have f326s : ∀ hh, ((w420.set w418.toNat v444).map (fun x0 : Int => (.sc (.int .i64 x0) : T)))[(IntKind.i64.wrap (w418 - 1)).toNat]'hh = (fun x0 : Int => (.sc (.int .i64 x0) : T)) v452 := fun hh => by rw [List.getElem_map]; exact congrArg (fun x0 : Int => (.sc (.int .i64 x0) : T)) (f326e _)
      try simp only [List.map_set] at f326s
      refine z0I rfl rfl rfl rfl ?_; repeat' ((first | refine z0r rfl rfl fun Q' hQ => ?_ | refine z0k rfl fun Q' hQ => ?_); simp [f323, f324, f321, f320, f325a, f325b, f325c, f325d, f325e, f325s, f326a, f326b, f326c, f326d, f326e, f326s]; refine hQ.out _ ?_; clear hQ; clear Q')
      refine z0m (z0a (zr rfl rfl rfl (by simp; rfl) ?_))
      have ho := z0h h10
      refine z0n ho ?_
      simp [z2b]
     ·rw [if_neg c322] at h6
      by_cases c327 : v443 = v444
      ·rw [if_pos c327] at h6
       have c327e := eq_true c327
       obtain ⟨v455, f328, h7⟩ := z0U h6
       obtain ⟨v456, f329, h8⟩ := z0U h7
       refine z0I rfl rfl rfl rfl ?_; repeat' (first | (refine z0r rfl rfl fun Q' hQ => ?_; simp [c319, f320, f321, c322, c327e, f328, f329]; refine hQ.out _ ?_; clear hQ; clear Q') | (refine z0u rfl rfl fun Q1 Q2 h1 h2 => ?_; simp [c319, f320, f321, c322, c327e, f328, f329, z0J]; (first | refine h1.out ?_ | refine h2.out ?_); clear h1 h2; clear Q1 Q2; intro Q' hQ; simp [c319, f320, f321, c322, c327e, f328, f329]; refine hQ.out _ ?_; clear hQ; clear Q') | (refine z0k rfl fun Q' hQ => ?_; simp [c319, f320, f321, c322, c327e, f328, f329]; refine hQ.out _ ?_; clear hQ; clear Q'))
       refine z0a ?_
       by_cases c330 : v455 < v456
       ·rw [if_pos c330] at h8
        refine z1c rfl (by simp [c330]) (z0G rfl (z0a (zq rfl (zb rfl ?_))))
        obtain ⟨v462, f331, h9⟩ := z0i h8
        obtain ⟨f331a, f331b, f331c, f331d, f331e⟩ := z3H f331
        try simp only [List.length_set] at f331b f331c
        have f331s : ∀ hh, ((w419.set w418.toNat v456).map (fun x0 : Int => (.sc (.int .i64 x0) : T)))[(IntKind.i64.wrap (w418 - 1)).toNat]'hh = (fun x0 : Int => (.sc (.int .i64 x0) : T)) v462 := fun hh => by rw [List.getElem_map]; exact congrArg (fun x0 : Int => (.sc (.int .i64 x0) : T)) (f331e _)
        try simp only [List.map_set] at f331s
        obtain ⟨v464, f332, h10⟩ := z0i h9
        obtain ⟨f332a, f332b, f332c, f332d, f332e⟩ := z3H f332
        try simp only [List.length_set] at f332b f332c
        have f332s : ∀ hh, ((w420.set w418.toNat v444).map (fun x0 : Int => (.sc (.int .i64 x0) : T)))[(IntKind.i64.wrap (w418 - 1)).toNat]'hh = (fun x0 : Int => (.sc (.int .i64 x0) : T)) v464 := fun hh => by rw [List.getElem_map]; exact congrArg (fun x0 : Int => (.sc (.int .i64 x0) : T)) (f332e _)
        try simp only [List.map_set] at f332s
        refine z0I rfl rfl rfl rfl ?_; repeat' ((first | refine z0r rfl rfl fun Q' hQ => ?_ | refine z0k rfl fun Q' hQ => ?_); simp [f329, f328, f321, f320, f331a, f331b, f331c, f331d, f331e, f331s, f332a, f332b, f332c, f332d, f332e, f332s]; refine hQ.out _ ?_; clear hQ; clear Q')
        refine z0m (z0a (zr rfl rfl rfl (by simp; rfl) ?_))
        have ho := z0h h10
        refine z0n ho ?_
        simp [z2b]
       ·rw [if_neg c330] at h8
        refine z0V rfl (by simp [c330]) (z0Z rfl (z0H ?_))
        obtain ⟨rr4, h9, ho4⟩ := z0w h8
        have hs4 := hr4 _ ho4
        subst hs4
        refine z0C ho4 (z0l rfl (z0m (z0a (zr rfl rfl rfl (by simp; rfl) ?_))))
        have ho := z0h h9
        refine z0n ho ?_
        simp [z1G]
      ·rw [if_neg c327] at h6
       have c327e := eq_false c327
       refine z0I rfl rfl rfl rfl ?_; repeat' (first | (refine z0r rfl rfl fun Q' hQ => ?_; simp [c319, f320, f321, c322, c327e]; refine hQ.out _ ?_; clear hQ; clear Q') | (refine z0u rfl rfl fun Q1 Q2 h1 h2 => ?_; simp [c319, f320, f321, c322, c327e, z0J]; (first | refine h1.out ?_ | refine h2.out ?_); clear h1 h2; clear Q1 Q2; intro Q' hQ; simp [c319, f320, f321, c322, c327e]; refine hQ.out _ ?_; clear hQ; clear Q') | (refine z0k rfl fun Q' hQ => ?_; simp [c319, f320, f321, c322, c327e]; refine hQ.out _ ?_; clear hQ; clear Q'))
       refine z0a (z0V rfl (by simp) (z0Z rfl (z0H ?_)))
       obtain ⟨rr4, h7, ho4⟩ := z0w h6
       have hs4 := hr4 _ ho4
       subst hs4
       refine z0C ho4 (z0l rfl (z0m (z0a (zr rfl rfl rfl (by simp; rfl) ?_))))
       have ho := z0h h7
       refine z0n ho ?_
       simp [z1G]
    ·rw [if_neg c319] at h4
     refine z0I rfl rfl rfl rfl ?_; repeat' (first | (refine z0r rfl rfl fun Q' hQ => ?_; simp [c319]; refine hQ.out _ ?_; clear hQ; clear Q') | (refine z0u rfl rfl fun Q1 Q2 h1 h2 => ?_; simp [c319, z0J]; (first | refine h1.out ?_ | refine h2.out ?_); clear h1 h2; clear Q1 Q2; intro Q' hQ; simp [c319]; refine hQ.out _ ?_; clear hQ; clear Q') | (refine z0k rfl fun Q' hQ => ?_; simp [c319]; refine hQ.out _ ?_; clear hQ; clear Q'))
     refine z0a (z0V rfl (by simp) (z0Z rfl (z0H ?_)))
     obtain ⟨rr4, h5, ho4⟩ := z0w h4
     have hs4 := hr4 _ ho4
     subst hs4
     refine z0C ho4 (z0l rfl (z0m (z0a (zr rfl rfl rfl (by simp; rfl) ?_))))
     have ho := z0h h5
     refine z0n ho ?_
     simp [z1G]
   ·rw [if_neg c290] at h3
    refine z0V rfl (by simp [c290]) (z0Z rfl (z0H ?_))
    obtain ⟨rr3, h4, ho3⟩ := z0w h3
    have hs3 := hr3 _ ho3
    subst hs3
    refine z0C ho3 (z0l rfl (z0a (zq rfl (zr rfl rfl rfl (by simp; rfl) ?_))))
    refine z0a (z3m rfl ?_)
    cases h4
    simp⟩
abbrev z4f (a0 : Imgs) (a1 : Int) : Int → Option (Int ⊕ Int)
  | w6 =>
  (atI a0.class_ w6).bind fun v8 =>
  if v8 = a1 then
    z0v <|
    some w6
  else
    z0q (IntKind.i64.wrap (w6 + 1))
instance {a0 : Imgs} {a1 : Int} : Hd (z4f a0 a1) := ⟨fun w6 => ([(5, xI w6)], [])⟩
def z5o (a0 : Imgs) (a1 : Int) : Option (Int) :=
  z0y (z4f a0 a1) LFm 0
instance ref25_First_ok {a0 : Imgs} {a1 : Int} : Ok (z5o a0 a1) (fun r => L 29 [.agg [.sl a0.sets.length (a0.sets.map fun x0 => .sc (.int .i64 x0)), .sl a0.class_.length (a0.class_.map fun x0 => .sc (.int .i64 x0)), .sl a0.height.length (a0.height.map fun x0 => .sc (.int .i64 x0)), .sl a0.tiles.length (a0.tiles.map fun x0 => .sl x0.length (x0.map fun x1 => .sc (.int .i64 x1))), .sl a0.words.length (a0.words.map fun x0 => .sc (.string x0)), .sl a0.back.length (a0.back.map fun x0 => .sc (.string x0))], .sc (.int .i64 a1)] = some (.sc (.int .i64 r), [.dead, .dead])) := ⟨fun r h => by have h := z6H h; unfold z5o at h; exact z7i zB3 zCE zE3⟩
abbrev z4d (a1 : List Int) (w31 : Int) (w32 : List Int) (v41 : Int) : Int × Int → Option ((Int × Int) ⊕ ((Int × List Int) ⊕ (List Int × Bool)))
  | (w43, w44) =>
  if w44 < (a1.length : Int) then
    (atI a1 w44).bind fun v46 =>
    if v46 = v41 then
      z0q (w44, IntKind.i64.wrap (w44 + 1))
    else
      z0q (w43, IntKind.i64.wrap (w44 + 1))
  else
    z0v <|
    if w43 = (-1) then
      z0v <|
      some ([], false)
    else
      chk (z0T 8 (w32.length + 1)) <|
      z0q (IntKind.i64.wrap (w31 + 1), w32 ++ [w43])
instance {a1 : List Int} {w31 : Int} {w32 : List Int} {v41 : Int} : Hd (z4d a1 w31 w32 v41) := ⟨fun (w43, w44) => ([(12, xI w43), (27, xI w44)], [])⟩
abbrev z4e (a0 : DFA) (a1 : List Int) (a2 : ByteArray) : Int × List Int → Option ((Int × List Int) ⊕ (List Int × Bool))
  | (w31, w32) =>
  if w31 < (a1.length : Int) then
    (atI a1 w31).bind fun v40 =>
    (z3q a0 v40 a2).bind fun v41 =>
    z0y (z4d a1 w31 w32 v41) LFm ((-1), 0)
  else
    z0v <|
    some (w32, true)
instance {a0 : DFA} {a1 : List Int} {a2 : ByteArray} : Hd (z4e a0 a1 a2) := ⟨fun (w31, w32) => ([(17, xI w31)], [(8, .os 1 w32.length (w32.map fun x0 => .sc (.int .i64 x0)))])⟩
def z5n (a0 : DFA) (a1 : List Int) (a2 : ByteArray) : Option (List Int × Bool) :=
  z0y (z4e a0 a1 a2) LFm (0, [])
instance ref25_Moved_ok {a0 : DFA} {a1 : List Int} {a2 : ByteArray} : Ok (z5n a0 a1 a2) (fun r => L 31 [.agg [.sc (.int .i64 a0.letters), .sc (.int .i64 a0.start), .sl a0.final.length (a0.final.map fun x0 => .sc (.bool x0)), .sl a0.next.length (a0.next.map fun x0 => .sl x0.length (x0.map fun x1 => .sc (.int .i64 x1)))], .sl a1.length (a1.map fun x0 => .sc (.int .i64 x0)), .sc (.string a2)] = some (.tup [.os 1 r.1.length (r.1.map fun x0 => .sc (.int .i64 x0)), .sc (.bool r.2)], [.dead, .dead, .dead])) := ⟨fun r h => by have h := z6H h; unfold z5n at h; exact z7i zB1 zCC zE1⟩
end
end Go.Proofs.Ytodliknibbafeaa
end
section
namespace Go.Proofs.Ytodliknibbafeaa
open Go
set_option maxRecDepth 100000
theorem zli {κ ν : Type} [DecidableEq κ] (k q : κ) (v : ν) : ∀ m : List (κ × ν), zaS q (zf2 k v m) = if k = q then some v else zaS q m
  | [] => rfl
  | (a, u) :: r => by
    simp only [zf2]
    by_cases h : a = k
    · subst h
      rw [if_pos rfl]
      simp only [zaS]
      by_cases h2 : a = q
      · rw [if_pos h2, if_pos h2]
      · rw [if_neg h2, if_neg h2, if_neg h2]
    · rw [if_neg h]
      simp only [zaS, zli k q v r]
      by_cases h2 : a = q
      · rw [if_pos h2, if_pos h2, if_neg (fun e => h (h2.trans e.symm))]
      · rw [if_neg h2, if_neg h2]
def zld (S : List Nat) : Nat → List (Int × Int)
  | 0 => []
  | k + 1 => zf2 ((S.getD k 0 : Nat) : Int) (k : Int) (zld S k)
theorem zop {S : List Nat} (hS : S.Nodup) {j : Nat} : ∀ k, k ≤ S.length → j < k → zaS ((S.getD j 0 : Nat) : Int) (zld S k) = some (j : Int)
  | k + 1, hk, hj => by
    simp only [zld]
    rw [zli]
    by_cases e : j = k
    · subst e; rw [if_pos rfl]
    · rw [if_neg (fun h => e (z9D hS (by omega) (by omega) (by omega))), zop hS k (by omega) (by omega)]
theorem zt4 {d : DFA} {w : List UInt8} {T : List Nat} {k : Nat} (h : k < T.length) : (z5s d w T).getD k 0 = T.idxOf (z2T d (T.getD k 0) w) := by
  simp [z5s, List.getD, h]
theorem z6q {l : List Nat} {k : Nat} (h : k < l.length) : l.take (k + 1) = l.take k ++ [l.getD k 0] := by
  rw [List.take_succ_eq_append_getElem h, List.getD, List.getElem?_eq_getElem h, Option.getD_some]
theorem zuZ {d : DFA} {m n : Nat} (hd : DfaOk d m n) (hn : n ≤ 12) {T : List Nat} (hT : T.Nodup) (hl : T.length ≤ 1000) (hlt : ∀ t ∈ T, t < 2 ^ n) {w : ByteArray} (hw : z7j m w) (hr : ∀ t ∈ T, z2T d t w.data.toList ∈ T) : z5n d (toI T) w = some (toI (z5s d w.data.toList T), true) := by
  have hpl := zaH d w.data.toList T
  unfold z5n
  refine z0N (s := ((0 : Int), ([] : List Int))) T.length (fun k => ((k : Int), toI ((z5s d w.data.toList T).take k))) rfl (by simp only [LFm]; omega) (fun k hk => ?_) ?_
  · have hm := hr _ (z0x hk)
    have hi := zd0 hm
    have hg := z3W hm
    have hp := zt4 (d := d) (w := w.data.toList) hk
    simp only [z4e]
    rw [if_pos (by rw [z0s]; omega), z1H hk, Option.bind_some, znk hd hn (hlt _ (z0x hk)) hw, Option.bind_some]
    generalize z2T d (T.getD k 0) w.data.toList = s at *
    refine z0N (s := ((-1 : Int), (0 : Int))) T.length (fun q => ((if T.idxOf s < q then ((T.idxOf s : Nat) : Int) else -1), (q : Int))) rfl (by simp only [LFm]; omega) (fun q hq => ?_) ?_
    · simp only [z4d]
      rw [if_pos (by rw [z0s]; omega), z1H hq, Option.bind_some, z1b (by omega)]
      by_cases e : T.getD q 0 = s
      · have : T.idxOf s = q := z9D hT hi hq (by rw [hg, e])
        rw [if_pos (by omega), if_pos (by omega), this]
      · have : T.idxOf s ≠ q := fun h => e (by rw [← h, hg])
        rw [if_neg (by omega)]
        by_cases h3 : T.idxOf s < q
        · rw [if_pos h3, if_pos (by omega)]
        · rw [if_neg h3, if_neg (by omega)]
    · simp only [z4d]
      rw [if_neg (by rw [z0s]; omega), if_pos hi, if_neg (by omega), z0B _ (by unfold z0T; rw [z0s, List.length_take]; omega), z1b (by omega), z6q (by omega), z5t, hp]
  · simp only [z4e]
    rw [if_neg (by rw [z0s]; omega), ← hpl, List.take_length]
section
variable {d : DFA} {m n : Nat} {S : List Nat} (hd : DfaOk d m n) (hn : n ≤ 7) (hS : SetsP d m n S)
include hd hn hS
theorem z6D {c : Nat} (hc : c < (zrs d m n S).length) : clN d m n S (z2n d m n S c) = c ∧ z2n d m n S c < S.length := by
  have _u := hn
  have he := zaX hd hS
  have hk : z2n d m n S c < S.length := zwS hc
  obtain ⟨h1, h2⟩ := zfB he hk
  refine ⟨ztK he (zft he _ (Nat.le_refl _)) (fun f hf => zaV _ _ f hf) hk h1 hc h2 (he.refl _ hk), hk⟩
theorem zv9 {c : Nat} (hc : c < (zrs d m n S).length) (hSl : S.length < 100000) : z5o (z4Q d m n S) (c : Int) = some ((z2n d m n S c : Nat) : Int) := by
  obtain ⟨h1, h2⟩ := z6D hd hn hS hc
  have hat : ∀ i, i < S.length → atI (z4Q d m n S).class_ (i : Int) = some ((clN d m n S i : Nat) : Int) := fun i hi => z3e hi
  unfold z5o
  refine z0N (s := (0 : Int)) (z2n d m n S c) (fun k => (k : Int)) rfl (by simp only [LFm]; omega) (fun k hk => ?_) ?_
  · simp only [z4f]
    rw [hat k (by omega), Option.bind_some, if_neg (fun e => ?_), z1b (by omega)]
    have e' : clN d m n S k = c := by omega
    have := zfq hd hn hS (i := k) (by omega)
    have e3 : z2n d m n S c = z1W d m n S k := by unfold z2n; rw [← e']; rfl
    omega
  · simp only [z4f]
    rw [hat _ h2, Option.bind_some, if_pos (by rw [h1])]
end
end Go.Proofs.Ytodliknibbafeaa
end
section
namespace Go.Proofs.Ytodliknibbafeaa
open Go
set_option maxRecDepth 100000
def leH (H : Nat → Nat) (a b : Nat) : Prop := H b < H a ∨ (H a = H b ∧ a ≤ b)
abbrev zrL (H : Nat → Nat) (l : List Nat) : Prop := l.Pairwise (leH H)
theorem zx0 {H : Nat → Nat} {S R : List Nat} {x : Nat} (hs : zrL H S) (hl : S.length < 2 ^ 40) {w : Nat} (hw : w = S.length) :
    ∃ S', z0y (z2c (w : Int)) LFm ((w : Int), toI (S ++ x :: R), toI ((S ++ x :: R).map H)) = some (.inl (((w + 1 : Nat) : Int), toI (S' ++ R), toI ((S' ++ R).map H))) ∧ zrL H S' ∧ S'.Perm (S ++ [x]) := by
  refine Exists.elim (z1q (b := z2c (w : Int)) (fun z => ∃ S1 S2, S1 ++ S2 = S ∧ z = (((S1.length : Nat) : Int), toI (S1 ++ x :: (S2 ++ R)), toI ((S1 ++ x :: (S2 ++ R)).map H)) ∧ ∀ y ∈ S2, leH H x y) (fun z => z.1.toNat)
    (fun r => ∃ S', r = .inl (((w + 1 : Nat) : Int), toI (S' ++ R), toI ((S' ++ R).map H)) ∧ zrL H S' ∧ S'.Perm (S ++ [x])) ?_ LFm ((w : Int), toI (S ++ x :: R), toI ((S ++ x :: R).map H)) ⟨S, [], by simp, by rw [hw]; simp, by simp⟩ (by simp only [LFm]; omega)) fun r h => by
      obtain ⟨h1, S', rfl, h2, h3⟩ := h
      exact ⟨S', h1, h2, h3⟩
  rintro z ⟨S1, S2, rfl, rfl, h2⟩
  have hlen : S1.length + S2.length < 2 ^ 40 := by rw [List.length_append] at hl; omega
  have wS : IntKind.i64.wrap ((w : Int) + 1) = ((w + 1 : Nat) : Int) := by rw [List.length_append] at hw; rw [z2U (by omega) (by omega)]; omega
  have fin : (∀ y ∈ S1, leH H y x) → zrL H (S1 ++ x :: S2) ∧ (S1 ++ x :: S2).Perm (S1 ++ S2 ++ [x]) := fun hle => by
    refine ⟨?_, ?_⟩
    · rw [zrL, List.pairwise_append] at hs ⊢
      refine ⟨hs.1, List.pairwise_cons.2 ⟨fun y hy => h2 y hy, hs.2.1⟩, fun a ha b hb => ?_⟩
      rcases List.mem_cons.1 hb with rfl | hb
      · exact hle a ha
      · exact hs.2.2 a ha b hb
    · rw [List.append_assoc]
      exact List.Perm.append_left _ (List.perm_append_singleton x S2).symm
  simp only [z2c]
  rcases List.eq_nil_or_concat S1 with rfl | ⟨S0, y, rfl⟩
  · right
    rw [if_neg (by simp)]
    obtain ⟨f1, f2⟩ := fin (fun y hy => by simp at hy)
    refine ⟨_, rfl, x :: S2, ?_, by simpa using f1, by simpa using f2⟩
    rw [wS]; simp
  · simp only [List.concat_eq_append] at *
    have e1 : toI (S0 ++ [y] ++ x :: (S2 ++ R)) = toI S0 ++ (y : Int) :: (x : Int) :: toI (S2 ++ R) := by simp [toI]
    have e2 : toI ((S0 ++ [y] ++ x :: (S2 ++ R)).map H) = toI (S0.map H) ++ (H y : Int) :: (H x : Int) :: toI ((S2 ++ R).map H) := by simp [toI]
    have l1 : (toI S0).length = S0.length := z0s _
    have l2 : (toI (S0.map H)).length = S0.length := by simp [toI]
    have hn : (S0 ++ [y]).length = S0.length + 1 := by simp
    rw [hn] at hlen
    have hj : IntKind.i64.wrap (((S0.length + 1 : Nat) : Int) - 1) = ((S0.length : Nat) : Int) := by
      rw [z2U (by omega) (by omega)]; omega
    have stay : leH H y x → (∃ s', (z0v (z0q (IntKind.i64.wrap ((w : Int) + 1), toI S0 ++ (y : Int) :: (x : Int) :: toI (S2 ++ R), toI (S0.map H) ++ (H y : Int) :: (H x : Int) :: toI ((S2 ++ R).map H))) : Option ((Int × List Int × List Int) ⊕ ((Int × List Int × List Int) ⊕ List Int))) = some (.inr s') ∧ ∃ S', s' = .inl (((w + 1 : Nat) : Int), toI (S' ++ R), toI ((S' ++ R).map H)) ∧ zrL H S' ∧ S'.Perm (S0 ++ [y] ++ S2 ++ [x])) := fun hle => by
      obtain ⟨f1, f2⟩ := fin (fun z hz => by
        rcases List.mem_append.1 hz with hz | hz
        · rw [zrL, List.pairwise_append, List.pairwise_append] at hs
          have := hs.1.2.2 z hz y (by simp)
          unfold leH at *
          omega
        · obtain rfl := List.mem_singleton.1 hz; exact hle)
      refine ⟨_, rfl, S0 ++ [y] ++ x :: S2, ?_, f1, f2⟩
      rw [wS]; simp [toI]
    have swap : leH H x y → ∃ s', (z0q (IntKind.i64.wrap (((S0.length + 1 : Nat) : Int) - 1), (((toI S0 ++ (y : Int) :: (x : Int) :: toI (S2 ++ R)).set (((S0.length + 1 : Nat) : Int)).toNat (y : Int)).set (IntKind.i64.wrap (((S0.length + 1 : Nat) : Int) - 1)).toNat (x : Int)), (((toI (S0.map H) ++ (H y : Int) :: (H x : Int) :: toI ((S2 ++ R).map H)).set (((S0.length + 1 : Nat) : Int)).toNat (H y : Int)).set (IntKind.i64.wrap (((S0.length + 1 : Nat) : Int) - 1)).toNat (H x : Int))) : Option ((Int × List Int × List Int) ⊕ ((Int × List Int × List Int) ⊕ List Int))) = some (.inl s') ∧ (∃ S1 S2', S1 ++ S2' = S0 ++ [y] ++ S2 ∧ s' = (((S1.length : Nat) : Int), toI (S1 ++ x :: (S2' ++ R)), toI ((S1 ++ x :: (S2' ++ R)).map H)) ∧ ∀ y ∈ S2', leH H x y) ∧ s'.1.toNat < (((S0 ++ [y]).length : Nat) : Int).toNat := fun hle => by
      rw [hj, Int.toNat_natCast, Int.toNat_natCast, zxK (toI S0) (y : Int) (x : Int) (y : Int) (toI (S2 ++ R)) (by omega), zxK (toI (S0.map H)) (H y : Int) (H x : Int) (H y : Int) (toI ((S2 ++ R).map H)) (by omega), zyv (toI S0) (y : Int) (x : Int) ((y : Int) :: (toI (S2 ++ R))) (by omega), zyv (toI (S0.map H)) (H y : Int) (H x : Int) ((H y : Int) :: (toI ((S2 ++ R).map H))) (by omega)]
      refine ⟨_, rfl, ⟨S0, y :: S2, by simp, ?_, fun z hz => ?_⟩, by simp only [hn]; omega⟩
      · simp [toI]
      · rcases List.mem_cons.1 hz with rfl | hz
        · exact hle
        · exact h2 z hz
    rw [e1, e2, hn, if_pos (by omega), hj, at1 (toI (S0.map H)) (H y : Int) (H x : Int) (toI ((S2 ++ R).map H)) (by omega), Option.bind_some, at0 (toI (S0.map H)) (H y : Int) ((H x : Int) :: (toI ((S2 ++ R).map H))) (by omega), Option.bind_some]
    have g1 : atI ((toI S0 ++ (y : Int) :: (x : Int) :: toI (S2 ++ R)).set (((S0.length + 1 : Nat) : Int)).toNat (y : Int)) ((S0.length : Nat) : Int) = some (y : Int) := by
      rw [Int.toNat_natCast, zxK (toI S0) (y : Int) (x : Int) (y : Int) (toI (S2 ++ R)) (by omega), at0 (toI S0) (y : Int) ((y : Int) :: (toI (S2 ++ R))) (by omega)]
    have g2 : atI ((toI (S0.map H) ++ (H y : Int) :: (H x : Int) :: toI ((S2 ++ R).map H)).set (((S0.length + 1 : Nat) : Int)).toNat (H y : Int)) ((S0.length : Nat) : Int) = some (H y : Int) := by
      rw [Int.toNat_natCast, zxK (toI (S0.map H)) (H y : Int) (H x : Int) (H y : Int) (toI ((S2 ++ R).map H)) (by omega), at0 (toI (S0.map H)) (H y : Int) ((H y : Int) :: (toI ((S2 ++ R).map H))) (by omega)]
    rw [hj, hn] at swap
    by_cases c1 : (H y : Int) < (H x : Int)
    · left
      rw [if_pos c1, at0 (toI S0) (y : Int) ((x : Int) :: (toI (S2 ++ R))) (by omega), Option.bind_some, at1 (toI S0) (y : Int) (x : Int) (toI (S2 ++ R)) (by omega), Option.bind_some, g1, Option.bind_some, g2, Option.bind_some]
      exact swap (.inl (by omega))
    · rw [if_neg c1]
      by_cases c2 : (H x : Int) = (H y : Int)
      · rw [if_pos c2, at1 (toI S0) (y : Int) (x : Int) (toI (S2 ++ R)) (by omega), Option.bind_some, at0 (toI S0) (y : Int) ((x : Int) :: (toI (S2 ++ R))) (by omega), Option.bind_some]
        by_cases c3 : (x : Int) < (y : Int)
        · left
          rw [if_pos c3, g1, Option.bind_some, g2, Option.bind_some]
          exact swap (.inr ⟨by omega, by omega⟩)
        · right
          rw [if_neg c3]
          exact stay (.inr ⟨by omega, by omega⟩)
      · right
        rw [if_neg c2]
        exact stay (.inl (by omega))
theorem zvj {H : Nat → Nat} {X : List Nat} (hl : X.length < 2 ^ 40) (V : List Int) (hV : V.length = X.length) : ∃ O, z0y (z2d V) LFm (0, toI X, toI (X.map H)) = some (toI O) ∧ zrL H O ∧ O.Perm X := by
  refine Exists.elim (z1q (b := z2d V) (fun z => ∃ S U, z = (((S.length : Nat) : Int), toI (S ++ U), toI ((S ++ U).map H)) ∧ zrL H S ∧ (S ++ U).Perm X) (fun z => X.length - z.1.toNat)
    (fun r => ∃ S, r = toI S ∧ zrL H S ∧ S.Perm X) ?_ LFm (0, toI X, toI (X.map H)) ⟨[], X, by simp, by simp, .refl _⟩ (by simp only [LFm]; omega)) fun r h => by
      obtain ⟨h1, S, rfl, h2, h3⟩ := h
      exact ⟨S, h1, h2, h3⟩
  rintro z ⟨S, U, rfl, h1, h2⟩
  have hlen := h2.length_eq
  rw [List.length_append] at hlen
  simp only [z2d]
  cases U with
  | nil =>
    right
    rw [if_neg (by simp at hlen ⊢; omega)]
    exact ⟨_, rfl, S, by simp, h1, by simpa using h2⟩
  | cons u U =>
    left
    rw [if_pos (by simp at hlen ⊢; omega)]
    obtain ⟨S', e, s1, s2⟩ := zx0 (H := H) (S := S) (R := U) (x := u) h1 (by simp at hlen hl ⊢; omega) rfl
    rw [e]
    have hS' := s2.length_eq
    simp at hS'
    refine ⟨_, rfl, ⟨S', U, ?_, s1, ?_⟩, ?_⟩
    · simp only [hS']
    · refine List.Perm.trans ?_ h2
      have : S ++ u :: U = S ++ [u] ++ U := by simp
      rw [this]
      exact s2.append_right U
    · simp at hlen ⊢; omega
end Go.Proofs.Ytodliknibbafeaa
end
section
namespace Go.Proofs.Ytodliknibbafeaa
open Go
set_option maxRecDepth 100000
def z5l (f : Nat → Nat) : Nat → Nat
  | 0 => 0
  | k + 1 => z5l f k + f k
theorem zig {f g : Nat → Nat} : ∀ k, (∀ i, i < k → f i ≤ g i) → z5l f k ≤ z5l g k
  | 0, _ => Nat.le_refl _
  | k + 1, h => Nat.add_le_add (zig k fun i hi => h i (by omega)) (h k (by omega))
theorem zvz {f g : Nat → Nat} {p : Nat} : ∀ k, (∀ i, i < k → f i ≤ g i) → p < k → f p < g p → z5l f k < z5l g k
  | 0, _, hp, _ => by omega
  | k + 1, h, hp, hl => by
    simp only [z5l]
    have h1 := h k (by omega)
    by_cases e : p = k
    · subst e
      have := zig p fun i hi => h i (by omega)
      omega
    · have := zvz k (fun i hi => h i (by omega)) (by omega) hl
      omega
theorem zkD {f : Nat → Nat} {B : Nat} : ∀ k, (∀ i, i < k → f i ≤ B) → z5l f k ≤ k * B
  | 0, _ => by simp [z5l]
  | k + 1, h => by
    have h1 := zkD k fun i hi => h i (by omega)
    have h2 := h k (by omega)
    simp only [z5l, Nat.add_mul, Nat.one_mul]
    omega
def hL (N : Nat) (h : Nat → Nat) : List Int := (List.range N).map fun i => ((h i : Nat) : Int)
theorem zye {N : Nat} {h : Nat → Nat} {i : Nat} (hi : i < N) (v : Nat) : (hL N h).set i ((v : Nat) : Int) = hL N fun a => if a = i then v else h a := by
  apply List.ext_getElem (by simp [hL])
  intro k h1 h2
  simp only [hL, List.getElem_set, List.getElem_map, List.getElem_range]
  by_cases e : i = k
  · rw [if_pos e, if_pos e.symm]
  · rw [if_neg e, if_neg (fun h => e h.symm)]
def okH (b : Nat → Nat → Bool) (z : Nat → Bool) (h : Nat → Nat) (i j : Nat) : Prop := z i = false → sbN b j i = true → h j < h i
theorem zv5 {N : Nat} {b : Nat → Nat → Bool} (hb : BelN N b) {z : Nat → Bool} {i j : Nat} (hi : i < N) (hj : j < N) (hz : z i = false) (hs : sbN b j i = true) : ziE N b z j < ziE N b z i := by
  rw [zlg hb z i hi, hz]
  have := zob (g := fun j => if sbN b j i = true then ziE N b z j + 1 else 0) hj
  simp only [hs, if_true] at this
  simp only [Bool.false_eq_true, if_false]
  omega
theorem zwN {N : Nat} {b : Nat → Nat → Bool} (hb : BelN N b) {z : Nat → Bool} {h : Nat → Nat} (hle : ∀ i, i < N → h i ≤ ziE N b z i) (ho : ∀ i j, i < N → j < N → okH b z h i j) : ∀ i, i < N → h i = ziE N b z i := by
  have : ∀ L i, i < N → ztq N b i ≤ L → ziE N b z i ≤ h i := by
    intro L
    induction L with
    | zero =>
      intro i hi hl
      exfalso
      have := zfA (p := fun _ => false) (q := fun j => b j i) (k := N) (i := i) (fun j _ hf => by simp at hf) hi rfl (hb.refl i hi)
      unfold ztq at hl; omega
    | succ L ih =>
      intro i hi hl
      rw [zlg hb z i hi]
      cases hz : z i with
      | true => simp
      | false =>
        simp only [Bool.false_eq_true, if_false]
        refine z9A fun j hj => ?_
        by_cases hs : sbN b j i = true
        · have h1 := ztp hb hi hj hs
          have h2 := ih j hj (by omega)
          have h3 := ho i j hi hj hz hs
          simp only [hs, if_true]
          omega
        · simp [hs]
  exact fun i hi => Nat.le_antisymm (hle i hi) (this _ i hi (Nat.le_refl _))
structure RndH (N : Nat) (b : Nat → Nat → Bool) (z : Nat → Bool) (h0 : Nat → Nat) (ch : Bool) (h : Nat → Nat) : Prop where
  lo : ∀ i, i < N → h0 i ≤ h i
  hi : ∀ i, i < N → h i ≤ ziE N b z i
  no : ch = false → ∀ i, i < N → h i = h0 i
  yes : ch = true → ∃ i, i < N ∧ h0 i < h i
theorem zxA : ∀ s : Nat, s < 128 → s ≠ 0 → szN s ≠ 0 := by decide +kernel
section
variable {d : DFA} {m n : Nat} {S : List Nat} (hd : DfaOk d m n) (hn : n ≤ 7) (hS : SetsP d m n S) (hpos : ∀ x ∈ S, x ≠ 0)
include hd hn hS hpos
theorem zwM {h0 : Nat → Nat} {i : Nat} (hi : i < S.length) (ch : Bool) (h : Nat → Nat) (hr : RndH S.length (z4O d m n S) (z7n S) h0 ch h) (hk : ch = false → ∀ i', i' < i → ∀ j, j < S.length → okH (z4O d m n S) (z7n S) h0 i' j) :
    ∃ ch' h', z0y (z4A (toI S) (zcY S.length (z4O d m n S)) (i : Int)) LFm (ch, 0, hL S.length h) = z0q (ch', ((i + 1 : Nat) : Int), hL S.length h') ∧ RndH S.length (z4O d m n S) (z7n S) h0 ch' h' ∧ (ch' = false → ∀ i', i' < i + 1 → ∀ j, j < S.length → okH (z4O d m n S) (z7n S) h0 i' j) := by
  have h128 : 2 ^ n ≤ 128 := Nat.pow_le_pow_right (n := 2) (by omega) hn
  have hSl := z0Q hS.nd hS.lt
  have hb := zu9 hd hS
  refine Exists.elim (z1q (b := z4A (toI S) (zcY S.length (z4O d m n S)) (i : Int)) (fun z => ∃ (ch : Bool) (j : Nat) (h : Nat → Nat), j ≤ S.length ∧ z = (ch, (j : Int), hL S.length h) ∧ RndH S.length (z4O d m n S) (z7n S) h0 ch h ∧ (ch = false → (∀ i', i' < i → ∀ j, j < S.length → okH (z4O d m n S) (z7n S) h0 i' j) ∧ ∀ j', j' < j → okH (z4O d m n S) (z7n S) h0 i j')) (fun z => S.length - z.2.1.toNat)
    (fun r => ∃ ch' h', r = .inl (ch', ((i + 1 : Nat) : Int), hL S.length h') ∧ RndH S.length (z4O d m n S) (z7n S) h0 ch' h' ∧ (ch' = false → ∀ i', i' < i + 1 → ∀ j, j < S.length → okH (z4O d m n S) (z7n S) h0 i' j)) ?_ LFm (ch, 0, hL S.length h) ⟨ch, 0, h, by omega, rfl, hr, fun e => ⟨hk e, fun j' hj' => by omega⟩⟩ (by simp only [LFm]; omega)) fun r hh => by
      obtain ⟨e1, ch', h', rfl, e2, e3⟩ := hh
      exact ⟨ch', h', e1, e2, e3⟩
  rintro z ⟨ch, j, h, hj, rfl, r1, r2⟩
  simp only [z4A]
  by_cases hlt : j < S.length
  · left
    have hil := hS.lt _ (z0x hi)
    have hz0 := zxA _ (by omega) (hpos _ (z0x hi))
    have hgi := ztC hb (z7n S) hi
    have hgj := ztC hb (z7n S) hlt
    have hhj := r1.hi j hlt
    have hhi := r1.hi i hi
    rw [if_pos (by rw [z0s]; omega), z1H hi, Option.bind_some, zd9 _ (by omega), Option.bind_some, z1b (by omega)]
    have keep : okH (z4O d m n S) (z7n S) h i j → RndH S.length (z4O d m n S) (z7n S) h0 ch h ∧ (ch = false → (∀ i', i' < i → ∀ j, j < S.length → okH (z4O d m n S) (z7n S) h0 i' j) ∧ ∀ j', j' < j + 1 → okH (z4O d m n S) (z7n S) h0 i j') := fun ho => ⟨r1, fun e => ⟨(r2 e).1, fun j' hj' => by
      by_cases ej : j' = j
      · subst ej
        intro q1 q2
        have := ho q1 q2
        rw [r1.no e i hi, r1.no e j' hlt] at this
        exact this
      · exact (r2 e).2 j' (by omega)⟩⟩
    have same : okH (z4O d m n S) (z7n S) h i j → ∃ s', (z0q (ch, ((j + 1 : Nat) : Int), hL S.length h) : Option ((Bool × Int × List Int) ⊕ ((Bool × Int × List Int) ⊕ ((Bool × List Int) ⊕ (Imgs × Int))))) = some (.inl s') ∧ (∃ (ch : Bool) (j : Nat) (h : Nat → Nat), j ≤ S.length ∧ s' = (ch, (j : Int), hL S.length h) ∧ RndH S.length (z4O d m n S) (z7n S) h0 ch h ∧ (ch = false → (∀ i', i' < i → ∀ j, j < S.length → okH (z4O d m n S) (z7n S) h0 i' j) ∧ ∀ j', j' < j → okH (z4O d m n S) (z7n S) h0 i j')) ∧ S.length - s'.2.1.toNat < S.length - (ch, (j : Int), hL S.length h).2.1.toNat := fun ho =>
      ⟨_, rfl, ⟨ch, j + 1, h, by omega, rfl, (keep ho).1, (keep ho).2⟩, by simp only [Int.toNat_natCast]; omega⟩
    by_cases hz : szN (S.getD i 0) = 1
    · rw [if_neg (by omega)]
      exact same fun q1 _ => absurd hz (of_decide_eq_false q1)
    · rw [if_pos (by omega), zl1 hlt, Option.bind_some, z3e hi, Option.bind_some]
      have hbz : z7n S i = false := decide_eq_false hz
      by_cases h1 : z4O d m n S j i = true
      · rw [if_pos h1, zl1 hi, Option.bind_some, z3e hlt, Option.bind_some]
        by_cases h2 : z4O d m n S i j = true
        · rw [if_pos h2]
          exact same fun _ q2 => by simp [sbN, h2] at q2
        · have hs : sbN (z4O d m n S) j i = true := by simp [sbN, h1, h2]
          have hst := zv5 hb hi hlt hbz hs
          have a1 : atI (hL S.length h) (i : Int) = some ((h i : Nat) : Int) := z3e hi
          have a2 : atI (hL S.length h) (j : Int) = some ((h j : Nat) : Int) := z3e hlt
          rw [if_neg h2, a1, Option.bind_some, a2, Option.bind_some]
          by_cases h3 : h i ≤ h j
          · rw [if_pos (by omega), z1b (by omega), Int.toNat_natCast, zye hi]
            refine ⟨_, rfl, ⟨true, j + 1, _, by omega, rfl, ⟨fun a ha => ?_, fun a ha => ?_, (fun e => by cases e), fun _ => ⟨i, hi, ?_⟩⟩, (fun e => by cases e)⟩, by simp only [Int.toNat_natCast]; omega⟩
            · have := r1.lo a ha
              by_cases e : a = i
              · subst e; rw [if_pos rfl]; omega
              · rw [if_neg e]; exact this
            · have := r1.hi a ha
              by_cases e : a = i
              · subst e; rw [if_pos rfl]; omega
              · rw [if_neg e]; exact this
            · have := r1.lo i hi
              rw [if_pos rfl]; omega
          · rw [if_neg (by omega)]
            exact same fun _ _ => by omega
      · rw [if_neg h1]
        exact same fun _ q2 => by simp [sbN, h1] at q2
  · right
    obtain rfl : j = S.length := by omega
    rw [if_neg (by rw [z0s]; omega), z1b (by omega)]
    refine ⟨_, rfl, ch, h, rfl, r1, fun e i' hi' => ?_⟩
    by_cases e2 : i' = i
    · subst e2; exact (r2 e).2
    · exact (r2 e).1 i' (by omega)
theorem zro {h0 : Nat → Nat} (h1 : ∀ i, i < S.length → h0 i ≤ z9K d m n S i) :
    ∃ ch' h', z0y (z4B (toI S) (zcY S.length (z4O d m n S))) LFm (false, 0, hL S.length h0) = z0q (ch', hL S.length h') ∧ RndH S.length (z4O d m n S) (z7n S) h0 ch' h' ∧ (ch' = false → ∀ i', i' < S.length → ∀ j, j < S.length → okH (z4O d m n S) (z7n S) h0 i' j) := by
  have h128 : 2 ^ n ≤ 128 := Nat.pow_le_pow_right (n := 2) (by omega) hn
  have hSl := z0Q hS.nd hS.lt
  refine Exists.elim (z1q (b := z4B (toI S) (zcY S.length (z4O d m n S))) (fun z => ∃ (ch : Bool) (i : Nat) (h : Nat → Nat), i ≤ S.length ∧ z = (ch, (i : Int), hL S.length h) ∧ RndH S.length (z4O d m n S) (z7n S) h0 ch h ∧ (ch = false → ∀ i', i' < i → ∀ j, j < S.length → okH (z4O d m n S) (z7n S) h0 i' j)) (fun z => S.length - z.2.1.toNat)
    (fun r => ∃ ch' h', r = .inl (ch', hL S.length h') ∧ RndH S.length (z4O d m n S) (z7n S) h0 ch' h' ∧ (ch' = false → ∀ i', i' < S.length → ∀ j, j < S.length → okH (z4O d m n S) (z7n S) h0 i' j)) ?_ LFm (false, 0, hL S.length h0) ⟨false, 0, h0, by omega, rfl, ⟨fun _ _ => Nat.le_refl _, h1, fun _ _ _ => rfl, fun e => by cases e⟩, fun _ i' hi' => by omega⟩ (by simp only [LFm]; omega)) fun r hh => by
      obtain ⟨e1, ch', h', rfl, e2, e3⟩ := hh
      exact ⟨ch', h', e1, e2, e3⟩
  rintro z ⟨ch, i, h, hi, rfl, r1, r2⟩
  simp only [z4B]
  by_cases hlt : i < S.length
  · left
    obtain ⟨ch', h', e1, e2, e3⟩ := zwM hd hn hS hpos hlt ch h r1 r2
    rw [if_pos (by rw [z0s]; omega), e1]
    exact ⟨_, rfl, ⟨ch', i + 1, h', by omega, rfl, e2, e3⟩, by simp only [Int.toNat_natCast]; omega⟩
  · right
    obtain rfl : i = S.length := by omega
    rw [if_neg (by rw [z0s]; omega)]
    exact ⟨_, rfl, ch, h, rfl, r1, r2⟩
theorem zv6 {r : Imgs × Int} (C : List Int)
    (hr : z0y (z3r d (toI S) C (zyB d m n S)) LFm (0, List.replicate S.length ([] : List Int)) = some r) :
    z0y (z4C d (toI S) (zcY S.length (z4O d m n S)) C) LFm (true, List.replicate S.length (0 : Int)) = some r := by
  have h128 : 2 ^ n ≤ 128 := Nat.pow_le_pow_right (n := 2) (by omega) hn
  have hSl := z0Q hS.nd hS.lt
  have hb := zu9 hd hS
  have f1 : List.replicate S.length (0 : Int) = hL S.length fun _ => 0 := by
    apply List.ext_getElem (by simp [hL]); intro i h1 h2; simp [hL]
  rw [f1]
  have hbound : z5l (fun i => z9K d m n S i - 0) S.length ≤ S.length * S.length := zkD _ fun i hi => by
    have := ztC hb (z7n S) hi
    show ziE _ _ _ i - 0 ≤ _
    omega
  have hsq : S.length * S.length ≤ 128 * 128 := Nat.mul_le_mul (by omega) (by omega)
  have mea : ∀ (ch : Bool) (h : Nat → Nat), (z5l (fun i => z9K d m n S i - ((hL S.length h).getD i 0).toNat) S.length + (if ch = true then 1 else 0)) = z5l (fun i => z9K d m n S i - h i) S.length + (if ch = true then 1 else 0) := fun ch h => by
    congr 1
    have : ∀ k, k ≤ S.length → z5l (fun i => z9K d m n S i - ((hL S.length h).getD i 0).toNat) k = z5l (fun i => z9K d m n S i - h i) k := by
      intro k
      induction k with
      | zero => intro _; rfl
      | succ k ih =>
        intro hk
        simp only [z5l]
        rw [ih (by omega)]
        congr 2
        simp [hL, List.getD, show k < S.length by omega]
    exact this _ (Nat.le_refl _)
  refine zof (fun z : Bool × List Int => ∃ h, z.2 = hL S.length h ∧ (∀ i, i < S.length → h i ≤ z9K d m n S i) ∧ (z.1 = false → ∀ i, i < S.length → ∀ j, j < S.length → okH (z4O d m n S) (z7n S) h i j)) (fun z => z5l (fun i => z9K d m n S i - (z.2.getD i 0).toNat) S.length + (if z.1 = true then 1 else 0)) (s := (true, hL S.length fun _ => 0)) ⟨fun _ => 0, rfl, fun _ _ => Nat.zero_le _, fun e => by cases e⟩ (by show z5l (fun i => z9K d m n S i - ((hL S.length fun _ => 0).getD i 0).toNat) S.length + (if true = true then 1 else 0) < LFm; rw [mea]; simp only [LFm, if_true]; omega) ?_
  rintro ⟨ch, z⟩ ⟨h, rfl, q1, q2⟩
  cases ch with
  | false =>
    right
    have e : hL S.length h = zyB d m n S := List.map_congr_left fun i hi => by
      rw [zwN hb (z := z7n S) q1 (fun i j hi hj => q2 rfl i hi j hj) i (List.mem_range.1 hi)]
      rfl
    simp only [z4C]
    rw [if_neg (by simp), z0s, Int.toNat_natCast, e, hr]
  | true =>
    left
    obtain ⟨ch', h', e1, e2, e3⟩ := zro hd hn hS hpos q1
    simp only [z4C]
    rw [if_pos trivial, e1]
    refine ⟨_, rfl, ⟨h', rfl, e2.hi, fun e i hi j hj => ?_⟩, ?_⟩
    · intro p1 p2
      have := e3 e i hi j hj p1 p2
      rw [e2.no e i hi, e2.no e j hj]
      exact this
    · show z5l (fun i => z9K d m n S i - ((hL S.length h').getD i 0).toNat) S.length + (if ch' = true then 1 else 0) < z5l (fun i => z9K d m n S i - ((hL S.length h).getD i 0).toNat) S.length + (if true = true then 1 else 0)
      rw [mea, mea]
      cases ch' with
      | false =>
        have : z5l (fun i => z9K d m n S i - h' i) S.length ≤ z5l (fun i => z9K d m n S i - h i) S.length := zig _ fun i hi => by
          have := e2.lo i hi; omega
        simp only [if_true, Bool.false_eq_true, if_false]
        omega
      | true =>
        obtain ⟨p, p1, p2⟩ := e2.yes rfl
        have hp := e2.hi p p1
        have : z5l (fun i => z9K d m n S i - h' i) S.length < z5l (fun i => z9K d m n S i - h i) S.length := zvz _ (fun i hi => by have := e2.lo i hi; omega) p1 (by
          show ziE _ _ _ p - h' p < ziE _ _ _ p - h p
          omega)
        simp only [if_true]
        omega
end
end Go.Proofs.Ytodliknibbafeaa
end
section
namespace Go.Proofs.Ytodliknibbafeaa
open Go
set_option maxRecDepth 100000
def zfe (S : List Nat) (i j k : Nat) : Bool := !ziA S i k || (decide (k = j) || !decide (S.getD j 0 &&& S.getD k 0 = S.getD j 0))
def zkY (S : List Nat) (i j : Nat) : Nat → Bool
  | 0 => true
  | k + 1 => zkY S i j k && zfe S i j k
theorem zkX (S : List Nat) (i j : Nat) : ∀ k, zkY S i j k = true ↔ ∀ x, x < k → zfe S i j x = true
  | 0 => by simp [zkY]
  | k + 1 => by
    simp only [zkY, Bool.and_eq_true]
    rw [zkX S i j k]
    constructor
    · rintro ⟨h1, h2⟩ x hx
      by_cases e : x = k
      · subst e; exact h2
      · exact h1 x (by omega)
    · intro h
      exact ⟨fun x hx => h x (by omega), h k (by omega)⟩
theorem ztf (S : List Nat) (i j : Nat) : zkY S i j S.length = zkB S i j := by
  rw [Bool.eq_iff_iff, zkX, zkB, List.all_eq_true]
  constructor
  · intro h x hx
    obtain ⟨h1, h2⟩ := List.mem_filter.1 hx
    have := h x (List.mem_range.1 h1)
    simp only [zfe, h2, Bool.not_true, Bool.false_or] at this
    exact this
  · intro h x hx
    unfold zfe
    cases hp : ziA S i x with
    | false => rfl
    | true =>
      have := h x (List.mem_filter.2 ⟨List.mem_range.2 hx, hp⟩)
      simp only [Bool.not_true, Bool.false_or]
      exact this
def tlN (S : List Nat) (i j : Nat) : List Nat := ((List.range j).filter (ziA S i)).filter (zkB S i)
theorem zw4 (S : List Nat) (i j : Nat) : tlN S i (j + 1) = tlN S i j ++ (if ziA S i j = true ∧ zkB S i j = true then [j] else []) := by
  unfold tlN
  rw [List.range_succ, List.filter_append, List.filter_append]
  congr 1
  by_cases h1 : ziA S i j = true
  · by_cases h2 : zkB S i j = true
    · simp [h1, h2]
    · simp [h1, h2]
  · simp [h1]
theorem zxx (S : List Nat) (i j : Nat) : (tlN S i j).length ≤ j := by
  have h1 := List.length_filter_le (zkB S i) ((List.range j).filter (ziA S i))
  have h2 := List.length_filter_le (ziA S i) (List.range j)
  rw [List.length_range] at h2
  unfold tlN; omega
def zBs (S : List Nat) : Nat → List (Int × Int)
  | 0 => []
  | k + 1 => zf2 ((S.getD k 0 : Nat) : Int) (k : Int) (zBs S k)
section
variable {d : DFA} {m n : Nat} {S : List Nat} (hd : DfaOk d m n) (hn : n ≤ 7) (hS : SetsP d m n S) (hpos : ∀ x ∈ S, x ≠ 0)
include hd hn hS hpos
theorem zte {i j : Nat} (hi : i < S.length) (hj : j < S.length) (R : List (List Int)) (r : List Int) (hr : atI R (i : Int) = some r) (hrl : r.length ≤ 1000) :
    z0y (z4y (toI S) (i : Int) (j : Int) R ((S.getD j 0 : Nat) : Int)) LFm (true, 0) = z0q (((j + 1 : Nat) : Int), if zkB S i j = true then R.set i (r ++ [(j : Int)]) else R) := by
  have _u := hd
  have _u := hpos
  have h128 : 2 ^ n ≤ 128 := Nat.pow_le_pow_right (n := 2) (by omega) hn
  have hSl := z0Q hS.nd hS.lt
  have hil := hS.lt _ (z0x hi)
  have hjl := hS.lt _ (z0x hj)
  refine z0N (s := (true, (0 : Int))) S.length (fun k => (zkY S i j k, (k : Int))) rfl (by simp only [LFm]; omega) (fun k hk => ?_) ?_
  · have hkl := hS.lt _ (z0x hk)
    have tr : zfe S i j k = true → (z0q ((!false : Bool), ((k + 1 : Nat) : Int)) : Option ((Bool × Int) ⊕ ((Int × List (List Int)) ⊕ ((Int × List (List Int)) ⊕ (Imgs × Int))))) = z0q (true && zfe S i j k, ((k + 1 : Nat) : Int)) := fun h => by rw [h]; rfl
    simp only [z4y]
    rw [if_pos (by rw [z0s]; omega), z1H hk, Option.bind_some, z1b (by omega), zkY]
    cases hm : zkY S i j k with
    | false => rw [if_neg (by simp)]; rfl
    | true =>
      rw [if_pos rfl]
      by_cases e1 : k = j
      · rw [if_pos (by omega)]
        exact tr (by simp [zfe, e1])
      · rw [if_neg (by omega)]
        by_cases e2 : k = i
        · rw [if_pos (by omega)]
          exact tr (by simp [zfe, ziA, e2])
        · rw [if_neg (by omega), z1H hi, Option.bind_some, zb2 (by omega) (by omega), zb2 (by omega) (by omega)]
          by_cases e3 : S.getD k 0 &&& S.getD i 0 = S.getD k 0
          · have hp : ziA S i k = true := by
              unfold ziA
              rw [decide_eq_false e2, decide_eq_true e3]; rfl
            have hq : zfe S i j k = !decide (S.getD j 0 &&& S.getD k 0 = S.getD j 0) := by
              unfold zfe
              rw [hp, decide_eq_false e1]; rfl
            rw [if_pos (by omega), hq, show decide (((S.getD j 0 &&& S.getD k 0 : Nat) : Int) = ((S.getD j 0 : Nat) : Int)) = decide (S.getD j 0 &&& S.getD k 0 = S.getD j 0) from decide_eq_decide.2 (by omega)]
            rfl
          · rw [if_neg (by omega)]
            exact tr (by unfold zfe ziA; rw [decide_eq_false e3]; simp)
  · simp only [z4y]
    rw [if_neg (by rw [z0s]; omega), ztf]
    by_cases h : zkB S i j = true
    · rw [if_pos h, if_pos h, hr, Option.bind_some, z0B _ (by unfold z0T; omega), z1b (by omega), Int.toNat_natCast]
    · rw [if_neg h, if_neg h, z1b (by omega)]
theorem zuw {i : Nat} (hi : i < S.length) (hz : szN (S.getD i 0) ≠ 1) (R : List (List Int)) (hR : R = z1z S.length (fun i => toI (z8P S i)) [] i) :
    z0y (z4z (toI S) (i : Int)) LFm (0, R) = z0q (((i + 1 : Nat) : Int), z1z S.length (fun i => toI (z8P S i)) [] (i + 1)) := by
  have h128 : 2 ^ n ≤ 128 := Nat.pow_le_pow_right (n := 2) (by omega) hn
  have hSl := z0Q hS.nd hS.lt
  have hRl : R.length = S.length := by rw [hR, ziJ]
  have hil := hS.lt _ (z0x hi)
  have hfin : R.set i (toI (tlN S i S.length)) = z1z S.length (fun i => toI (z8P S i)) [] (i + 1) := by
    have : tlN S i S.length = z8P S i := by unfold z8P; rw [if_neg hz]; rfl
    rw [this, hR]
    exact z8M (f := fun i => toI (z8P S i)) (z := []) hi
  have h0 : R = R.set i (toI (tlN S i 0)) := by
    have e : R[i]'(by omega) = [] := by simp [hR, z1z]
    have : toI (tlN S i 0) = R[i]'(by omega) := by rw [e]; rfl
    rw [this, List.set_getElem_self]
  refine z0N (s := ((0 : Int), R)) S.length (fun j => ((j : Int), R.set i (toI (tlN S i j)))) (by rw [← h0]; rfl) (by simp only [LFm]; omega) (fun j hj => ?_) ?_
  · have hjl := hS.lt _ (z0x hj)
    have hl := zxx S i j
    simp only [z4z]
    rw [if_pos (by rw [z0s]; omega), z1H hj, Option.bind_some, z1H hi, Option.bind_some, zb2 (by omega) (by omega), zw4]
    by_cases e1 : S.getD j 0 &&& S.getD i 0 = S.getD j 0
    · rw [if_pos (by omega)]
      by_cases e2 : j = i
      · have hp : ¬ (ziA S i j = true ∧ zkB S i j = true) := fun h => by
          have := h.1
          simp [ziA, e2] at this
        rw [if_pos (by omega), if_neg hp, List.append_nil, z1b (by omega)]
      · have hp : ziA S i j = true := by
          unfold ziA
          rw [decide_eq_false e2, decide_eq_true e1]; rfl
        rw [if_neg (by omega), zte hd hn hS hpos hi hj _ (toI (tlN S i j)) (zvB (by omega)) (by rw [z0s]; omega)]
        by_cases h : zkB S i j = true
        · rw [if_pos h, if_pos ⟨hp, h⟩, zsH, z5t]
        · rw [if_neg h, if_neg (fun hh => h hh.2), List.append_nil]
    · have hp : ¬ (ziA S i j = true ∧ zkB S i j = true) := fun h => by
        have := h.1
        simp only [ziA, Bool.and_eq_true, decide_eq_true_eq] at this
        exact e1 this.2
      rw [if_neg (by omega), if_neg hp, List.append_nil, z1b (by omega)]
  · simp only [z4z]
    rw [if_neg (by rw [z0s]; omega), hfin, z1b (by omega)]
omit hpos in
theorem zud {i k : Nat} (hi : i < S.length) (hk : k < S.length) (hm : S.getD k 0 ∈ (z0Y d m n (S.getD i 0)).1) (he : k = z1W d m n S i) (W' B : List ByteArray) (hB : B = z1z S.length (zni d m n S) ByteArray.empty i) :
    z0y (z4w (toI S) (i : Int) (k : Int) W' (toI (z0Y d m n (S.getD i 0)).1, (z0Y d m n (S.getD i 0)).2)) LFm (0, B) = z0q (((i + 1 : Nat) : Int), W', z1z S.length (zni d m n S) ByteArray.empty (i + 1)) := by
  have h128 : 2 ^ n ≤ 128 := Nat.pow_le_pow_right (n := 2) (by omega) hn
  have hSl := z0Q hS.nd hS.lt
  have hinv := z3B hd (hS.lt _ (z0x hi))
  have hnd := hinv.nd
  have hlen := hinv.len
  have hl := z0Q hinv.nd hinv.lt
  have hfin : B.set i ((z0Y d m n (S.getD i 0)).2.getD ((z0Y d m n (S.getD i 0)).1.idxOf (S.getD k 0)) ByteArray.empty) = z1z S.length (zni d m n S) ByteArray.empty (i + 1) := by
    have e := z8M (f := zni d m n S) (z := ByteArray.empty) hi
    rw [hB, ← e]
    unfold zni zcS
    rw [← he]
  have hat : atI B (i : Int) = some ByteArray.empty := by rw [hB, zfz hi, if_neg (by omega)]
  generalize (z0Y d m n (S.getD i 0)).1 = l at *
  generalize (z0Y d m n (S.getD i 0)).2 = ws at *
  have hix := zd0 hm
  have hgx := z3W hm
  refine z0N (s := ((0 : Int), B)) l.length (fun q => ((q : Int), if l.idxOf (S.getD k 0) < q then B.set i (ws.getD (l.idxOf (S.getD k 0)) ByteArray.empty) else B)) (by rw [if_neg (by omega)]; rfl) (by simp only [LFm]; omega) (fun q hq => ?_) ?_
  · simp only [z4w]
    rw [if_pos (by rw [z0s]; omega), z1H hq, Option.bind_some, z1H hk, Option.bind_some, z1b (by omega)]
    by_cases e : l.getD q 0 = S.getD k 0
    · have hqi := ziD hnd hq
      rw [e] at hqi
      rw [if_pos (by omega), zmB (by omega), Option.bind_some, if_neg (by omega), hat, Option.bind_some, Int.toNat_natCast, if_pos (by omega), hqi]
    · have hqi : l.idxOf (S.getD k 0) ≠ q := fun h => e (by rw [← h]; exact hgx)
      rw [if_neg (by omega)]
      by_cases h : l.idxOf (S.getD k 0) < q
      · rw [if_pos h, if_pos (by omega)]
      · rw [if_neg h, if_neg (by omega)]
  · simp only [z4w]
    rw [if_neg (by rw [z0s]; omega), if_pos hix, hfin, z1b (by omega)]
omit hpos in
theorem zrV {i k : Nat} (hi : i < S.length) (hk : k < S.length) (hm : S.getD i 0 ∈ (z0Y d m n (S.getD k 0)).1) (hm' : S.getD k 0 ∈ (z0Y d m n (S.getD i 0)).1) (he : k = z1W d m n S i) (W B : List ByteArray) (hW : W = z1z S.length (znn d m n S) ByteArray.empty i) (hB : B = z1z S.length (zni d m n S) ByteArray.empty i) :
    z0y (z4x d (toI S) (i : Int) B (k : Int) (toI (z0Y d m n (S.getD k 0)).1, (z0Y d m n (S.getD k 0)).2)) LFm (0, W) = z0q (((i + 1 : Nat) : Int), z1z S.length (znn d m n S) ByteArray.empty (i + 1), z1z S.length (zni d m n S) ByteArray.empty (i + 1)) := by
  have h128 : 2 ^ n ≤ 128 := Nat.pow_le_pow_right (n := 2) (by omega) hn
  have hSl := z0Q hS.nd hS.lt
  have hinv := z3B hd (hS.lt _ (z0x hk))
  have hnd := hinv.nd
  have hlen := hinv.len
  have hl := z0Q hinv.nd hinv.lt
  have hfin : W.set i ((z0Y d m n (S.getD k 0)).2.getD ((z0Y d m n (S.getD k 0)).1.idxOf (S.getD i 0)) ByteArray.empty) = z1z S.length (znn d m n S) ByteArray.empty (i + 1) := by
    have e := z8M (f := znn d m n S) (z := ByteArray.empty) hi
    rw [hW, ← e]
    unfold znn zcS
    rw [← he]
  have hat : atI W (i : Int) = some ByteArray.empty := by rw [hW, zfz hi, if_neg (by omega)]
  have hback := zud hd hn hS hi hk hm' he (z1z S.length (znn d m n S) ByteArray.empty (i + 1)) B hB
  have hrch := zdm hd (show n ≤ 12 by omega) (hS.lt _ (z0x hi))
  generalize (z0Y d m n (S.getD k 0)).1 = l at *
  generalize (z0Y d m n (S.getD k 0)).2 = ws at *
  have hix := zd0 hm
  have hgx := z3W hm
  refine z0N (s := ((0 : Int), W)) l.length (fun q => ((q : Int), if l.idxOf (S.getD i 0) < q then W.set i (ws.getD (l.idxOf (S.getD i 0)) ByteArray.empty) else W)) (by rw [if_neg (by omega)]; rfl) (by simp only [LFm]; omega) (fun q hq => ?_) ?_
  · simp only [z4x]
    rw [if_pos (by rw [z0s]; omega), z1H hq, Option.bind_some, z1H hi, Option.bind_some, z1b (by omega)]
    by_cases e : l.getD q 0 = S.getD i 0
    · have hqi := ziD hnd hq
      rw [e] at hqi
      rw [if_pos (by omega), zmB (by omega), Option.bind_some, if_neg (by omega), hat, Option.bind_some, Int.toNat_natCast, if_pos (by omega), hqi]
    · have hqi : l.idxOf (S.getD i 0) ≠ q := fun h => e (by rw [← h]; exact hgx)
      rw [if_neg (by omega)]
      by_cases h : l.idxOf (S.getD i 0) < q
      · rw [if_pos h, if_pos (by omega)]
      · rw [if_neg h, if_neg (by omega)]
  · simp only [z4x]
    rw [if_neg (by rw [z0s]; omega), if_pos hix, hfin, z1H hi, Option.bind_some, hrch, Option.bind_some, hback]
theorem zwd : z0y (z3r d (toI S) (zxo d m n S) (zyB d m n S)) LFm (0, List.replicate S.length ([] : List Int)) = some (z4Q d m n S, 0) := by
  have h128 : 2 ^ n ≤ 128 := Nat.pow_le_pow_right (n := 2) (by omega) hn
  have hSl := z0Q hS.nd hS.lt
  have he := zaX hd hS
  have f1 : List.replicate S.length ([] : List Int) = z1z S.length (fun i => toI (z8P S i)) [] 0 := (zi1 _ _ _).symm
  rw [f1]
  refine z0N (s := ((0 : Int), z1z S.length (fun i => toI (z8P S i)) [] 0)) S.length (fun i => ((i : Int), z1z S.length (fun i => toI (z8P S i)) [] i)) rfl (by simp only [LFm]; omega) (fun i hi => ?_) ?_
  · have hil := hS.lt _ (z0x hi)
    simp only [z3r]
    rw [if_pos (by rw [z0s]; omega), z1H hi, Option.bind_some, zd9 _ (by omega), Option.bind_some]
    by_cases hz : szN (S.getD i 0) = 1
    · have : toI (z8P S i) = [] := by unfold z8P; rw [if_pos hz]; rfl
      rw [if_pos (by omega), z1b (by omega), ztM (f := fun i => toI (z8P S i)) (z := []) this]
    · rw [if_neg (by omega)]
      exact zuw hd hn hS hpos hi hz _ rfl
  · simp only [z3r]
    rw [if_neg (by rw [z0s]; omega), z0s, Int.toNat_natCast]
    congr 1
    have f2 : List.replicate S.length (ByteArray.empty : ByteArray) = z1z S.length (znn d m n S) ByteArray.empty 0 := (zi1 _ _ _).symm
    have f3 : List.replicate S.length (ByteArray.empty : ByteArray) = z1z S.length (zni d m n S) ByteArray.empty 0 := (zi1 _ _ _).symm
    refine z0N (s := ((0 : Int), List.replicate S.length (ByteArray.empty : ByteArray), List.replicate S.length (ByteArray.empty : ByteArray))) S.length (fun i => ((i : Int), z1z S.length (znn d m n S) ByteArray.empty i, z1z S.length (zni d m n S) ByteArray.empty i)) (by rw [← f2, ← f3]; rfl) (by simp only [LFm]; omega) (fun i hi => ?_) ?_
    · have hle := zfq hd hn hS hi
      have heq := zfr hd hn hS hi
      have hk : z1W d m n S i < S.length := by omega
      have heq' := he.symm _ _ hi hk heq
      obtain ⟨_, z2⟩ := zdg hd hn hS hk hi heq
      obtain ⟨_, z4⟩ := zdg hd hn hS hi hk heq'
      simp only [z5M]
      rw [if_pos (by rw [z0s]; omega)]
      refine z0N (s := (0 : Int)) (z1W d m n S i) (fun q => (q : Int)) rfl (by simp only [LFm]; omega) (fun q hq => ?_) ?_
      · have hqs : q < S.length := by omega
        have hne : zdj (z7e d m n S) S.length q ≠ zdj (z7e d m n S) S.length i := fun h => by
          have h1 := zoz hd hn hS hqs hi ((zna he hqs hi).1 h)
          have h2 := zfq hd hn hS hqs
          omega
        simp only [z5L]
        rw [zxo, z3e hqs, Option.bind_some, z3e hi, Option.bind_some, if_neg (by omega), z1b (by omega)]
      · have hcl := (zna he hk hi).2 heq'
        simp only [z5L]
        rw [zxo, z3e hk, Option.bind_some, z3e hi, Option.bind_some, if_pos (by omega), z1H hk, Option.bind_some, zdm hd (by omega) (hS.lt _ (z0x hk)), Option.bind_some, zrV hd hn hS hi hk z2 z4 rfl _ _ rfl rfl]
    · simp only [z5M]
      rw [if_neg (by rw [z0s]; omega), zi0, zi0, zi0]
      rfl
theorem zx5 : z0y (z4G d (toI S)) LFm (0, ([] : List (Int × Int))) = some (z4Q d m n S, 0) := by
  have h128 : 2 ^ n ≤ 128 := Nat.pow_le_pow_right (n := 2) (by omega) hn
  have hSl := z0Q hS.nd hS.lt
  have hrest := zwd hd hn hS hpos
  refine z0N (s := ((0 : Int), ([] : List (Int × Int)))) S.length (fun k => ((k : Int), zBs S k)) rfl (by simp only [LFm]; omega) (fun k hk => ?_) ?_
  · simp only [z4G]
    rw [if_pos (by rw [z0s]; omega), z1H hk, Option.bind_some, z1b (by omega)]
    rfl
  · simp only [z4G]
    rw [if_neg (by rw [z0s]; omega), z0s, z0B _ (by unfold z1V; omega), Int.toNat_natCast]
    congr 1
    have f1 : List.replicate S.length ([] : List Bool) = z1z S.length (fun _ => List.replicate S.length false) [] 0 := (zi1 _ _ _).symm
    rw [f1]
    refine z0N (s := ((0 : Int), z1z S.length (fun _ => List.replicate S.length false) [] 0)) S.length (fun k => ((k : Int), z1z S.length (fun _ => List.replicate S.length false) [] k)) rfl (by simp only [LFm]; omega) (fun k hk => ?_) ?_
    · have hs := z8M (f := fun _ : Nat => List.replicate S.length false) (z := ([] : List Bool)) hk
      simp only [z5P]
      rw [if_pos (by rw [z0s]; omega), z0s, z0B _ (by unfold z1V; omega), zfz hk, Option.bind_some, z1b (by omega), Int.toNat_natCast, Int.toNat_natCast, hs]
    · simp only [z5P]
      rw [if_neg (by rw [z0s]; omega), zi0]
      congr 1
      have f2 : ((List.range S.length).map fun _ => List.replicate S.length false) = zcY S.length fun a b => decide (b < 0) && z4O d m n S a b := by
        refine List.map_congr_left fun a _ => ?_
        apply List.ext_getElem (by simp)
        intro b h1 h2
        simp
      rw [f2]
      refine z0N (s := ((0 : Int), zcY S.length fun a b => decide (b < 0) && z4O d m n S a b)) S.length (fun j => ((j : Int), zcY S.length fun a b => decide (b < j) && z4O d m n S a b)) rfl (by simp only [LFm]; omega) (fun j hj => ?_) ?_
      · simp only [z5O]
        rw [if_pos (by rw [z0s]; omega), z1H hj, Option.bind_some, zdm hd (by omega) (hS.lt _ (z0x hj)), Option.bind_some]
        exact zwf hd hn hS hj _
      · have f3 : (zcY S.length fun a b => decide (b < S.length) && z4O d m n S a b) = zcY S.length (z4O d m n S) := z4I fun a b _ hb => by rw [decide_eq_true hb, Bool.true_and]
        simp only [z5O]
        rw [if_neg (by rw [z0s]; omega), z0s, z0B _ (by unfold z1V; omega), Int.toNat_natCast, f3]
        congr 1
        have f4 : List.replicate S.length (0 : Int) = z1z S.length (fun i => ((z1W d m n S i : Nat) : Int)) 0 0 := (zi1 _ _ _).symm
        rw [f4]
        refine z0N (s := ((0 : Int), z1z S.length (fun i => ((z1W d m n S i : Nat) : Int)) 0 0)) S.length (fun i => ((i : Int), z1z S.length (fun i => ((z1W d m n S i : Nat) : Int)) 0 i)) rfl (by simp only [LFm]; omega) (fun i hi => ?_) ?_
        · simp only [z5N]
          rw [if_pos (by rw [z0s]; omega), zfz hi, Option.bind_some]
          exact zvk hd hn hS hi _ rfl
        · simp only [z5N]
          rw [if_neg (by rw [z0s]; omega), zi0, zlD hd hn hS, Option.bind_some, z0s, z0B _ (by unfold z1V; omega), z0B _ (by unfold z1V; omega), z0B _ (by unfold z1V; omega), Int.toNat_natCast, zv6 hd hn hS hpos _ hrest]
end
theorem zuN {d : DFA} {m n : Nat} (hd : DfaOk d m n) (hn : n ≤ 7) : zaA d = some (z4Q d m n (z2S d m n), 0) := by
  have h128 : 2 ^ n ≤ 128 := Nat.pow_le_pow_right (n := 2) (by omega) hn
  have hS := zcz hd
  have hSl := z0Q hS.nd hS.lt
  unfold zaA
  rw [zvT (ztW hd (by omega)), zvI hd (by omega), Option.bind_some, if_pos rfl, zxd hd hn, Option.bind_some, if_neg (by rw [z0s]; omega)]
  exact zx5 hd hn hS fun x hx => zih hd hx
end Go.Proofs.Ytodliknibbafeaa
end
section
namespace Go.Proofs.Ytodliknibbafeaa
open Go
set_option maxRecDepth 100000
def hC (d : DFA) (m n : Nat) (S : List Nat) (c : Nat) : Nat := z9K d m n S (z2n d m n S c)
def z9J (d : DFA) (m n : Nat) (S : List Nat) (k : Nat) : List Nat := (List.range (z1h (z7e d m n S) k).length).filter fun c => decide (0 < hC d m n S c)
def zBK (d : DFA) (m n : Nat) (S : List Nat) : Prop := ∀ i, i < S.length → z9K d m n S i = z9K d m n S (z1W d m n S i)
theorem ztD {d : DFA} {m n : Nat} (hd : DfaOk d m n) (hn : n ≤ 7) : zBK d m n (z2S d m n) := fun i hi => by
  have hS := zcz hd
  have hb := zu9 hd hS
  have hbot : ∀ i k, i < (z2S d m n).length → k < (z2S d m n).length → z7n (z2S d m n) k = true → z4O d m n (z2S d m n) i k = true → z7n (z2S d m n) i = true := fun i k hi hk hz h => zu6 hd hn hi hk hz h
  have hf := zfq hd hn hS hi
  have c2 := zfr hd hn hS hi
  simp only [z7e, Bool.and_eq_true] at c2
  exact Nat.le_antisymm (zor hb hbot hi (by omega) c2.1) (zor hb hbot (by omega) hi c2.2)
theorem zl0 {l : List Nat} {x q : Nat} (hq : q < l.length) : decide (x ∈ l.take (q + 1)) = (decide (x ∈ l.take q) || decide (l.getD q 0 = x)) := by
  rw [z6q hq, Bool.eq_iff_iff]
  simp only [decide_eq_true_eq, List.mem_append, List.mem_singleton, Bool.or_eq_true]
  exact or_congr_right ⟨fun h => h.symm, fun h => h.symm⟩
section
variable {d : DFA} {m n : Nat} {S : List Nat} (hd : DfaOk d m n) (hn : n ≤ 7) (hS : SetsP d m n S) (hH : zBK d m n S)
include hd hn hS hH
theorem zuV {i : Nat} (hi : i < S.length) : (decide (clN d m n S i ∈ z9J d m n S i) = true → z9J d m n S (i + 1) = z9J d m n S i) ∧ (decide (clN d m n S i ∈ z9J d m n S i) = false → z9J d m n S (i + 1) = z9J d m n S i ++ (if 0 < z9K d m n S i then [clN d m n S i] else [])) := by
  have _u := hn
  have he := zaX hd hS
  have hfo : hC d m n S (clN d m n S i) = z9K d m n S i := by
    unfold hC; rw [hH i hi]; rfl
  have hmem : clN d m n S i ∈ z9J d m n S i ↔ clN d m n S i < (z1h (z7e d m n S) i).length ∧ 0 < z9K d m n S i := by
    unfold z9J; rw [List.mem_filter, List.mem_range, decide_eq_true_eq, hfo]
  rcases zfs he hi with ⟨h1, _, h3⟩ | ⟨h1, _, h3⟩
  · have e : z9J d m n S (i + 1) = z9J d m n S i := by unfold z9J; rw [h3]
    refine ⟨fun _ => e, fun h => ?_⟩
    have : ¬ 0 < z9K d m n S i := fun hp => by
      rw [decide_eq_false_iff_not] at h
      exact h (hmem.2 ⟨h1, hp⟩)
    rw [e, if_neg this, List.append_nil]
  · have e : z9J d m n S (i + 1) = z9J d m n S i ++ (if 0 < z9K d m n S i then [clN d m n S i] else []) := by
      unfold z9J
      rw [h3, List.length_append, List.length_singleton, List.range_succ, List.filter_append, List.filter_cons, List.filter_nil, ← h1]
      congr 1
      show (if decide (0 < hC d m n S (clN d m n S i)) = true then _ else _) = _
      rw [hfo]
      by_cases hp : 0 < z9K d m n S i
      · rw [if_pos hp, if_pos (by simpa using hp)]; rfl
      · rw [if_neg hp, if_neg (by simpa using hp)]
    refine ⟨fun h => ?_, fun _ => e⟩
    rw [decide_eq_true_eq, hmem] at h
    have := h.1
    unfold clN at this
    omega
theorem znd (hSl : S.length < 100000) : ∃ O, z3y (z4Q d m n S) = some (toI O) ∧ zrL (hC d m n S) O ∧ O.Perm (z9J d m n S S.length) := by
  have he := zaX hd hS
  have l2 : (z4Q d m n S).class_.length = S.length := by simp [z4Q, zxo]
  have hcat : ∀ i, i < S.length → atI (z4Q d m n S).class_ (i : Int) = some ((clN d m n S i : Nat) : Int) := fun i hi => z3e hi
  have hhat : ∀ i, i < S.length → atI (z4Q d m n S).height (i : Int) = some ((z9K d m n S i : Nat) : Int) := fun i hi => z3e hi
  have hol : ∀ k, k ≤ S.length → (z9J d m n S k).length ≤ k := fun k hk => by
    have := zfp (z7e d m n S) k
    unfold z9J
    exact Nat.le_trans (List.length_filter_le _ _) (by rw [List.length_range]; exact this)
  obtain ⟨O, e, o1, o2⟩ := zvj (H := hC d m n S) (X := z9J d m n S S.length) (by have := hol _ (Nat.le_refl _); omega) (toI (z9J d m n S S.length)) (z0s _)
  refine ⟨O, ?_, o1, o2⟩
  unfold z3y
  refine z0N (s := ((0 : Int), ([] : List Int), ([] : List Int))) S.length (fun k => ((k : Int), toI (z9J d m n S k), toI ((z9J d m n S k).map (hC d m n S)))) rfl (by simp only [LFm]; omega) (fun i hi => ?_) ?_
  · have hl := hol i (by omega)
    obtain ⟨s1, s2⟩ := zuV hd hn hS hH hi
    have hfo : hC d m n S (clN d m n S i) = z9K d m n S i := by
      unfold hC; rw [hH i hi]; rfl
    simp only [z3i]
    rw [l2, if_pos (by omega), hcat i hi, Option.bind_some]
    refine z0N (s := (false, (0 : Int))) (z9J d m n S i).length (fun q => (decide (clN d m n S i ∈ (z9J d m n S i).take q), (q : Int))) (by simp) (by simp only [LFm]; omega) (fun q hq => ?_) ?_
    · simp only [z3h]
      rw [if_pos (by rw [z0s]; omega), z1H hq, Option.bind_some, z1b (by omega), zl0 hq]
      cases h : decide (clN d m n S i ∈ (z9J d m n S i).take q) with
      | true => rw [if_pos rfl, Bool.true_or]
      | false =>
        rw [if_neg (by simp), Bool.false_or]
        congr 2
        exact decide_eq_decide.2 (by omega)
    · simp only [z3h]
      rw [if_neg (by rw [z0s]; omega), List.take_length, z1b (by omega)]
      cases h : decide (clN d m n S i ∈ z9J d m n S i) with
      | true => rw [if_pos rfl, s1 h]
      | false =>
        rw [if_neg (by simp), hhat i hi, Option.bind_some, s2 h]
        by_cases hp : 0 < z9K d m n S i
        · rw [if_pos (by omega), if_pos hp, z0B _ (by unfold z0T; rw [z0s]; omega), z0B _ (by unfold z0T; simp [toI]; omega), z5t, List.map_append, List.map_cons, List.map_nil, z5t, hfo]
        · rw [if_neg (by omega), if_neg hp, List.append_nil]
  · simp only [z3i]
    rw [l2, if_neg (by omega)]
    congr 1
end
end Go.Proofs.Ytodliknibbafeaa
end
section
namespace Go.Proofs.Ytodliknibbafeaa
open Go
noncomputable section
set_option maxRecDepth 100000
set_option maxHeartbeats 6000000
def z5z (v2132 : List Int × Bool) (w2147 : Bool) (w2148 : Int) (v2158 : List Int) : Bool × Int → Option ((Bool × Int) ⊕ ((Bool × Int) ⊕ ((Int × List ByteArray × List (List Int)) ⊕ ((Int × List ByteArray × List (List Int)) ⊕ ((Int × List Hol) ⊕ (List Hol × Int))))))
  | (w2161, w2162) =>
  if w2162 < (v2132.1.length : Int) then
    if w2161 = true then
      (atI v2132.1 w2162).bind fun v2165 =>
      (atI v2158 w2162).bind fun v2166 =>
      z0q (decide (v2165 = v2166), IntKind.i64.wrap (w2162 + 1))
    else
      z0q (false, IntKind.i64.wrap (w2162 + 1))
  else
    z0v <|
    if w2147 = true then
      z0q (true, IntKind.i64.wrap (w2148 + 1))
    else
      z0q (w2161, IntKind.i64.wrap (w2148 + 1))
def z4j (a0 : DFA) (v1084 : Imgs × Int) (w1087 : List (Int × Int)) (v1090 : List Int) (w1449 : Int) (w1450 : List Hol) (v1809 : Int) (v1811 : Int) (w1816 : List Int) (w1916 : Int) (v2043 : Int) (w2084 : Int) (w2085 : List ByteArray) (w2086 : List (List Int)) (v2130 : ByteArray) (v2131 : ByteArray) (v2132 : List Int × Bool) (w2147 : Bool) (w2148 : Int) : Bool × Int → Fr
  | (w2161, w2162) => ⟨217, [(1, .one (.a 1 [] (0))), (4, .one (.ea none [.sl v1084.1.sets.length (v1084.1.sets.map fun x0 => .sc (.int .i64 x0)), .sl v1084.1.class_.length (v1084.1.class_.map fun x0 => .sc (.int .i64 x0)), .sl v1084.1.height.length (v1084.1.height.map fun x0 => .sc (.int .i64 x0)), .sl v1084.1.tiles.length (v1084.1.tiles.map fun x0 => .sl x0.length (x0.map fun x1 => .sc (.int .i64 x1))), .sl v1084.1.words.length (v1084.1.words.map fun x0 => .sc (.string x0)), .sl v1084.1.back.length (v1084.1.back.map fun x0 => .sc (.string x0))] 0)), (6, .one (.h 6 [])), (9, .one (.h 9 [])), (11, .one (.t none (.sc (.int .i64 v1809)))), (13, .one (.a 13 [] (0))), (16, .one (.t none (.sc (.int .i64 w1916)))), (17, .one (.t none (.sc (.int .i64 v2043)))), (18, .one (.t none (.sc (.int .i64 w2084)))), (20, .one (.t none (.sc (.string ((v2130 ++ ⟨#[UInt8.ofNat (IntKind.u8.wrap (IntKind.i64.wrap (97 + w2084))).toNat]⟩) ++ v2131))))), (21, .one (.h 21 [])), (23, .one (.t none (.sc (.bool w2147)))), (27, .one (.h 13 [3, w2148.toNat])), (28, .one (.t none (.sc (.bool w2161)))), (52, .one (.h 52 [])), (53, .one (.t none (.sc (.int .i64 (v1090.length : Int))))), (54, .one (.t none (.sc (.int .i64 w1449)))), (89, .one (.t none (.sl v1084.1.sets.length (v1084.1.sets.map fun x0 => .sc (.int .i64 x0))))), (90, .one (.t none (.sc (.int .i64 (v1084.1.sets.length : Int))))), (91, .one (.t none (.sc (.int .i64 w1916)))), (167, .one (.h 13 [3])), (168, .one (.t none (.sc (.int .i64 (w2086.length : Int))))), (169, .one (.t none (.sc (.int .i64 w2148)))), (174, .one (.t none (.sc (.int .i64 (v2132.1.length : Int))))), (175, .one (.t none (.sc (.int .i64 w2162))))], [(1, .vr [.sc (.int .i64 a0.letters), .sc (.int .i64 a0.start), .sl a0.final.length (a0.final.map fun x0 => .sc (.bool x0)), .sl a0.next.length (a0.next.map fun x0 => .sl x0.length (x0.map fun x1 => .sc (.int .i64 x1)))]), (6, .mp (some .i64) (w1087.map fun x0 => (.int .i64 x0.1, .int .i64 x0.2))), (9, .os 4 w1450.length (w1450.flatMap fun x0 => [.sc (.int .i64 x0.set), .sl x0.tiles.length (x0.tiles.map fun x1 => .sc (.int .i64 x1)), .sl x0.words.length (x0.words.map fun x1 => .sc (.string x1)), .sl x0.perms.length (x0.perms.map fun x1 => .sl x1.length (x1.map fun x2 => .sc (.int .i64 x2)))])), (13, .vr [.sc (.int .i64 v1811), .os 1 w1816.length (w1816.map fun x0 => .sc (.int .i64 x0)), .os 1 w2085.length (w2085.map fun x0 => .sc (.string x0)), .os 1 w2086.length (w2086.map fun x0 => .os 1 x0.length (x0.map fun x1 => .sc (.int .i64 x1)))]), (21, .os 1 v2132.1.length (v2132.1.map fun x0 => .sc (.int .i64 x0))), (52, .os 1 v1090.length (v1090.map fun x0 => .sc (.int .i64 x0)))]⟩
def z5A (w2084 : Int) (w2085 : List ByteArray) (w2086 : List (List Int)) (v2130 : ByteArray) (v2131 : ByteArray) (v2132 : List Int × Bool) : Bool × Int → Option ((Bool × Int) ⊕ ((Int × List ByteArray × List (List Int)) ⊕ ((Int × List ByteArray × List (List Int)) ⊕ ((Int × List Hol) ⊕ (List Hol × Int)))))
  | (w2147, w2148) =>
  if w2148 < (w2086.length : Int) then
    (atI w2086 w2148).bind fun v2158 =>
    z0y (z5z v2132 w2147 w2148 v2158) LFm (true, 0)
  else
    z0v <|
    if w2147 = true then
      z0q (IntKind.i64.wrap (w2084 + 1), w2085, w2086)
    else
      chk (z0T 16 (w2085.length + 1)) <|
      chk (z0T 24 (w2086.length + 1)) <|
      z0q (IntKind.i64.wrap (w2084 + 1), w2085 ++ [(v2130 ++ ⟨#[UInt8.ofNat (IntKind.u8.wrap (IntKind.i64.wrap (97 + w2084))).toNat]⟩) ++ v2131], w2086 ++ [v2132.1])
def z4k (a0 : DFA) (v1084 : Imgs × Int) (w1087 : List (Int × Int)) (v1090 : List Int) (w1449 : Int) (w1450 : List Hol) (v1809 : Int) (v1811 : Int) (w1816 : List Int) (w1916 : Int) (v2043 : Int) (w2084 : Int) (w2085 : List ByteArray) (w2086 : List (List Int)) (v2130 : ByteArray) (v2131 : ByteArray) (v2132 : List Int × Bool) : Bool × Int → Fr
  | (w2147, w2148) => ⟨217, [(1, .one (.a 1 [] (0))), (4, .one (.ea none [.sl v1084.1.sets.length (v1084.1.sets.map fun x0 => .sc (.int .i64 x0)), .sl v1084.1.class_.length (v1084.1.class_.map fun x0 => .sc (.int .i64 x0)), .sl v1084.1.height.length (v1084.1.height.map fun x0 => .sc (.int .i64 x0)), .sl v1084.1.tiles.length (v1084.1.tiles.map fun x0 => .sl x0.length (x0.map fun x1 => .sc (.int .i64 x1))), .sl v1084.1.words.length (v1084.1.words.map fun x0 => .sc (.string x0)), .sl v1084.1.back.length (v1084.1.back.map fun x0 => .sc (.string x0))] 0)), (6, .one (.h 6 [])), (9, .one (.h 9 [])), (11, .one (.t none (.sc (.int .i64 v1809)))), (13, .one (.a 13 [] (0))), (16, .one (.t none (.sc (.int .i64 w1916)))), (17, .one (.t none (.sc (.int .i64 v2043)))), (18, .one (.t none (.sc (.int .i64 w2084)))), (20, .one (.t none (.sc (.string ((v2130 ++ ⟨#[UInt8.ofNat (IntKind.u8.wrap (IntKind.i64.wrap (97 + w2084))).toNat]⟩) ++ v2131))))), (21, .one (.h 21 [])), (23, .one (.t none (.sc (.bool w2147)))), (52, .one (.h 52 [])), (53, .one (.t none (.sc (.int .i64 (v1090.length : Int))))), (54, .one (.t none (.sc (.int .i64 w1449)))), (89, .one (.t none (.sl v1084.1.sets.length (v1084.1.sets.map fun x0 => .sc (.int .i64 x0))))), (90, .one (.t none (.sc (.int .i64 (v1084.1.sets.length : Int))))), (91, .one (.t none (.sc (.int .i64 w1916)))), (167, .one (.h 13 [3])), (168, .one (.t none (.sc (.int .i64 (w2086.length : Int))))), (169, .one (.t none (.sc (.int .i64 w2148))))], [(1, .vr [.sc (.int .i64 a0.letters), .sc (.int .i64 a0.start), .sl a0.final.length (a0.final.map fun x0 => .sc (.bool x0)), .sl a0.next.length (a0.next.map fun x0 => .sl x0.length (x0.map fun x1 => .sc (.int .i64 x1)))]), (6, .mp (some .i64) (w1087.map fun x0 => (.int .i64 x0.1, .int .i64 x0.2))), (9, .os 4 w1450.length (w1450.flatMap fun x0 => [.sc (.int .i64 x0.set), .sl x0.tiles.length (x0.tiles.map fun x1 => .sc (.int .i64 x1)), .sl x0.words.length (x0.words.map fun x1 => .sc (.string x1)), .sl x0.perms.length (x0.perms.map fun x1 => .sl x1.length (x1.map fun x2 => .sc (.int .i64 x2)))])), (13, .vr [.sc (.int .i64 v1811), .os 1 w1816.length (w1816.map fun x0 => .sc (.int .i64 x0)), .os 1 w2085.length (w2085.map fun x0 => .sc (.string x0)), .os 1 w2086.length (w2086.map fun x0 => .os 1 x0.length (x0.map fun x1 => .sc (.int .i64 x1)))]), (21, .os 1 v2132.1.length (v2132.1.map fun x0 => .sc (.int .i64 x0))), (52, .os 1 v1090.length (v1090.map fun x0 => .sc (.int .i64 x0)))]⟩
def z4n (w2084 : Int) (w2085 : List ByteArray) (w2086 : List (List Int)) (v2130 : ByteArray) (v2131 : ByteArray) (v2132 : List Int × Bool) : Bool × Int → Option ((Bool × Int) ⊕ ((Int × List ByteArray × List (List Int)) ⊕ ((Int × List ByteArray × List (List Int)) ⊕ ((Int × List Hol) ⊕ (List Hol × Int)))))
  | (w2134, w2135) =>
  if w2135 < (v2132.1.length : Int) then
    (atI v2132.1 w2135).bind fun v2137 =>
    if w2134 = true then
      z0q (decide (w2135 = v2137), IntKind.i64.wrap (w2135 + 1))
    else
      z0q (false, IntKind.i64.wrap (w2135 + 1))
  else
    z0v <|
    z0y (z5A w2084 w2085 w2086 v2130 v2131 v2132) LFm (w2134, 0)
def z4l (a0 : DFA) (v1084 : Imgs × Int) (w1087 : List (Int × Int)) (v1090 : List Int) (w1449 : Int) (w1450 : List Hol) (v1809 : Int) (v1811 : Int) (w1816 : List Int) (w1916 : Int) (v2043 : Int) (w2084 : Int) (w2085 : List ByteArray) (w2086 : List (List Int)) (v2130 : ByteArray) (v2131 : ByteArray) (v2132 : List Int × Bool) : Bool × Int → Fr
  | (w2134, w2135) => ⟨217, [(1, .one (.a 1 [] (0))), (4, .one (.ea none [.sl v1084.1.sets.length (v1084.1.sets.map fun x0 => .sc (.int .i64 x0)), .sl v1084.1.class_.length (v1084.1.class_.map fun x0 => .sc (.int .i64 x0)), .sl v1084.1.height.length (v1084.1.height.map fun x0 => .sc (.int .i64 x0)), .sl v1084.1.tiles.length (v1084.1.tiles.map fun x0 => .sl x0.length (x0.map fun x1 => .sc (.int .i64 x1))), .sl v1084.1.words.length (v1084.1.words.map fun x0 => .sc (.string x0)), .sl v1084.1.back.length (v1084.1.back.map fun x0 => .sc (.string x0))] 0)), (6, .one (.h 6 [])), (9, .one (.h 9 [])), (11, .one (.t none (.sc (.int .i64 v1809)))), (13, .one (.a 13 [] (0))), (16, .one (.t none (.sc (.int .i64 w1916)))), (17, .one (.t none (.sc (.int .i64 v2043)))), (18, .one (.t none (.sc (.int .i64 w2084)))), (20, .one (.t none (.sc (.string ((v2130 ++ ⟨#[UInt8.ofNat (IntKind.u8.wrap (IntKind.i64.wrap (97 + w2084))).toNat]⟩) ++ v2131))))), (21, .one (.h 21 [])), (23, .one (.t none (.sc (.bool w2134)))), (52, .one (.h 52 [])), (53, .one (.t none (.sc (.int .i64 (v1090.length : Int))))), (54, .one (.t none (.sc (.int .i64 w1449)))), (89, .one (.t none (.sl v1084.1.sets.length (v1084.1.sets.map fun x0 => .sc (.int .i64 x0))))), (90, .one (.t none (.sc (.int .i64 (v1084.1.sets.length : Int))))), (91, .one (.t none (.sc (.int .i64 w1916)))), (152, .one (.h 21 [])), (153, .one (.t none (.sc (.int .i64 (v2132.1.length : Int))))), (154, .one (.t none (.sc (.int .i64 w2135))))], [(1, .vr [.sc (.int .i64 a0.letters), .sc (.int .i64 a0.start), .sl a0.final.length (a0.final.map fun x0 => .sc (.bool x0)), .sl a0.next.length (a0.next.map fun x0 => .sl x0.length (x0.map fun x1 => .sc (.int .i64 x1)))]), (6, .mp (some .i64) (w1087.map fun x0 => (.int .i64 x0.1, .int .i64 x0.2))), (9, .os 4 w1450.length (w1450.flatMap fun x0 => [.sc (.int .i64 x0.set), .sl x0.tiles.length (x0.tiles.map fun x1 => .sc (.int .i64 x1)), .sl x0.words.length (x0.words.map fun x1 => .sc (.string x1)), .sl x0.perms.length (x0.perms.map fun x1 => .sl x1.length (x1.map fun x2 => .sc (.int .i64 x2)))])), (13, .vr [.sc (.int .i64 v1811), .os 1 w1816.length (w1816.map fun x0 => .sc (.int .i64 x0)), .os 1 w2085.length (w2085.map fun x0 => .sc (.string x0)), .os 1 w2086.length (w2086.map fun x0 => .os 1 x0.length (x0.map fun x1 => .sc (.int .i64 x1)))]), (21, .os 1 v2132.1.length (v2132.1.map fun x0 => .sc (.int .i64 x0))), (52, .os 1 v1090.length (v1090.map fun x0 => .sc (.int .i64 x0)))]⟩
def z2x (a0 : DFA) (v1084 : Imgs × Int) (w1087 : List (Int × Int)) (v1809 : Int) (w1816 : List Int) (w1916 : Int) (v2043 : Int) : Int × List ByteArray × List (List Int) → Option ((Int × List ByteArray × List (List Int)) ⊕ ((Int × List ByteArray × List (List Int)) ⊕ ((Int × List Hol) ⊕ (List Hol × Int))))
  | (w2084, w2085, w2086) =>
  if w2084 < a0.letters then
    (atI v1084.1.class_ w1916).bind fun v2127 =>
    if v2127 = v1809 then
      (z2C a0 v2043 w2084).bind fun v2128 =>
      (atI v1084.1.class_ ((zaS v2128 w1087).getD 0)).bind fun v2129 =>
      if v2129 = v1809 then
        (atI v1084.1.words w1916).bind fun v2130 =>
        (atI v1084.1.back ((zaS v2128 w1087).getD 0)).bind fun v2131 =>
        chk (z7l v2130 ⟨#[UInt8.ofNat (IntKind.u8.wrap (IntKind.i64.wrap (97 + w2084))).toNat]⟩) <|
        chk (z7l (v2130 ++ ⟨#[UInt8.ofNat (IntKind.u8.wrap (IntKind.i64.wrap (97 + w2084))).toNat]⟩) v2131) <|
        if 2048 < ((v2130.size : Int) + 1 + (v2131.size : Int)) then
          z0v <|
          z0v <|
          z0v <|
          some ([], 3)
        else
          (z5n a0 w1816 ((v2130 ++ ⟨#[UInt8.ofNat (IntKind.u8.wrap (IntKind.i64.wrap (97 + w2084))).toNat]⟩) ++ v2131)).bind fun v2132 =>
          z0y (z4n w2084 w2085 w2086 v2130 v2131 v2132) LFm (true, 0)
      else
        z0q (IntKind.i64.wrap (w2084 + 1), w2085, w2086)
    else
      z0v <|
      z0q (IntKind.i64.wrap (w1916 + 1), w2085, w2086)
  else
    z0v <|
    z0q (IntKind.i64.wrap (w1916 + 1), w2085, w2086)
def z3p (a0 : DFA) (v1084 : Imgs × Int) (w1087 : List (Int × Int)) (v1090 : List Int) (w1449 : Int) (w1450 : List Hol) (v1809 : Int) (v1811 : Int) (w1816 : List Int) (w1916 : Int) (v2043 : Int) : Int × List ByteArray × List (List Int) → Fr
  | (w2084, w2085, w2086) => ⟨217, [(1, .one (.a 1 [] (0))), (4, .one (.ea none [.sl v1084.1.sets.length (v1084.1.sets.map fun x0 => .sc (.int .i64 x0)), .sl v1084.1.class_.length (v1084.1.class_.map fun x0 => .sc (.int .i64 x0)), .sl v1084.1.height.length (v1084.1.height.map fun x0 => .sc (.int .i64 x0)), .sl v1084.1.tiles.length (v1084.1.tiles.map fun x0 => .sl x0.length (x0.map fun x1 => .sc (.int .i64 x1))), .sl v1084.1.words.length (v1084.1.words.map fun x0 => .sc (.string x0)), .sl v1084.1.back.length (v1084.1.back.map fun x0 => .sc (.string x0))] 0)), (6, .one (.h 6 [])), (9, .one (.h 9 [])), (11, .one (.t none (.sc (.int .i64 v1809)))), (13, .one (.a 13 [] (0))), (16, .one (.t none (.sc (.int .i64 w1916)))), (17, .one (.t none (.sc (.int .i64 v2043)))), (18, .one (.t none (.sc (.int .i64 w2084)))), (52, .one (.h 52 [])), (53, .one (.t none (.sc (.int .i64 (v1090.length : Int))))), (54, .one (.t none (.sc (.int .i64 w1449)))), (89, .one (.t none (.sl v1084.1.sets.length (v1084.1.sets.map fun x0 => .sc (.int .i64 x0))))), (90, .one (.t none (.sc (.int .i64 (v1084.1.sets.length : Int))))), (91, .one (.t none (.sc (.int .i64 w1916))))], [(1, .vr [.sc (.int .i64 a0.letters), .sc (.int .i64 a0.start), .sl a0.final.length (a0.final.map fun x0 => .sc (.bool x0)), .sl a0.next.length (a0.next.map fun x0 => .sl x0.length (x0.map fun x1 => .sc (.int .i64 x1)))]), (6, .mp (some .i64) (w1087.map fun x0 => (.int .i64 x0.1, .int .i64 x0.2))), (9, .os 4 w1450.length (w1450.flatMap fun x0 => [.sc (.int .i64 x0.set), .sl x0.tiles.length (x0.tiles.map fun x1 => .sc (.int .i64 x1)), .sl x0.words.length (x0.words.map fun x1 => .sc (.string x1)), .sl x0.perms.length (x0.perms.map fun x1 => .sl x1.length (x1.map fun x2 => .sc (.int .i64 x2)))])), (13, .vr [.sc (.int .i64 v1811), .os 1 w1816.length (w1816.map fun x0 => .sc (.int .i64 x0)), .os 1 w2085.length (w2085.map fun x0 => .sc (.string x0)), .os 1 w2086.length (w2086.map fun x0 => .os 1 x0.length (x0.map fun x1 => .sc (.int .i64 x1)))]), (52, .os 1 v1090.length (v1090.map fun x0 => .sc (.int .i64 x0)))]⟩
def z5B (a0 : DFA) (v1084 : Imgs × Int) (w1087 : List (Int × Int)) (w1449 : Int) (w1450 : List Hol) (v1809 : Int) (v1811 : Int) (w1816 : List Int) : Int × List ByteArray × List (List Int) → Option ((Int × List ByteArray × List (List Int)) ⊕ ((Int × List Hol) ⊕ (List Hol × Int)))
  | (w1916, w1917, w1918) =>
  if w1916 < (v1084.1.sets.length : Int) then
    (atI v1084.1.sets w1916).bind fun v2043 =>
    z0y (z2x a0 v1084 w1087 v1809 w1816 w1916 v2043) LFm (0, w1917, w1918)
  else
    z0v <|
    chk (z0T 80 (w1450.length + 1)) <|
    z0q (IntKind.i64.wrap (w1449 + 1), w1450 ++ [(⟨v1811, w1816, w1917, w1918⟩ : Hol)])
def z4m (a0 : DFA) (v1084 : Imgs × Int) (w1087 : List (Int × Int)) (v1090 : List Int) (w1449 : Int) (w1450 : List Hol) (v1809 : Int) (v1811 : Int) (w1816 : List Int) : Int × List ByteArray × List (List Int) → Fr
  | (w1916, w1917, w1918) => ⟨217, [(1, .one (.a 1 [] (0))), (4, .one (.ea none [.sl v1084.1.sets.length (v1084.1.sets.map fun x0 => .sc (.int .i64 x0)), .sl v1084.1.class_.length (v1084.1.class_.map fun x0 => .sc (.int .i64 x0)), .sl v1084.1.height.length (v1084.1.height.map fun x0 => .sc (.int .i64 x0)), .sl v1084.1.tiles.length (v1084.1.tiles.map fun x0 => .sl x0.length (x0.map fun x1 => .sc (.int .i64 x1))), .sl v1084.1.words.length (v1084.1.words.map fun x0 => .sc (.string x0)), .sl v1084.1.back.length (v1084.1.back.map fun x0 => .sc (.string x0))] 0)), (6, .one (.h 6 [])), (9, .one (.h 9 [])), (11, .one (.t none (.sc (.int .i64 v1809)))), (13, .one (.a 13 [] (0))), (52, .one (.h 52 [])), (53, .one (.t none (.sc (.int .i64 (v1090.length : Int))))), (54, .one (.t none (.sc (.int .i64 w1449)))), (89, .one (.t none (.sl v1084.1.sets.length (v1084.1.sets.map fun x0 => .sc (.int .i64 x0))))), (90, .one (.t none (.sc (.int .i64 (v1084.1.sets.length : Int))))), (91, .one (.t none (.sc (.int .i64 w1916))))], [(1, .vr [.sc (.int .i64 a0.letters), .sc (.int .i64 a0.start), .sl a0.final.length (a0.final.map fun x0 => .sc (.bool x0)), .sl a0.next.length (a0.next.map fun x0 => .sl x0.length (x0.map fun x1 => .sc (.int .i64 x1)))]), (6, .mp (some .i64) (w1087.map fun x0 => (.int .i64 x0.1, .int .i64 x0.2))), (9, .os 4 w1450.length (w1450.flatMap fun x0 => [.sc (.int .i64 x0.set), .sl x0.tiles.length (x0.tiles.map fun x1 => .sc (.int .i64 x1)), .sl x0.words.length (x0.words.map fun x1 => .sc (.string x1)), .sl x0.perms.length (x0.perms.map fun x1 => .sl x1.length (x1.map fun x2 => .sc (.int .i64 x2)))])), (13, .vr [.sc (.int .i64 v1811), .os 1 w1816.length (w1816.map fun x0 => .sc (.int .i64 x0)), .os 1 w1917.length (w1917.map fun x0 => .sc (.string x0)), .os 1 w1918.length (w1918.map fun x0 => .os 1 x0.length (x0.map fun x1 => .sc (.int .i64 x1)))]), (52, .os 1 v1090.length (v1090.map fun x0 => .sc (.int .i64 x0)))]⟩
def z4o (a0 : DFA) (v1084 : Imgs × Int) (w1087 : List (Int × Int)) (w1449 : Int) (w1450 : List Hol) (v1809 : Int) (v1811 : Int) (v1812 : List Int) : Int × List Int → Option ((Int × List Int) ⊕ ((Int × List Hol) ⊕ (List Hol × Int)))
  | (w1815, w1816) =>
  if w1815 < (v1812.length : Int) then
    (atI v1812 w1815).bind fun v1819 =>
    (atI v1084.1.sets v1819).bind fun v1820 =>
    chk (z0T 8 (w1816.length + 1)) <|
    z0q (IntKind.i64.wrap (w1815 + 1), w1816 ++ [v1820])
  else
    z0v <|
    z0y (z5B a0 v1084 w1087 w1449 w1450 v1809 v1811 w1816) LFm (0, [], [])
def z5x (a0 : DFA) (v1084 : Imgs × Int) (w1087 : List (Int × Int)) (v1090 : List Int) (w1449 : Int) (w1450 : List Hol) (v1809 : Int) (v1811 : Int) (v1812 : List Int) : Int × List Int → Fr
  | (w1815, w1816) => ⟨217, [(1, .one (.a 1 [] (0))), (4, .one (.ea none [.sl v1084.1.sets.length (v1084.1.sets.map fun x0 => .sc (.int .i64 x0)), .sl v1084.1.class_.length (v1084.1.class_.map fun x0 => .sc (.int .i64 x0)), .sl v1084.1.height.length (v1084.1.height.map fun x0 => .sc (.int .i64 x0)), .sl v1084.1.tiles.length (v1084.1.tiles.map fun x0 => .sl x0.length (x0.map fun x1 => .sc (.int .i64 x1))), .sl v1084.1.words.length (v1084.1.words.map fun x0 => .sc (.string x0)), .sl v1084.1.back.length (v1084.1.back.map fun x0 => .sc (.string x0))] 0)), (6, .one (.h 6 [])), (9, .one (.h 9 [])), (11, .one (.t none (.sc (.int .i64 v1809)))), (13, .one (.a 13 [] (0))), (52, .one (.h 52 [])), (53, .one (.t none (.sc (.int .i64 (v1090.length : Int))))), (54, .one (.t none (.sc (.int .i64 w1449)))), (71, .one (.t none (.sl v1812.length (v1812.map fun x0 => .sc (.int .i64 x0))))), (72, .one (.t none (.sc (.int .i64 (v1812.length : Int))))), (73, .one (.t none (.sc (.int .i64 w1815))))], [(1, .vr [.sc (.int .i64 a0.letters), .sc (.int .i64 a0.start), .sl a0.final.length (a0.final.map fun x0 => .sc (.bool x0)), .sl a0.next.length (a0.next.map fun x0 => .sl x0.length (x0.map fun x1 => .sc (.int .i64 x1)))]), (6, .mp (some .i64) (w1087.map fun x0 => (.int .i64 x0.1, .int .i64 x0.2))), (9, .os 4 w1450.length (w1450.flatMap fun x0 => [.sc (.int .i64 x0.set), .sl x0.tiles.length (x0.tiles.map fun x1 => .sc (.int .i64 x1)), .sl x0.words.length (x0.words.map fun x1 => .sc (.string x1)), .sl x0.perms.length (x0.perms.map fun x1 => .sl x1.length (x1.map fun x2 => .sc (.int .i64 x2)))])), (13, .vr [.sc (.int .i64 v1811), .os 1 w1816.length (w1816.map fun x0 => .sc (.int .i64 x0)), .os 1 0 [], .os 1 0 []]), (52, .os 1 v1090.length (v1090.map fun x0 => .sc (.int .i64 x0)))]⟩
def z5C (a0 : DFA) (v1084 : Imgs × Int) (w1087 : List (Int × Int)) (v1090 : List Int) : Int × List Hol → Option ((Int × List Hol) ⊕ (List Hol × Int))
  | (w1449, w1450) =>
  if w1449 < (v1090.length : Int) then
    (atI v1090 w1449).bind fun v1809 =>
    (z5o v1084.1 v1809).bind fun v1810 =>
    (atI v1084.1.sets v1810).bind fun v1811 =>
    (atI v1084.1.tiles v1810).bind fun v1812 =>
    z0y (z4o a0 v1084 w1087 w1449 w1450 v1809 v1811 v1812) LFm (0, [])
  else
    z0v <|
    some (w1450, 0)
def z5y (a0 : DFA) (v1084 : Imgs × Int) (w1087 : List (Int × Int)) (v1090 : List Int) : Int × List Hol → Fr
  | (w1449, w1450) => ⟨217, [(1, .one (.a 1 [] (0))), (4, .one (.ea none [.sl v1084.1.sets.length (v1084.1.sets.map fun x0 => .sc (.int .i64 x0)), .sl v1084.1.class_.length (v1084.1.class_.map fun x0 => .sc (.int .i64 x0)), .sl v1084.1.height.length (v1084.1.height.map fun x0 => .sc (.int .i64 x0)), .sl v1084.1.tiles.length (v1084.1.tiles.map fun x0 => .sl x0.length (x0.map fun x1 => .sc (.int .i64 x1))), .sl v1084.1.words.length (v1084.1.words.map fun x0 => .sc (.string x0)), .sl v1084.1.back.length (v1084.1.back.map fun x0 => .sc (.string x0))] 0)), (6, .one (.h 6 [])), (9, .one (.h 9 [])), (52, .one (.h 52 [])), (53, .one (.t none (.sc (.int .i64 (v1090.length : Int))))), (54, .one (.t none (.sc (.int .i64 w1449))))], [(1, .vr [.sc (.int .i64 a0.letters), .sc (.int .i64 a0.start), .sl a0.final.length (a0.final.map fun x0 => .sc (.bool x0)), .sl a0.next.length (a0.next.map fun x0 => .sl x0.length (x0.map fun x1 => .sc (.int .i64 x1)))]), (6, .mp (some .i64) (w1087.map fun x0 => (.int .i64 x0.1, .int .i64 x0.2))), (9, .os 4 w1450.length (w1450.flatMap fun x0 => [.sc (.int .i64 x0.set), .sl x0.tiles.length (x0.tiles.map fun x1 => .sc (.int .i64 x1)), .sl x0.words.length (x0.words.map fun x1 => .sc (.string x1)), .sl x0.perms.length (x0.perms.map fun x1 => .sl x1.length (x1.map fun x2 => .sc (.int .i64 x2)))])), (52, .os 1 v1090.length (v1090.map fun x0 => .sc (.int .i64 x0)))]⟩
def z6U (a0 : DFA) (v1084 : Imgs × Int) : Int × (List (Int × Int)) → Option ((Int × (List (Int × Int))) ⊕ (List Hol × Int))
  | (w1086, w1087) =>
  if w1086 < (v1084.1.sets.length : Int) then
    (atI v1084.1.sets w1086).bind fun v1089 =>
    z0q (IntKind.i64.wrap (w1086 + 1), zf2 v1089 w1086 w1087)
  else
    z0v <|
    (z3y v1084.1).bind fun v1090 =>
    z0y (z5C a0 v1084 w1087 v1090) LFm (0, [])
def z6T (a0 : DFA) (v1084 : Imgs × Int) : Int × (List (Int × Int)) → Fr
  | (w1086, w1087) => ⟨217, [(1, .one (.a 1 [] (0))), (4, .one (.ea none [.sl v1084.1.sets.length (v1084.1.sets.map fun x0 => .sc (.int .i64 x0)), .sl v1084.1.class_.length (v1084.1.class_.map fun x0 => .sc (.int .i64 x0)), .sl v1084.1.height.length (v1084.1.height.map fun x0 => .sc (.int .i64 x0)), .sl v1084.1.tiles.length (v1084.1.tiles.map fun x0 => .sl x0.length (x0.map fun x1 => .sc (.int .i64 x1))), .sl v1084.1.words.length (v1084.1.words.map fun x0 => .sc (.string x0)), .sl v1084.1.back.length (v1084.1.back.map fun x0 => .sc (.string x0))] 0)), (6, .one (.h 6 [])), (40, .one (.t none (.sl v1084.1.sets.length (v1084.1.sets.map fun x0 => .sc (.int .i64 x0))))), (41, .one (.t none (.sc (.int .i64 (v1084.1.sets.length : Int))))), (42, .one (.t none (.sc (.int .i64 w1086))))], [(1, .vr [.sc (.int .i64 a0.letters), .sc (.int .i64 a0.start), .sl a0.final.length (a0.final.map fun x0 => .sc (.bool x0)), .sl a0.next.length (a0.next.map fun x0 => .sl x0.length (x0.map fun x1 => .sc (.int .i64 x1)))]), (6, .mp (some .i64) (w1087.map fun x0 => (.int .i64 x0.1, .int .i64 x0.2)))]⟩
def zay (a0 : DFA) : Option (List Hol × Int) :=
  (zaA a0).bind fun v1084 =>
  if v1084.2 = 0 then
    z0y (z6U a0 v1084) LFm (0, ([] : List (Int × Int)))
  else
    some ([], v1084.2)
instance ref25_Of_ok {a0 : DFA} : Ok (zay a0) (fun r => L 10 [.agg [.sc (.int .i64 a0.letters), .sc (.int .i64 a0.start), .sl a0.final.length (a0.final.map fun x0 => .sc (.bool x0)), .sl a0.next.length (a0.next.map fun x0 => .sl x0.length (x0.map fun x1 => .sc (.int .i64 x1)))]] = some (.tup [.sl r.1.length (r.1.flatMap fun x0 => [.sc (.int .i64 x0.set), .sl x0.tiles.length (x0.tiles.map fun x1 => .sc (.int .i64 x1)), .sl x0.words.length (x0.words.map fun x1 => .sc (.string x1)), .sl x0.perms.length (x0.perms.map fun x1 => .sl x1.length (x1.map fun x2 => .sc (.int .i64 x2)))]), .sc (.int .i64 r.2)], [.dead])) := ⟨fun r h0 => by
  simp only [zay] at h0
  refine zlC zBh zBx (zo0 zBJ ⟨of_decide_eq_true rfl, of_decide_eq_true rfl⟩ rfl ?_)
  simp only [z4L, z3M, z3F, z5T, z4P]
  refine zq rfl (zr rfl rfl rfl (by simp; rfl) ?_)
  refine z0a (zq rfl ?_)
  obtain ⟨v1084, f1707, h1⟩ := z0i h0
  have f1707k := Ok.ok _ f1707
  try simp at f1707k
  refine zr rfl rfl rfl (by simp [f1707k]; rfl) ?_
  refine z0a (zq rfl (zq rfl (zr rfl rfl rfl (by simp; rfl) ?_)))
  refine z0a ?_
  by_cases c1708 : v1084.2 = 0
  ·rw [if_pos c1708] at h1
   have c1708e := eq_true c1708
   refine z0V rfl (by simp [c1708e]) (z0G rfl (z0a (zq rfl (zwl rfl rfl (by simp; rfl) (zr rfl rfl rfl (by simp; rfl) ?_)))))
   refine z0a (zq rfl (zq rfl (zr rfl rfl rfl (by simp; rfl) ?_)))
   refine z0a (zb rfl (z0R h1 (z6T a0 v1084) rfl rfl (by simp [z6T]) fun s o1 h2 hr1 => ?_))
   obtain ⟨w1086, w1087⟩ := s
   simp only [z6U] at h2
   simp only [z6T]
   refine zq rfl (zr rfl rfl rfl (by simp; rfl) ?_)
   refine z0a (zq rfl ?_)
   by_cases c1713 : w1086 < (v1084.1.sets.length : Int)
   ·rw [if_pos c1713] at h2
    refine z1c rfl (by simp [c1713]) (z0G rfl (z0a (zq rfl (zb rfl (zq rfl ?_)))))
    obtain ⟨v1089, f1714, h3⟩ := z0U h2
    refine zr rfl rfl rfl (by simp [f1714]; rfl) ?_
    refine z0a (zr rfl rfl rfl (by simp; rfl) ?_)
    refine z0m (z0a (zr rfl rfl rfl (by simp; rfl) ?_))
    have ho := z0h h3
    refine z0n ho ?_
    simp [z6T]
   ·rw [if_neg c1713] at h2
    refine z0V rfl (by simp [c1713]) (z0Z rfl (z0H ?_))
    obtain ⟨rr1, h3, ho1⟩ := z0w h2
    have hs1 := hr1 _ ho1
    subst hs1
    refine z0C ho1 (z0l rfl (z0a (zq rfl (zr rfl rfl rfl (by simp; rfl) ?_))))
    refine z0a (zq rfl (zq rfl ?_))
    obtain ⟨v1090, f1715, h4⟩ := z0i h3
    have f1715k := Ok.ok _ f1715
    try simp at f1715k
    refine zr rfl rfl rfl (by simp [f1715k]; rfl) ?_
    refine z0a (zb rfl (z0R h4 (z5y a0 v1084 w1087 v1090) rfl rfl (by simp [z5y]) fun s o2 h5 hr2 => ?_))
    obtain ⟨w1449, w1450⟩ := s
    simp only [z5C] at h5
    simp only [z5y]
    refine zq rfl (zr rfl rfl rfl (by simp; rfl) ?_)
    refine z0a (zq rfl ?_)
    by_cases c2847 : w1449 < (v1090.length : Int)
    ·rw [if_pos c2847] at h5
     refine z1c rfl (by simp [c2847]) (z0G rfl (z0a (zq rfl (zb rfl (zq rfl ?_)))))
     obtain ⟨v1809, f2848, h6⟩ := z0U h5
     refine zr rfl rfl rfl (by simp [f2848]; rfl) ?_
     refine z0a (zq rfl ?_)
     obtain ⟨v1810, f2849, h7⟩ := z0i h6
     have f2849k := Ok.ok _ f2849
     try simp at f2849k
     refine zr rfl rfl rfl (by simp [f2849k]; rfl) ?_
     refine z0a (zq rfl ?_)
     obtain ⟨v1811, f2850, h8⟩ := z0U h7
     refine zr rfl rfl rfl (by simp [f2850]; rfl) ?_
     refine z0a (zq rfl (zq rfl ?_))
     obtain ⟨v1812, f2851, h9⟩ := z0U h8
     refine zr rfl rfl rfl (by simp [f2851]; rfl) ?_
     refine z0a (zb rfl (z0R h9 (z5x a0 v1084 w1087 v1090 w1449 w1450 v1809 v1811 v1812) rfl rfl (by simp [z5x]) fun s o3 h10 hr3 => ?_))
     obtain ⟨w1815, w1816⟩ := s
     simp only [z4o] at h10
     simp only [z5x]
     refine zq rfl (zr rfl rfl rfl (by simp; rfl) ?_)
     refine z0a (zq rfl ?_)
     by_cases c2859 : w1815 < (v1812.length : Int)
     ·rw [if_pos c2859] at h10
      refine z1c rfl (by simp [c2859]) (z0G rfl (z0a (zq rfl (zb rfl (zq rfl ?_)))))
      obtain ⟨v1819, f2860, h11⟩ := z0U h10
      refine zr rfl rfl rfl (by simp [f2860]; rfl) ?_
      refine z0a ?_
      obtain ⟨v1820, f2861, h12⟩ := z0U h11
      obtain ⟨f2862, h13⟩ := z7m h12
      refine z0I rfl rfl rfl rfl ?_; repeat' ((first | refine z0r rfl rfl fun Q' hQ => ?_ | refine z0k rfl fun Q' hQ => ?_); simp [f2861, f2862]; refine hQ.out _ ?_; clear hQ; clear Q')
      refine z0m (z0a (zr rfl rfl rfl (by simp; rfl) ?_))
      have ho := z0h h13
      refine z0n ho ?_
      simp [z5x]
     ·rw [if_neg c2859] at h10
      refine z0V rfl (by simp [c2859]) (z0Z rfl (z0H ?_))
      obtain ⟨rr3, h11, ho3⟩ := z0w h10
      have hs3 := hr3 _ ho3
      subst hs3
      refine z0C ho3 (z0l rfl (z0a (zq rfl (zq rfl (zr rfl rfl rfl (by simp; rfl) ?_)))))
      refine z0a (zb rfl (z0R h11 (z4m a0 v1084 w1087 v1090 w1449 w1450 v1809 v1811 w1816) rfl rfl (by simp [z4m]) fun s o4 h12 hr4 => ?_))
      obtain ⟨w1916, w1917, w1918⟩ := s
      simp only [z5B] at h12
      simp only [z4m]
      refine zq rfl (zr rfl rfl rfl (by simp; rfl) ?_)
      refine z0a (zq rfl ?_)
      by_cases c3215 : w1916 < (v1084.1.sets.length : Int)
      ·rw [if_pos c3215] at h12
       refine z1c rfl (by simp [c3215]) (z0G rfl (z0a (zq rfl (zb rfl (zq rfl ?_)))))
       obtain ⟨v2043, f3216, h13⟩ := z0U h12
       refine zr rfl rfl rfl (by simp [f3216]; rfl) ?_
       refine z0a (zq rfl (zr rfl rfl rfl (by simp; rfl) ?_))
       refine z0a (zb rfl (z0R h13 (z3p a0 v1084 w1087 v1090 w1449 w1450 v1809 v1811 w1816 w1916 v2043) rfl rfl (by simp [z3p]) fun s o5 h14 hr5 => ?_))
       obtain ⟨w2084, w2085, w2086⟩ := s
       simp only [z2x] at h14
       simp only [z3p]
       refine zq rfl (zq rfl ?_)
       by_cases c3347 : w2084 < a0.letters
       ·rw [if_pos c3347] at h14
        obtain ⟨v2127, f3348, h15⟩ := z0U h14
        refine zr rfl rfl rfl (by simp [c3347, f3348]; rfl) ?_
        refine z0a ?_
        by_cases c3349 : v2127 = v1809
        ·rw [if_pos c3349] at h15
         have c3349e := eq_true c3349
         refine z1c rfl (by simp [c3349e]) (z0G rfl (z0a (zq rfl (zb rfl (zq rfl ?_)))))
         obtain ⟨v2128, f3350, h16⟩ := z0i h15
         have f3350k := Ok.ok _ f3350
         try simp at f3350k
         refine zr rfl rfl rfl (by simp [f3350k]; rfl) ?_
         refine z0a (zq rfl (zq rfl ?_))
         obtain ⟨v2129, f3351, h17⟩ := z0U h16
         refine zr rfl rfl rfl (by simp [f3351]; rfl) ?_
         refine z0a ?_
         by_cases c3352 : v2129 = v1809
         ·rw [if_pos c3352] at h17
          have c3352e := eq_true c3352
          refine z0V rfl (by simp [c3352e]) (z0G rfl (z0a (zq rfl ?_)))
          obtain ⟨v2130, f3353, h18⟩ := z0U h17
          obtain ⟨v2131, f3354, h19⟩ := z0U h18
          obtain ⟨f3355, h20⟩ := z2Q h19
          obtain ⟨f3356, h21⟩ := z2Q h20
          refine z0I rfl rfl rfl rfl ?_; repeat' ((first | refine z0r rfl rfl fun Q' hQ => ?_ | refine z0k rfl fun Q' hQ => ?_); simp [f3353, f3354, f3355, f3356]; refine hQ.out _ ?_; clear hQ; clear Q')
          refine z0a (zq rfl (zq rfl (zr rfl rfl rfl (by simp; rfl) ?_)))
          refine z0a ?_
          by_cases c3357 : 2048 < ((v2130.size : Int) + 1 + (v2131.size : Int))
          ·rw [if_pos c3357] at h21
           refine z1c rfl (by simp [c3357]) (zq rfl (zr rfl rfl rfl (by simp; rfl) ?_))
           refine z0a (z3m rfl (z3O (z7f (z3O ?_))))
           obtain ⟨rr5, h22, ho5⟩ := z0w h21
           have hs5 := hr5 _ ho5
           subst hs5
           refine zda ho5 (z7f (z7f (z3O ?_)))
           obtain ⟨rr4, h23, ho4⟩ := z0w h22
           have hs4 := hr4 _ ho4
           subst hs4
           refine zda ho4 (z7f (z3O (z7f (z3O ?_))))
           obtain ⟨rr2, h24, ho2⟩ := z0w h23
           have hs2 := hr2 _ ho2
           subst hs2
           refine zda ho2 (z7f (z3O ?_))
           cases h24
           simp
          ·rw [if_neg c3357] at h21
           refine z0V rfl (by simp [c3357]) (z0G rfl (z0a (zq rfl ?_)))
           obtain ⟨v2132, f3358, h22⟩ := z0i h21
           have f3358k := Ok.ok _ f3358
           try simp at f3358k
           refine zr rfl rfl rfl (by simp [f3358k]; rfl) ?_
           refine z0a (zq rfl (zr rfl rfl rfl (by simp; rfl) ?_))
           refine z0a (zq rfl (zq rfl (zr rfl rfl rfl (by simp; rfl) ?_)))
           refine z0a (zb rfl (z0R h22 (z4l a0 v1084 w1087 v1090 w1449 w1450 v1809 v1811 w1816 w1916 v2043 w2084 w2085 w2086 v2130 v2131 v2132) rfl rfl (by simp [z4l]) fun s o6 h23 hr6 => ?_))
           obtain ⟨w2134, w2135⟩ := s
           simp only [z4n] at h23
           simp only [z4l]
           refine zq rfl (zr rfl rfl rfl (by simp; rfl) ?_)
           refine z0a (zq rfl ?_)
           by_cases c3364 : w2135 < (v2132.1.length : Int)
           ·rw [if_pos c3364] at h23
            refine z1c rfl (by simp [c3364]) (z0G rfl (z0a (zq rfl (zb rfl (zq rfl ?_)))))
            obtain ⟨v2137, f3365, h24⟩ := z0U h23
            refine zr rfl rfl rfl (by simp [f3365]; rfl) ?_
            refine z0a ?_
            by_cases c3366 : w2134 = true
            ·rw [if_pos c3366] at h24
             refine zr rfl rfl rfl (by simp [c3366]; rfl) ?_
             refine z0m (z0a (zr rfl rfl rfl (by simp; rfl) ?_))
             have ho := z0h h24
             refine z0n ho ?_
             simp [z4l, c3366]
            ·rw [if_neg c3366] at h24
             refine zr rfl rfl rfl (by simp [c3366]; rfl) ?_
             refine z0m (z0a (zr rfl rfl rfl (by simp; rfl) ?_))
             have ho := z0h h24
             refine z0n ho ?_
             simp [z4l, c3366]
           ·rw [if_neg c3364] at h23
            refine z0V rfl (by simp [c3364]) (z0Z rfl (z0H ?_))
            obtain ⟨rr6, h24, ho6⟩ := z0w h23
            have hs6 := hr6 _ ho6
            subst hs6
            refine z0C ho6 (z0l rfl (z0a (zq rfl (zq rfl (zr rfl rfl rfl (by simp; rfl) ?_)))))
            refine z0a (zb rfl (z0R h24 (z4k a0 v1084 w1087 v1090 w1449 w1450 v1809 v1811 w1816 w1916 v2043 w2084 w2085 w2086 v2130 v2131 v2132) rfl rfl (by simp [z4k]) fun s o7 h25 hr7 => ?_))
            obtain ⟨w2147, w2148⟩ := s
            simp only [z5A] at h25
            simp only [z4k]
            refine zq rfl (zr rfl rfl rfl (by simp; rfl) ?_)
            refine z0a (zq rfl ?_)
            by_cases c3395 : w2148 < (w2086.length : Int)
            ·rw [if_pos c3395] at h25
             refine z1c rfl (by simp [c3395]) (z0G rfl (z0a (zq rfl (zb rfl (zq rfl ?_)))))
             obtain ⟨v2158, f3396, h26⟩ := z0U h25
             refine zr rfl rfl rfl (by simp [f3396]; rfl) ?_
             refine z0a (zq rfl (zr rfl rfl rfl (by simp [f3396]; rfl) ?_))
             refine z0a (zq rfl (zq rfl (zr rfl rfl rfl (by simp [f3396]; rfl) ?_)))
             refine z0a (zb rfl (z0R h26 (z4j a0 v1084 w1087 v1090 w1449 w1450 v1809 v1811 w1816 w1916 v2043 w2084 w2085 w2086 v2130 v2131 v2132 w2147 w2148) rfl rfl (by simp [z4j]) fun s o8 h27 hr8 => ?_))
             obtain ⟨w2161, w2162⟩ := s
             simp only [z5z] at h27
             simp only [z4j]
             refine zq rfl (zr rfl rfl rfl (by simp [f3396]; rfl) ?_)
             refine z0a (zq rfl ?_)
             by_cases c3404 : w2162 < (v2132.1.length : Int)
             ·rw [if_pos c3404] at h27
              refine z1c rfl (by simp [c3404]) (z0G rfl (z0a (zq rfl (zb rfl (zq rfl (zr rfl rfl rfl (by simp [f3396]; rfl) ?_))))))
              refine z0a ?_
              by_cases c3405 : w2161 = true
              ·rw [if_pos c3405] at h27
               obtain ⟨v2165, f3406, h28⟩ := z0U h27
               obtain ⟨v2166, f3407, h29⟩ := z0U h28
               refine z0I rfl rfl rfl rfl ?_; repeat' (first | (refine z0r rfl rfl fun Q' hQ => ?_; simp [f3396, c3405, f3406, f3407]; refine hQ.out _ ?_; clear hQ; clear Q') | (refine z0u rfl rfl fun Q1 Q2 h1 h2 => ?_; simp [f3396, c3405, f3406, f3407, z0J]; (first | refine h1.out ?_ | refine h2.out ?_); clear h1 h2; clear Q1 Q2; intro Q' hQ; simp [f3396, c3405, f3406, f3407]; refine hQ.out _ ?_; clear hQ; clear Q') | (refine z0k rfl fun Q' hQ => ?_; simp [f3396, c3405, f3406, f3407]; refine hQ.out _ ?_; clear hQ; clear Q'))
               refine z0m (z0a (zr rfl rfl rfl (by simp [f3396]; rfl) ?_))
               have ho := z0h h29
               refine z0n ho ?_
               simp [z4j, c3405]
              ·rw [if_neg c3405] at h27
               refine z0I rfl rfl rfl rfl ?_; repeat' (first | (refine z0r rfl rfl fun Q' hQ => ?_; simp [f3396, c3405]; refine hQ.out _ ?_; clear hQ; clear Q') | (refine z0u rfl rfl fun Q1 Q2 h1 h2 => ?_; simp [f3396, c3405, z0J]; (first | refine h1.out ?_ | refine h2.out ?_); clear h1 h2; clear Q1 Q2; intro Q' hQ; simp [f3396, c3405]; refine hQ.out _ ?_; clear hQ; clear Q') | (refine z0k rfl fun Q' hQ => ?_; simp [f3396, c3405]; refine hQ.out _ ?_; clear hQ; clear Q'))
               refine z0m (z0a (zr rfl rfl rfl (by simp [f3396]; rfl) ?_))
               have ho := z0h h27
               refine z0n ho ?_
               simp [z4j, c3405]
             ·rw [if_neg c3404] at h27
              refine z0V rfl (by simp [c3404]) (z0Z rfl (z0H ?_))
              obtain ⟨rr8, h28, ho8⟩ := z0w h27
              have hs8 := hr8 _ ho8
              subst hs8
              refine z0C ho8 (z0l rfl (z0a ?_))
              by_cases c3408 : w2147 = true
              ·rw [if_pos c3408] at h28
               refine zr rfl rfl rfl (by simp [f3396, c3408]; rfl) ?_
               refine z0m (z0a (zr rfl rfl rfl (by simp [f3396]; rfl) ?_))
               have ho := z0h h28
               refine z0n ho ?_
               simp [z4k, c3408]
              ·rw [if_neg c3408] at h28
               refine zr rfl rfl rfl (by simp [f3396, c3408]; rfl) ?_
               refine z0m (z0a (zr rfl rfl rfl (by simp [f3396]; rfl) ?_))
               have ho := z0h h28
               refine z0n ho ?_
               simp [z4k, c3408]
            ·rw [if_neg c3395] at h25
             refine z0V rfl (by simp [c3395]) (z0Z rfl (z0H ?_))
             obtain ⟨rr7, h26, ho7⟩ := z0w h25
             have hs7 := hr7 _ ho7
             subst hs7
             refine z0C ho7 (z0l rfl (z0a (zq rfl (zr rfl rfl rfl (by simp; rfl) ?_))))
             refine z0a ?_
             by_cases c3409 : w2147 = true
             ·rw [if_pos c3409] at h26
              refine z0V rfl (by simp [c3409]) (z0G rfl (z0m (z0a (zr rfl rfl rfl (by simp; rfl) ?_))))
              have ho := z0h h26
              refine z0n ho ?_
              simp [z3p, c3409]
             ·rw [if_neg c3409] at h26
              refine z1c rfl (by simp [c3409]) ?_
              obtain ⟨f3410, h27⟩ := z7m h26
              obtain ⟨f3411, h28⟩ := z7m h27
              refine zaC rfl rfl rfl rfl ?_
              refine zhJ [(0, 0, 0, 1), (1, 1, 0, 2), (2, 2, 0, 3), (3, 5, 3, 4), (4, 7, 3, 5), (5, 3, 1, 6), (5, 6, 1, 7), (5, 8, 1, 8), (6, 4, 2, 9), (6, 6, 1, 10), (6, 8, 1, 11), (7, 3, 1, 10), (7, 8, 1, 12), (8, 3, 1, 11), (8, 6, 1, 12), (9, 6, 1, 13), (9, 8, 1, 14), (10, 4, 2, 13), (10, 8, 1, 15), (11, 4, 2, 14), (11, 6, 1, 15), (12, 3, 1, 15), (13, 10, 3, 17), (14, 6, 1, 16), (15, 4, 2, 16), (16, 10, 3, 18), (17, 8, 1, 18), (18, 9, 2, 19), (19, 11, 2, 20), (20, 12, 0, 21), (21, 13, 2, 22)] 22 (by kernel_rfl) ?_
              refine z0e rfl rfl rfl rfl (by simp [z0b, z0c, f3410, f3411]; rfl) ?_
              refine z0e rfl rfl rfl rfl (by simp [z0b, z0c, f3410, f3411]; rfl) ?_
              refine z0e rfl rfl rfl rfl (by simp [z0b, z0c, f3410, f3411]; rfl) ?_
              refine z0e rfl rfl rfl rfl (by simp [z0b, z0c, f3410, f3411]; rfl) ?_
              refine z0e rfl rfl rfl rfl (by simp [z0b, z0c, f3410, f3411]; rfl) ?_
              refine z0e rfl rfl rfl rfl (by simp [z0b, z0c, f3410, f3411]; rfl) ?_
              refine z0e rfl rfl rfl rfl (by simp [z0b, z0c, f3410, f3411]; rfl) ?_
              refine z0e rfl rfl rfl rfl (by simp [z0b, z0c, f3410, f3411]; rfl) ?_
              refine z0e rfl rfl rfl rfl (by simp [z0b, z0c, f3410, f3411]; rfl) ?_
              refine z0e rfl rfl rfl rfl (by simp [z0b, z0c, f3410, f3411]; rfl) ?_
              refine z0e rfl rfl rfl rfl (by simp [z0b, z0c, f3410, f3411]; rfl) ?_
              refine z0f rfl rfl rfl rfl (by simp [z0b, z0c, f3410, f3411]) ?_
              refine z0e rfl rfl rfl rfl (by simp [z0b, z0c, f3410, f3411]; rfl) ?_
              refine z0f rfl rfl rfl rfl (by simp [z0b, z0c, f3410, f3411]) ?_
              refine z0f rfl rfl rfl rfl (by simp [z0b, z0c, f3410, f3411]) ?_
              refine z0e rfl rfl rfl rfl (by simp [z0b, z0c, f3410, f3411]; rfl) ?_
              refine z0e rfl rfl rfl rfl (by simp [z0b, z0c, f3410, f3411]; rfl) ?_
              refine z0f rfl rfl rfl rfl (by simp [z0b, z0c, f3410, f3411]) ?_
              refine z0e rfl rfl rfl rfl (by simp [z0b, z0c, f3410, f3411]; rfl) ?_
              refine z0f rfl rfl rfl rfl (by simp [z0b, z0c, f3410, f3411]) ?_
              refine z0f rfl rfl rfl rfl (by simp [z0b, z0c, f3410, f3411]) ?_
              refine z0f rfl rfl rfl rfl (by simp [z0b, z0c, f3410, f3411]) ?_
              refine z0e rfl rfl rfl rfl (by simp [z0b, z0c, f3410, f3411]; rfl) ?_
              refine z0e rfl rfl rfl rfl (by simp [z0b, z0c, f3410, f3411]; rfl) ?_
              refine z0f rfl rfl rfl rfl (by simp [z0b, z0c, f3410, f3411]) ?_
              refine z0e rfl rfl rfl rfl (by simp [z0b, z0c, f3410, f3411]; rfl) ?_
              refine z0f rfl rfl rfl rfl (by simp [z0b, z0c, f3410, f3411]) ?_
              refine z0e rfl rfl rfl rfl (by simp [z0b, z0c, f3410, f3411]; rfl) ?_
              refine z0e rfl rfl rfl rfl (by simp [z0b, z0c, f3410, f3411]; rfl) ?_
              refine z0e rfl rfl rfl rfl (by simp [z0b, z0c, f3410, f3411]; rfl) ?_
              refine z0e rfl rfl rfl rfl (by simp [z0b, z0c, f3410, f3411]; rfl) ?_
              refine zi3 rfl ?_
              refine zas rfl (by simp [f3410, f3411]; rfl) ?_
              refine z0m (z0a (zr rfl rfl rfl (by simp; rfl) ?_))
              have ho := z0h h28
              refine z0n ho ?_
              simp [z3p, c3409]
         ·rw [if_neg c3352] at h17
          have c3352e := eq_false c3352
          refine z1c rfl (by simp [c3352e]) (z0Z rfl (z0H (z0l rfl (z0a (zr rfl rfl rfl (by simp; rfl) ?_)))))
          have ho := z0h h17
          refine z0n ho ?_
          simp [z3p]
        ·rw [if_neg c3349] at h15
         have c3349e := eq_false c3349
         refine z0V rfl (by simp [c3349e]) (z0Z rfl (z0H ?_))
         obtain ⟨rr5, h16, ho5⟩ := z0w h15
         have hs5 := hr5 _ ho5
         subst hs5
         refine z0C ho5 (z0l rfl (z0m (z0a (zr rfl rfl rfl (by simp; rfl) ?_))))
         have ho := z0h h16
         refine z0n ho ?_
         simp [z4m]
       ·rw [if_neg c3347] at h14
        refine zr rfl rfl rfl (by simp [c3347]; rfl) ?_
        refine z0a (z0V rfl (by simp) (z0Z rfl (z0H ?_)))
        obtain ⟨rr5, h15, ho5⟩ := z0w h14
        have hs5 := hr5 _ ho5
        subst hs5
        refine z0C ho5 (z0l rfl (z0m (z0a (zr rfl rfl rfl (by simp; rfl) ?_))))
        have ho := z0h h15
        refine z0n ho ?_
        simp [z4m]
      ·rw [if_neg c3215] at h12
       refine z0V rfl (by simp [c3215]) (z0Z rfl (z0H ?_))
       obtain ⟨rr4, h13, ho4⟩ := z0w h12
       have hs4 := hr4 _ ho4
       subst hs4
       refine z0C ho4 (z0l rfl (z0a ?_))
       obtain ⟨f3412, h14⟩ := z7m h13
       refine zr rfl rfl rfl (by simp [f3412]; rfl) ?_
       refine z0m (z0a (zr rfl rfl rfl (by simp; rfl) ?_))
       have ho := z0h h14
       refine z0n ho ?_
       simp [z5y]
    ·rw [if_neg c2847] at h5
     refine z0V rfl (by simp [c2847]) (z0Z rfl (z0H ?_))
     obtain ⟨rr2, h6, ho2⟩ := z0w h5
     have hs2 := hr2 _ ho2
     subst hs2
     refine z0C ho2 (z0l rfl (z0a (zq rfl (zr rfl rfl rfl (by simp; rfl) ?_))))
     refine z0a (z3m rfl ?_)
     cases h6
     simp
  ·rw [if_neg c1708] at h1
   have c1708e := eq_false c1708
   refine z1c rfl (by simp [c1708e]) (zq rfl (zr rfl rfl rfl (by simp; rfl) ?_))
   refine z0a (z3m rfl (z3O ?_))
   cases h1
   simp⟩
end
end Go.Proofs.Ytodliknibbafeaa
end
section
namespace Go.Proofs.Ytodliknibbafeaa
open Go
set_option maxRecDepth 100000
def zfW (d : DFA) (m n : Nat) (S : List Nat) (c : Nat) : Hol := ⟨((S.getD (z2n d m n S c) 0 : Nat) : Int), toI (z3u S (z2n d m n S c)), (zi7 d m n S (z3u S (z2n d m n S c)) c S.length).1, (zi7 d m n S (z3u S (z2n d m n S c)) c S.length).2.map toI⟩
theorem zcT {l r : List Nat} {k : Nat} (h1 : k < l.length) (h2 : k < r.length) : l.take (k + 1) = r.take (k + 1) ↔ l.take k = r.take k ∧ l.getD k 0 = r.getD k 0 := by
  rw [z6q h1, z6q h2]
  constructor
  · intro h
    have := List.append_inj' h rfl
    exact ⟨this.1, by simpa using this.2⟩
  · rintro ⟨a, b⟩; rw [a, b]
theorem zqW {N k : Nat} (h : k < N) : (List.range N).getD k 0 = k := by simp [List.getD, h]
theorem zst {S : List Nat} {k : Nat} : (z3u S k).length = (z8P S k).length := by simp [z3u]
section
variable {d : DFA} {m n : Nat} {S : List Nat} (hd : DfaOk d m n) (hn : n ≤ 7) (hS : SetsP d m n S)
include hd hn hS
theorem zxy {k : Nat} (hk : k < S.length) : (z3u S k).length ≤ 128 := by
  have h128 : 2 ^ n ≤ 128 := Nat.pow_le_pow_right (n := 2) (by omega) hn
  obtain ⟨h1, h2⟩ := zat hd hn hS hk
  have := z0Q h1 fun t ht => (h2 t ht).2.2
  omega
theorem zuX {a : Int} {W : List ByteArray} {Q : List (List Nat)} {u v : ByteArray} {p : List Nat} {L : Nat} (hL : L ≤ 1000) (hp : p.length = L) (hQ : ∀ y ∈ Q, y.length = L) (hQl : Q.length ≤ 100000) :
    z0y (z4n a W (Q.map toI) u v (toI p, true)) LFm (true, 0) = if p = List.range L ∨ p ∈ Q then z0q (IntKind.i64.wrap (a + 1), W, Q.map toI) else
      chk (z0T 16 (W.length + 1)) <| chk (z0T 24 ((Q.map toI).length + 1)) <| z0q (IntKind.i64.wrap (a + 1), W ++ [(u ++ ⟨#[UInt8.ofNat (IntKind.u8.wrap (IntKind.i64.wrap (97 + a))).toNat]⟩) ++ v], Q.map toI ++ [toI p]) := by
  have _u := hd
  have _v := hn
  have _w := hS
  refine z0N (s := (true, (0 : Int))) L (fun q => (decide (p.take q = (List.range L).take q), (q : Int))) (by simp) (by simp only [LFm]; omega) (fun q hq => ?_) ?_
  · simp only [z4n]
    rw [if_pos (by rw [z0s]; omega), z1H (by omega), Option.bind_some, z1b (by omega)]
    have hs := zcT (l := p) (r := List.range L) (k := q) (by omega) (by rw [List.length_range]; exact hq)
    rw [zqW hq] at hs
    by_cases h : p.take q = (List.range L).take q
    · rw [decide_eq_true h, if_pos rfl]
      congr 2
      refine decide_eq_decide.2 ?_
      rw [hs]
      constructor
      · intro e; exact ⟨h, by omega⟩
      · rintro ⟨_, e⟩; omega
    · rw [decide_eq_false h, if_neg (by simp), decide_eq_false (fun e => h (hs.1 e).1)]
  · simp only [z4n]
    rw [if_neg (by rw [z0s]; omega)]
    have e0 : decide (p.take L = (List.range L).take L) = decide (p = List.range L) := by
      rw [List.take_of_length_le (by omega), List.take_of_length_le (by rw [List.length_range]; omega)]
    rw [e0]
    congr 1
    refine z0N (s := (decide (p = List.range L), (0 : Int))) Q.length (fun q => (decide (p = List.range L) || decide (p ∈ Q.take q), (q : Int))) (by simp) (by simp only [LFm]; omega) (fun q hq => ?_) ?_
    · have hy := hQ _ (List.getElem_mem hq)
      have hat : atI (Q.map toI) (q : Int) = some (toI Q[q]) := by rw [z0L (by simpa using hq)]; simp
      simp only [z5A]
      rw [if_pos (by simp; omega), hat, Option.bind_some]
      have hm : decide (p ∈ Q.take (q + 1)) = (decide (p ∈ Q.take q) || decide (p = Q[q])) := by
        rw [List.take_succ_eq_append_getElem hq, Bool.eq_iff_iff, decide_eq_true_eq, Bool.or_eq_true, decide_eq_true_eq, decide_eq_true_eq, List.mem_append, List.mem_singleton]
      generalize Q[q] = y at *
      refine z0N (s := (true, (0 : Int))) L (fun t => (decide (p.take t = y.take t), (t : Int))) (by simp) (by simp only [LFm]; omega) (fun t ht => ?_) ?_
      · simp only [z5z]
        have hs := zcT (l := p) (r := y) (k := t) (by omega) (by omega)
        rw [if_pos (by rw [z0s]; omega), z1b (by omega)]
        by_cases h : p.take t = y.take t
        · rw [decide_eq_true h, if_pos rfl, z1H (by omega), Option.bind_some, z1H (by omega), Option.bind_some]
          congr 2
          refine decide_eq_decide.2 ?_
          rw [hs]
          constructor
          · intro e; exact ⟨h, by omega⟩
          · rintro ⟨_, e⟩; omega
        · rw [decide_eq_false h, if_neg (by simp), decide_eq_false (fun e => h (hs.1 e).1)]
      · simp only [z5z]
        rw [if_neg (by rw [z0s]; omega), List.take_of_length_le (show p.length ≤ L by omega), List.take_of_length_le (show y.length ≤ L by omega), z1b (by omega), hm]
        cases h : (decide (p = List.range L) || decide (p ∈ Q.take q)) with
        | true => rw [if_pos rfl, ← Bool.or_assoc, h, Bool.true_or]
        | false => rw [if_neg (by simp), ← Bool.or_assoc, h, Bool.false_or]
    · simp only [z5A]
      rw [if_neg (by simp), List.take_length]
      congr 1
      by_cases h : p = List.range L ∨ p ∈ Q
      · rw [if_pos h, if_pos (by simpa using h)]
      · rw [if_neg h, if_neg (by simpa using h)]
end
end Go.Proofs.Ytodliknibbafeaa
end
section
namespace Go.Proofs.Ytodliknibbafeaa
open Go
set_option maxRecDepth 100000
theorem zoq {d : DFA} {m n : Nat} {S : List Nat} {c B : Nat} {st : HS} (h : HInv d m n S c B st) : ∀ y ∈ st.2, y.length = (z3u S (z2n d m n S c)).length := fun y hy => by
  obtain ⟨j, hj, rfl⟩ := List.getElem_of_mem hy
  obtain ⟨w, _, _, _, e⟩ := h.ok j (by rw [h.len]; exact hj)
  rw [List.getD, List.getElem?_eq_getElem hj, Option.getD_some] at e
  rw [e, zaH]
theorem zlf {d : DFA} {m n : Nat} {S : List Nat} {c B : Nat} {st : HS} (h : HInv d m n S c B st) {j : Nat} (hj : j < st.1.length) : Lead d m n (S.getD (z2n d m n S c) 0) (S.getD (z2n d m n S c) 0) (st.1.getD j ByteArray.empty).data.toList ∧ (st.1.getD j ByteArray.empty).size ≤ 2 * 2 ^ n + 1 ∧ st.2.getD j [] = z5s d (st.1.getD j ByteArray.empty).data.toList (z3u S (z2n d m n S c)) := by
  obtain ⟨w, e1, e2, e3, e4⟩ := h.ok j hj
  rw [e1]; exact ⟨e2, e3, e4⟩
section
variable {d : DFA} {m n : Nat} {S : List Nat} (hd : DfaOk d m n) (hn : n ≤ 7) (hS : SetsP d m n S)
include hd hn hS
theorem zt6 {c i a : Nat} {st : HS} {B : Nat} (hB : B ≤ 10000) (h : HInv d m n S c B st) (hi : i < S.length) (ha : a < m) (hc : clN d m n S i = c) (hcl : c < (zrs d m n S).length) :
    z2x d (z4Q d m n S, 0) (zld S S.length) (c : Int) (toI (z3u S (z2n d m n S c))) (i : Int) ((S.getD i 0 : Nat) : Int) ((a : Int), st.1, st.2.map toI) = z0q (((a + 1 : Nat) : Int), (zmC d m n S (z3u S (z2n d m n S c)) i st a).1, (zmC d m n S (z3u S (z2n d m n S c)) i st a).2.map toI) := by
  have h128 : 2 ^ n ≤ 128 := Nat.pow_le_pow_right (n := 2) (by omega) hn
  have hm := hd.m6
  obtain ⟨j1, j2⟩ := zvP hd hn hS hi ha
  have hcat : ∀ i, i < S.length → atI (z4Q d m n S).class_ (i : Int) = some ((clN d m n S i : Nat) : Int) := fun i hi => z3e hi
  have hwat : ∀ i, i < S.length → atI (z4Q d m n S).words (i : Int) = some (znn d m n S i) := fun i hi => z3e hi
  have hbat : ∀ i, i < S.length → atI (z4Q d m n S).back (i : Int) = some (zni d m n S i) := fun i hi => z3e hi
  have hix : (zaS ((mvN d (S.getD i 0) a : Nat) : Int) (zld S S.length)).getD 0 = ((zuq d S i a : Nat) : Int) := by
    rw [← j2, zop hS.nd _ (Nat.le_refl _) j1]; rfl
  simp only [z2x]
  rw [hd.lt, if_pos (by omega), hcat i hi, Option.bind_some, if_pos (by omega), zfO hd (by omega) (hS.lt _ (z0x hi)) ha, Option.bind_some, hix, hcat _ j1, Option.bind_some]
  unfold zmC
  by_cases hj : clN d m n S (zuq d S i a) = clN d m n S i
  · obtain ⟨l1, l2⟩ := ztA hd hn hS hi ha hj
    have hf : z2n d m n S c = z1W d m n S i := by unfold z2n; rw [← hc]; rfl
    have hk : z2n d m n S c < S.length := (z6D hd hn hS hcl).2
    rw [← hf] at l1
    obtain ⟨_, w1⟩ := znm hd hn hS hi
    obtain ⟨_, w2⟩ := zoU hd hn hS j1
    have htl := zxy hd hn hS hk
    obtain ⟨t1, t2⟩ := zat hd hn hS hk
    have hwd : (znn d m n S i ++ zwE a ++ zni d m n S (zuq d S i a)) = hwN d m n S i a := rfl
    have hbd := h.bd
    have hln := h.len
    rw [if_pos (by omega), hwat i hi, Option.bind_some, hbat _ j1, Option.bind_some, zmT (by omega), z0B _ (by unfold z7l; rw [z7K]; omega), z0B _ (by unfold z7l; rw [zdk, z7K]; omega), if_neg (by omega), hwd,
      zuZ hd (by omega) t1 (by omega) (fun t ht => (t2 t ht).2.2) (w := hwN d m n S i a) ⟨by omega, l1.hw⟩ (zss hd hn hS hk l1), Option.bind_some,
      zuX hd hn hS (L := (z3u S (z2n d m n S c)).length) (by omega) (zaH _ _ _) (zoq h) (by omega), if_pos hj, z1b (by omega), zmT (by omega), hwd]
    split
    · rfl
    · rw [z0B _ (by unfold z0T; omega), z0B _ (by unfold z0T; rw [List.length_map]; omega)]
      simp
  · rw [if_neg (by omega), if_neg hj, z1b (by omega)]
theorem zv4 {c i : Nat} (hi : i < S.length) (hcl : c < (zrs d m n S).length) (hSl : S.length ≤ 128) :
    z0y (z2x d (z4Q d m n S, 0) (zld S S.length) (c : Int) (toI (z3u S (z2n d m n S c))) (i : Int) ((S.getD i 0 : Nat) : Int)) LFm (0, (zi7 d m n S (z3u S (z2n d m n S c)) c i).1, (zi7 d m n S (z3u S (z2n d m n S c)) c i).2.map toI) =
      z0q (((i + 1 : Nat) : Int), (zi7 d m n S (z3u S (z2n d m n S c)) c (i + 1)).1, (zi7 d m n S (z3u S (z2n d m n S c)) c (i + 1)).2.map toI) := by
  have hm := hd.m6
  have hm1 := hd.m1
  have hI := zui hd hn hS (c := c) i (by omega)
  have hcat : atI (z4Q d m n S).class_ (i : Int) = some ((clN d m n S i : Nat) : Int) := z3e hi
  have hB : i * m ≤ 128 * 6 := Nat.mul_le_mul (by omega) hm
  rw [zp0]
  by_cases hc : clN d m n S i = c
  · rw [if_pos hc]
    generalize zi7 d m n S (z3u S (z2n d m n S c)) c i = st at *
    refine z0N (s := ((0 : Int), st.1, st.2.map toI)) m (fun a => ((a : Int), (zvC d m n S (z3u S (z2n d m n S c)) i st a).1, (zvC d m n S (z3u S (z2n d m n S c)) i st a).2.map toI)) rfl (by simp only [LFm]; omega) (fun a ha => ?_) ?_
    · rw [zt6 hd hn hS (B := i * m + a) (by omega) (zsV hd hn hS hI hi hc a (by omega)) hi ha hc hcl, zo2]
    · simp only [z2x]
      rw [hd.lt, if_neg (by omega), z1b (by omega)]
  · rw [if_neg hc]
    refine z0N (s := ((0 : Int), _)) 0 (fun _ => ((0 : Int), _)) rfl (by simp only [LFm]; omega) (fun k hk => by omega) ?_
    simp only [z2x]
    rw [hd.lt, if_pos (by omega), hcat, Option.bind_some, if_neg (by omega), z1b (by omega)]
theorem zrp {c t : Nat} (hcl : c < (zrs d m n S).length) (hSl : S.length ≤ 128) (D : List Hol) (hD : D.length ≤ 1000) (ht : t ≤ 1000) :
    (atI (z4Q d m n S).tiles ((z2n d m n S c : Nat) : Int)).bind (fun v => z0y (z4o d (z4Q d m n S, 0) (zld S S.length) (t : Int) D (c : Int) ((S.getD (z2n d m n S c) 0 : Nat) : Int) v) LFm (0, [])) = z0q (((t + 1 : Nat) : Int), D ++ [zfW d m n S c]) := by
  have hk : z2n d m n S c < S.length := (z6D hd hn hS hcl).2
  have hta : atI (z4Q d m n S).tiles ((z2n d m n S c : Nat) : Int) = some (toI (z8P S (z2n d m n S c))) := z3e hk
  have htl := zxy hd hn hS hk
  have hl := zst (S := S) (k := z2n d m n S c)
  rw [hta, Option.bind_some]
  refine z0N (s := ((0 : Int), ([] : List Int))) (z8P S (z2n d m n S c)).length (fun q => ((q : Int), toI ((z3u S (z2n d m n S c)).take q))) rfl (by simp only [LFm]; omega) (fun q hq => ?_) ?_
  · have hx : (z8P S (z2n d m n S c)).getD q 0 < S.length := ztx (zf1 (z0x hq)).1
    have e : (z3u S (z2n d m n S c)).getD q 0 = S.getD ((z8P S (z2n d m n S c)).getD q 0) 0 := by simp [z3u, List.getD, hq]
    have hsat : atI (z4Q d m n S).sets (((z8P S (z2n d m n S c)).getD q 0 : Nat) : Int) = some ((S.getD ((z8P S (z2n d m n S c)).getD q 0) 0 : Nat) : Int) := z1H hx
    simp only [z4o]
    rw [if_pos (by rw [z0s]; omega), z1H hq, Option.bind_some, hsat, Option.bind_some, z0B _ (by unfold z0T; rw [z0s, List.length_take]; omega), z1b (by omega), z6q (by omega), z5t, e]
  · simp only [z4o]
    rw [if_neg (by rw [z0s]; omega), ← hl, List.take_length]
    congr 1
    have hsl : (z4Q d m n S).sets.length = S.length := z0s _
    refine z0N (s := ((0 : Int), ([] : List ByteArray), ([] : List (List Int)))) S.length (fun i => ((i : Int), (zi7 d m n S (z3u S (z2n d m n S c)) c i).1, (zi7 d m n S (z3u S (z2n d m n S c)) c i).2.map toI)) rfl (by simp only [LFm]; omega) (fun i hi => ?_) ?_
    · have hsat : atI (z4Q d m n S).sets (i : Int) = some ((S.getD i 0 : Nat) : Int) := z1H hi
      simp only [z5B]
      rw [hsl, if_pos (by omega), hsat, Option.bind_some]
      exact zv4 hd hn hS hi hcl hSl
    · simp only [z5B]
      rw [hsl, if_neg (by omega), z0B _ (by unfold z0T; omega), z1b (by omega)]
      rfl
end
theorem zt1 {d : DFA} {m n : Nat} (hd : DfaOk d m n) (hn : n ≤ 7) : ∃ O, zay d = some (O.map (zfW d m n (z2S d m n)), 0) ∧ zrL (hC d m n (z2S d m n)) O ∧ O.Perm (z9J d m n (z2S d m n) (z2S d m n).length) := by
  have h128 : 2 ^ n ≤ 128 := Nat.pow_le_pow_right (n := 2) (by omega) hn
  have hS := zcz hd
  have hSl := z0Q hS.nd hS.lt
  have hH := ztD hd hn
  unfold zay
  rw [zuN hd hn, Option.bind_some, if_pos rfl]
  generalize z2S d m n = S at *
  obtain ⟨O, e, o1, o2⟩ := znd hd hn hS hH (by omega)
  refine ⟨O, ?_, o1, o2⟩
  have hOc : ∀ c ∈ O, c < (zrs d m n S).length := fun c hc => by
    have := o2.mem_iff.1 hc
    unfold z9J at this
    exact List.mem_range.1 (List.mem_filter.1 this).1
  have hOl : O.length ≤ 128 := by
    rw [o2.length_eq]; unfold z9J
    refine Nat.le_trans (List.length_filter_le _ _) ?_
    rw [List.length_range]
    have := zfp (z7e d m n S) S.length
    omega
  have hsl : (z4Q d m n S).sets.length = S.length := z0s _
  refine z0N (s := ((0 : Int), ([] : List (Int × Int)))) S.length (fun k => ((k : Int), zld S k)) rfl (by simp only [LFm]; omega) (fun k hk => ?_) ?_
  · have hsat : atI (z4Q d m n S).sets (k : Int) = some ((S.getD k 0 : Nat) : Int) := z1H hk
    simp only [z6U]
    rw [hsl, if_pos (by omega), hsat, Option.bind_some, z1b (by omega)]
    rfl
  · simp only [z6U]
    rw [hsl, if_neg (by omega), e, Option.bind_some]
    congr 1
    refine z0N (s := ((0 : Int), ([] : List Hol))) O.length (fun t => ((t : Int), (O.take t).map (zfW d m n S))) rfl (by simp only [LFm]; omega) (fun t ht => ?_) ?_
    · have hc := hOc _ (z0x ht)
      have hk := (z6D hd hn hS hc).2
      have hsat : atI (z4Q d m n S).sets ((z2n d m n S (O.getD t 0) : Nat) : Int) = some ((S.getD (z2n d m n S (O.getD t 0)) 0 : Nat) : Int) := z1H hk
      simp only [z5C]
      rw [if_pos (by rw [z0s]; omega), z1H ht, Option.bind_some, zv9 hd hn hS hc (by omega), Option.bind_some, hsat, Option.bind_some, z6q ht, List.map_append, List.map_cons, List.map_nil]
      exact zrp hd hn hS hc (by omega) _ (by rw [List.length_map, List.length_take]; omega) (by omega)
    · simp only [z5C]
      rw [if_neg (by rw [z0s]; omega), List.take_length]
end Go.Proofs.Ytodliknibbafeaa
end
section
namespace Go.Proofs.Ytodliknibbafeaa
open Go
noncomputable section
set_option maxRecDepth 100000
set_option maxHeartbeats 6000000
abbrev z2k (a0 : DFA) (a1 : ByteArray) (w79 : Int) (w80 : List Int) : Int × List Int → Option ((Int × List Int) ⊕ ((Int × List Int) ⊕ List Int))
  | (w103, w104) =>
  if w103 < (w80.length : Int) then
    (atI w104 w103).bind fun v110 =>
    (atI a0.next v110).bind fun v111 =>
    (ziP a1 w79).bind fun v112 =>
    (atI v111 (IntKind.u8.wrap (v112 - 97))).bind fun v113 =>
    z0q (IntKind.i64.wrap (w103 + 1), (w104.set w103.toNat v113))
  else
    z0v <|
    z0q (IntKind.i64.wrap (w79 + 1), w104)
instance {a0 : DFA} {a1 : ByteArray} {w79 : Int} {w80 : List Int} : Hd (z2k a0 a1 w79 w80) := ⟨fun (w103, w104) => ([(31, xI w103)], [(5, .os 1 w104.length (w104.map fun x0 => .sc (.int .i64 x0)))])⟩
abbrev z2s (a0 : DFA) (a1 : ByteArray) : Int × List Int → Option ((Int × List Int) ⊕ List Int)
  | (w79, w80) =>
  if w79 < (a1.size : Int) then
    z0y (z2k a0 a1 w79 w80) LFm (0, w80)
  else
    z0v <|
    some w80
instance {a0 : DFA} {a1 : ByteArray} : Hd (z2s a0 a1) := ⟨fun (w79, w80) => ([(26, xI w79)], [(5, .os 1 w80.length (w80.map fun x0 => .sc (.int .i64 x0)))])⟩
abbrev z2t (a0 : DFA) (a1 : ByteArray) : Int × List Int → Option ((Int × List Int) ⊕ List Int)
  | (w58, w59) =>
  if w58 < (a0.final.length : Int) then
    (atI w59 w58).bind fun v61 =>
    z0q (IntKind.i64.wrap (w58 + 1), (w59.set w58.toNat w58))
  else
    z0v <|
    z0y (z2s a0 a1) LFm (0, w59)
instance {a0 : DFA} {a1 : ByteArray} : Hd (z2t a0 a1) := ⟨fun (w58, w59) => ([(16, xI w58)], [(5, .os 1 w59.length (w59.map fun x0 => .sc (.int .i64 x0)))])⟩
def z2G (a0 : DFA) (a1 : ByteArray) : Option (List Int) :=
  chk (z1V 8 (a0.final.length : Int)) <|
  z0y (z2t a0 a1) LFm (0, List.replicate (a0.final.length : Int).toNat (0 : Int))
instance holonomy_action_ok {a0 : DFA} {a1 : ByteArray} : Ok (z2G a0 a1) (fun r => L 37 [.agg [.sc (.int .i64 a0.letters), .sc (.int .i64 a0.start), .sl a0.final.length (a0.final.map fun x0 => .sc (.bool x0)), .sl a0.next.length (a0.next.map fun x0 => .sl x0.length (x0.map fun x1 => .sc (.int .i64 x1)))], .sc (.string a1)] = some (.os 1 r.length (r.map fun x0 => .sc (.int .i64 x0)), [.dead, .dead])) := ⟨fun r h => by have h := z6H h; unfold z2G at h; exact z7i zAW zCx zDW⟩
abbrev z2P (a0 : List Int) (a1 : Int) : Int × Int → Option ((Int × Int) ⊕ Int)
  | (w7, w8) =>
  if w8 < (a0.length : Int) then
    (atI a0 w8).bind fun v10 =>
    chk (¬ w8 < 0) <|
    if (zoY .i64 (zwb .i64 a1 w8) 1) = 1 then
      chk (¬ v10 < 0) <|
      z0q (orI .i64 w7 (zuE .i64 1 v10), IntKind.i64.wrap (w8 + 1))
    else
      z0q (w7, IntKind.i64.wrap (w8 + 1))
  else
    z0v <|
    some w7
instance {a0 : List Int} {a1 : Int} : Hd (z2P a0 a1) := ⟨fun (w7, w8) => ([(5, xI w7), (10, xI w8)], [])⟩
def z1E (a0 : List Int) (a1 : Int) : Option (Int) :=
  z0y (z2P a0 a1) LFm (0, 0)
instance holonomy_apply_ok {a0 : List Int} {a1 : Int} : Ok (z1E a0 a1) (fun r => L 38 [.sl a0.length (a0.map fun x0 => .sc (.int .i64 x0)), .sc (.int .i64 a1)] = some (.sc (.int .i64 r), [.dead, .dead])) := ⟨fun r h => by have h := z6H h; unfold z1E at h; exact z7i zAV zCw zDV⟩
end
end Go.Proofs.Ytodliknibbafeaa
end
section
namespace Go.Proofs.Ytodliknibbafeaa
open Go
noncomputable section
set_option maxRecDepth 100000
set_option maxHeartbeats 6000000
abbrev z1C (a1 : Int) (w42 : Int) (v53 : List Int) : Int × List Bool → Option ((Int × List Bool) ⊕ (Int ⊕ Bool))
  | (w55, w56) =>
  if w55 < (v53.length : Int) then
    (atI v53 w55).bind fun v60 =>
    if v60 < 0 then
      z0v <|
      z0v <|
      some false
    else
      if a1 ≤ v60 then
        z0v <|
        z0v <|
        some false
      else
        (atI w56 v60).bind fun v61 =>
        if v61 = true then
          z0v <|
          z0v <|
          some false
        else
          z0q (IntKind.i64.wrap (w55 + 1), (w56.set v60.toNat true))
  else
    z0v <|
    z0q (IntKind.i64.wrap (w42 + 1))
instance {a1 : Int} {w42 : Int} {v53 : List Int} : Hd (z1C a1 w42 v53) := ⟨fun (w55, w56) => ([(24, xI w55)], [(7, .os 1 w56.length (w56.map fun x0 => .sc (.bool x0)))])⟩
abbrev z1g (a0 : List (List Int)) (a1 : Int) : Int → Option (Int ⊕ Bool)
  | w42 =>
  if w42 < (a0.length : Int) then
    (atI a0 w42).bind fun v53 =>
    if (v53.length : Int) = a1 then
      chk (z1V 1 a1) <|
      z0y (z1C a1 w42 v53) LFm (0, List.replicate a1.toNat (false : Bool))
    else
      z0v <|
      some false
  else
    z0v <|
    some true
instance {a0 : List (List Int)} {a1 : Int} : Hd (z1g a0 a1) := ⟨fun w42 => ([(12, xI w42)], [])⟩
def z1x (a0 : List (List Int)) (a1 : Int) : Option (Bool) :=
  z0y (z1g a0 a1) LFm 0
instance holonomy_permutations_ok {a0 : List (List Int)} {a1 : Int} : Ok (z1x a0 a1) (fun r => L 35 [.sl a0.length (a0.map fun x0 => .sl x0.length (x0.map fun x1 => .sc (.int .i64 x1))), .sc (.int .i64 a1)] = some (.sc (.bool r), [.dead, .dead])) := ⟨fun r h => by have h := z6H h; unfold z1x at h; exact z7i zAY zCz zDY⟩
def z2p (a0 : Int) (a1 : Int) : Option (Bool) :=
  if 0 ≤ a0 then
    chk (¬ a1 < 0) <|
    some (decide (a0 < (zuE .i64 1 a1)))
  else
    some false
instance holonomy_isSet_ok {a0 : Int} {a1 : Int} : Ok (z2p a0 a1) (fun r => L 34 [.sc (.int .i64 a0), .sc (.int .i64 a1)] = some (.sc (.bool r), [.dead, .dead])) := ⟨fun r h => by have h := z6H h; unfold z2p at h; exact z7i zAZ zCA zDZ⟩
abbrev z1S (a1 : Hol) (w102 : Int) (v125 : List Int) : Int → Option (Int ⊕ (Int ⊕ Bool))
  | w132 =>
  if w132 < (a1.tiles.length : Int) then
    (atI a1.tiles w132).bind fun v138 =>
    (atI a1.perms w102).bind fun v139 =>
    (atI v139 w132).bind fun v140 =>
    (atI a1.tiles v140).bind fun v141 =>
    (z1E v125 v138).bind fun v142 =>
    if v142 = v141 then
      z0q (IntKind.i64.wrap (w132 + 1))
    else
      z0v <|
      z0v <|
      some false
  else
    z0v <|
    z0q (IntKind.i64.wrap (w102 + 1))
instance {a1 : Hol} {w102 : Int} {v125 : List Int} : Hd (z1S a1 w102 v125) := ⟨fun w132 => ([(96, xI w132)], [])⟩
abbrev z1T (a0 : DFA) (a1 : Hol) : Int → Option (Int ⊕ Bool)
  | w102 =>
  if w102 < (a1.words.length : Int) then
    (atI a1.words w102).bind fun v123 =>
    (z6d v123 a0.letters).bind fun v124 =>
    if v124 = true then
      (z2G a0 v123).bind fun v125 =>
      (z1E v125 a1.set).bind fun v126 =>
      if v126 = a1.set then
        z0y (z1S a1 w102 v125) LFm 0
      else
        z0v <|
        some false
    else
      z0v <|
      some false
  else
    z0v <|
    some true
instance {a0 : DFA} {a1 : Hol} : Hd (z1T a0 a1) := ⟨fun w102 => ([(73, xI w102)], [])⟩
abbrev z2g (a0 : DFA) (a1 : Hol) : Int → Option (Int ⊕ Bool)
  | w77 =>
  if w77 < (a1.tiles.length : Int) then
    (atI a1.tiles w77).bind fun v80 =>
    (z2p v80 (a0.final.length : Int)).bind fun v81 =>
    if v81 = true then
      z0q (IntKind.i64.wrap (w77 + 1))
    else
      z0v <|
      some false
  else
    z0v <|
    z0y (z1T a0 a1) LFm 0
instance {a0 : DFA} {a1 : Hol} : Hd (z2g a0 a1) := ⟨fun w77 => ([(61, xI w77)], [])⟩
def z0K (a0 : DFA) (a1 : Hol) : Option (Bool) :=
  (z4M a0).bind fun v72 =>
  if v72 = 0 then
    if 12 < (a0.final.length : Int) then
      some false
    else
      (z2p a1.set (a0.final.length : Int)).bind fun v73 =>
      if v73 = true then
        if (a1.tiles.length : Int) < 1 then
          some false
        else
          if 32 < (a1.tiles.length : Int) then
            some false
          else
            if (a1.words.length : Int) = (a1.perms.length : Int) then
              (z1x a1.perms (a1.tiles.length : Int)).bind fun v74 =>
              if v74 = true then
                z0y (z2g a0 a1) LFm 0
              else
                some false
            else
              some false
      else
        some false
  else
    some false
instance holonomy_Check_ok {a0 : DFA} {a1 : Hol} : Ok (z0K a0 a1) (fun r => L 16 [.agg [.sc (.int .i64 a0.letters), .sc (.int .i64 a0.start), .sl a0.final.length (a0.final.map fun x0 => .sc (.bool x0)), .sl a0.next.length (a0.next.map fun x0 => .sl x0.length (x0.map fun x1 => .sc (.int .i64 x1)))], .agg [.sc (.int .i64 a1.set), .sl a1.tiles.length (a1.tiles.map fun x0 => .sc (.int .i64 x0)), .sl a1.words.length (a1.words.map fun x0 => .sc (.string x0)), .sl a1.perms.length (a1.perms.map fun x0 => .sl x0.length (x0.map fun x1 => .sc (.int .i64 x1)))]] = some (.sc (.bool r), [.dead, .dead])) := ⟨fun r h => by have h := z6H h; unfold z0K at h; exact z7i zBd zCM zEb⟩
end
end Go.Proofs.Ytodliknibbafeaa
end
section
namespace Go.Proofs.Ytodliknibbafeaa
open Go
noncomputable section
set_option maxRecDepth 100000
set_option maxHeartbeats 6000000
abbrev z3c (a0 : List Int) : Int → Option (Int ⊕ Bool)
  | w6 =>
  if w6 < (a0.length : Int) then
    (atI a0 w6).bind fun v8 =>
    if v8 < 0 then
      z0v <|
      some false
    else
      if (a0.length : Int) ≤ v8 then
        z0v <|
        some false
      else
        z0q (IntKind.i64.wrap (w6 + 1))
  else
    z0v <|
    some true
instance {a0 : List Int} : Hd (z3c a0) := ⟨fun w6 => ([(15, xI w6)], [])⟩
def z5p (a0 : List Int) : Option (Bool) :=
  if (a0.length : Int) < 1 then
    some false
  else
    if 32 < (a0.length : Int) then
      some false
    else
      z0y (z3c a0) LFm 0
instance ref11_Valid_ok {a0 : List Int} : Ok (z5p a0) (fun r => L 64 [.sl a0.length (a0.map fun x0 => .sc (.int .i64 x0))] = some (.sc (.bool r), [.dead])) := ⟨fun r h => by have h := z6H h; unfold z5p at h; exact z7i zAH zCj zDI⟩
abbrev z5R (a0 : List Int) (a1 : Int) : Int × List Bool → Option ((Int × List Bool) ⊕ List Bool)
  | (w9, w10) =>
  if w9 < (a0.length : Int) then
    (atI a0 w9).bind fun v13 =>
    if 0 ≤ v13 then
      if v13 < a1 then
        (atI w10 v13).bind fun v14 =>
        z0q (IntKind.i64.wrap (w9 + 1), (w10.set v13.toNat true))
      else
        z0q (IntKind.i64.wrap (w9 + 1), w10)
    else
      z0q (IntKind.i64.wrap (w9 + 1), w10)
  else
    z0v <|
    some w10
instance {a0 : List Int} {a1 : Int} : Hd (z5R a0 a1) := ⟨fun (w9, w10) => ([(12, xI w9)], [(5, .os 1 w10.length (w10.map fun x0 => .sc (.bool x0)))])⟩
def z7H (a0 : List Int) (a1 : Int) : Option (List Bool) :=
  chk (z1V 1 a1) <|
  z0y (z5R a0 a1) LFm (0, List.replicate a1.toNat (false : Bool))
instance ref03_Set_ok {a0 : List Int} {a1 : Int} : Ok (z7H a0 a1) (fun r => L 79 [.sl a0.length (a0.map fun x0 => .sc (.int .i64 x0)), .sc (.int .i64 a1)] = some (.os 1 r.length (r.map fun x0 => .sc (.bool x0)), [.dead, .dead])) := ⟨fun r h => by have h := z6H h; unfold z7H at h; exact z7i zAC zCe zDD⟩
abbrev z3j (a0 : List Bool) : Int × List Int → Option ((Int × List Int) ⊕ List Int)
  | (w7, w8) =>
  if w7 < (a0.length : Int) then
    (atI a0 w7).bind fun v10 =>
    if v10 = true then
      chk (z0T 8 (w8.length + 1)) <|
      z0q (IntKind.i64.wrap (w7 + 1), w8 ++ [w7])
    else
      z0q (IntKind.i64.wrap (w7 + 1), w8)
  else
    z0v <|
    some w8
instance {a0 : List Bool} : Hd (z3j a0) := ⟨fun (w7, w8) => ([(8, xI w7)], [(3, .os 1 w8.length (w8.map fun x0 => .sc (.int .i64 x0)))])⟩
def z3A (a0 : List Bool) : Option (List Int) :=
  z0y (z3j a0) LFm (0, [])
instance ref03_Members_ok {a0 : List Bool} : Ok (z3A a0) (fun r => L 78 [.sl a0.length (a0.map fun x0 => .sc (.bool x0))] = some (.os 1 r.length (r.map fun x0 => .sc (.int .i64 x0)), [.dead])) := ⟨fun r h => by have h := z6H h; unfold z3A at h; exact z7i zAD zCf zDE⟩
def z6V (a0 : List Int) : Option (List Int) :=
  (z7H a0 (a0.length : Int)).bind fun v3 =>
  (z3A v3).bind fun v4 =>
  some v4
instance ref11_Image_ok {a0 : List Int} : Ok (z6V a0) (fun r => L 65 [.sl a0.length (a0.map fun x0 => .sc (.int .i64 x0))] = some (.os 1 r.length (r.map fun x0 => .sc (.int .i64 x0)), [.dead])) := ⟨fun r h => by have h := z6H h; unfold z6V at h; exact z7i zAG zCi zDH⟩
def z1I (a0 : List Int) : Option (Bool) :=
  (z5p a0).bind fun v3 =>
  if v3 = true then
    (z6V a0).bind fun v4 =>
    some (decide ((v4.length : Int) = (a0.length : Int)))
  else
    some false
instance ref11_IsPermutation_ok {a0 : List Int} : Ok (z1I a0) (fun r => L 42 [.sl a0.length (a0.map fun x0 => .sc (.int .i64 x0))] = some (.sc (.bool r), [.dead])) := ⟨fun r h => by have h := z6H h; unfold z1I at h; exact z7i zAR zCs zDR⟩
abbrev z2y (a0 : DFA) (a1 : Hol) (w108 : Int) (v131 : ByteArray) : Int → Option (Int ⊕ (Int ⊕ Bool))
  | w142 =>
  if w142 < (a1.tiles.length : Int) then
    (atI a1.tiles w142).bind fun v148 =>
    (atI a1.perms w108).bind fun v149 =>
    (atI v149 w142).bind fun v150 =>
    (atI a1.tiles v150).bind fun v151 =>
    (z3q a0 v148 v131).bind fun v152 =>
    if v152 = v151 then
      z0q (IntKind.i64.wrap (w142 + 1))
    else
      z0v <|
      z0v <|
      some false
  else
    z0v <|
    z0q (IntKind.i64.wrap (w108 + 1))
instance {a0 : DFA} {a1 : Hol} {w108 : Int} {v131 : ByteArray} : Hd (z2y a0 a1 w108 v131) := ⟨fun w142 => ([(101, xI w142)], [])⟩
abbrev z2z (a0 : DFA) (a1 : Hol) : Int → Option (Int ⊕ Bool)
  | w108 =>
  if w108 < (a1.words.length : Int) then
    (atI a1.words w108).bind fun v131 =>
    (z2E v131 a0.letters).bind fun v132 =>
    if v132 = true then
      (atI a1.perms w108).bind fun v133 =>
      if (v133.length : Int) = (a1.tiles.length : Int) then
        (z1I v133).bind fun v135 =>
        if v135 = true then
          (z3q a0 a1.set v131).bind fun v136 =>
          if v136 = a1.set then
            z0y (z2y a0 a1 w108 v131) LFm 0
          else
            z0v <|
            some false
        else
          z0v <|
          some false
      else
        z0v <|
        some false
    else
      z0v <|
      some false
  else
    z0v <|
    some true
instance {a0 : DFA} {a1 : Hol} : Hd (z2z a0 a1) := ⟨fun w108 => ([(57, xI w108)], [])⟩
abbrev z2X (a0 : DFA) (a1 : Hol) : Int → Option (Int ⊕ Bool)
  | w81 =>
  if w81 < (a1.tiles.length : Int) then
    (atI a1.tiles w81).bind fun v84 =>
    (z3Q a0 v84).bind fun v85 =>
    if v85 = true then
      z0q (IntKind.i64.wrap (w81 + 1))
    else
      z0v <|
      some false
  else
    z0v <|
    z0y (z2z a0 a1) LFm 0
instance {a0 : DFA} {a1 : Hol} : Hd (z2X a0 a1) := ⟨fun w81 => ([(45, xI w81)], [])⟩
def z1k (a0 : DFA) (a1 : Hol) : Option (Bool) :=
  (z6t a0).bind fun v77 =>
  if v77 = 0 then
    (z3Q a0 a1.set).bind fun v78 =>
    if v78 = true then
      if (a1.words.length : Int) = (a1.perms.length : Int) then
        if (a1.tiles.length : Int) < 1 then
          some false
        else
          if 32 < (a1.tiles.length : Int) then
            some false
          else
            z0y (z2X a0 a1) LFm 0
      else
        some false
    else
      some false
  else
    some false
instance ref25_Check_ok {a0 : DFA} {a1 : Hol} : Ok (z1k a0 a1) (fun r => L 19 [.agg [.sc (.int .i64 a0.letters), .sc (.int .i64 a0.start), .sl a0.final.length (a0.final.map fun x0 => .sc (.bool x0)), .sl a0.next.length (a0.next.map fun x0 => .sl x0.length (x0.map fun x1 => .sc (.int .i64 x1)))], .agg [.sc (.int .i64 a1.set), .sl a1.tiles.length (a1.tiles.map fun x0 => .sc (.int .i64 x0)), .sl a1.words.length (a1.words.map fun x0 => .sc (.string x0)), .sl a1.perms.length (a1.perms.map fun x0 => .sl x0.length (x0.map fun x1 => .sc (.int .i64 x1)))]] = some (.sc (.bool r), [.dead, .dead])) := ⟨fun r h => by have h := z6H h; unfold z1k at h; exact z7i zBa zCJ zE8⟩
abbrev z4Y (a0 : List (List Int)) : Int × List (List Int) → Option ((Int × List (List Int)) ⊕ List (List Int))
  | (w7, w8) =>
  if w7 < (a0.length : Int) then
    (atI a0 w7).bind fun v10 =>
    chk (z0T 8 (v10.length)) <|
    chk (z0T 24 (w8.length + 1)) <|
    z0q (IntKind.i64.wrap (w7 + 1), w8 ++ [v10])
  else
    z0v <|
    some w8
instance {a0 : List (List Int)} : Hd (z4Y a0) := ⟨fun (w7, w8) => ([(8, xI w7)], [(3, .os 1 w8.length (w8.map fun x0 => .os 1 x0.length (x0.map fun x1 => .sc (.int .i64 x1))))])⟩
def z6v (a0 : List (List Int)) : Option (List (List Int)) :=
  z0y (z4Y a0) LFm (0, [])
instance ref03_Copy_ok {a0 : List (List Int)} : Ok (z6v a0) (fun r => L 17 [.sl a0.length (a0.map fun x0 => .sl x0.length (x0.map fun x1 => .sc (.int .i64 x1)))] = some (.os 1 r.length (r.map fun x0 => .os 1 x0.length (x0.map fun x1 => .sc (.int .i64 x1))), [.dead])) := ⟨fun r h => by have h := z6H h; unfold z6v at h; exact z7i zBc zCL zEa⟩
end
end Go.Proofs.Ytodliknibbafeaa
end
section
namespace Go.Proofs.Ytodliknibbafeaa
open Go
set_option maxRecDepth 100000
def z8R (N : Nat) (X : List Int) : List Bool := (List.range N).map fun x : Nat => decide ((x : Int) ∈ X)
theorem zip {N : Nat} {X : List Int} : (z8R N X).length = N := by simp [z8R]
theorem zvJ {N : Nat} : z8R N [] = List.replicate N false := by
  unfold z8R; exact List.ext_getElem (by simp) fun i h1 h2 => by simp
theorem zmP {N v : Nat} {X : List Int} (h : v < N) : atI (z8R N X) (v : Int) = some (decide ((v : Int) ∈ X)) := by
  rw [z0L (by rw [zip]; exact h)]; simp [z8R]
theorem zoc {N v : Nat} {X : List Int} (h : v < N) : (z8R N X).set v true = z8R N (X ++ [(v : Int)]) := by
  refine List.ext_getElem (by simp [z8R]) fun i h1 h2 => ?_
  rw [List.getElem_set]
  simp only [z8R, List.getElem_map, List.getElem_range, List.mem_append, List.mem_singleton]
  by_cases e : v = i
  · subst e; simp
  · rw [if_neg e]
    exact decide_eq_decide.2 ⟨fun h => .inl h, fun h => h.elim id fun h => absurd h (by omega)⟩
theorem zod {N : Nat} {v : Int} {X : List Int} (h : ¬ (0 ≤ v ∧ v < N)) : z8R N (X ++ [v]) = z8R N X := by
  refine List.map_congr_left fun x hx => ?_
  have := List.mem_range.1 hx
  refine decide_eq_decide.2 ?_
  rw [List.mem_append, List.mem_singleton]
  exact ⟨fun h' => h'.elim id fun h' => absurd h' (by omega), .inl⟩
theorem znU {l : List Int} {k : Nat} (h : k < l.length) : l.take (k + 1) = l.take k ++ [l[k]] := by rw [List.take_succ_eq_append_getElem h]
theorem zcH {l : List Int} : l.Nodup ↔ ∀ k (h : k < l.length), l[k] ∉ l.take k := by
  rw [List.nodup_iff_pairwise_ne, List.pairwise_iff_getElem]
  constructor
  · intro h k hk hm
    obtain ⟨i, hi, e⟩ := List.getElem_of_mem hm
    rw [List.length_take] at hi
    rw [List.getElem_take] at e
    exact h i k (by omega) hk (by omega) e
  · intro h i j hi hj hij e
    refine h j hj ?_
    have : i < (l.take j).length := by rw [List.length_take]; omega
    have h2 := List.getElem_mem this
    rw [List.getElem_take, e] at h2
    exact h2
def z3S (N : Nat) (p : List Int) : Bool := decide (p.length = N) && (p.all (fun x => decide (0 ≤ x ∧ x < (N : Int))) && decide p.Nodup)
theorem zim {N : Nat} {p : List Int} : z3S N p = true ↔ p.length = N ∧ (∀ x ∈ p, 0 ≤ x ∧ x < (N : Int)) ∧ p.Nodup := by
  simp [z3S]
def zxs (N : Nat) (p : List Int) (k : Nat) : Bool := !decide (0 ≤ p.getD k 0 ∧ p.getD k 0 < (N : Int)) || decide (p.getD k 0 ∈ p.take k)
theorem zx6 {N : Nat} {p : List Int} (hl : p.length = N) : ((List.range N).all fun k => !zxs N p k) = z3S N p := by
  rw [Bool.eq_iff_iff, zim, List.all_eq_true]
  have hg : ∀ k (h : k < p.length), p.getD k 0 = p[k] := fun k h => by rw [List.getD, List.getElem?_eq_getElem h, Option.getD_some]
  constructor
  · intro h
    refine ⟨hl, fun x hx => ?_, zcH.2 fun k hk => ?_⟩
    · obtain ⟨k, hk, rfl⟩ := List.getElem_of_mem hx
      have := h k (List.mem_range.2 (by omega))
      simp only [zxs, hg k hk] at this
      simp at this
      exact this.1
    · have := h k (List.mem_range.2 (by omega))
      simp only [zxs, hg k hk] at this
      simp at this
      exact this.2
  · rintro ⟨_, h1, h2⟩ k hk
    have hk := List.mem_range.1 hk
    have a := h1 _ (List.getElem_mem (show k < p.length by omega))
    have b := zcH.1 h2 k (by omega)
    simp only [zxs, hg k (by omega)]
    simp [a, b]
theorem zuR {Q : List (List Int)} {N : Nat} (hN : N ≤ 1000) (hQ : Q.length < 4611686018427387904) : z1x Q (N : Int) = some (Q.all (z3S N)) := by
  unfold z1x
  rw [z6w (b := z1g Q (N : Int)) (l := Q) [] (z3S N) (A := some false) (B := some true) hQ ?_ ?_]
  · cases Q.all (z3S N) <;> rfl
  · intro k hk
    have hg : Q.getD k [] = Q[k] := by rw [List.getD, List.getElem?_eq_getElem hk, Option.getD_some]
    simp only [z1g]
    rw [if_pos (by omega), z0L hk, Option.bind_some, hg]
    generalize Q[k] = p
    by_cases hl : p.length = N
    · rw [if_pos (by omega), z0B _ (by unfold z1V; omega), Int.toNat_natCast, ← zx6 hl,
        z4J (s := ((0 : Int), List.replicate N false)) N (fun t => ((t : Int), z8R N (p.take t))) (zxs N p) (fun _ => z0v (some false)) (x := z0q ((k + 1 : Nat) : Int)) (by rw [List.take_zero, zvJ]; rfl) (by simp only [LFm]; omega) ?_ ?_]
      · rw [z7c]
      · intro t ht
        have ht' : t < p.length := by omega
        have hgt : p.getD t 0 = p[t] := by rw [List.getD, List.getElem?_eq_getElem ht', Option.getD_some]
        simp only [z1C, zxs, hgt]
        rw [if_pos (by omega), z0L ht', Option.bind_some, znU ht']
        generalize p[t] = v
        by_cases c1 : v < 0
        · rw [if_pos c1, if_pos (by simp; omega)]
        · rw [if_neg c1]
          by_cases c2 : (N : Int) ≤ v
          · rw [if_pos c2, if_pos (by simp; omega)]
          · obtain ⟨u, rfl⟩ := Int.eq_ofNat_of_zero_le (show 0 ≤ v by omega)
            rw [if_neg c2, zmP (by omega), Option.bind_some]
            by_cases c3 : (u : Int) ∈ p.take t
            · rw [if_pos (by simpa using c3), if_pos (by simp [c3])]
            · rw [if_neg (by simpa using c3), if_neg (by simp [c3]; omega), z1b (by omega), Int.toNat_natCast, zoc (by omega)]
      · simp only [z1C]
        rw [if_neg (by omega), z1b (by omega)]
    · have : z3S N p = false := by unfold z3S; rw [decide_eq_false hl]; rfl
      rw [if_neg (by omega), this, if_neg (by simp)]
  · simp only [z1g]
    rw [if_neg (by omega)]
theorem zyq {p : List Int} {N : Nat} (hN : N ≤ 1000) (hp : p.length ≤ 1000) : z7H p (N : Int) = some (z8R N p) := by
  unfold z7H
  rw [z0B _ (by unfold z1V; omega), Int.toNat_natCast]
  refine z0N (s := ((0 : Int), List.replicate N false)) p.length (fun t => ((t : Int), z8R N (p.take t))) (by rw [List.take_zero, zvJ]; rfl) (by simp only [LFm]; omega) (fun t ht => ?_) ?_
  · simp only [z5R]
    rw [if_pos (by omega), z0L ht, Option.bind_some, znU ht, z1b (by omega)]
    generalize p[t] = v
    by_cases c1 : 0 ≤ v
    · rw [if_pos c1]
      by_cases c2 : v < (N : Int)
      · obtain ⟨u, rfl⟩ := Int.eq_ofNat_of_zero_le c1
        rw [if_pos c2, zmP (by omega), Option.bind_some, Int.toNat_natCast, zoc (by omega)]
      · rw [if_neg c2, zod (fun h => c2 h.2)]
    · rw [if_neg c1, zod (fun h => c1 h.1)]
  · simp only [z5R]
    rw [if_neg (by omega), List.take_length]
def zrI (p : List Int) (N : Nat) : List Nat := (List.range N).filter fun x : Nat => decide ((x : Int) ∈ p)
theorem zrG {p : List Int} {N : Nat} (hN : N ≤ 1000) : z3A (z8R N p) = some (toI (zrI p N)) := by
  have hml : ∀ k, (zrI p k).length ≤ k := fun k => Nat.le_trans (List.length_filter_le _ _) (by rw [List.length_range]; omega)
  unfold z3A
  refine z0N (s := ((0 : Int), ([] : List Int))) N (fun t => ((t : Int), toI (zrI p t))) rfl (by simp only [LFm]; omega) (fun t ht => ?_) ?_
  · have hl := hml t
    have hs : zrI p (t + 1) = zrI p t ++ if decide ((t : Int) ∈ p) = true then [t] else [] := by
      unfold zrI; rw [List.range_succ, List.filter_append, List.filter_cons, List.filter_nil]
    simp only [z3j]
    rw [zip, if_pos (by omega), zmP ht, Option.bind_some, z1b (by omega), hs]
    by_cases h : decide ((t : Int) ∈ p) = true
    · rw [if_pos h, if_pos h, z0B _ (by unfold z0T; rw [z0s]; omega), z5t]
    · rw [if_neg h, if_neg h, List.append_nil]
  · simp only [z3j]
    rw [zip, if_neg (by omega)]
theorem zth {p : List Int} {N : Nat} (hr : ∀ x ∈ p, 0 ≤ x ∧ x < (N : Int)) : (zrI p N).length = p.length ↔ p.Nodup := by
  have hnd : (toI (zrI p N)).Nodup := by
    unfold toI zrI
    refine List.Pairwise.map _ (fun a b (h : a ≠ b) => ?_) (List.Pairwise.filter _ List.nodup_range)
    intro e; exact h (by omega)
  have hin : ∀ x, x ∈ toI (zrI p N) ↔ x ∈ p := fun x => by
    unfold toI zrI
    rw [List.mem_map]
    constructor
    · rintro ⟨a, ha, rfl⟩
      simpa using (List.mem_filter.1 ha).2
    · intro hx
      have := hr x hx
      refine ⟨x.toNat, List.mem_filter.2 ⟨List.mem_range.2 (by omega), ?_⟩, by omega⟩
      have e : ((x.toNat : Nat) : Int) = x := by omega
      rw [e]; simpa using hx
  have h1 := z7L hnd (r := p) fun x hx => (hin x).1 hx
  rw [z0s] at h1
  constructor
  · intro he
    rw [zcH]
    intro k hk hm
    have h2 := z7L hnd (r := p.eraseIdx k) fun x hx => by
      have hx := (hin x).1 hx
      rw [List.mem_eraseIdx_iff_getElem]
      by_cases e : x = p[k]
      · obtain ⟨i, hi, e2⟩ := List.getElem_of_mem hm
        rw [List.length_take] at hi
        rw [List.getElem_take] at e2
        exact ⟨i, by omega, by omega, by rw [e2, e]⟩
      · obtain ⟨i, hi, e2⟩ := List.getElem_of_mem hx
        exact ⟨i, hi, fun h => e (by subst h; exact e2.symm), e2⟩
    rw [z0s, List.length_eraseIdx, if_pos hk] at h2
    omega
  · intro hp
    have h2 := z7L hp (r := toI (zrI p N)) fun x hx => (hin x).2 hx
    rw [z0s] at h2
    omega
theorem ztt {p : List Int} (h1 : 1 ≤ p.length) (h2 : p.length ≤ 32) : z1I p = some (z3S p.length p) := by
  have hv : z5p p = some (p.all fun x => decide (0 ≤ x ∧ x < (p.length : Int))) := by
    unfold z5p
    rw [if_neg (by omega), if_neg (by omega), z6w (b := z3c p) (l := p) 0 (fun x => decide (0 ≤ x ∧ x < (p.length : Int))) (A := some false) (B := some true) (by omega) ?_ ?_]
    · cases (p.all fun x => decide (0 ≤ x ∧ x < (p.length : Int))) <;> rfl
    · intro k hk
      have hg : p.getD k 0 = p[k] := by rw [List.getD, List.getElem?_eq_getElem hk, Option.getD_some]
      simp only [z3c]
      rw [if_pos (by omega), z0L hk, Option.bind_some, hg]
      generalize p[k] = v
      by_cases c1 : v < 0
      · rw [if_pos c1, if_neg (by simp; omega)]
      · rw [if_neg c1]
        by_cases c2 : (p.length : Int) ≤ v
        · rw [if_pos c2, if_neg (by simp; omega)]
        · rw [if_neg c2, if_pos (by simp; omega), z1b (by omega)]
    · simp only [z3c]
      rw [if_neg (by omega)]
  unfold z1I
  rw [hv, Option.bind_some]
  cases ha : (p.all fun x => decide (0 ≤ x ∧ x < (p.length : Int))) with
  | false => rw [if_neg (by simp)]; unfold z3S; rw [ha]; simp
  | true =>
    have hr : ∀ x ∈ p, 0 ≤ x ∧ x < (p.length : Int) := by simpa using ha
    unfold z6V
    rw [if_pos rfl, zyq (by omega) (by omega), Option.bind_some, zrG (by omega), Option.bind_some, Option.bind_some]
    congr 1
    unfold z3S
    rw [ha, z0s, Bool.eq_iff_iff]
    have := zth hr
    simp only [decide_eq_true_eq, Bool.true_and, Bool.and_eq_true, true_and]
    rw [← this]; omega
end Go.Proofs.Ytodliknibbafeaa
end

/- Proved here: a part of the proof of the law at hand, in one text: no condition. -/
import Derived.Test.YtodliknibbafeaaGreatMWD4
import Derived.KernelRfl
set_option linter.unusedVariables false
set_option linter.unusedSimpArgs false
namespace Go.Proofs.YtodliknibbafeaaGreat
section
open Go
theorem znU {a0 : List Int} {r : List Int} (h : zhb a0 = some r) : L 75 [.os 1 a0.length (a0.map fun x0 => .sc (.int .i64 x0)), .sc (.func (.func 76) #[] #[])] = some (.tup [], [.os 1 r.length (r.map fun x0 => .sc (.int .i64 x0)), .dead]) := by
  refine zcC rfl ?_
  have e : (List.map (fun x0 => T.sc (Value.int IntKind.i64 x0)) a0) = a0.map fun x => .sc (.int .i64 x) := rfl
  simp only [xt, xtC, if_true, znO, Array.isEmpty_empty, and_self, z7T, h, Option.map_some]
instance {a0 : List Int} : Ok (zhb a0) (fun r => L 75 [.os 1 a0.length (a0.map fun x0 => .sc (.int .i64 x0)), .sc (.func (.func 76) #[] #[])] = some (.tup [], [.os 1 r.length (r.map fun x0 => .sc (.int .i64 x0)), .dead])) := ⟨fun _ h => znU h⟩
theorem znV {a0 : List (List Int)} {r : List (List Int)} (h : zjK a0 = some r) : L 41 [.os 1 a0.length (a0.map fun x0 => .sl x0.length (x0.map fun x1 => .sc (.int .i64 x1))), .sc (.func (.func 42) #[] #[])] = some (.tup [], [.os 1 r.length (r.map fun x0 => .sl x0.length (x0.map fun x1 => .sc (.int .i64 x1))), .dead]) := by
  refine zcC rfl ?_
  have e : ∀ l : List (List Int), (l.map fun x0 => T.sl x0.length (x0.map fun x1 => T.sc (Value.int IntKind.i64 x1))) = l.map zh4 := fun _ => rfl
  simp only [xt, xtC, if_true, znP, Array.isEmpty_empty, and_self, e, zg9, h, Option.map_some]
  rw [if_neg (by decide)]
instance {a0 : List (List Int)} : Ok (zjK a0) (fun r => L 41 [.os 1 a0.length (a0.map fun x0 => .sl x0.length (x0.map fun x1 => .sc (.int .i64 x1))), .sc (.func (.func 42) #[] #[])] = some (.tup [], [.os 1 r.length (r.map fun x0 => .sl x0.length (x0.map fun x1 => .sc (.int .i64 x1))), .dead])) := ⟨fun _ h => znV h⟩
theorem zlg {a0 : List Int} {r : List Int} (h : zdr a0 = some r) : L 117 [.os 1 a0.length (a0.map fun x0 => .sc (.int .i64 x0))] = some (.tup [], [.os 1 r.length (r.map fun x0 => .sc (.int .i64 x0))]) := by
  refine zcC rfl ?_
  simp only [xt, xtC, if_true, zic, z7T, h, Option.map_some]
  rw [if_neg (by decide), if_neg (by decide)]
instance {a0 : List Int} : Ok (zdr a0) (fun r => L 117 [.os 1 a0.length (a0.map fun x0 => .sc (.int .i64 x0))] = some (.tup [], [.os 1 r.length (r.map fun x0 => .sc (.int .i64 x0))])) := ⟨fun _ h => zlg h⟩
theorem zlh {a0 : List Int} {r : List Int} (h : zds a0 = some r) : L 116 [.sl a0.length (a0.map fun x0 => .sc (.int .i64 x0))] = some (.os 1 r.length (r.map fun x0 => .sc (.int .i64 x0)), [.dead]) := by
  refine zcC rfl ?_
  simp only [xt, xtC, if_true, zid, z7T, h, Option.map_some]
  rw [if_neg (by decide), if_neg (by decide), if_neg (by decide)]
instance {a0 : List Int} : Ok (zds a0) (fun r => L 116 [.sl a0.length (a0.map fun x0 => .sc (.int .i64 x0))] = some (.os 1 r.length (r.map fun x0 => .sc (.int .i64 x0)), [.dead])) := ⟨fun _ h => zlh h⟩
end
section
open Go
noncomputable section
set_option maxRecDepth 100000
set_option maxHeartbeats 6000000
abbrev z1K (w93 : Int) (v122 : List Int) : Int × List Bool × List ByteArray × List Int -> Option ((Int × List Bool × List ByteArray × List Int) ⊕ ((Int × List Bool × List ByteArray × List Int) ⊕ (List Int × List ByteArray)))
  | (w129, w130, w131, w132) =>
  if w129 < (v122.length : Int) then
    (atI v122 w129).bind fun v139 =>
    (atI w130 v139).bind fun v140 =>
    if v140 = true then
      z0e (IntKind.i64.wrap (w129 + 1), w130, w131, w132)
    else
      (atI w132 w93).bind fun v142 =>
      (atI w131 v142).bind fun v143 =>
      chk (z7G v143 ⟨#[UInt8.ofNat (IntKind.u8.wrap (IntKind.i64.wrap (97 + w129))).toNat]⟩) <|
      (atI w131 v139).bind fun v144 =>
      chk (z1q 8 (w132.length + 1)) <|
      z0e (IntKind.i64.wrap (w129 + 1), (w130.set v139.toNat true), (w131.set v139.toNat (v143 ++ ⟨#[UInt8.ofNat (IntKind.u8.wrap (IntKind.i64.wrap (97 + w129))).toNat]⟩)), w132 ++ [v139])
  else
    z0k <|
    z0e (IntKind.i64.wrap (w93 + 1), w130, w131, w132)
instance {w93 : Int} {v122 : List Int} : Hd (z1K w93 v122) := ⟨fun (w129, w130, w131, w132) => ([(40, xI w129)], [(6, .os 1 w130.length (w130.map fun x0 => .sc (.bool x0))), (7, .os 1 w131.length (w131.map fun x0 => .sc (.string x0))), (8, .os 1 w132.length (w132.map fun x0 => .sc (.int .i64 x0)))])⟩
abbrev z3x (a0 : Dgm) : Int × List Bool × List ByteArray × List Int -> Option ((Int × List Bool × List ByteArray × List Int) ⊕ (List Int × List ByteArray))
  | (w93, w94, w95, w96) =>
  if w93 < (w96.length : Int) then
    (atI w96 w93).bind fun v121 =>
    (atI a0.next v121).bind fun v122 =>
    z0o (z1K w93 v122) LFm (0, w94, w95, w96)
  else
    z0k <|
    some (w96, w95)
instance {a0 : Dgm} : Hd (z3x a0) := ⟨fun (w93, w94, w95, w96) => ([(9, xI w93)], [(6, .os 1 w94.length (w94.map fun x0 => .sc (.bool x0))), (7, .os 1 w95.length (w95.map fun x0 => .sc (.string x0))), (8, .os 1 w96.length (w96.map fun x0 => .sc (.int .i64 x0)))])⟩
def z1n (a0 : Dgm) (a1 : Int) : Option (List Int × List ByteArray) :=
  chk (z1i 1 (a0.sets.length : Int)) <|
  chk (z1i 16 (a0.sets.length : Int)) <|
  chk (0 <= a1 /\ a1 < (a0.sets.length : Int)) <|
  z0o (z3x a0) LFm (0, ((List.replicate (a0.sets.length : Int).toNat (false : Bool)).set a1.toNat true), List.replicate (a0.sets.length : Int).toNat (ByteArray.empty : ByteArray), [a1])
instance images_diagram_search_ok {a0 : Dgm} {a1 : Int} : Ok (z1n a0 a1) (fun r => L 56 [.agg [.sl a0.sets.length (a0.sets.map fun x0 => .sc (.int .i64 x0)), .sl a0.next.length (a0.next.map fun x0 => .sl x0.length (x0.map fun x1 => .sc (.int .i64 x1))), .sl a0.below.length (a0.below.map fun x0 => .sl x0.length (x0.map fun x1 => .sc (.bool x1)))], .sc (.int .i64 a1)] = some (.tup [.os 1 r.1.length (r.1.map fun x0 => .sc (.int .i64 x0)), .os 1 r.2.length (r.2.map fun x0 => .sc (.string x0))], [.dead, .dead])) := ⟨fun r h => by have h := z4c h; unfold z1n at h; exact z4E zvq zxh zzd⟩
abbrev z2q (a0 : DFA) (a1 : List Int) (w226 : List Int) (w246 : Int) (w248 : List (List Bool)) (v266 : Int) : Int × List (List Int) -> Option ((Int × List (List Int)) ⊕ ((Int × List (List Int) × List (List Bool)) ⊕ Dgm))
  | (w272, w273) =>
  if w272 < a0.letters then
    (atI w273 w246).bind fun v278 =>
    (z4y a0 v266 w272).bind fun v279 =>
    (atI w226 v279).bind fun v280 =>
    (atI v278 w272).bind fun v281 =>
    z0e (IntKind.i64.wrap (w272 + 1), (w273.set w246.toNat (v278.set w272.toNat v280)))
  else
    z0k <|
    chk (z1i 1 (a1.length : Int)) <|
    (atI w248 w246).bind fun v282 =>
    z0e (IntKind.i64.wrap (w246 + 1), w273, (w248.set w246.toNat (List.replicate (a1.length : Int).toNat (false : Bool))))
instance {a0 : DFA} {a1 : List Int} {w226 : List Int} {w246 : Int} {w248 : List (List Bool)} {v266 : Int} : Hd (z2q a0 a1 w226 w246 w248 v266) := ⟨fun (w272, w273) => ([(60, xI w272)], [(8, .vr [.sl a1.length (a1.map fun x0 => .sc (.int .i64 x0)), .os 1 w273.length (w273.map fun x0 => .os 1 x0.length (x0.map fun x1 => .sc (.int .i64 x1))), .os 1 w248.length (w248.map fun x0 => .os 1 x0.length (x0.map fun x1 => .sc (.bool x1)))])])⟩
abbrev z2p (a1 : List Int) (w337 : Int) (v393 : List Int × List ByteArray) (w411 : Int) (w412 : List (List Bool)) (v430 : Int) : Int -> Option (Int ⊕ ((Int × List (List Bool)) ⊕ ((Int × List (List Bool)) ⊕ Dgm)))
  | w436 =>
  if w436 < (v393.1.length : Int) then
    (atI v393.1 w436).bind fun v442 =>
    (atI a1 v442).bind fun v443 =>
    (z2K v443 v430).bind fun v444 =>
    if v444 = true then
      (atI w412 w411).bind fun v445 =>
      (atI v445 w337).bind fun v446 =>
      z0k <|
      z0e (IntKind.i64.wrap (w411 + 1), (w412.set w411.toNat (v445.set w337.toNat true)))
    else
      z0e (IntKind.i64.wrap (w436 + 1))
  else
    z0k <|
    z0e (IntKind.i64.wrap (w411 + 1), w412)
instance {a1 : List Int} {w337 : Int} {v393 : List Int × List ByteArray} {w411 : Int} {w412 : List (List Bool)} {v430 : Int} : Hd (z2p a1 w337 v393 w411 w412 v430) := ⟨fun w436 => ([(106, xI w436)], [])⟩
abbrev z2Z (a1 : List Int) (w337 : Int) (v393 : List Int × List ByteArray) (w247 : List (List Int)) : Int × List (List Bool) -> Option ((Int × List (List Bool)) ⊕ ((Int × List (List Bool)) ⊕ Dgm))
  | (w411, w412) =>
  if w411 < (a1.length : Int) then
    (atI a1 w411).bind fun v430 =>
    z0o (z2p a1 w337 v393 w411 w412 v430) LFm 0
  else
    z0k <|
    z0e (IntKind.i64.wrap (w337 + 1), w412)
instance {a1 : List Int} {w337 : Int} {v393 : List Int × List ByteArray} {w247 : List (List Int)} : Hd (z2Z a1 w337 v393 w247) := ⟨fun (w411, w412) => ([(99, xI w411)], [(8, .vr [.sl a1.length (a1.map fun x0 => .sc (.int .i64 x0)), .os 1 w247.length (w247.map fun x0 => .os 1 x0.length (x0.map fun x1 => .sc (.int .i64 x1))), .os 1 w412.length (w412.map fun x0 => .os 1 x0.length (x0.map fun x1 => .sc (.bool x1)))])])⟩
abbrev z3a (a1 : List Int) (w247 : List (List Int)) : Int × List (List Bool) -> Option ((Int × List (List Bool)) ⊕ Dgm)
  | (w337, w338) =>
  if w337 < (a1.length : Int) then
    (z1n (⟨a1, w247, w338⟩ : Dgm) w337).bind fun v393 =>
    z0o (z2Z a1 w337 v393 w247) LFm (0, w338)
  else
    z0k <|
    some (⟨a1, w247, w338⟩ : Dgm)
instance {a1 : List Int} {w247 : List (List Int)} : Hd (z3a a1 w247) := ⟨fun (w337, w338) => ([(88, xI w337)], [(8, .vr [.sl a1.length (a1.map fun x0 => .sc (.int .i64 x0)), .os 1 w247.length (w247.map fun x0 => .os 1 x0.length (x0.map fun x1 => .sc (.int .i64 x1))), .os 1 w338.length (w338.map fun x0 => .os 1 x0.length (x0.map fun x1 => .sc (.bool x1)))])])⟩
abbrev z3m (a0 : DFA) (a1 : List Int) (w226 : List Int) : Int × List (List Int) × List (List Bool) -> Option ((Int × List (List Int) × List (List Bool)) ⊕ Dgm)
  | (w246, w247, w248) =>
  if w246 < (a1.length : Int) then
    (atI a1 w246).bind fun v266 =>
    chk (z1i 8 a0.letters) <|
    (atI w247 w246).bind fun v267 =>
    z0o (z2q a0 a1 w226 w246 w248 v266) LFm (0, (w247.set w246.toNat (List.replicate a0.letters.toNat (0 : Int))))
  else
    z0k <|
    z0o (z3a a1 w247) LFm (0, w248)
instance {a0 : DFA} {a1 : List Int} {w226 : List Int} : Hd (z3m a0 a1 w226) := ⟨fun (w246, w247, w248) => ([(46, xI w246)], [(8, .vr [.sl a1.length (a1.map fun x0 => .sc (.int .i64 x0)), .os 1 w247.length (w247.map fun x0 => .os 1 x0.length (x0.map fun x1 => .sc (.int .i64 x1))), .os 1 w248.length (w248.map fun x0 => .os 1 x0.length (x0.map fun x1 => .sc (.bool x1)))])])⟩
abbrev z3n (a0 : DFA) (a1 : List Int) : Int × List Int -> Option ((Int × List Int) ⊕ Dgm)
  | (w225, w226) =>
  if w225 < (a1.length : Int) then
    (atI a1 w225).bind fun v229 =>
    (atI w226 v229).bind fun v230 =>
    z0e (IntKind.i64.wrap (w225 + 1), (w226.set v229.toNat w225))
  else
    z0k <|
    chk (z1i 24 (a1.length : Int)) <|
    z0o (z3m a0 a1 w226) LFm (0, List.replicate (a1.length : Int).toNat ([] : List Int), List.replicate (a1.length : Int).toNat ([] : List Bool))
instance {a0 : DFA} {a1 : List Int} : Hd (z3n a0 a1) := ⟨fun (w225, w226) => ([(26, xI w225)], [(5, .os 1 w226.length (w226.map fun x0 => .sc (.int .i64 x0)))])⟩
def z3w (a0 : DFA) (a1 : List Int) : Option (Dgm) :=
  chk (¬ (a0.final.length : Int) < 0) <|
  chk (z1i 8 (zhl .i64 1 (a0.final.length : Int))) <|
  z0o (z3n a0 a1) LFm (0, List.replicate (zhl .i64 1 (a0.final.length : Int)).toNat (0 : Int))
instance images_newDiagram_ok {a0 : DFA} {a1 : List Int} : Ok (z3w a0 a1) (fun r => L 52 [.agg [.sc (.int .i64 a0.letters), .sc (.int .i64 a0.start), .sl a0.final.length (a0.final.map fun x0 => .sc (.bool x0)), .sl a0.next.length (a0.next.map fun x0 => .sl x0.length (x0.map fun x1 => .sc (.int .i64 x1)))], .sl a1.length (a1.map fun x0 => .sc (.int .i64 x0))] = some (.agg [.sl r.sets.length (r.sets.map fun x0 => .sc (.int .i64 x0)), .os 1 r.next.length (r.next.map fun x0 => .os 1 x0.length (x0.map fun x1 => .sc (.int .i64 x1))), .os 1 r.below.length (r.below.map fun x0 => .os 1 x0.length (x0.map fun x1 => .sc (.bool x1)))], [.dead, .dead])) := ⟨fun r h => by have h := z4c h; unfold z3w at h; exact z4E zvu zxl zzh⟩
abbrev z2l (a0 : Dgm) (w50 : Int) (w52 : List Int) : Int × List Int -> Option ((Int × List Int) ⊕ ((Int × List Int × List Int) ⊕ (List Int × List Int)))
  | (w82, w83) =>
  if w82 < (w52.length : Int) then
    (atI w52 w82).bind fun v90 =>
    (atI a0.below w50).bind fun v91 =>
    (atI v91 v90).bind fun v92 =>
    if v92 = true then
      (atI a0.below v90).bind fun v93 =>
      (atI v93 w50).bind fun v94 =>
      if v94 = true then
        (atI w83 w50).bind fun v95 =>
        z0e (IntKind.i64.wrap (w82 + 1), (w83.set w50.toNat w82))
      else
        z0e (IntKind.i64.wrap (w82 + 1), w83)
    else
      z0e (IntKind.i64.wrap (w82 + 1), w83)
  else
    z0k <|
    (atI w83 w50).bind fun v96 =>
    if v96 = (w52.length : Int) then
      chk (z1q 8 (w52.length + 1)) <|
      z0e (IntKind.i64.wrap (w50 + 1), w83, w52 ++ [w50])
    else
      z0e (IntKind.i64.wrap (w50 + 1), w83, w52)
instance {a0 : Dgm} {w50 : Int} {w52 : List Int} : Hd (z2l a0 w50 w52) := ⟨fun (w82, w83) => ([(26, xI w82)], [(4, .os 1 w83.length (w83.map fun x0 => .sc (.int .i64 x0)))])⟩
abbrev z2m (a0 : Dgm) : Int × List Int × List Int -> Option ((Int × List Int × List Int) ⊕ (List Int × List Int))
  | (w50, w51, w52) =>
  if w50 < (a0.sets.length : Int) then
    (atI w51 w50).bind fun v75 =>
    z0o (z2l a0 w50 w52) LFm (0, (w51.set w50.toNat (w52.length : Int)))
  else
    z0k <|
    some (w51, w52)
instance {a0 : Dgm} : Hd (z2m a0) := ⟨fun (w50, w51, w52) => ([(16, xI w50)], [(4, .os 1 w51.length (w51.map fun x0 => .sc (.int .i64 x0))), (5, .os 1 w52.length (w52.map fun x0 => .sc (.int .i64 x0)))])⟩
def z2a (a0 : Dgm) : Option (List Int × List Int) :=
  chk (z1i 8 (a0.sets.length : Int)) <|
  z0o (z2m a0) LFm (0, List.replicate (a0.sets.length : Int).toNat (0 : Int), [])
instance images_diagram_classes_ok {a0 : Dgm} : Ok (z2a a0) (fun r => L 53 [.agg [.sl a0.sets.length (a0.sets.map fun x0 => .sc (.int .i64 x0)), .sl a0.next.length (a0.next.map fun x0 => .sl x0.length (x0.map fun x1 => .sc (.int .i64 x1))), .sl a0.below.length (a0.below.map fun x0 => .sl x0.length (x0.map fun x1 => .sc (.bool x1)))]] = some (.tup [.os 1 r.1.length (r.1.map fun x0 => .sc (.int .i64 x0)), .os 1 r.2.length (r.2.map fun x0 => .sc (.int .i64 x0))], [.dead])) := ⟨fun r h => by have h := z4c h; unfold z2a at h; exact z4E zvt zxk zzg⟩
abbrev z2u (a0 : Dgm) (w64 : List Int) (w85 : Int) (w86 : List Int) (v101 : Int) : Int -> Option (Int ⊕ ((Int × List Int) ⊕ List Int))
  | w106 =>
  if w106 < (w64.length : Int) then
    (atI w64 w106).bind fun v111 =>
    if v111 = v101 then
      z0e (IntKind.i64.wrap (w106 + 1))
    else
      (atI a0.sets v111).bind fun v112 =>
      (atI a0.sets v101).bind fun v113 =>
      (z2K v112 v113).bind fun v114 =>
      if v114 = true then
        z0k <|
        z0e (IntKind.i64.wrap (w85 + 1), w86)
      else
        z0e (IntKind.i64.wrap (w106 + 1))
  else
    z0k <|
    chk (z1q 8 (w86.length + 1)) <|
    z0e (IntKind.i64.wrap (w85 + 1), w86 ++ [v101])
instance {a0 : Dgm} {w64 : List Int} {w85 : Int} {w86 : List Int} {v101 : Int} : Hd (z2u a0 w64 w85 w86 v101) := ⟨fun w106 => ([(53, xI w106)], [])⟩
abbrev z1J (a0 : Dgm) (w64 : List Int) : Int × List Int -> Option ((Int × List Int) ⊕ List Int)
  | (w85, w86) =>
  if w85 < (w64.length : Int) then
    (atI w64 w85).bind fun v101 =>
    z0o (z2u a0 w64 w85 w86 v101) LFm 0
  else
    z0k <|
    some w86
instance {a0 : Dgm} {w64 : List Int} : Hd (z1J a0 w64) := ⟨fun (w85, w86) => ([(47, xI w85)], [(8, .os 1 w86.length (w86.map fun x0 => .sc (.int .i64 x0)))])⟩
abbrev z2C (a0 : Dgm) (a1 : Int) : Int × List Int -> Option ((Int × List Int) ⊕ List Int)
  | (w63, w64) =>
  if w63 < (a0.sets.length : Int) then
    (atI a0.sets w63).bind fun v68 =>
    if w63 = a1 then
      z0e (IntKind.i64.wrap (w63 + 1), w64)
    else
      (atI a0.sets a1).bind fun v69 =>
      (z2K v69 v68).bind fun v70 =>
      if v70 = true then
        chk (z1q 8 (w64.length + 1)) <|
        z0e (IntKind.i64.wrap (w63 + 1), w64 ++ [w63])
      else
        z0e (IntKind.i64.wrap (w63 + 1), w64)
  else
    z0k <|
    z0o (z1J a0 w64) LFm (0, [])
instance {a0 : Dgm} {a1 : Int} : Hd (z2C a0 a1) := ⟨fun (w63, w64) => ([(23, xI w63)], [(5, .os 1 w64.length (w64.map fun x0 => .sc (.int .i64 x0)))])⟩
def z2x (a0 : Dgm) (a1 : Int) : Option (List Int) :=
  (atI a0.sets a1).bind fun v58 =>
  (z5b v58).bind fun v59 =>
  if v59 = 1 then
    some []
  else
    z0o (z2C a0 a1) LFm (0, [])
instance images_diagram_tiles_ok {a0 : Dgm} {a1 : Int} : Ok (z2x a0 a1) (fun r => L 55 [.agg [.sl a0.sets.length (a0.sets.map fun x0 => .sc (.int .i64 x0)), .sl a0.next.length (a0.next.map fun x0 => .sl x0.length (x0.map fun x1 => .sc (.int .i64 x1))), .sl a0.below.length (a0.below.map fun x0 => .sl x0.length (x0.map fun x1 => .sc (.bool x1)))], .sc (.int .i64 a1)] = some (.os 1 r.length (r.map fun x0 => .sc (.int .i64 x0)), [.dead, .dead])) := ⟨fun r h => by have h := z4c h; unfold z2x at h; exact z4E zvr zxi zze⟩
abbrev z2t (a0 : List Int) (a1 : Int) : Int -> Option (Int ⊕ Int)
  | w6 =>
  if w6 < (a0.length : Int) then
    (atI a0 w6).bind fun v8 =>
    if a1 = v8 then
      z0k <|
      some w6
    else
      z0e (IntKind.i64.wrap (w6 + 1))
  else
    z0k <|
    some (-1)
instance {a0 : List Int} {a1 : Int} : Hd (z2t a0 a1) := ⟨fun w6 => ([(8, xI w6)], [])⟩
def z2V (a0 : List Int) (a1 : Int) : Option (Int) :=
  z0o (z2t a0 a1) LFm 0
instance slices_Index_Lint_int_ok {a0 : List Int} {a1 : Int} : Ok (z2V a0 a1) (fun r => L 95 [.sl a0.length (a0.map fun x0 => .sc (.int .i64 x0)), .sc (.int .i64 a1)] = some (.sc (.int .i64 r), [.dead, .dead])) := ⟨fun r h => by have h := z4c h; unfold z2V at h; exact z4E zv7 zwY zyU⟩
def z1I (a0 : List Int) (a1 : Int) : Option (Bool) :=
  (z2V a0 a1).bind fun v2 =>
  some (decide (0 <= v2))
instance slices_Contains_Lint_int_ok {a0 : List Int} {a1 : Int} : Ok (z1I a0 a1) (fun r => L 74 [.sl a0.length (a0.map fun x0 => .sc (.int .i64 x0)), .sc (.int .i64 a1)] = some (.sc (.bool r), [.dead, .dead])) := ⟨fun r h => by have h := z4c h; unfold z1I at h; exact z4E zve zx5 zz1⟩
abbrev z5q (a0 : DFA) : Int × List Int -> Option ((Int × List Int) ⊕ List Int)
  | (w10, w11) =>
  if w10 < (a0.final.length : Int) then
    chk (¬ w10 < 0) <|
    (z1I w11 (zhl .i64 1 w10)).bind fun v13 =>
    if v13 = true then
      z0e (IntKind.i64.wrap (w10 + 1), w11)
    else
      chk (z1q 8 (w11.length + 1)) <|
      z0e (IntKind.i64.wrap (w10 + 1), w11 ++ [zhl .i64 1 w10])
  else
    z0k <|
    (zhb w11).bind fun v14 =>
    some v14
instance {a0 : DFA} : Hd (z5q a0) := ⟨fun (w10, w11) => ([(19, xI w10)], [(3, .os 1 w11.length (w11.map fun x0 => .sc (.int .i64 x0)))])⟩
def z6p (a0 : DFA) : Option (List Int) :=
  chk (¬ (a0.final.length : Int) < 0) <|
  (z5y a0 (IntKind.i64.wrap ((zhl .i64 1 (a0.final.length : Int)) - 1))).bind fun v8 =>
  z0o (z5q a0) LFm (0, v8.1)
instance images_list_ok {a0 : DFA} : Ok (z6p a0) (fun r => L 51 [.agg [.sc (.int .i64 a0.letters), .sc (.int .i64 a0.start), .sl a0.final.length (a0.final.map fun x0 => .sc (.bool x0)), .sl a0.next.length (a0.next.map fun x0 => .sl x0.length (x0.map fun x1 => .sc (.int .i64 x1)))]] = some (.os 1 r.length (r.map fun x0 => .sc (.int .i64 x0)), [.dead])) := ⟨fun r h => by have h := z4c h; unfold z6p at h; exact z4E zvv zxm zzi⟩
def z4O (v69 : List Int) (v71 : List Int × List Int) (w107 : Int) (v123 : List Int × List ByteArray) : Int × List ByteArray -> Option ((Int × List ByteArray) ⊕ ((Int × List ByteArray) ⊕ (Imgs × Int)))
  | (w127, w128) =>
  if w127 < (v69.length : Int) then
    (atI v71.1 w127).bind fun v132 =>
    if v132 = w107 then
      (atI v123.2 w127).bind fun v133 =>
      (atI w128 w127).bind fun v134 =>
      z0e (IntKind.i64.wrap (w127 + 1), (w128.set w127.toNat v133))
    else
      z0e (IntKind.i64.wrap (w127 + 1), w128)
  else
    z0k <|
    z0e (IntKind.i64.wrap (w107 + 1), w128)
def z4N (v69 : List Int) (v70 : Dgm) (v71 : List Int × List Int) (v72 : List Int) (w79 : List (List Int)) (w80 : List ByteArray) (w107 : Int) (v123 : List Int × List ByteArray) : Int × List ByteArray -> Fr
  | (w127, w128) => ⟨120, [(2, .one (.a 2 [] (0))), (5, .one (.t none (.sl v69.length (v69.map fun x0 => .sc (.int .i64 x0))))), (7, .one (.a 7 [] (0))), (8, .one (.t none (.sl v71.1.length (v71.1.map fun x0 => .sc (.int .i64 x0))))), (10, .one (.a 10 [] (0))), (14, .one (.t none (.sc (.int .i64 w107)))), (17, .one (.h 17 [])), (85, .one (.h 9 [])), (86, .one (.t none (.sc (.int .i64 (v71.2.length : Int))))), (87, .one (.t none (.sc (.int .i64 w107)))), (99, .one (.t none (.sc (.int .i64 (v69.length : Int))))), (100, .one (.t none (.sc (.int .i64 w127))))], [(2, .vr [.os 1 0 [], .os 1 0 [], .os 1 0 [], .os 1 0 [], .os 1 0 [], .os 1 0 []]), (7, .vr [.sl v70.sets.length (v70.sets.map fun x0 => .sc (.int .i64 x0)), .os 1 v70.next.length (v70.next.map fun x0 => .os 1 x0.length (x0.map fun x1 => .sc (.int .i64 x1))), .os 1 v70.below.length (v70.below.map fun x0 => .os 1 x0.length (x0.map fun x1 => .sc (.bool x1)))]), (10, .vr [.sl v69.length (v69.map fun x0 => .sc (.int .i64 x0)), .sl v71.1.length (v71.1.map fun x0 => .sc (.int .i64 x0)), .os 1 v72.length (v72.map fun x0 => .sc (.int .i64 x0)), .os 1 w79.length (w79.map fun x0 => .os 1 x0.length (x0.map fun x1 => .sc (.int .i64 x1))), .os 1 w128.length (w128.map fun x0 => .sc (.string x0)), .os 1 w80.length (w80.map fun x0 => .sc (.string x0))]), (17, .os 1 v123.2.length (v123.2.map fun x0 => .sc (.string x0))), (9, .os 1 v71.2.length (v71.2.map fun x0 => .sc (.int .i64 x0)))]⟩
def z5R (v69 : List Int) (v70 : Dgm) (v71 : List Int × List Int) (v72 : List Int) (w79 : List (List Int)) (w80 : List ByteArray) : Int × List ByteArray -> Option ((Int × List ByteArray) ⊕ (Imgs × Int))
  | (w107, w108) =>
  if w107 < (v71.2.length : Int) then
    (atI v71.2 w107).bind fun v122 =>
    (z1n v70 v122).bind fun v123 =>
    z0o (z4O v69 v71 w107 v123) LFm (0, w108)
  else
    z0k <|
    some ((⟨v69, v71.1, v72, w79, w108, w80⟩ : Imgs), 0)
def z5P (v69 : List Int) (v70 : Dgm) (v71 : List Int × List Int) (v72 : List Int) (w79 : List (List Int)) (w80 : List ByteArray) : Int × List ByteArray -> Fr
  | (w107, w108) => ⟨120, [(2, .one (.a 2 [] (0))), (5, .one (.t none (.sl v69.length (v69.map fun x0 => .sc (.int .i64 x0))))), (7, .one (.a 7 [] (0))), (8, .one (.t none (.sl v71.1.length (v71.1.map fun x0 => .sc (.int .i64 x0))))), (10, .one (.a 10 [] (0))), (85, .one (.h 9 [])), (86, .one (.t none (.sc (.int .i64 (v71.2.length : Int))))), (87, .one (.t none (.sc (.int .i64 w107))))], [(2, .vr [.os 1 0 [], .os 1 0 [], .os 1 0 [], .os 1 0 [], .os 1 0 [], .os 1 0 []]), (7, .vr [.sl v70.sets.length (v70.sets.map fun x0 => .sc (.int .i64 x0)), .os 1 v70.next.length (v70.next.map fun x0 => .os 1 x0.length (x0.map fun x1 => .sc (.int .i64 x1))), .os 1 v70.below.length (v70.below.map fun x0 => .os 1 x0.length (x0.map fun x1 => .sc (.bool x1)))]), (10, .vr [.sl v69.length (v69.map fun x0 => .sc (.int .i64 x0)), .sl v71.1.length (v71.1.map fun x0 => .sc (.int .i64 x0)), .os 1 v72.length (v72.map fun x0 => .sc (.int .i64 x0)), .os 1 w79.length (w79.map fun x0 => .os 1 x0.length (x0.map fun x1 => .sc (.int .i64 x1))), .os 1 w108.length (w108.map fun x0 => .sc (.string x0)), .os 1 w80.length (w80.map fun x0 => .sc (.string x0))]), (9, .os 1 v71.2.length (v71.2.map fun x0 => .sc (.int .i64 x0)))]⟩
def z5S (v69 : List Int) (v70 : Dgm) (v71 : List Int × List Int) (v72 : List Int) : Int × List (List Int) × List ByteArray -> Option ((Int × List (List Int) × List ByteArray) ⊕ (Imgs × Int))
  | (w78, w79, w80) =>
  if w78 < (v69.length : Int) then
    (z2x v70 w78).bind fun v88 =>
    (atI w79 w78).bind fun v89 =>
    (z1n v70 w78).bind fun v90 =>
    (atI v71.1 w78).bind fun v91 =>
    (atI v71.2 v91).bind fun v92 =>
    (atI v90.2 v92).bind fun v93 =>
    (atI w80 w78).bind fun v94 =>
    z0e (IntKind.i64.wrap (w78 + 1), (w79.set w78.toNat v88), (w80.set w78.toNat v93))
  else
    z0k <|
    z0o (z5R v69 v70 v71 v72 w79 w80) LFm (0, List.replicate (v69.length : Int).toNat (ByteArray.empty : ByteArray))
def z5Q (v69 : List Int) (v70 : Dgm) (v71 : List Int × List Int) (v72 : List Int) : Int × List (List Int) × List ByteArray -> Fr
  | (w78, w79, w80) => ⟨120, [(2, .one (.a 2 [] (0))), (5, .one (.t none (.sl v69.length (v69.map fun x0 => .sc (.int .i64 x0))))), (7, .one (.a 7 [] (0))), (8, .one (.t none (.sl v71.1.length (v71.1.map fun x0 => .sc (.int .i64 x0))))), (9, .one (.h 9 [])), (10, .one (.a 10 [] (0))), (53, .one (.t none (.sc (.int .i64 (v69.length : Int))))), (54, .one (.t none (.sc (.int .i64 w78))))], [(2, .vr [.os 1 0 [], .os 1 0 [], .os 1 0 [], .os 1 0 [], .os 1 0 [], .os 1 0 []]), (7, .vr [.sl v70.sets.length (v70.sets.map fun x0 => .sc (.int .i64 x0)), .os 1 v70.next.length (v70.next.map fun x0 => .os 1 x0.length (x0.map fun x1 => .sc (.int .i64 x1))), .os 1 v70.below.length (v70.below.map fun x0 => .os 1 x0.length (x0.map fun x1 => .sc (.bool x1)))]), (9, .os 1 v71.2.length (v71.2.map fun x0 => .sc (.int .i64 x0))), (10, .vr [.sl v69.length (v69.map fun x0 => .sc (.int .i64 x0)), .sl v71.1.length (v71.1.map fun x0 => .sc (.int .i64 x0)), .os 1 v72.length (v72.map fun x0 => .sc (.int .i64 x0)), .os 1 w79.length (w79.map fun x0 => .os 1 x0.length (x0.map fun x1 => .sc (.int .i64 x1))), .os 1 (List.replicate (v69.length : Int).toNat (ByteArray.empty : ByteArray)).length ((List.replicate (v69.length : Int).toNat (ByteArray.empty : ByteArray)).map fun x0 => .sc (.string x0)), .os 1 w80.length (w80.map fun x0 => .sc (.string x0))])]⟩
def z7W (a0 : DFA) : Option (Imgs × Int) :=
  (z3v a0).bind fun v68 =>
  if v68 = 0 then
    (z6p a0).bind fun v69 =>
    if 400 < (v69.length : Int) then
      some ((⟨[], [], [], [], [], []⟩ : Imgs), 3)
    else
      (z3w a0 v69).bind fun v70 =>
      (z2a v70).bind fun v71 =>
      (z1Z v70 v71.1).bind fun v72 =>
      chk (z1i 24 (v69.length : Int)) <|
      chk (z1i 16 (v69.length : Int)) <|
      z0o (z5S v69 v70 v71 v72) LFm (0, List.replicate (v69.length : Int).toNat ([] : List Int), List.replicate (v69.length : Int).toNat (ByteArray.empty : ByteArray))
  else
    some ((⟨[], [], [], [], [], []⟩ : Imgs), v68)
instance images_Of_ok {a0 : DFA} : Ok (z7W a0) (fun r => L 29 [.agg [.sc (.int .i64 a0.letters), .sc (.int .i64 a0.start), .sl a0.final.length (a0.final.map fun x0 => .sc (.bool x0)), .sl a0.next.length (a0.next.map fun x0 => .sl x0.length (x0.map fun x1 => .sc (.int .i64 x1)))]] = some (.tup [.agg [.sl r.1.sets.length (r.1.sets.map fun x0 => .sc (.int .i64 x0)), .sl r.1.class_.length (r.1.class_.map fun x0 => .sc (.int .i64 x0)), .sl r.1.height.length (r.1.height.map fun x0 => .sc (.int .i64 x0)), .sl r.1.tiles.length (r.1.tiles.map fun x0 => .sl x0.length (x0.map fun x1 => .sc (.int .i64 x1))), .sl r.1.words.length (r.1.words.map fun x0 => .sc (.string x0)), .sl r.1.back.length (r.1.back.map fun x0 => .sc (.string x0))], .sc (.int .i64 r.2)], [.dead])) := ⟨fun r h0 => by
  simp only [z7W] at h0
  refine znH zvI zwk (zbu zwr ⟨of_decide_eq_true rfl, of_decide_eq_true rfl⟩ rfl ?_)
  simp only [z6C, z6u, z5H, z8c, z5O]
  refine zq rfl (zr rfl rfl rfl (by simp; rfl) ?_)
  refine z0j (zq rfl (zq rfl ?_))
  obtain ⟨v68, f87, h1⟩ := z1E h0
  have f87k := Ok.ok _ f87
  try simp at f87k
  refine zr rfl rfl rfl (by simp [f87k]; rfl) ?_
  refine z0j (zq rfl (zr rfl rfl rfl (by simp; rfl) ?_))
  refine z0j ?_
  by_cases c88 : v68 = 0
  ·rw [if_pos c88] at h1
   have c88e := eq_true c88
   refine z9o rfl (by simp [c88e]) (z6k rfl (z0j (zq rfl ?_)))
   obtain ⟨v69, f89, h2⟩ := z1E h1
   have f89k := Ok.ok _ f89
   try simp at f89k
   refine zr rfl rfl rfl (by simp [f89k]; rfl) ?_
   refine z0j (zq rfl (zr rfl rfl rfl (by simp; rfl) ?_))
   refine z0j (zq rfl (zq rfl (zr rfl rfl rfl (by simp; rfl) ?_)))
   refine z0j ?_
   by_cases c90 : 400 < (v69.length : Int)
   ·rw [if_pos c90] at h2
    refine z9n rfl (by simp [c90]) (zq rfl (zr rfl rfl rfl (by simp; rfl) ?_))
    refine z0j (zk8 rfl (zhh ?_))
    cases h2
    simp
   ·rw [if_neg c90] at h2
    refine z9o rfl (by simp [c90]) (z6k rfl (z0j (zq rfl (zox rfl rfl (by simp; rfl) ?_))))
    obtain ⟨v70, f91, h3⟩ := z1E h2
    have f91k := Ok.ok _ f91
    try simp at f91k
    refine zr rfl rfl rfl (by simp [f91k]; rfl) ?_
    refine z0j (zq rfl ?_)
    obtain ⟨v71, f92, h4⟩ := z1E h3
    have f92k := Ok.ok _ f92
    try simp at f92k
    refine zr rfl rfl rfl (by simp [f92k]; rfl) ?_
    refine z0j (zq rfl (zox rfl rfl (by simp; rfl) ?_))
    obtain ⟨v72, f93, h5⟩ := z1E h4
    have f93k := Ok.ok _ f93
    try simp at f93k
    obtain ⟨f94, h6⟩ := ztH h5
    obtain ⟨f95, h7⟩ := ztH h6
    refine zgf rfl rfl rfl rfl ?_
    refine zpq [(0, 0, 0, 1), (1, 1, 0, 2), (2, 2, 0, 3), (3, 3, 0, 4), (4, 5, 0, 5), (5, 7, 0, 6), (6, 9, 0, 7), (7, 4, 1, 8), (7, 6, 1, 9), (7, 8, 1, 10), (7, 10, 1, 11), (7, 12, 1, 12), (8, 6, 1, 13), (8, 8, 1, 14), (8, 10, 1, 15), (8, 12, 1, 16), (9, 4, 1, 13), (9, 8, 1, 17), (9, 10, 1, 18), (9, 12, 1, 19), (10, 4, 1, 14), (10, 6, 1, 17), (10, 10, 1, 20), (10, 12, 1, 21), (11, 4, 1, 15), (11, 6, 1, 18), (11, 8, 1, 20), (11, 12, 1, 22), (12, 4, 1, 16), (12, 6, 1, 19), (12, 8, 1, 21), (12, 10, 1, 22), (13, 8, 1, 23), (13, 10, 1, 24), (13, 12, 1, 25), (14, 6, 1, 23), (14, 10, 1, 26), (14, 12, 1, 27), (15, 6, 1, 24), (15, 8, 1, 26), (15, 12, 1, 28), (16, 6, 1, 25), (16, 8, 1, 27), (16, 10, 1, 28), (17, 4, 1, 23), (17, 10, 1, 29), (17, 12, 1, 30), (18, 4, 1, 24), (18, 8, 1, 29), (18, 12, 1, 31), (19, 4, 1, 25), (19, 8, 1, 30), (19, 10, 1, 31), (20, 4, 1, 26), (20, 6, 1, 29), (20, 12, 1, 32), (21, 4, 1, 27), (21, 6, 1, 30), (21, 10, 1, 32), (22, 4, 1, 28), (22, 6, 1, 31), (22, 8, 1, 32), (23, 10, 1, 33), (23, 12, 1, 34), (24, 8, 1, 33), (24, 12, 1, 35), (25, 8, 1, 34), (25, 10, 1, 35), (26, 6, 1, 33), (26, 12, 1, 36), (27, 6, 1, 34), (27, 10, 1, 36), (28, 6, 1, 35), (28, 8, 1, 36), (29, 4, 1, 33), (29, 12, 1, 37), (30, 4, 1, 34), (30, 10, 1, 37), (31, 4, 1, 35), (31, 8, 1, 37), (32, 4, 1, 36), (32, 6, 1, 37), (33, 11, 0, 38), (34, 10, 1, 39), (35, 8, 1, 39), (36, 6, 1, 39), (37, 4, 1, 39), (38, 12, 1, 40), (39, 11, 0, 40), (40, 13, 2, 41)] 41 (by kernel_rfl) ?_
    refine z0q rfl rfl rfl rfl (by simp [z0b, z0c, f93k, f94, f95]; rfl) ?_
    refine z0q rfl rfl rfl rfl (by simp [z0b, z0c, f93k, f94, f95]; rfl) ?_
    refine z0q rfl rfl rfl rfl (by simp [z0b, z0c, f93k, f94, f95]; rfl) ?_
    refine z0q rfl rfl rfl rfl (by simp [z0b, z0c, f93k, f94, f95]; rfl) ?_
    refine z0q rfl rfl rfl rfl (by simp [z0b, z0c, f93k, f94, f95]; rfl) ?_
    refine z0q rfl rfl rfl rfl (by simp [z0b, z0c, f93k, f94, f95]; rfl) ?_
    refine z0q rfl rfl rfl rfl (by simp [z0b, z0c, f93k, f94, f95]; rfl) ?_
    refine z0q rfl rfl rfl rfl (by simp [z0b, z0c, f93k, f94, f95]; rfl) ?_
    refine z0q rfl rfl rfl rfl (by simp [z0b, z0c, f93k, f94, f95]; rfl) ?_
    refine z0q rfl rfl rfl rfl (by simp [z0b, z0c, f93k, f94, f95]; rfl) ?_
    refine z0q rfl rfl rfl rfl (by simp [z0b, z0c, f93k, f94, f95]; rfl) ?_
    refine z0q rfl rfl rfl rfl (by simp [z0b, z0c, f93k, f94, f95]; rfl) ?_
    refine z0q rfl rfl rfl rfl (by simp [z0b, z0c, f93k, f94, f95]; rfl) ?_
    refine z0q rfl rfl rfl rfl (by simp [z0b, z0c, f93k, f94, f95]; rfl) ?_
    refine z0q rfl rfl rfl rfl (by simp [z0b, z0c, f93k, f94, f95]; rfl) ?_
    refine z0q rfl rfl rfl rfl (by simp [z0b, z0c, f93k, f94, f95]; rfl) ?_
    refine z0p rfl rfl rfl rfl (by simp [z0b, z0c, f93k, f94, f95]) ?_
    refine z0q rfl rfl rfl rfl (by simp [z0b, z0c, f93k, f94, f95]; rfl) ?_
    refine z0q rfl rfl rfl rfl (by simp [z0b, z0c, f93k, f94, f95]; rfl) ?_
    refine z0q rfl rfl rfl rfl (by simp [z0b, z0c, f93k, f94, f95]; rfl) ?_
    refine z0p rfl rfl rfl rfl (by simp [z0b, z0c, f93k, f94, f95]) ?_
    refine z0p rfl rfl rfl rfl (by simp [z0b, z0c, f93k, f94, f95]) ?_
    refine z0q rfl rfl rfl rfl (by simp [z0b, z0c, f93k, f94, f95]; rfl) ?_
    refine z0q rfl rfl rfl rfl (by simp [z0b, z0c, f93k, f94, f95]; rfl) ?_
    refine z0p rfl rfl rfl rfl (by simp [z0b, z0c, f93k, f94, f95]) ?_
    refine z0p rfl rfl rfl rfl (by simp [z0b, z0c, f93k, f94, f95]) ?_
    refine z0p rfl rfl rfl rfl (by simp [z0b, z0c, f93k, f94, f95]) ?_
    refine z0q rfl rfl rfl rfl (by simp [z0b, z0c, f93k, f94, f95]; rfl) ?_
    refine z0p rfl rfl rfl rfl (by simp [z0b, z0c, f93k, f94, f95]) ?_
    refine z0p rfl rfl rfl rfl (by simp [z0b, z0c, f93k, f94, f95]) ?_
    refine z0p rfl rfl rfl rfl (by simp [z0b, z0c, f93k, f94, f95]) ?_
    refine z0p rfl rfl rfl rfl (by simp [z0b, z0c, f93k, f94, f95]) ?_
    refine z0q rfl rfl rfl rfl (by simp [z0b, z0c, f93k, f94, f95]; rfl) ?_
    refine z0q rfl rfl rfl rfl (by simp [z0b, z0c, f93k, f94, f95]; rfl) ?_
    refine z0q rfl rfl rfl rfl (by simp [z0b, z0c, f93k, f94, f95]; rfl) ?_
    refine z0p rfl rfl rfl rfl (by simp [z0b, z0c, f93k, f94, f95]) ?_
    refine z0q rfl rfl rfl rfl (by simp [z0b, z0c, f93k, f94, f95]; rfl) ?_
    refine z0q rfl rfl rfl rfl (by simp [z0b, z0c, f93k, f94, f95]; rfl) ?_
    refine z0p rfl rfl rfl rfl (by simp [z0b, z0c, f93k, f94, f95]) ?_
    refine z0p rfl rfl rfl rfl (by simp [z0b, z0c, f93k, f94, f95]) ?_
    refine z0q rfl rfl rfl rfl (by simp [z0b, z0c, f93k, f94, f95]; rfl) ?_
    refine z0p rfl rfl rfl rfl (by simp [z0b, z0c, f93k, f94, f95]) ?_
    refine z0p rfl rfl rfl rfl (by simp [z0b, z0c, f93k, f94, f95]) ?_
    refine z0p rfl rfl rfl rfl (by simp [z0b, z0c, f93k, f94, f95]) ?_
    refine z0p rfl rfl rfl rfl (by simp [z0b, z0c, f93k, f94, f95]) ?_
    refine z0q rfl rfl rfl rfl (by simp [z0b, z0c, f93k, f94, f95]; rfl) ?_
    refine z0q rfl rfl rfl rfl (by simp [z0b, z0c, f93k, f94, f95]; rfl) ?_
    refine z0p rfl rfl rfl rfl (by simp [z0b, z0c, f93k, f94, f95]) ?_
    refine z0p rfl rfl rfl rfl (by simp [z0b, z0c, f93k, f94, f95]) ?_
    refine z0q rfl rfl rfl rfl (by simp [z0b, z0c, f93k, f94, f95]; rfl) ?_
    refine z0p rfl rfl rfl rfl (by simp [z0b, z0c, f93k, f94, f95]) ?_
    refine z0p rfl rfl rfl rfl (by simp [z0b, z0c, f93k, f94, f95]) ?_
    refine z0p rfl rfl rfl rfl (by simp [z0b, z0c, f93k, f94, f95]) ?_
    refine z0p rfl rfl rfl rfl (by simp [z0b, z0c, f93k, f94, f95]) ?_
    refine z0p rfl rfl rfl rfl (by simp [z0b, z0c, f93k, f94, f95]) ?_
    refine z0q rfl rfl rfl rfl (by simp [z0b, z0c, f93k, f94, f95]; rfl) ?_
    refine z0p rfl rfl rfl rfl (by simp [z0b, z0c, f93k, f94, f95]) ?_
    refine z0p rfl rfl rfl rfl (by simp [z0b, z0c, f93k, f94, f95]) ?_
    refine z0p rfl rfl rfl rfl (by simp [z0b, z0c, f93k, f94, f95]) ?_
    refine z0p rfl rfl rfl rfl (by simp [z0b, z0c, f93k, f94, f95]) ?_
    refine z0p rfl rfl rfl rfl (by simp [z0b, z0c, f93k, f94, f95]) ?_
    refine z0p rfl rfl rfl rfl (by simp [z0b, z0c, f93k, f94, f95]) ?_
    refine z0q rfl rfl rfl rfl (by simp [z0b, z0c, f93k, f94, f95]; rfl) ?_
    refine z0q rfl rfl rfl rfl (by simp [z0b, z0c, f93k, f94, f95]; rfl) ?_
    refine z0p rfl rfl rfl rfl (by simp [z0b, z0c, f93k, f94, f95]) ?_
    refine z0q rfl rfl rfl rfl (by simp [z0b, z0c, f93k, f94, f95]; rfl) ?_
    refine z0p rfl rfl rfl rfl (by simp [z0b, z0c, f93k, f94, f95]) ?_
    refine z0p rfl rfl rfl rfl (by simp [z0b, z0c, f93k, f94, f95]) ?_
    refine z0p rfl rfl rfl rfl (by simp [z0b, z0c, f93k, f94, f95]) ?_
    refine z0q rfl rfl rfl rfl (by simp [z0b, z0c, f93k, f94, f95]; rfl) ?_
    refine z0p rfl rfl rfl rfl (by simp [z0b, z0c, f93k, f94, f95]) ?_
    refine z0p rfl rfl rfl rfl (by simp [z0b, z0c, f93k, f94, f95]) ?_
    refine z0p rfl rfl rfl rfl (by simp [z0b, z0c, f93k, f94, f95]) ?_
    refine z0p rfl rfl rfl rfl (by simp [z0b, z0c, f93k, f94, f95]) ?_
    refine z0p rfl rfl rfl rfl (by simp [z0b, z0c, f93k, f94, f95]) ?_
    refine z0q rfl rfl rfl rfl (by simp [z0b, z0c, f93k, f94, f95]; rfl) ?_
    refine z0p rfl rfl rfl rfl (by simp [z0b, z0c, f93k, f94, f95]) ?_
    refine z0p rfl rfl rfl rfl (by simp [z0b, z0c, f93k, f94, f95]) ?_
    refine z0p rfl rfl rfl rfl (by simp [z0b, z0c, f93k, f94, f95]) ?_
    refine z0p rfl rfl rfl rfl (by simp [z0b, z0c, f93k, f94, f95]) ?_
    refine z0p rfl rfl rfl rfl (by simp [z0b, z0c, f93k, f94, f95]) ?_
    refine z0p rfl rfl rfl rfl (by simp [z0b, z0c, f93k, f94, f95]) ?_
    refine z0q rfl rfl rfl rfl (by simp [z0b, z0c, f93k, f94, f95]; rfl) ?_
    refine z0q rfl rfl rfl rfl (by simp [z0b, z0c, f93k, f94, f95]; rfl) ?_
    refine z0p rfl rfl rfl rfl (by simp [z0b, z0c, f93k, f94, f95]) ?_
    refine z0p rfl rfl rfl rfl (by simp [z0b, z0c, f93k, f94, f95]) ?_
    refine z0p rfl rfl rfl rfl (by simp [z0b, z0c, f93k, f94, f95]) ?_
    refine z0q rfl rfl rfl rfl (by simp [z0b, z0c, f93k, f94, f95]; rfl) ?_
    refine z0p rfl rfl rfl rfl (by simp [z0b, z0c, f93k, f94, f95]) ?_
    refine z0q rfl rfl rfl rfl (by simp [z0b, z0c, f93k, f94, f95]; rfl) ?_
    refine zpL rfl ?_
    refine zfV rfl (by simp [f93k, f94, f95]; rfl) ?_
    refine z0j (zq rfl (zq rfl (zr rfl rfl rfl (by simp; rfl) ?_)))
    refine z0j (zb rfl (z6J h7 (z5Q v69 v70 v71 v72) rfl rfl (by simp [z5Q]) fun s o1 h8 hr1 => ?_))
    obtain ⟨w78, w79, w80⟩ := s
    simp only [z5S] at h8
    simp only [z5Q]
    refine zq rfl (zr rfl rfl rfl (by simp; rfl) ?_)
    refine z0j (zq rfl ?_)
    by_cases c111 : w78 < (v69.length : Int)
    ·rw [if_pos c111] at h8
     refine z9n rfl (by simp [c111]) (z6k rfl (z0j (zq rfl (zb rfl (zq rfl (zr rfl rfl rfl (by simp; rfl) ?_))))))
     refine z0j (zq rfl ?_)
     obtain ⟨v88, f112, h9⟩ := z1E h8
     have f112k := Ok.ok _ f112
     try simp at f112k
     obtain ⟨v89, f113, h10⟩ := z7i h9
     refine z7Q rfl rfl rfl rfl ?_; repeat' ((first | refine z4B rfl rfl fun Q' hQ => ?_ | refine z3S rfl fun Q' hQ => ?_); simp [f112k, f113]; refine hQ.out _ ?_; clear hQ; clear Q')
     refine z0j (zq rfl ?_)
     obtain ⟨v90, f114, h11⟩ := z1E h10
     have f114k := Ok.ok _ f114
     try simp at f114k
     refine zr rfl rfl rfl (by simp [f114k]; rfl) ?_
     refine z0j ?_
     obtain ⟨v91, f115, h12⟩ := z7i h11
     obtain ⟨v92, f116, h13⟩ := z7i h12
     obtain ⟨v93, f117, h14⟩ := z7i h13
     obtain ⟨v94, f118, h15⟩ := z7i h14
     refine z7Q rfl rfl rfl rfl ?_; repeat' ((first | refine z4B rfl rfl fun Q' hQ => ?_ | refine z3S rfl fun Q' hQ => ?_); simp [f115, f116, f117, f118]; refine hQ.out _ ?_; clear hQ; clear Q')
     refine z4j (z0j (zr rfl rfl rfl (by simp; rfl) ?_))
     have ho := z3t h15
     refine z4b ho ?_
     simp [z5Q]
    ·rw [if_neg c111] at h8
     refine z9o rfl (by simp [c111]) (z8U rfl (z6I ?_))
     obtain ⟨rr1, h9, ho1⟩ := z3W h8
     have hs1 := hr1 _ ho1
     subst hs1
     refine z5m ho1 (z3i rfl (z0j (zq rfl (zq rfl (zr rfl rfl rfl (by simp; rfl) ?_)))))
     refine z0j (zb rfl (z6J h9 (z5P v69 v70 v71 v72 w79 w80) rfl rfl (by simp [z5P]) fun s o2 h10 hr2 => ?_))
     obtain ⟨w107, w108⟩ := s
     simp only [z5R] at h10
     simp only [z5P]
     refine zq rfl (zr rfl rfl rfl (by simp; rfl) ?_)
     refine z0j (zq rfl ?_)
     by_cases c155 : w107 < (v71.2.length : Int)
     ·rw [if_pos c155] at h10
      refine z9n rfl (by simp [c155]) (z6k rfl (z0j (zq rfl (zb rfl (zq rfl ?_)))))
      obtain ⟨v122, f156, h11⟩ := z7i h10
      refine zr rfl rfl rfl (by simp [f156]; rfl) ?_
      refine z0j (zq rfl ?_)
      obtain ⟨v123, f157, h12⟩ := z1E h11
      have f157k := Ok.ok _ f157
      try simp at f157k
      refine zr rfl rfl rfl (by simp [f157k]; rfl) ?_
      refine z0j (zq rfl (zr rfl rfl rfl (by simp; rfl) ?_))
      refine z0j (zb rfl (z6J h12 (z4N v69 v70 v71 v72 w79 w80 w107 v123) rfl rfl (by simp [z4N]) fun s o3 h13 hr3 => ?_))
      obtain ⟨w127, w128⟩ := s
      simp only [z4O] at h13
      simp only [z4N]
      refine zq rfl (zr rfl rfl rfl (by simp; rfl) ?_)
      refine z0j (zq rfl ?_)
      by_cases c168 : w127 < (v69.length : Int)
      ·rw [if_pos c168] at h13
       refine z9n rfl (by simp [c168]) (z6k rfl (z0j (zq rfl (zb rfl (zq rfl (zr rfl rfl rfl (by simp; rfl) ?_))))))
       refine z0j (zq rfl ?_)
       obtain ⟨v132, f169, h14⟩ := z7i h13
       refine zr rfl rfl rfl (by simp [f169]; rfl) ?_
       refine z0j ?_
       by_cases c170 : v132 = w107
       ·rw [if_pos c170] at h14
        have c170e := eq_true c170
        refine z9n rfl (by simp [c170e]) ?_
        obtain ⟨v133, f171, h15⟩ := z7i h14
        obtain ⟨v134, f172, h16⟩ := z7i h15
        refine z7Q rfl rfl rfl rfl ?_; repeat' ((first | refine z4B rfl rfl fun Q' hQ => ?_ | refine z3S rfl fun Q' hQ => ?_); simp [f171, f172]; refine hQ.out _ ?_; clear hQ; clear Q')
        refine z4j (z0j (zr rfl rfl rfl (by simp; rfl) ?_))
        have ho := z3t h16
        refine z4b ho ?_
        simp [z4N]
       ·rw [if_neg c170] at h14
        have c170e := eq_false c170
        refine z9o rfl (by simp [c170e]) (z6k rfl (z4j (z0j (zr rfl rfl rfl (by simp; rfl) ?_))))
        have ho := z3t h14
        refine z4b ho ?_
        simp [z4N]
      ·rw [if_neg c168] at h13
       refine z9o rfl (by simp [c168]) (z8U rfl (z6I ?_))
       obtain ⟨rr3, h14, ho3⟩ := z3W h13
       have hs3 := hr3 _ ho3
       subst hs3
       refine z5m ho3 (z3i rfl (z4j (z0j (zr rfl rfl rfl (by simp; rfl) ?_))))
       have ho := z3t h14
       refine z4b ho ?_
       simp [z5P]
     ·rw [if_neg c155] at h10
      refine z9o rfl (by simp [c155]) (z8U rfl (z6I ?_))
      obtain ⟨rr2, h11, ho2⟩ := z3W h10
      have hs2 := hr2 _ ho2
      subst hs2
      refine z5m ho2 (z3i rfl (z0j (zq rfl (zr rfl rfl rfl (by simp; rfl) ?_))))
      refine z0j (zk8 rfl ?_)
      cases h11
      simp
  ·rw [if_neg c88] at h1
   have c88e := eq_false c88
   refine z9n rfl (by simp [c88e]) (zq rfl (zr rfl rfl rfl (by simp; rfl) ?_))
   refine z0j (zk8 rfl (zhh ?_))
   cases h1
   simp⟩
end
end
section
open Go
set_option maxRecDepth 100000
theorem zi6 (a b : Nat) : zpX a b = true ↔ (szN b < szN a ∨ (szN a = szN b /\ a <= b)) := by unfold zpX; simp
def zoU (x : Nat) : List Nat -> List Nat
  | [] => [x]
  | y :: l => if zpX x y = true then x :: y :: l else y :: zoU x l
def zek : List Nat -> List Nat
  | [] => []
  | x :: l => zoU x (zek l)
abbrev zsU (l : List Nat) : Prop := l.Pairwise fun a b => zpX a b = true
theorem zj3 (x : Nat) : ∀ l : List Nat, zoV (x : Int) (toI l) = toI (zoU x l)
  | [] => rfl
  | y :: l => by
    have ih := zj3 x l
    have e : leI (x : Int) (y : Int) = zpX x y := by simp [leI]
    simp only [toI, List.map_cons, zoV, zoU] at ih ⊢
    rw [e]
    by_cases h : zpX x y = true
    · rw [if_pos h, if_pos h]; rfl
    · rw [if_neg h, if_neg h, ih]; rfl
theorem zfZ : ∀ l : List Nat, z9Q (toI l) = toI (zek l)
  | [] => rfl
  | x :: l => by
    have ih := zfZ l
    simp only [toI, List.map_cons, z9Q, zek] at ih ⊢
    rw [ih]; exact zj3 x (zek l)
theorem zcH (x : Nat) : ∀ l : List Nat, (zoU x l).Perm (x :: l)
  | [] => .refl _
  | y :: l => by
    unfold zoU
    split
    · exact .refl _
    · exact ((zcH x l).cons y).trans (.swap x y l)
theorem zaG : ∀ l : List Nat, (zek l).Perm l
  | [] => .refl _
  | x :: l => (zcH x (zek l)).trans ((zaG l).cons x)
theorem zcG (x : Nat) : ∀ l : List Nat, zsU l -> zsU (zoU x l)
  | [], _ => by simp [zoU]
  | y :: l, h => by
    unfold zoU
    rw [zsU, List.pairwise_cons] at h
    split
    · rename_i hxy
      refine List.pairwise_cons.2 ⟨fun z hz => ?_, List.pairwise_cons.2 h⟩
      rcases List.mem_cons.1 hz with rfl | hz
      · exact hxy
      · have := h.1 z hz
        rw [zi6] at *
        omega
    · rename_i hxy
      refine List.pairwise_cons.2 ⟨fun z hz => ?_, zcG x l h.2⟩
      rcases List.mem_cons.1 ((zcH x l).mem_iff.1 hz) with rfl | hz
      · rw [zi6] at *
        omega
      · exact h.1 z hz
theorem zb4 : ∀ l : List Nat, zsU (zek l)
  | [] => by simp [zek]
  | x :: l => zcG x _ (zb4 l)
def z8S (S : List Nat) : Nat -> List Nat
  | 0 => S
  | q + 1 => if 2 ^ q ∈ z8S S q then z8S S q else z8S S q ++ [2 ^ q]
theorem z7j {S : List Nat} (hS : S.Nodup) : ∀ q, (z8S S q).Nodup /\ (∀ x, x ∈ z8S S q ↔ x ∈ S ∨ ∃ i, i < q /\ x = 2 ^ i) /\ (z8S S q).length <= S.length + q
  | 0 => ⟨hS, fun x => by simp [z8S], by simp [z8S]⟩
  | q + 1 => by
    obtain ⟨h1, h2, h3⟩ := z7j hS q
    unfold z8S
    split
    · rename_i h
      refine ⟨h1, fun x => ?_, by omega⟩
      rw [h2]
      constructor
      · rintro (h | ⟨i, h, e⟩)
        · exact .inl h
        · exact .inr ⟨i, by omega, e⟩
      · rintro (h' | ⟨i, h', e⟩)
        · exact .inl h'
        · by_cases ei : i = q
          · subst ei; rw [e]; exact (h2 _).1 h
          · exact .inr ⟨i, by omega, e⟩
    · rename_i h
      refine ⟨List.nodup_append.2 ⟨h1, by simp, fun a ha b hb e => ?_⟩, fun x => ?_, by rw [List.length_append, List.length_singleton]; omega⟩
      · obtain rfl := List.mem_singleton.1 hb
        exact h (e ▸ ha)
      · rw [List.mem_append, h2, List.mem_singleton]
        constructor
        · rintro ((h' | ⟨i, h', e⟩) | e)
          · exact .inl h'
          · exact .inr ⟨i, by omega, e⟩
          · exact .inr ⟨q, by omega, e⟩
        · rintro (h' | ⟨i, h', e⟩)
          · exact .inl (.inl h')
          · by_cases ei : i = q
            · subst ei; exact .inr e
            · exact .inl (.inr ⟨i, by omega, e⟩)
def z3A (d : DFA) (m n : Nat) : List Nat := zek (z8S (z0L d m n (2 ^ n - 1)).1 n)
structure SetsP (d : DFA) (m n : Nat) (S : List Nat) : Prop where
  nd : S.Nodup
  lt : ∀ x ∈ S, x < 2 ^ n
  cl : ∀ x ∈ S, ∀ a, a < m -> mvN d x a ∈ S
  one : ∀ q, q < n -> 2 ^ q ∈ S
  srt : zsU S
theorem zsc {d : DFA} {m n : Nat} (hd : DfaOk d m n) {q a : Nat} (hq : q < n) (ha : a < m) : ∃ p, p < n /\ mvN d (2 ^ q) a = 2 ^ p := by
  obtain ⟨h1, h2, e, h3, h4⟩ := zaJ hd hq ha
  refine ⟨((d.next.getD q []).getD a 0).toNat, by rw [e]; omega, Nat.eq_of_testBit_eq fun i => ?_⟩
  rw [Bool.eq_iff_iff, z7x hd ha, Nat.testBit_two_pow, decide_eq_true_iff]
  constructor
  · rintro ⟨j, j1, j2, j3⟩
    rw [Nat.testBit_two_pow, decide_eq_true_iff] at j2
    subst j2; exact j3
  · intro h
    exact ⟨q, hq, by rw [Nat.testBit_two_pow]; simp, h⟩
theorem zem {d : DFA} {m n : Nat} (hd : DfaOk d m n) : SetsP d m n (z3A d m n) := by
  have hp := Nat.two_pow_pos n
  have hf : 2 ^ n - 1 < 2 ^ n := by omega
  have hi := z4I hd hf
  obtain ⟨h1, h2, h3⟩ := z7j hi.nd n
  have hpm := zaG (z8S (z0L d m n (2 ^ n - 1)).1 n)
  have hm : ∀ x, x ∈ z3A d m n ↔ x ∈ (z0L d m n (2 ^ n - 1)).1 ∨ ∃ i, i < n /\ x = 2 ^ i := fun x => hpm.mem_iff.trans (h2 x)
  refine ⟨hpm.nodup_iff.2 h1, fun x hx => ?_, fun x hx a ha => ?_, fun q hq => (hm _).2 (.inr ⟨q, hq, rfl⟩), zb4 _⟩
  · rcases (hm x).1 hx with h | ⟨i, hi', rfl⟩
    · exact hi.lt x h
    · exact Nat.pow_lt_pow_right (by omega) hi'
  · rcases (hm x).1 hx with h | ⟨i, hi', rfl⟩
    · exact (hm _).2 (.inl (zb6 hd hf h ha))
    · obtain ⟨p, hp1, hp2⟩ := zsc hd hi' ha
      exact (hm _).2 (.inr ⟨p, hp1, hp2⟩)
theorem zia {S : List Nat} (hl : S.length < 4611686018427387904) (x : Nat) : z1I (toI S) (x : Int) = some (decide (x ∈ S)) := by
  unfold z1I z2V
  rw [z5w (s := (0 : Int)) S.length (fun k => (k : Int)) (fun k => decide (x = S.getD k 0)) (fun k => some (k : Int)) (x := some (-1)) rfl (by simp only [LFm]; omega)]
  · cases h : (List.range S.length).find? (fun k => decide (x = S.getD k 0)) with
    | none =>
      have := zgL.1 h
      rw [Option.bind_some]
      congr 1
      have hn : ¬ x ∈ S := fun hx => by
        obtain ⟨i, hi, rfl⟩ := List.getElem_of_mem hx
        have := this i hi
        simp [List.getD, hi] at this
      simp [hn]
    | some k =>
      obtain ⟨k1, k2, _⟩ := zgK.1 h
      rw [Option.bind_some]
      congr 1
      have hx : x ∈ S := by
        have : x = S.getD k 0 := by simpa using k2
        rw [this]; exact z0h k1
      simp [hx]
  · intro k hk
    simp only [z2t]
    rw [if_pos (by rw [z0d]; omega), z2f hk, Option.bind_some]
    by_cases h : x = S.getD k 0
    · rw [if_pos (by omega), if_pos (by simpa using h)]
    · rw [if_neg (by omega), if_neg (by simpa using h), z0W (by omega)]
  · simp only [z2t]
    rw [if_neg (by rw [z0d]; omega)]
theorem zqH {d : DFA} {m n : Nat} (hd : DfaOk d m n) (hn : n <= 7) : z6p d = some (toI (z3A d m n)) := by
  have hp := Nat.two_pow_pos n
  have h128 : 2 ^ n <= 128 := Nat.pow_le_pow_right (n := 2) (by omega) hn
  have hf : 2 ^ n - 1 < 2 ^ n := by omega
  have hi := z4I hd hf
  have hl := z1C hi.nd hi.lt
  obtain ⟨h1, h2, h3⟩ := z7j hi.nd n
  unfold z6p
  have ew : IntKind.i64.wrap (((2 ^ n : Nat) : Int) - 1) = ((2 ^ n - 1 : Nat) : Int) := by rw [z1N (by omega) (by omega)]; omega
  rw [hd.fin, z0n _ (by omega), z6y (by omega), ew, zov hd (by omega) hf, Option.bind_some]
  refine z0K (s := ((0 : Int), toI (z0L d m n (2 ^ n - 1)).1)) n (fun q => ((q : Int), toI (z8S (z0L d m n (2 ^ n - 1)).1 q))) rfl (by simp only [LFm]; omega) (fun q hq => ?_) ?_
  · have h3' := (z7j hi.nd q).2.2
    simp only [z5q]
    rw [if_pos (by rw [hd.fin]; omega), z0n _ (by omega), z6y (by omega), zia (by omega), Option.bind_some, z0W (by omega), z8S]
    by_cases h : 2 ^ q ∈ z8S (z0L d m n (2 ^ n - 1)).1 q
    · rw [if_pos (by simpa using h), if_pos h]
    · rw [if_neg (by simpa using h), if_neg h, z0n _ (by unfold z1q; rw [z0d]; omega), z5j]
  · simp only [z5q]
    rw [if_neg (by rw [hd.fin]; omega)]
    have hv : zhb (toI (z8S (z0L d m n (2 ^ n - 1)).1 n)) = some (toI (z3A d m n)) := by
      unfold zhb
      rw [if_pos, zfZ]; rfl
      refine ⟨fun h => ?_, by rw [z0d]; omega, ?_⟩
      · have hm := (h2 (2 ^ n - 1)).2 (.inl (zaK hd hf))
        have := congrArg List.length h
        rw [z0d] at this
        have h0 := List.length_pos_of_mem hm
        simp at this
        rw [this] at h0; simp at h0
      · rw [List.all_eq_true]
        intro x hx
        simp only [toI, List.mem_map] at hx
        obtain ⟨y, hy, rfl⟩ := hx
        have : y < 2 ^ n := by
          rcases (h2 y).1 hy with h | ⟨i, hi', rfl⟩
          · exact hi.lt y h
          · exact Nat.pow_lt_pow_right (by omega) hi'
        simp; omega
    rw [hv, Option.bind_some]
end
section
open Go
set_option maxRecDepth 100000
def z2e {α : Type} (N : Nat) (f : Nat -> α) (z : α) (k : Nat) : List α := (List.range N).map fun i => if i < k then f i else z
theorem zbB {α : Type} (N : Nat) (f : Nat -> α) (z : α) (k : Nat) : (z2e N f z k).length = N := by simp [z2e]
theorem zai {α : Type} (N : Nat) (f : Nat -> α) (z : α) : z2e N f z 0 = List.replicate N z := by
  apply List.ext_getElem (by simp [z2e]); intro i h1 h2; simp [z2e]
theorem zah {α : Type} (N : Nat) (f : Nat -> α) (z : α) : z2e N f z N = (List.range N).map f := by
  apply List.ext_getElem (by simp [z2e]); intro i h1 h2
  have : i < N := by simpa [z2e] using h1
  simp [z2e, this]
theorem z8a {α : Type} {N : Nat} {f : Nat -> α} {z : α} {k i : Nat} (h : i < N) : atI (z2e N f z k) (i : Int) = some (if i < k then f i else z) := by
  rw [z0S (by rw [zbB]; exact h)]; simp [z2e]
theorem z5W {α : Type} {N : Nat} {f : Nat -> α} {z : α} {k : Nat} (h : k < N) : (z2e N f z k).set k (f k) = z2e N f z (k + 1) := by
  apply List.ext_getElem (by simp [z2e]); intro i h1 h2
  simp only [z2e, List.getElem_set, List.getElem_map, List.getElem_range]
  by_cases e : k = i
  · subst e; rw [if_pos rfl, if_pos (by omega)]
  · rw [if_neg e]
    by_cases e2 : i < k
    · rw [if_pos e2, if_pos (by omega)]
    · rw [if_neg e2, if_neg (by omega)]
theorem zn4 {α : Type} {N : Nat} {f : Nat -> α} {z : α} {k : Nat} (h : f k = z) : z2e N f z k = z2e N f z (k + 1) := by
  apply List.ext_getElem (by simp [z2e]); intro i h1 h2
  simp only [z2e, List.getElem_map, List.getElem_range]
  by_cases e : k = i
  · subst e; rw [if_neg (by omega), if_pos (by omega), h]
  · by_cases e2 : i < k
    · rw [if_pos e2, if_pos (by omega)]
    · rw [if_neg e2, if_neg (by omega)]
theorem z2W {α : Type} {N : Nat} {f : Nat -> α} {i : Nat} (h : i < N) : atI ((List.range N).map f) (i : Int) = some (f i) := by
  rw [z0S (by simpa using h)]; simp
theorem ziF {α : Type} {l : List α} {i : Nat} {x : α} (h : i < l.length) : atI (l.set i x) (i : Int) = some x := by
  rw [z0S (by simpa using h)]; simp
theorem zhm {α : Type} (l : List α) (i : Nat) (x y : α) : (l.set i x).set i y = l.set i y := by simp
theorem z9w {S : List Nat} (hS : S.Nodup) {i : Nat} (h : i < S.length) : S.idxOf (S.getD i 0) = i := by
  rw [List.getD, List.getElem?_eq_getElem h, Option.getD_some]
  have hm : S[i] ∈ S := List.getElem_mem h
  have h1 := List.idxOf_lt_length_of_mem hm
  have h2 : S[S.idxOf S[i]] = S[i] := List.getElem_idxOf h1
  exact (List.getElem_inj hS).1 h2
theorem z2d {S : List Nat} {x : Nat} (h : x ∈ S) : S.getD (S.idxOf x) 0 = x := by
  have := List.idxOf_lt_length_of_mem h
  rw [List.getD, List.getElem?_eq_getElem this, Option.getD_some, List.getElem_idxOf]
theorem z4r {S : List Nat} {x : Nat} (h : x ∈ S) : S.idxOf x < S.length := List.idxOf_lt_length_of_mem h
theorem z4l {S : List Nat} (hS : S.Nodup) {i j : Nat} (hi : i < S.length) (hj : j < S.length) (h : S.getD i 0 = S.getD j 0) : i = j := by
  rw [← z9w hS hi, h, z9w hS hj]
def z3P (st : RS) (x : Nat) : ByteArray := st.2.getD (st.1.idxOf x) ByteArray.empty
theorem zha {st : RS} (hl : st.2.length = st.1.length) {x : Nat} (hx : x ∉ st.1) (w : ByteArray) (y : Nat) : z3P (st.1 ++ [x], st.2 ++ [w]) y = if y = x then w else z3P st y := by
  unfold z3P
  simp only
  by_cases hy : y ∈ st.1
  · have hne : y ≠ x := fun e => hx (e ▸ hy)
    rw [if_neg hne, List.idxOf_append, if_pos hy, z3G _ (by rw [hl]; exact z4r hy)]
  · rw [List.idxOf_append, if_neg hy]
    by_cases e : y = x
    · subst e
      rw [if_pos rfl, show List.idxOf y [y] = 0 by simp, Nat.zero_add, z6s hl.symm]
    · rw [if_neg e]
      have h1 : List.idxOf y [x] = 1 := by
        rw [List.idxOf_cons]
        have : (x == y) = false := by simpa using fun h => e h.symm
        simp [this]
      have h2 : st.1.idxOf y = st.1.length := List.idxOf_eq_length hy
      rw [h1, h2, List.getD, List.getD, List.getElem?_eq_none (by simp [hl]; omega), List.getElem?_eq_none (by omega)]
theorem zg8 {d : DFA} {m n : Nat} {S : List Nat} (hS : SetsP d m n S) : ∀ {w : List UInt8} {s : Nat}, (∀ c ∈ w, 97 <= c.toNat /\ c.toNat < 97 + m) -> s ∈ S -> z2U d s w ∈ S
  | [], s, _, h => h
  | c :: w, s, hw, h => zg8 (w := w) (s := mvN d s (c.toNat - 97)) hS (fun c' hc' => hw c' (List.mem_cons_of_mem _ hc')) (hS.cl s h _ (by have := hw c (List.mem_cons_self ..); omega))
theorem zmL {d : DFA} {m n s : Nat} {S : List Nat} (hS : SetsP d m n S) (hs : s ∈ S) {st : RS} (h : RInv d m n s st) {x : Nat} (hx : x ∈ st.1) : x ∈ S := by
  obtain ⟨i, hi, rfl⟩ := List.getElem_of_mem hx
  obtain ⟨_, o2, o3⟩ := h.ok i hi
  rw [List.getD, List.getD, List.getElem?_eq_getElem hi, Option.getD_some] at o3
  rw [← o3]
  exact zg8 hS o2 hs
def ziP (d : DFA) (m : Nat) (S : List Nat) (i : Nat) : List Int := (List.range m).map fun a => ((S.idxOf (mvN d (S.getD i 0) a) : Nat) : Int)
def zrv (d : DFA) (m : Nat) (S : List Nat) : List (List Int) := (List.range S.length).map (ziP d m S)
def zmB (S : List Nat) (st : RS) : List Bool := (List.range S.length).map fun i => decide (S.getD i 0 ∈ st.1)
def zfo (S : List Nat) (st : RS) : List ByteArray := (List.range S.length).map fun i => z3P st (S.getD i 0)
def zdg (S : List Nat) (st : RS) : List Int := toI (st.1.map S.idxOf)
theorem zmq {S : List Nat} {st : RS} {k : Nat} (h : k < st.1.length) : atI (zdg S st) (k : Int) = some ((S.idxOf (st.1.getD k 0) : Nat) : Int) := by
  unfold zdg
  rw [z2f (by simpa using h)]
  simp [List.getD, h]
theorem zg6 {d : DFA} {m n s : Nat} (hd : DfaOk d m n) (hn : n <= 12) {S : List Nat} (hS : SetsP d m n S) (hs : s ∈ S) {st : RS} (h : RInv d m n s st) {k : Nat} (hk : k < st.1.length) :
    z0o (z1K (k : Int) (ziP d m S (S.idxOf (st.1.getD k 0)))) LFm (0, zmB S st, zfo S st, zdg S st) = z0e (((k + 1 : Nat) : Int), zmB S (z7y d k st m), zfo S (z7y d k st m), zdg S (z7y d k st m)) := by
  have h12 := zdh hn
  have hm6 := hd.m6
  have hSl := z1C hS.nd hS.lt
  refine z0K (s := ((0 : Int), zmB S st, zfo S st, zdg S st)) m (fun a => ((a : Int), zmB S (z7y d k st a), zfo S (z7y d k st a), zdg S (z7y d k st a))) rfl (by simp only [LFm]; omega) (fun a ha => ?_) ?_
  · obtain ⟨k1, _, X, W, k3, k4⟩ := zcK hd h hk a (by omega)
    have hk' : k < (z7y d k st a).1.length := by rw [k3, List.length_append]; omega
    have hl := z1C k1.nd k1.lt
    have eg : (z7y d k st a).1.getD k 0 = st.1.getD k 0 := by rw [k3, z3G _ hk]
    have hkS : st.1.getD k 0 ∈ S := zmL hS hs h (z0h hk)
    have hxS : mvN d (st.1.getD k 0) a ∈ S := hS.cl _ hkS a ha
    obtain ⟨o1, _, _⟩ := k1.ok k hk'
    have hwk : z3P (z7y d k st a) (st.1.getD k 0) = (z7y d k st a).2.getD k ByteArray.empty := by
      unfold z3P; rw [← eg, z9w k1.nd hk']
    simp only [z1K]
    rw [if_pos (by simp [ziP]; omega), ziP, z2W ha, Option.bind_some, z2d hkS, zmB, z2W (z4r hxS), Option.bind_some, z2d hxS, z0W (by omega), z7y]
    unfold zde
    rw [eg]
    simp only [decide_eq_true_eq]
    by_cases hm : mvN d (st.1.getD k 0) a ∈ (z7y d k st a).1
    · rw [if_pos hm, if_pos hm]; rfl
    · rw [if_neg hm, if_neg hm, zmq hk', Option.bind_some, eg, zfo, z2W (z4r hkS), Option.bind_some, z2d hkS, hwk, zhI (by omega), z0n _ (by unfold z7G; rw [z6m]; omega), z2W (z4r hxS), Option.bind_some, z0n _ (by unfold z1q zdg; rw [z0d, List.length_map]; omega), Int.toNat_natCast]
      congr 1
      refine Prod.ext rfl (Prod.ext ?_ (Prod.ext ?_ ?_))
      · simp only [zmB]
        apply List.ext_getElem (by simp)
        intro i i1 i2
        have hi : i < S.length := by simpa using i2
        simp only [List.getElem_set, List.getElem_map, List.getElem_range, List.mem_append, List.mem_singleton]
        by_cases e : S.idxOf (mvN d (st.1.getD k 0) a) = i
        · subst e; rw [if_pos rfl, z2d hxS]; simp
        · rw [if_neg e]
          have : S.getD i 0 ≠ mvN d (st.1.getD k 0) a := fun hh => e (by rw [← hh, z9w hS.nd hi])
          simp only [this, or_false]
      · simp only [zfo]
        apply List.ext_getElem (by simp)
        intro i i1 i2
        have hi : i < S.length := by simpa using i2
        simp only [List.getElem_set, List.getElem_map, List.getElem_range]
        rw [zha k1.len hm]
        by_cases e : S.idxOf (mvN d (st.1.getD k 0) a) = i
        · subst e; rw [if_pos rfl, z2d hxS, if_pos rfl]
        · have : S.getD i 0 ≠ mvN d (st.1.getD k 0) a := fun hh => e (by rw [← hh, z9w hS.nd hi])
          rw [if_neg e, if_neg this]
      · simp only [zdg, List.map_append, List.map_cons, List.map_nil]
        rw [z5j]
  · simp only [z1K]
    have := z1C h.nd h.lt
    rw [if_neg (by simp [ziP]), z0W (by omega)]
theorem zcf {d : DFA} {m n : Nat} (hd : DfaOk d m n) (hn : n <= 12) {S : List Nat} (hS : SetsP d m n S) (bl : List (List Bool)) {j : Nat} (hj : j < S.length) :
    z1n ⟨toI S, zrv d m S, bl⟩ (j : Int) = some (zdg S (z0L d m n (S.getD j 0)), zfo S (z0L d m n (S.getD j 0))) := by
  have h12 := zdh hn
  have hp := Nat.two_pow_pos n
  have hSl := z1C hS.nd hS.lt
  have hs : S.getD j 0 ∈ S := z0h hj
  have hs2 : S.getD j 0 < 2 ^ n := hS.lt _ hs
  unfold z1n
  simp only
  rw [z0d, z0n _ (by unfold z1i; omega), z0n _ (by unfold z1i; omega), z0n _ (by omega), Int.toNat_natCast, Int.toNat_natCast]
  have e1 : (List.replicate S.length false).set j true = zmB S (z5F d m (S.getD j 0) 0) := by
    apply List.ext_getElem (by simp [zmB])
    intro i i1 i2
    have hi : i < S.length := by simpa using i1
    simp only [zmB, z5F, List.getElem_set, List.getElem_map, List.getElem_range, List.getElem_replicate, List.mem_singleton]
    by_cases e : j = i
    · subst e; simp
    · rw [if_neg e]
      have : S.getD i 0 ≠ S.getD j 0 := fun hh => e (z4l hS.nd hi hj hh).symm
      symm; simpa using this
  have e2 : List.replicate S.length (ByteArray.empty : ByteArray) = zfo S (z5F d m (S.getD j 0) 0) := by
    apply List.ext_getElem (by simp [zfo])
    intro i i1 i2
    simp only [zfo, z5F, List.getElem_map, List.getElem_range, List.getElem_replicate, z3P]
    generalize List.idxOf (S.getD i 0) [S.getD j 0] = q
    cases q <;> rfl
  have e3 : [(j : Int)] = zdg S (z5F d m (S.getD j 0) 0) := by
    simp only [zdg, z5F, List.map_cons, List.map_nil, z9w hS.nd hj]; rfl
  rw [e1, e2, e3]
  refine zez (s := ((0 : Int), zmB S (z5F d m (S.getD j 0) 0), zfo S (z5F d m (S.getD j 0) 0), zdg S (z5F d m (S.getD j 0) 0))) (fun z => ∃ k : Nat, k <= 2 ^ n /\ z = ((k : Int), zmB S (z5F d m (S.getD j 0) k), zfo S (z5F d m (S.getD j 0) k), zdg S (z5F d m (S.getD j 0) k))) (fun z => 2 ^ n + 1 - z.1.toNat) ⟨0, by omega, rfl⟩ (by simp only [LFm]; omega) ?_
  rintro z ⟨k, hk, rfl⟩
  have hl := zhn hd hs2 k
  have hqs : (zdg S (z5F d m (S.getD j 0) k)).length = (z5F d m (S.getD j 0) k).1.length := by simp [zdg, toI]
  simp only [z3x]
  by_cases h : k < (z5F d m (S.getD j 0) k).1.length
  · left
    have hinv := (z7M hd hs2 k).1
    have hkS : (z5F d m (S.getD j 0) k).1.getD k 0 ∈ S := zmL hS hs hinv (z0h h)
    rw [if_pos (by rw [hqs]; omega), zmq h, Option.bind_some, zrv, z2W (z4r hkS), Option.bind_some, zg6 hd hn hS hs hinv h]
    refine ⟨_, rfl, ⟨k + 1, by omega, ?_⟩, by simp only; omega⟩
    rw [z5F, if_pos h]
  · right
    rw [if_neg (by rw [hqs]; omega)]
    unfold z0L
    rw [zeo h _ hk]
end
section
open Go
set_option maxRecDepth 100000
def z6v (d : DFA) (m n : Nat) (S : List Nat) (i j : Nat) : Bool := (z0L d m n (S.getD j 0)).1.any fun x => decide (S.getD i 0 &&& x = S.getD i 0)
def zph (d : DFA) (m n : Nat) (S : List Nat) : List (List Bool) := (List.range S.length).map fun i => (List.range S.length).map (z6v d m n S i)
def dgm (d : DFA) (m n : Nat) (S : List Nat) : Dgm := ⟨toI S, zrv d m S, zph d m n S⟩
theorem z3q {d : DFA} {m n : Nat} (hd : DfaOk d m n) {S : List Nat} (hS : SetsP d m n S) {i j : Nat} (hj : j < S.length) : z6v d m n S i j = true ↔ zpg d m (S.getD i 0) (S.getD j 0) := by
  rw [znw hd (hS.lt _ (z0h hj))]
  unfold z6v z6h
  simp
def zl0 (n : Nat) (S : List Nat) (k : Nat) : List Int := (List.range (2 ^ n)).map fun x => if x ∈ S.take k then ((S.idxOf x : Nat) : Int) else 0
theorem zoX {n : Nat} {S : List Nat} (hS : S.Nodup) {k : Nat} (hk : k < S.length) : (zl0 n S k).set (S.getD k 0) (k : Int) = zl0 n S (k + 1) := by
  have hg : S.getD k 0 = S[k] := by rw [List.getD, List.getElem?_eq_getElem hk, Option.getD_some]
  apply List.ext_getElem (by simp [zl0])
  intro i h1 h2
  simp only [zl0, List.getElem_set, List.getElem_map, List.getElem_range]
  rw [List.take_succ_eq_append_getElem hk]
  simp only [List.mem_append, List.mem_singleton]
  by_cases e : S.getD k 0 = i
  · rw [if_pos e, if_pos (.inr (by rw [← hg]; exact e.symm)), ← e, z9w hS hk]
  · rw [if_neg e]
    have : ¬ i = S[k] := fun h => e (by rw [hg]; exact h.symm)
    simp [this]
theorem zpF {n : Nat} {S : List Nat} {k x : Nat} (h : x < 2 ^ n) : atI (zl0 n S k) (x : Int) = some (if x ∈ S.take k then ((S.idxOf x : Nat) : Int) else 0) := by
  unfold zl0; rw [z2W h]
theorem zkg {d : DFA} {m n : Nat} (hd : DfaOk d m n) (hn : n <= 12) {S : List Nat} (hS : SetsP d m n S) {i : Nat} (hi : i < S.length) :
    z0o (z2q d (toI S) (zl0 n S S.length) (i : Int) (z2e S.length (fun _ => List.replicate S.length false) [] i) ((S.getD i 0 : Nat) : Int)) LFm (0, (z2e S.length (ziP d m S) [] i).set i (List.replicate m 0)) =
      z0e (((i + 1 : Nat) : Int), z2e S.length (ziP d m S) [] (i + 1), z2e S.length (fun _ => List.replicate S.length false) [] (i + 1)) := by
  have h12 := zdh hn
  have hm6 := hd.m6
  have hSl := z1C hS.nd hS.lt
  have hx : S.getD i 0 ∈ S := z0h hi
  refine z0K (s := ((0 : Int), (z2e S.length (ziP d m S) [] i).set i (List.replicate m 0))) m (fun a => ((a : Int), (z2e S.length (ziP d m S) [] i).set i (z2e m (fun a => ((S.idxOf (mvN d (S.getD i 0) a) : Nat) : Int)) 0 a))) (by rw [zai]; rfl) (by simp only [LFm]; omega) (fun a ha => ?_) ?_
  · have hmv : mvN d (S.getD i 0) a ∈ S := hS.cl _ hx a ha
    simp only [z2q]
    rw [if_pos (by rw [hd.lt]; omega), ziF (by rw [zbB]; exact hi), Option.bind_some, zhz hd hn (hS.lt _ hx) ha, Option.bind_some, zpF (hS.lt _ hmv), Option.bind_some, List.take_length, if_pos hmv, z8a ha, Option.bind_some, z0W (by omega), Int.toNat_natCast, Int.toNat_natCast, zhm]
    rw [z5W (f := fun a => ((S.idxOf (mvN d (S.getD i 0) a) : Nat) : Int)) (z := 0) ha]
  · simp only [z2q]
    rw [if_neg (by rw [hd.lt]; omega), z0d, z0n _ (by unfold z1i; omega), z8a hi, Option.bind_some, z0W (by omega), Int.toNat_natCast, Int.toNat_natCast, zah]
    have e1 := z5W (f := ziP d m S) (z := []) hi
    have e2 := z5W (f := fun _ => List.replicate S.length false) (z := []) hi
    rw [show ((List.range m).map fun a => ((S.idxOf (mvN d (S.getD i 0) a) : Nat) : Int)) = ziP d m S i from rfl, e1, e2]
def zbF (d : DFA) (m n : Nat) (S : List Nat) (j i : Nat) : List (List Bool) := (List.range S.length).map fun i' => z2e S.length (z6v d m n S i') false (if i' < i then j + 1 else j)
theorem zu2 {d : DFA} {m n : Nat} {S : List Nat} {j : Nat} : zbF d m n S j S.length = zbF d m n S (j + 1) 0 := by
  unfold zbF
  refine List.map_congr_left fun i hi => ?_
  rw [if_pos (List.mem_range.1 hi), if_neg (by omega)]
theorem zpl {α : Type} (p : α -> Bool) (l : List α) (d : α) : ((List.range l.length).find? fun k => p (l.getD k d)).isSome = l.any p := by
  rw [Bool.eq_iff_iff, List.any_eq_true]
  rw [List.find?_isSome]
  constructor
  · rintro ⟨k, hk, h⟩
    have hk := List.mem_range.1 hk
    exact ⟨_, by rw [List.getD, List.getElem?_eq_getElem hk, Option.getD_some]; exact List.getElem_mem hk, h⟩
  · rintro ⟨x, hx, h⟩
    obtain ⟨i, hi, rfl⟩ := List.getElem_of_mem hx
    exact ⟨i, List.mem_range.2 hi, by rw [List.getD, List.getElem?_eq_getElem hi, Option.getD_some]; exact h⟩
theorem znv {d : DFA} {m n : Nat} (hd : DfaOk d m n) (hn : n <= 12) {S : List Nat} (hS : SetsP d m n S) {i j : Nat} (hi : i < S.length) (hj : j < S.length) (w : List ByteArray) :
    z0o (z2p (toI S) (j : Int) (zdg S (z0L d m n (S.getD j 0)), w) (i : Int) (zbF d m n S j i) ((S.getD i 0 : Nat) : Int)) LFm 0 = z0e (((i + 1 : Nat) : Int), zbF d m n S j (i + 1)) := by
  have h12 := zdh hn
  have hSl := z1C hS.nd hS.lt
  have hjS := z0h hj
  have hinv := z4I hd (hS.lt _ hjS)
  have hl := z1C hinv.nd hinv.lt
  have hx62 : S.getD i 0 < 2 ^ n := hS.lt _ (z0h hi)
  have hcol : z6v d m n S i j = true -> (zbF d m n S j i).set i ((z2e S.length (z6v d m n S i) false j).set j true) = zbF d m n S j (i + 1) := fun hb => by
    have e := z5W (f := z6v d m n S i) (z := false) hj
    rw [hb] at e
    rw [e]
    apply List.ext_getElem (by simp [zbF])
    intro k h1 h2
    simp only [zbF, List.getElem_set, List.getElem_map, List.getElem_range]
    by_cases ek : i = k
    · subst ek; rw [if_pos rfl, if_pos (by omega)]
    · rw [if_neg ek]
      by_cases e2 : k < i
      · rw [if_pos e2, if_pos (by omega)]
      · rw [if_neg e2, if_neg (by omega)]
  have hcol0 : z6v d m n S i j = false -> zbF d m n S j i = zbF d m n S j (i + 1) := fun hb => by
    unfold zbF
    refine List.map_congr_left fun k hk => ?_
    by_cases ek : k = i
    · subst ek; rw [if_neg (by omega), if_pos (by omega)]; exact zn4 hb
    · by_cases e2 : k < i
      · rw [if_pos e2, if_pos (by omega)]
      · rw [if_neg e2, if_neg (by omega)]
  rw [z5w (s := (0 : Int)) (z0L d m n (S.getD j 0)).1.length (fun k => (k : Int)) (fun k => decide (S.getD i 0 &&& (z0L d m n (S.getD j 0)).1.getD k 0 = S.getD i 0)) (fun _ => z0e (((i + 1 : Nat) : Int), (zbF d m n S j i).set i ((z2e S.length (z6v d m n S i) false j).set j true))) (x := z0e (((i + 1 : Nat) : Int), zbF d m n S j i)) rfl (by simp only [LFm]; omega)]
  · have ha : ((List.range (z0L d m n (S.getD j 0)).1.length).find? fun k => decide (S.getD i 0 &&& (z0L d m n (S.getD j 0)).1.getD k 0 = S.getD i 0)).isSome = z6v d m n S i j := zpl (fun x => decide (S.getD i 0 &&& x = S.getD i 0)) (z0L d m n (S.getD j 0)).1 0
    revert ha
    cases (List.range (z0L d m n (S.getD j 0)).1.length).find? fun k => decide (S.getD i 0 &&& (z0L d m n (S.getD j 0)).1.getD k 0 = S.getD i 0) with
    | none => intro ha; simp only; rw [hcol0 (by simpa using ha.symm)]
    | some k => intro ha; simp only; rw [hcol (by simpa using ha.symm)]
  · intro k hk
    have hkS : (z0L d m n (S.getD j 0)).1.getD k 0 ∈ S := zmL hS hjS hinv (z0h hk)
    have hqs : (zdg S (z0L d m n (S.getD j 0))).length = (z0L d m n (S.getD j 0)).1.length := by simp [zdg, toI]
    have h62 := hS.lt _ hkS
    simp only [z2p]
    rw [if_pos (by rw [hqs]; omega), zmq hk, Option.bind_some, z2f (z4r hkS), z2d hkS, Option.bind_some, z9x (by omega) (by omega), Option.bind_some]
    simp only [decide_eq_true_eq]
    split
    · rw [zbF, z2W hi, Option.bind_some, z8a hj, Option.bind_some, z0W (by omega), if_neg (by omega : ¬ i < i), Int.toNat_natCast, Int.toNat_natCast]
    · rw [z0W (by omega)]
  · have hqs : (zdg S (z0L d m n (S.getD j 0))).length = (z0L d m n (S.getD j 0)).1.length := by simp [zdg, toI]
    simp only [z2p]
    rw [if_neg (by rw [hqs]; omega), z0W (by omega)]
theorem zkM {d : DFA} {m n : Nat} (hd : DfaOk d m n) (hn : n <= 12) {S : List Nat} (hS : SetsP d m n S) : z3w d (toI S) = some (dgm d m n S) := by
  have h12 := zdh hn
  have hm6 := hd.m6
  have hp := Nat.two_pow_pos n
  have hSl := z1C hS.nd hS.lt
  unfold z3w
  rw [hd.fin, z0n _ (by omega), z6y (by omega), z0n _ (by unfold z1i; omega), Int.toNat_natCast]
  have e0 : List.replicate (2 ^ n) (0 : Int) = zl0 n S 0 := by
    apply List.ext_getElem (by simp [zl0]); intro i h1 h2; simp [zl0]
  rw [e0]
  refine z0K (s := ((0 : Int), zl0 n S 0)) S.length (fun k => ((k : Int), zl0 n S k)) rfl (by simp only [LFm]; omega) (fun k hk => ?_) ?_
  · simp only [z3n]
    rw [if_pos (by rw [z0d]; omega), z2f hk, Option.bind_some, zpF (hS.lt _ (z0h hk)), Option.bind_some, z0W (by omega), Int.toNat_natCast, zoX hS.nd hk]
  · simp only [z3n]
    rw [if_neg (by rw [z0d]; omega), z0d, z0n _ (by unfold z1i; omega), Int.toNat_natCast]
    congr 1
    have f1 : List.replicate S.length ([] : List Int) = z2e S.length (ziP d m S) [] 0 := (zai _ _ _).symm
    have f2 : List.replicate S.length ([] : List Bool) = z2e S.length (fun _ => List.replicate S.length false) [] 0 := (zai _ _ _).symm
    rw [f1, f2]
    refine z0K (s := ((0 : Int), z2e S.length (ziP d m S) [] 0, z2e S.length (fun _ => List.replicate S.length false) [] 0)) S.length (fun k => ((k : Int), z2e S.length (ziP d m S) [] k, z2e S.length (fun _ => List.replicate S.length false) [] k)) rfl (by simp only [LFm]; omega) (fun k hk => ?_) ?_
    · simp only [z3m]
      rw [if_pos (by rw [z0d]; omega), z2f hk, Option.bind_some, hd.lt, z0n _ (by unfold z1i; omega), z8a hk, Option.bind_some, Int.toNat_natCast, Int.toNat_natCast, zkg hd hn hS hk]
    · simp only [z3m]
      rw [if_neg (by rw [z0d]; omega), zah, zah]
      congr 1
      have f3 : ((List.range S.length).map fun _ => List.replicate S.length false) = zbF d m n S 0 0 := by
        unfold zbF
        refine List.map_congr_left fun i hi => ?_
        rw [if_neg (by omega), zai]
      rw [f3]
      refine z0K (s := ((0 : Int), zbF d m n S 0 0)) S.length (fun j => ((j : Int), zbF d m n S j 0)) rfl (by simp only [LFm]; omega) (fun j hj => ?_) ?_
      · simp only [z3a]
        rw [if_pos (by rw [z0d]; omega)]
        have es := zcf hd hn hS (zbF d m n S j 0) hj
        unfold zrv at es
        rw [es, Option.bind_some]
        refine z0K (s := ((0 : Int), zbF d m n S j 0)) S.length (fun i => ((i : Int), zbF d m n S j i)) rfl (by simp only [LFm]; omega) (fun i hi => ?_) ?_
        · simp only [z2Z]
          rw [if_pos (by rw [z0d]; omega), z2f hi, Option.bind_some, znv hd hn hS hi hj]
        · simp only [z2Z]
          rw [if_neg (by rw [z0d]; omega), z0W (by omega), zu2]
      · simp only [z3a]
        rw [if_neg (by rw [z0d]; omega)]
        have f4 : zbF d m n S S.length 0 = zph d m n S := by
          unfold zbF zph
          refine List.map_congr_left fun i hi => ?_
          rw [if_neg (by omega), zah]
        rw [f4]; rfl
end
section
open Go
set_option maxRecDepth 100000
structure EqvN (N : Nat) (e : Nat -> Nat -> Bool) : Prop where
  refl : ∀ i, i < N -> e i i = true
  symm : ∀ i j, i < N -> j < N -> e i j = true -> e j i = true
  trans : ∀ i j k, i < N -> j < N -> k < N -> e i j = true -> e j k = true -> e i k = true
def z0Q (e : Nat -> Nat -> Bool) : Nat -> List Nat
  | 0 => []
  | i + 1 => if (z0Q e i).any (e i) = true then z0Q e i else z0Q e i ++ [i]
def z6D (e : Nat -> Nat -> Bool) (N i : Nat) : Nat := (z0Q e N).findIdx (e i)
theorem zaS (e : Nat -> Nat -> Bool) {i : Nat} : ∀ j, i <= j -> ∃ R, z0Q e j = z0Q e i ++ R
  | 0, h => by
    obtain rfl : i = 0 := by omega
    exact ⟨[], by simp⟩
  | j + 1, h => by
    by_cases e0 : i = j + 1
    · subst e0; exact ⟨[], by simp⟩
    · obtain ⟨R, hR⟩ := zaS e (i := i) j (by omega)
      rw [show z0Q e (j + 1) = if (z0Q e j).any (e j) = true then z0Q e j else z0Q e j ++ [j] from rfl]
      split
      · exact ⟨R, hR⟩
      · exact ⟨R ++ [j], by rw [hR, List.append_assoc]⟩
theorem zb9 (e : Nat -> Nat -> Bool) : ∀ i, ∀ f ∈ z0Q e i, f < i
  | 0, f, h => by simp [z0Q] at h
  | i + 1, f, h => by
    unfold z0Q at h
    split at h
    · have := zb9 e i f h; omega
    · rcases List.mem_append.1 h with h | h
      · have := zb9 e i f h; omega
      · have := List.mem_singleton.1 h; omega
theorem z7Y (e : Nat -> Nat -> Bool) : ∀ i, (z0Q e i).length <= i
  | 0 => by simp [z0Q]
  | i + 1 => by
    have := z7Y e i
    unfold z0Q
    split
    · omega
    · rw [List.length_append, List.length_singleton]; omega
theorem zag {N : Nat} {e : Nat -> Nat -> Bool} (he : EqvN N e) : ∀ i, i <= N -> (z0Q e i).Pairwise fun f g => e f g = false /\ e g f = false
  | 0, _ => by simp [z0Q]
  | i + 1, hi => by
    have ih := zag he i (by omega)
    unfold z0Q
    split
    · exact ih
    · rename_i h
      refine List.pairwise_append.2 ⟨ih, by simp, fun a ha b hb => ?_⟩
      obtain rfl := List.mem_singleton.1 hb
      have hlt := zb9 e b a ha
      have h1 : e b a = false := by
        cases hh : e b a with
        | false => rfl
        | true => exact absurd (List.any_eq_true.2 ⟨a, ha, hh⟩) h
      refine ⟨?_, h1⟩
      cases hh : e a b with
      | false => rfl
      | true => rw [he.symm a b (by omega) (by omega) hh] at h1; cases h1
theorem zhP {N : Nat} {e : Nat -> Nat -> Bool} (he : EqvN N e) {i c c' : Nat} {l : List Nat} (hl : l.Pairwise fun f g => e f g = false /\ e g f = false) (hlt : ∀ f ∈ l, f < N) (hi : i < N) (hc : c < l.length) (hc' : c' < l.length) (h : e i (l.getD c 0) = true) (h' : e i (l.getD c' 0) = true) : c = c' := by
  have m1 : l.getD c 0 < N := hlt _ (z0h hc)
  have m2 : l.getD c' 0 < N := hlt _ (z0h hc')
  have hcc := he.trans _ _ _ m1 hi m2 (he.symm _ _ hi m1 h) h'
  rcases Nat.lt_trichotomy c c' with hlt' | rfl | hlt'
  · have := (List.pairwise_iff_getElem.1 hl c c' hc hc' hlt').1
    rw [List.getD, List.getD, List.getElem?_eq_getElem hc, List.getElem?_eq_getElem hc', Option.getD_some, Option.getD_some, this] at hcc
    cases hcc
  · rfl
  · have := (List.pairwise_iff_getElem.1 hl c' c hc' hc hlt').2
    rw [List.getD, List.getD, List.getElem?_eq_getElem hc, List.getElem?_eq_getElem hc', Option.getD_some, Option.getD_some, this] at hcc
    cases hcc
theorem zpQ {N : Nat} {e : Nat -> Nat -> Bool} (he : EqvN N e) {i : Nat} (hi : i < N) : (z0Q e i).findIdx (e i) = z6D e N i := by
  unfold z6D
  obtain ⟨R, hR⟩ := zaS e (i := i + 1) N (by omega)
  rw [hR]
  by_cases h : (z0Q e i).any (e i) = true
  · have : z0Q e (i + 1) = z0Q e i := by rw [z0Q, if_pos h]
    rw [this, List.findIdx_append, if_pos]
    obtain ⟨x, hx, hp⟩ := List.any_eq_true.1 h
    exact List.findIdx_lt_length_of_exists ⟨x, hx, hp⟩
  · have e1 : z0Q e (i + 1) = z0Q e i ++ [i] := by rw [z0Q, if_neg h]
    have e2 : (z0Q e i).findIdx (e i) = (z0Q e i).length := List.findIdx_eq_length.2 fun x hx => by
      cases hh : e i x with
      | false => rfl
      | true => exact absurd (List.any_eq_true.2 ⟨x, hx, hh⟩) h
    rw [e1, List.append_assoc, List.findIdx_append, if_neg (by rw [e2]; omega), List.singleton_append, List.findIdx_cons, he.refl i hi, e2]
    simp
theorem z9y {N : Nat} {e : Nat -> Nat -> Bool} (he : EqvN N e) {i : Nat} (hi : i < N) : z6D e N i < (z0Q e N).length /\ e i ((z0Q e N).getD (z6D e N i) 0) = true := by
  have hex : ∃ x ∈ z0Q e N, e i x = true := by
    obtain ⟨R, hR⟩ := zaS e (i := i + 1) N (by omega)
    by_cases h : (z0Q e i).any (e i) = true
    · obtain ⟨x, hx, hp⟩ := List.any_eq_true.1 h
      refine ⟨x, ?_, hp⟩
      rw [hR, z0Q, if_pos h]
      exact List.mem_append.2 (.inl hx)
    · refine ⟨i, ?_, he.refl i hi⟩
      rw [hR, z0Q, if_neg h]; simp
  have hlt : z6D e N i < (z0Q e N).length := List.findIdx_lt_length_of_exists hex
  refine ⟨hlt, ?_⟩
  rw [List.getD, List.getElem?_eq_getElem hlt, Option.getD_some]
  exact List.findIdx_getElem (w := hlt)
theorem zf2 {N : Nat} {e : Nat -> Nat -> Bool} (he : EqvN N e) {i j : Nat} (hi : i < N) (hj : j < N) : z6D e N i = z6D e N j ↔ e i j = true := by
  obtain ⟨a1, a2⟩ := z9y he hi
  obtain ⟨b1, b2⟩ := z9y he hj
  have hF := zb9 e N
  have m1 := hF _ (z0h a1)
  constructor
  · intro h
    rw [← h] at b2
    exact he.trans _ _ _ hi m1 hj a2 (he.symm _ _ hj m1 b2)
  · intro h
    exact zhP he (zag he N (Nat.le_refl _)) hF hj a1 b1 (he.trans _ _ _ hj hi m1 (he.symm _ _ hi hj h) a2) b2
def z1M (d : DFA) (m n : Nat) (S : List Nat) (i j : Nat) : Bool := z6v d m n S i j && z6v d m n S j i
theorem z6B {d : DFA} {m n : Nat} (hd : DfaOk d m n) {S : List Nat} (hS : SetsP d m n S) : EqvN S.length (z1M d m n S) where
  refl i hi := by
    have := (z3q hd hS hi (i := i)).2 (zjA d m _)
    simp [z1M, this]
  symm i j hi hj h := by
    simp only [z1M, Bool.and_eq_true] at h ⊢
    exact ⟨h.2, h.1⟩
  trans i j k hi hj hk h1 h2 := by
    simp only [z1M, Bool.and_eq_true] at h1 h2 ⊢
    exact ⟨(z3q hd hS hk).2 (zd5 hd ((z3q hd hS hj).1 h1.1) ((z3q hd hS hk).1 h2.1)), (z3q hd hS hi).2 (zd5 hd ((z3q hd hS hj).1 h2.2) ((z3q hd hS hi).1 h1.2))⟩
theorem zjB {d : DFA} {m n : Nat} {S : List Nat} {i : Nat} (hi : i < S.length) : atI (zph d m n S) (i : Int) = some ((List.range S.length).map (z6v d m n S i)) := z2W hi
def znM (d : DFA) (m n : Nat) (S : List Nat) : List Int := (List.range S.length).map fun i => ((z6D (z1M d m n S) S.length i : Nat) : Int)
def z6t (d : DFA) (m n : Nat) (S : List Nat) : List Nat := z0Q (z1M d m n S) S.length
theorem zkT {d : DFA} {m n : Nat} (hd : DfaOk d m n) (hn : n <= 12) {S : List Nat} (hS : SetsP d m n S) : z2a (dgm d m n S) = some (znM d m n S, toI (z6t d m n S)) := by
  have h12 := zdh hn
  have hSl := z1C hS.nd hS.lt
  have he := z6B hd hS
  unfold z2a
  have ed : (dgm d m n S).sets = toI S := rfl
  have eb : (dgm d m n S).below = zph d m n S := rfl
  rw [ed, z0d, z0n _ (by unfold z1i; omega), Int.toNat_natCast]
  have f1 : List.replicate S.length (0 : Int) = z2e S.length (fun i => ((z6D (z1M d m n S) S.length i : Nat) : Int)) 0 0 := (zai _ _ _).symm
  rw [f1]
  refine z0K (s := ((0 : Int), z2e S.length (fun i => ((z6D (z1M d m n S) S.length i : Nat) : Int)) 0 0, ([] : List Int))) S.length (fun k => ((k : Int), z2e S.length (fun i => ((z6D (z1M d m n S) S.length i : Nat) : Int)) 0 k, toI (z0Q (z1M d m n S) k))) rfl (by simp only [LFm]; omega) (fun i hi => ?_) ?_
  · have hF := z7Y (z1M d m n S) i
    have hFl := zb9 (z1M d m n S) i
    have hap := zag he i (by omega)
    have hcl := zpQ he hi
    simp only [z2m]
    rw [ed, if_pos (by rw [z0d]; omega), z8a hi, Option.bind_some, z0d, Int.toNat_natCast]
    generalize hL : z2e S.length (fun i => ((z6D (z1M d m n S) S.length i : Nat) : Int)) 0 i = L at *
    have hLl : L.length = S.length := by rw [← hL, zbB]
    have hstep : ∀ c, c < (z0Q (z1M d m n S) i).length -> (z1M d m n S i ((z0Q (z1M d m n S) i).getD c 0) = true ↔ (z0Q (z1M d m n S) i).findIdx (z1M d m n S i) = c) := fun c hc => by
      constructor
      · intro h
        have hex : (z0Q (z1M d m n S) i).findIdx (z1M d m n S i) < (z0Q (z1M d m n S) i).length := List.findIdx_lt_length_of_exists ⟨_, z0h hc, h⟩
        have hp : z1M d m n S i ((z0Q (z1M d m n S) i).getD ((z0Q (z1M d m n S) i).findIdx (z1M d m n S i)) 0) = true := by
          rw [List.getD, List.getElem?_eq_getElem hex, Option.getD_some]
          exact List.findIdx_getElem (w := hex)
        exact zhP he hap (fun f hf => by have := hFl f hf; omega) hi hex hc hp h
      · intro h
        have hex : (z0Q (z1M d m n S) i).findIdx (z1M d m n S i) < (z0Q (z1M d m n S) i).length := by omega
        have hp : z1M d m n S i ((z0Q (z1M d m n S) i)[(z0Q (z1M d m n S) i).findIdx (z1M d m n S i)]) = true := List.findIdx_getElem (w := hex)
        rw [← h, List.getD, List.getElem?_eq_getElem hex, Option.getD_some]
        exact hp
    refine z0K (s := ((0 : Int), L.set i (((z0Q (z1M d m n S) i).length : Nat) : Int))) (z0Q (z1M d m n S) i).length (fun c => ((c : Int), L.set i (((if (z0Q (z1M d m n S) i).findIdx (z1M d m n S i) < c then (z0Q (z1M d m n S) i).findIdx (z1M d m n S i) else (z0Q (z1M d m n S) i).length : Nat)) : Int))) (by simp) (by simp only [LFm]; omega) (fun c hc => ?_) ?_
    · have hf := hFl _ (z0h hc)
      simp only [z2l]
      rw [eb, if_pos (by rw [z0d]; omega), z2f hc, Option.bind_some, zjB hi, Option.bind_some, z2W (by omega), Option.bind_some, z0W (by omega)]
      by_cases h1 : z6v d m n S i ((z0Q (z1M d m n S) i).getD c 0) = true
      · rw [if_pos h1, zjB (by omega), Option.bind_some, z2W hi, Option.bind_some]
        by_cases h2 : z6v d m n S ((z0Q (z1M d m n S) i).getD c 0) i = true
        · have := (hstep c hc).1 ((Bool.and_eq_true _ _).mpr ⟨h1, h2⟩)
          rw [if_pos h2, ziF (by omega), Option.bind_some, Int.toNat_natCast, zhm, this, if_pos (by omega)]
        · have : ¬ (z0Q (z1M d m n S) i).findIdx (z1M d m n S i) = c := fun h => by
            have := (hstep c hc).2 h
            simp only [z1M, Bool.and_eq_true] at this
            exact h2 this.2
          rw [if_neg h2]
          congr 3
          by_cases h3 : (z0Q (z1M d m n S) i).findIdx (z1M d m n S i) < c
          · rw [if_pos h3, if_pos (by omega)]
          · rw [if_neg h3, if_neg (by omega)]
      · have : ¬ (z0Q (z1M d m n S) i).findIdx (z1M d m n S i) = c := fun h => by
          have := (hstep c hc).2 h
          simp only [z1M, Bool.and_eq_true] at this
          exact h1 this.1
        rw [if_neg h1]
        congr 3
        by_cases h3 : (z0Q (z1M d m n S) i).findIdx (z1M d m n S i) < c
        · rw [if_pos h3, if_pos (by omega)]
        · rw [if_neg h3, if_neg (by omega)]
    · have hle : (z0Q (z1M d m n S) i).findIdx (z1M d m n S i) <= (z0Q (z1M d m n S) i).length := List.findIdx_le_length
      have hv : (if (z0Q (z1M d m n S) i).findIdx (z1M d m n S i) < (z0Q (z1M d m n S) i).length then (z0Q (z1M d m n S) i).findIdx (z1M d m n S i) else (z0Q (z1M d m n S) i).length) = (z0Q (z1M d m n S) i).findIdx (z1M d m n S i) := by split <;> omega
      have hset : L.set i ((z6D (z1M d m n S) S.length i : Nat) : Int) = z2e S.length (fun i => ((z6D (z1M d m n S) S.length i : Nat) : Int)) 0 (i + 1) := by
        rw [← hL]; exact z5W (f := fun i => ((z6D (z1M d m n S) S.length i : Nat) : Int)) (z := 0) hi
      simp only [z2l]
      rw [if_neg (by rw [z0d]; omega), hv, ziF (by omega), Option.bind_some, hcl, hset, z0W (by omega), z0d, z0Q]
      by_cases h : (z0Q (z1M d m n S) i).any (z1M d m n S i) = true
      · obtain ⟨x, hx, hpx⟩ := List.any_eq_true.1 h
        have := List.findIdx_lt_length_of_exists ⟨x, hx, hpx⟩
        rw [if_pos h, if_neg (by omega)]
      · have e2 : (z0Q (z1M d m n S) i).findIdx (z1M d m n S i) = (z0Q (z1M d m n S) i).length := List.findIdx_eq_length.2 fun x hx => by
          cases hh : z1M d m n S i x with
          | false => rfl
          | true => exact absurd (List.any_eq_true.2 ⟨x, hx, hh⟩) h
        rw [if_neg h, if_pos (by omega), z0n _ (by unfold z1q; omega), z5j]
  · simp only [z2m]
    rw [ed, if_neg (by rw [z0d]; omega), zah]
    rfl
end
section
open Go
set_option maxRecDepth 100000
def z6Z (g : Nat -> Nat) : Nat -> Nat
  | 0 => 0
  | k + 1 => max (z6Z g k) (g k)
theorem zcy {g : Nat -> Nat} {k b : Nat} (h : ∀ j, j < k -> g j <= b) : z6Z g k <= b := by
  induction k with
  | zero => simp [z6Z]
  | succ k ih =>
    have := ih fun j hj => h j (by omega)
    have := h k (by omega)
    simp only [z6Z]; omega
theorem zhC {g g' : Nat -> Nat} {k : Nat} (h : ∀ j, j < k -> g j = g' j) : z6Z g k = z6Z g' k := by
  induction k with
  | zero => rfl
  | succ k ih => simp only [z6Z]; rw [ih fun j hj => h j (by omega), h k (by omega)]
def z4s (p : Nat -> Bool) : Nat -> Nat
  | 0 => 0
  | k + 1 => z4s p k + (if p k = true then 1 else 0)
theorem zjt (p : Nat -> Bool) (k : Nat) : z4s p k <= k := by
  induction k with
  | zero => simp [z4s]
  | succ k ih => simp only [z4s]; split <;> omega
theorem zjs {p q : Nat -> Bool} {k : Nat} (h : ∀ j, j < k -> p j = true -> q j = true) : z4s p k <= z4s q k := by
  induction k with
  | zero => simp [z4s]
  | succ k ih =>
    have := ih fun j hj => h j (by omega)
    have := h k (by omega)
    simp only [z4s]
    by_cases h1 : p k = true
    · rw [if_pos h1, if_pos (this h1)]; omega
    · rw [if_neg h1]; split <;> omega
theorem zgR {p q : Nat -> Bool} {k i : Nat} (h : ∀ j, j < k -> p j = true -> q j = true) (hi : i < k) (hp : p i = false) (hq : q i = true) : z4s p k < z4s q k := by
  induction k with
  | zero => omega
  | succ k ih =>
    simp only [z4s]
    by_cases e : i = k
    · subst e
      have := zjs (p := p) (q := q) (k := i) fun j hj => h j (by omega)
      rw [hp, hq]; simp; omega
    · have h1 := ih (fun j hj => h j (by omega)) (by omega)
      have := h k (by omega)
      by_cases h2 : p k = true
      · rw [if_pos h2, if_pos (this h2)]; omega
      · rw [if_neg h2]; split <;> omega
structure BelN (N : Nat) (b : Nat -> Nat -> Bool) : Prop where
  refl : ∀ i, i < N -> b i i = true
  trans : ∀ i j k, i < N -> j < N -> k < N -> b i j = true -> b j k = true -> b i k = true
def zeC (N : Nat) (b : Nat -> Nat -> Bool) (i : Nat) : Nat := z4s (fun j => b j i) N
def sbN (b : Nat -> Nat -> Bool) (j i : Nat) : Bool := b j i && !b i j
theorem zmI {N : Nat} {b : Nat -> Nat -> Bool} (hb : BelN N b) {i j : Nat} (hi : i < N) (hj : j < N) (h : sbN b j i = true) : zeC N b j < zeC N b i := by
  simp only [sbN, Bool.and_eq_true, Bool.not_eq_true'] at h
  exact zgR (fun k hk hkj => hb.trans k j i hk hj hi hkj h.1) hi h.2 (hb.refl i hi)
def zw8 (N : Nat) (b : Nat -> Nat -> Bool) (z : Nat -> Bool) (h : Nat -> Nat) : Prop := ∀ i, i < N -> h i = if z i = true then 0 else z6Z (fun j => if sbN b j i = true then h j + 1 else 0) N
def zqV (N : Nat) (b : Nat -> Nat -> Bool) (z : Nat -> Bool) : Nat -> Nat -> Nat
  | 0, _ => 0
  | f + 1, i => if z i = true then 0 else z6Z (fun j => if sbN b j i = true then zqV N b z f j + 1 else 0) N
def zqU (N : Nat) (b : Nat -> Nat -> Bool) (z : Nat -> Bool) (i : Nat) : Nat := zqV N b z N i
theorem zdL {N : Nat} {b : Nat -> Nat -> Bool} (hb : BelN N b) (z : Nat -> Bool) : ∀ f i, i < N -> zeC N b i <= f -> ∀ g, zeC N b i <= g -> zqV N b z f i = zqV N b z g i
  | 0, i, hi, hl, g, hg => by
    exfalso
    have := zgR (p := fun _ => false) (q := fun j => b j i) (k := N) (i := i) (fun j _ hf => by simp at hf) hi rfl (hb.refl i hi)
    unfold zeC at hl; omega
  | f + 1, i, hi, hl, 0, hg => by
    exfalso
    have := zgR (p := fun _ => false) (q := fun j => b j i) (k := N) (i := i) (fun j _ hf => by simp at hf) hi rfl (hb.refl i hi)
    unfold zeC at hg; omega
  | f + 1, i, hi, hl, g + 1, hg => by
    simp only [zqV]
    split
    · rfl
    · refine zhC fun j hj => ?_
      by_cases hs : sbN b j i = true
      · have := zmI hb hi hj hs
        rw [if_pos hs, if_pos hs, zdL hb z f j hj (by omega) g (by omega)]
      · rw [if_neg hs, if_neg hs]
theorem zpG {N : Nat} {b : Nat -> Nat -> Bool} (hb : BelN N b) (z : Nat -> Bool) : zw8 N b z (zqU N b z) := fun i hi => by
  have hl : zeC N b i <= N := zjt _ _
  unfold zqU
  rw [zdL hb z N i hi hl (N + 1) (by omega)]
  rfl
theorem zpH {N : Nat} {b : Nat -> Nat -> Bool} (hb : BelN N b) (z : Nat -> Bool) {i : Nat} (hi : i < N) : zqU N b z i <= N := by
  have : ∀ L i, i < N -> zeC N b i <= L -> zqU N b z i <= L := by
    intro L
    induction L with
    | zero =>
      intro i hi hl
      exfalso
      have := zgR (p := fun _ => false) (q := fun j => b j i) (k := N) (i := i) (fun j _ hf => by simp at hf) hi rfl (hb.refl i hi)
      unfold zeC at hl; omega
    | succ L ih =>
      intro i hi hl
      rw [zpG hb z i hi]
      split
      · omega
      · refine zcy fun j hj => ?_
        by_cases hs : sbN b j i = true
        · have := zmI hb hi hj hs
          have := ih j hj (by omega)
          rw [if_pos hs]; omega
        · rw [if_neg hs]; omega
  exact this N i hi (zjt _ _)
theorem zpW {d : DFA} {m n : Nat} (hd : DfaOk d m n) {S : List Nat} (hS : SetsP d m n S) : BelN S.length (z6v d m n S) where
  refl i hi := (z3q hd hS hi).2 (zjA d m _)
  trans i j k hi hj hk h1 h2 := (z3q hd hS hk).2 (zd5 hd ((z3q hd hS hj).1 h1) ((z3q hd hS hk).1 h2))
theorem zm8 {s : Nat} (h : s < 128) : z5b (s : Int) = some ((szN s : Nat) : Int) := by
  unfold z5b z3B
  rw [zpY (by omega)]
  have : z2n (s : Int) = some ((szN s : Nat) : Int) := by
    unfold z2n
    rw [z0n _ (by omega), z0n _ (by omega), z0n _ (by omega), z0n _ (by omega), z0n _ (by omega), z0n _ (by omega)]
    congr 1
    revert s
    decide +kernel
  rw [this]; rfl
def zpU (S : List Nat) (i : Nat) : Bool := decide (szN (S.getD i 0) = 1)
def z7X (d : DFA) (m n : Nat) (S : List Nat) (i : Nat) : Nat := zqU S.length (z6v d m n S) (zpU S) i
def ztN (d : DFA) (m n : Nat) (S : List Nat) : List Int := (List.range S.length).map fun i => ((z7X d m n S i : Nat) : Int)
theorem zlP (N : Nat) : toI (List.range N) = (List.range N).map fun i => ((i : Nat) : Int) := rfl
theorem zkm {d : DFA} {m n : Nat} {S : List Nat} (hl : S.length < 4611686018427387904) {i : Nat} (hi : i < S.length) (C O : List Int) (L : List Int) (hL : L.length = S.length) (h0 : L.getD i 0 = 0) :
    z0o (z1D (dgm d m n S) (i : Int) O) LFm (0, L) = z0e (((i + 1 : Nat) : Int), L.set i ((zeC S.length (z6v d m n S) i : Nat) : Int), O.set i (i : Int)) := by
  refine z0K (s := ((0 : Int), L)) S.length (fun k => ((k : Int), L.set i ((z4s (fun j => z6v d m n S j i) k : Nat) : Int))) ?_ (by simp only [LFm]; omega) (fun k hk => ?_) ?_
  · refine Prod.ext rfl ?_
    show L = L.set i 0
    apply List.ext_getElem (by simp)
    intro j h1 h2
    rw [List.getElem_set]
    by_cases e : i = j
    · subst e
      rw [if_pos rfl]
      rw [List.getD, List.getElem?_eq_getElem h1, Option.getD_some] at h0
      exact h0
    · rw [if_neg e]
  · have hc := zjt (fun j => z6v d m n S j i) k
    have ed : (dgm d m n S).sets = toI S := rfl
    have eb : (dgm d m n S).below = zph d m n S := rfl
    simp only [z1D]
    rw [ed, eb, if_pos (by rw [z0d]; omega), zjB hk, Option.bind_some, z2W hi, Option.bind_some, z0W (by omega)]
    simp only [z4s]
    by_cases h : z6v d m n S k i = true
    · rw [if_pos h, if_pos h, ziF (by omega), Option.bind_some, Int.toNat_natCast, zhm, z0W (by omega)]
    · rw [if_neg h, if_neg h]; rfl
  · have ed : (dgm d m n S).sets = toI S := rfl
    simp only [z1D]
    rw [ed, if_neg (by rw [z0d]; omega), z0W (by omega), Int.toNat_natCast]
    rfl
theorem zmR {d : DFA} {m n : Nat} (hd : DfaOk d m n) {S : List Nat} (hS : SetsP d m n S) (hl : S.length < 100000) (k : Int) {i : Nat} (hi : i < S.length) {H : Nat -> Nat} (h0 : H i = 0) (hlow : ∀ j, j < S.length -> sbN (z6v d m n S) j i = true -> H j = z7X d m n S j) :
    z0o (z1v (dgm d m n S) (znM d m n S) k (i : Int)) LFm (0, (List.range S.length).map fun j => ((H j : Nat) : Int)) = z0e (IntKind.i64.wrap (k + 1), (List.range S.length).map fun j => (((if j = i then z6Z (fun j => if sbN (z6v d m n S) j i = true then z7X d m n S j + 1 else 0) S.length else H j) : Nat) : Int)) := by
  have he := z6B hd hS
  have hb := zpW hd hS
  have ed : (dgm d m n S).sets = toI S := rfl
  have eb : (dgm d m n S).below = zph d m n S := rfl
  refine z0K (s := ((0 : Int), (List.range S.length).map fun j => ((H j : Nat) : Int))) S.length (fun q => ((q : Int), (List.range S.length).map fun j => (((if j = i then z6Z (fun j => if sbN (z6v d m n S) j i = true then z7X d m n S j + 1 else 0) q else H j) : Nat) : Int))) ?_ (by simp only [LFm]; omega) (fun q hq => ?_) ?_
  · refine Prod.ext rfl ?_
    refine List.map_congr_left fun j hj => ?_
    by_cases e : j = i
    · subst e; simp [z6Z, h0]
    · rw [if_neg e]
  · have hle := zpH hb (zpU S) hq
    have hmx : z6Z (fun j => if sbN (z6v d m n S) j i = true then z7X d m n S j + 1 else 0) q <= S.length + 1 := zcy fun j hj => by
      have := zpH hb (zpU S) (i := j) (by omega)
      unfold z7X; split <;> omega
    have hse : z6v d m n S q i = true -> (sbN (z6v d m n S) q i = true ↔ ¬ z6D (z1M d m n S) S.length q = z6D (z1M d m n S) S.length i) := fun h => by
      rw [zf2 he hq hi]
      simp only [sbN, z1M, h, Bool.true_and, Bool.not_eq_true', Bool.not_eq_true]
    have hfin : ∀ v : Nat, v = (if sbN (z6v d m n S) q i = true then max (z6Z (fun j => if sbN (z6v d m n S) j i = true then z7X d m n S j + 1 else 0) q) (z7X d m n S q + 1) else z6Z (fun j => if sbN (z6v d m n S) j i = true then z7X d m n S j + 1 else 0) q) -> ((List.range S.length).map fun j => (((if j = i then v else H j) : Nat) : Int)) = (List.range S.length).map fun j => (((if j = i then z6Z (fun j => if sbN (z6v d m n S) j i = true then z7X d m n S j + 1 else 0) (q + 1) else H j) : Nat) : Int) := fun v hv => by
      refine List.map_congr_left fun j hj => ?_
      by_cases e : j = i
      · rw [if_pos e, if_pos e, hv]
        simp only [z6Z]
        by_cases h : sbN (z6v d m n S) q i = true
        · rw [if_pos h, if_pos h]
        · rw [if_neg h, if_neg h]; congr 1; omega
      · rw [if_neg e, if_neg e]
    simp only [z1v]
    rw [ed, eb, if_pos (by rw [z0d]; omega), zjB hq, Option.bind_some, z2W hi, Option.bind_some, z0W (by omega)]
    by_cases h : z6v d m n S q i = true
    · rw [if_pos h, znM, z2W hq, Option.bind_some, z2W hi, Option.bind_some]
      by_cases hc : z6D (z1M d m n S) S.length q = z6D (z1M d m n S) S.length i
      · have hs : ¬ sbN (z6v d m n S) q i = true := fun hh => (hse h).1 hh hc
        rw [if_pos (by rw [hc]), hfin _ (by rw [if_neg hs])]
      · have hs := (hse h).2 hc
        have hqi : q ≠ i := fun e => by subst e; exact hc rfl
        rw [if_neg (by omega), z2W hi, Option.bind_some, z2W hq, Option.bind_some, if_pos rfl, if_neg hqi, hlow q hq hs, z0W (by unfold z7X; omega), Int.toNat_natCast]
        have hset : ∀ v : Nat, ((List.range S.length).map fun j => (((if j = i then z6Z (fun j => if sbN (z6v d m n S) j i = true then z7X d m n S j + 1 else 0) q else H j) : Nat) : Int)).set i (v : Int) = (List.range S.length).map fun j => (((if j = i then v else H j) : Nat) : Int) := fun v => by
          apply List.ext_getElem (by simp)
          intro j h1 h2
          simp only [List.getElem_set, List.getElem_map, List.getElem_range]
          by_cases e : i = j
          · subst e; rw [if_pos rfl, if_pos rfl]
          · rw [if_neg e, if_neg (fun hh => e hh.symm), if_neg (fun hh => e hh.symm)]
        by_cases hlt : ((z6Z (fun j => if sbN (z6v d m n S) j i = true then z7X d m n S j + 1 else 0) q : Nat) : Int) < ((z7X d m n S q + 1 : Nat) : Int)
        · rw [if_pos hlt, hset, hfin _ (by rw [if_pos hs]; omega)]
        · rw [if_neg hlt, hset, hfin _ (by rw [if_pos hs]; omega)]
    · have hs : ¬ sbN (z6v d m n S) q i = true := fun hh => by simp only [sbN, Bool.and_eq_true] at hh; exact h hh.1
      rw [if_neg h, hfin _ (by rw [if_neg hs])]
  · simp only [z1v]
    rw [ed, if_neg (by rw [z0d]; omega)]
theorem zkC {d : DFA} {m n : Nat} (hd : DfaOk d m n) (hn : n <= 7) {S : List Nat} (hS : SetsP d m n S) : z1Z (dgm d m n S) (znM d m n S) = some (ztN d m n S) := by
  have h128 : 2 ^ n <= 128 := Nat.pow_le_pow_right (n := 2) (by omega) hn
  have hSl := z1C hS.nd hS.lt
  have hb := zpW hd hS
  have he := z6B hd hS
  have ed : (dgm d m n S).sets = toI S := rfl
  unfold z1Z
  rw [ed, z0d, z0n _ (by unfold z1i; omega), Int.toNat_natCast]
  have f1 : List.replicate S.length (0 : Int) = z2e S.length (fun i => ((zeC S.length (z6v d m n S) i : Nat) : Int)) 0 0 := (zai _ _ _).symm
  have f2 : (List.replicate S.length (0 : Int)) = z2e S.length (fun i => ((i : Nat) : Int)) 0 0 := (zai _ _ _).symm
  conv => lhs; arg 3; rw [show ((0 : Int), List.replicate S.length (0 : Int), List.replicate S.length (0 : Int)) = ((0 : Int), z2e S.length (fun i => ((zeC S.length (z6v d m n S) i : Nat) : Int)) 0 0, z2e S.length (fun i => ((i : Nat) : Int)) 0 0) by rw [← f1, ← f2]]
  refine z0K (s := ((0 : Int), z2e S.length (fun i => ((zeC S.length (z6v d m n S) i : Nat) : Int)) 0 0, z2e S.length (fun i => ((i : Nat) : Int)) 0 0)) S.length (fun k => ((k : Int), z2e S.length (fun i => ((zeC S.length (z6v d m n S) i : Nat) : Int)) 0 k, z2e S.length (fun i => ((i : Nat) : Int)) 0 k)) rfl (by simp only [LFm]; omega) (fun i hi => ?_) ?_
  · simp only [z2k]
    rw [ed, if_pos (by rw [z0d]; omega), z8a hi, Option.bind_some, zkm (by omega) hi [] _ _ (zbB _ _ _ _) (by simp [z2e, List.getD, hi])]
    have e1 := z5W (f := fun i => ((zeC S.length (z6v d m n S) i : Nat) : Int)) (z := 0) hi
    have e2 := z5W (f := fun i => ((i : Nat) : Int)) (z := 0) hi
    rw [e1, e2]
  · simp only [z2k]
    rw [ed, if_neg (by rw [z0d]; omega), zah, zah]
    have hK : ((List.range S.length).map fun i => ((zeC S.length (z6v d m n S) i : Nat) : Int)).length = S.length := by simp
    have hv : zwt ((List.range S.length).map fun i => ((zeC S.length (z6v d m n S) i : Nat) : Int)) (toI (List.range S.length)) := fun x hx => by
      simp only [toI, List.mem_map, List.mem_range] at hx
      obtain ⟨i, hi, rfl⟩ := hx
      exact ⟨by omega, by rw [hK]; omega⟩
    obtain ⟨O, hO, hs, hp⟩ := zm3 hv (by rw [z0d, List.length_range]; omega)
    rw [← zlP, hO, Option.bind_some, z0d, z0n _ (by unfold z1i; omega), Int.toNat_natCast]
    have hOl : O.length = S.length := by rw [hp.length_eq, z0d, List.length_range]
    have hOn : O.Nodup := hp.nodup_iff.2 (by
      unfold toI
      exact List.Pairwise.map _ (fun a b h e => h (by omega)) List.nodup_range)
    have hmem : ∀ x, x ∈ O ↔ ∃ i, i < S.length /\ x = (i : Int) := fun x => by
      rw [hp.mem_iff]; simp only [toI, List.mem_map, List.mem_range]
      constructor
      · rintro ⟨i, hi, rfl⟩; exact ⟨i, hi, rfl⟩
      · rintro ⟨i, hi, rfl⟩; exact ⟨i, hi, rfl⟩
    have hkv : ∀ i, i < S.length -> kv ((List.range S.length).map fun i => ((zeC S.length (z6v d m n S) i : Nat) : Int)) (i : Int) = ((zeC S.length (z6v d m n S) i : Nat) : Int) := fun i hi => by
      simp [kv, List.getD, hi]
    congr 1
    have f3 : List.replicate S.length (0 : Int) = (List.range S.length).map fun (j : Nat) => (((if (j : Int) ∈ O.take 0 then z7X d m n S j else 0) : Nat) : Int) := by
      apply List.ext_getElem (by simp); intro i h1 h2; simp
    rw [f3]
    refine z0K (s := ((0 : Int), (List.range S.length).map fun (j : Nat) => (((if (j : Int) ∈ O.take 0 then z7X d m n S j else 0) : Nat) : Int))) S.length (fun k => ((k : Int), (List.range S.length).map fun (j : Nat) => (((if (j : Int) ∈ O.take k then z7X d m n S j else 0) : Nat) : Int))) rfl (by simp only [LFm]; omega) (fun k hk => ?_) ?_
    · have hkO : k < O.length := by omega
      obtain ⟨i, hi, hOk⟩ := (hmem O[k]).1 (List.getElem_mem hkO)
      have hnot : (i : Int) ∉ O.take k := fun h => by
        obtain ⟨j, hj, hji⟩ := List.getElem_of_mem h
        rw [List.length_take] at hj
        rw [List.getElem_take, ← hOk] at hji
        have := (List.getElem_inj hOn).1 hji
        omega
      have htake : ∀ j : Nat, (j : Int) ∈ O.take (k + 1) ↔ (j = i ∨ (j : Int) ∈ O.take k) := fun j => by
        rw [List.take_succ_eq_append_getElem hkO, List.mem_append, List.mem_singleton, hOk]
        constructor
        · rintro (h | h)
          · exact .inr h
          · exact .inl (by omega)
        · rintro (h | h)
          · exact .inr (by omega)
          · exact .inl h
      have hupd : ((List.range S.length).map fun (j : Nat) => (((if j = i then z7X d m n S i else if (j : Int) ∈ O.take k then z7X d m n S j else 0) : Nat) : Int)) = (List.range S.length).map fun (j : Nat) => (((if (j : Int) ∈ O.take (k + 1) then z7X d m n S j else 0) : Nat) : Int) := by
        refine List.map_congr_left fun j hj => ?_
        by_cases e : j = i
        · subst e; rw [if_pos rfl, if_pos ((htake j).2 (.inl rfl))]
        · rw [if_neg e]
          by_cases h : (j : Int) ∈ O.take k
          · rw [if_pos h, if_pos ((htake j).2 (.inr h))]
          · rw [if_neg h, if_neg (fun hh => ((htake j).1 hh).elim e h)]
      have hlt128 : S.getD i 0 < 2 ^ n := hS.lt _ (z0h hi)
      simp only [z1X]
      rw [if_pos (by omega), z0S hkO, Option.bind_some, hOk, ed, z2f hi, Option.bind_some, zm8 (by omega), Option.bind_some]
      have hok := zpG hb (zpU S) i hi
      by_cases hz : szN (S.getD i 0) = 1
      · rw [if_pos (by omega), z0W (by omega)]
        have hh : z7X d m n S i = 0 := by
          unfold z7X; rw [hok, if_pos (by simp only [zpU, hz, decide_true])]
        refine congrArg z0e (Prod.ext rfl ?_)
        refine List.map_congr_left fun j hj => ?_
        by_cases e : j = i
        · subst e; rw [if_neg hnot, if_pos ((htake j).2 (.inl rfl)), hh]
        · by_cases h : (j : Int) ∈ O.take k
          · rw [if_pos h, if_pos ((htake j).2 (.inr h))]
          · rw [if_neg h, if_neg (fun hh => ((htake j).1 hh).elim e h)]
      · rw [if_neg (by omega), zmR hd hS (by omega) (k : Int) hi (H := fun (j : Nat) => if (j : Int) ∈ O.take k then z7X d m n S j else 0) (if_neg hnot) (fun j hj hsb => ?_), z0W (by omega)]
        · have hh : z6Z (fun j => if sbN (z6v d m n S) j i = true then z7X d m n S j + 1 else 0) S.length = z7X d m n S i := by
            have : z7X d m n S i = _ := hok
            rw [this, if_neg (by simp only [zpU, hz, decide_false]; simp)]; rfl
          rw [hh, hupd]
        · have hl := zmI hb hi hj hsb
          have hjO : (j : Int) ∈ O := (hmem _).2 ⟨j, hj, rfl⟩
          obtain ⟨p, hpO, hpj⟩ := List.getElem_of_mem hjO
          refine if_pos ?_
          rcases Nat.lt_trichotomy p k with h | h | h
          · rw [← hpj]
            exact List.mem_take_iff_getElem.2 ⟨p, by omega, rfl⟩
          · subst h
            rw [hOk] at hpj
            have : i = j := by omega
            subst this; omega
          · have := List.pairwise_iff_getElem.1 hs k p hkO hpO h
            rw [hOk, hpj, hkv i hi, hkv j hj] at this
            omega
    · simp only [z1X]
      rw [if_neg (by omega)]
      congr 2
      unfold ztN
      refine List.map_congr_left fun j hj => ?_
      rw [List.take_of_length_le (by omega), if_pos ((hmem _).2 ⟨j, List.mem_range.1 hj, rfl⟩)]
end
section
open Go
set_option maxRecDepth 100000
def zoW (S : List Nat) (i j : Nat) : Bool := !decide (j = i) && decide (S.getD j 0 &&& S.getD i 0 = S.getD j 0)
def z7H (S : List Nat) (i : Nat) : List Nat := (List.range S.length).filter (zoW S i)
def zjW (S : List Nat) (i j : Nat) : Bool := (z7H S i).all fun k => decide (k = j) || !decide (S.getD j 0 &&& S.getD k 0 = S.getD j 0)
def zaB (S : List Nat) (i : Nat) : List Nat := if szN (S.getD i 0) = 1 then [] else (z7H S i).filter (zjW S i)
theorem zcY {α : Type} {p : α -> Bool} {l : List α} {k : Nat} (h : k < l.length) : (l.take (k + 1)).filter p = (l.take k).filter p ++ (if p l[k] = true then [l[k]] else []) := by
  rw [List.take_succ_eq_append_getElem h, List.filter_append, List.filter_cons, List.filter_nil]
theorem zgD {S : List Nat} {i j : Nat} (h : j ∈ z7H S i) : j < S.length := List.mem_range.1 (List.mem_filter.1 h).1
theorem zaT {α : Type} (p : α -> Bool) (l : List α) : (l.filter p).length <= l.length := List.length_filter_le p l
theorem zo8 {d : DFA} {m n : Nat} (hn : n <= 7) {S : List Nat} (hS : SetsP d m n S) {i : Nat} (hi : i < S.length) : z2x (dgm d m n S) (i : Int) = some (toI (zaB S i)) := by
  have h128 : 2 ^ n <= 128 := Nat.pow_le_pow_right (n := 2) (by omega) hn
  have hSl := z1C hS.nd hS.lt
  have ed : (dgm d m n S).sets = toI S := rfl
  have lt62 : ∀ j, j < S.length -> S.getD j 0 < 2 ^ 62 := fun j hj => by have := hS.lt _ (z0h hj); omega
  have hil := hS.lt _ (z0h hi)
  unfold z2x zaB
  rw [ed, z2f hi, Option.bind_some, zm8 (by omega), Option.bind_some]
  by_cases hz : szN (S.getD i 0) = 1
  · rw [if_pos (by omega), if_pos hz]; rfl
  rw [if_neg (by omega), if_neg hz]
  have hrl : (List.range S.length).length = S.length := List.length_range
  refine z0K (s := ((0 : Int), ([] : List Int))) S.length (fun j => ((j : Int), toI (((List.range S.length).take j).filter (zoW S i)))) rfl (by simp only [LFm]; omega) (fun j hj => ?_) ?_
  · have hfl : (((List.range S.length).take j).filter (zoW S i)).length <= j := Nat.le_trans (zaT _ _) (by rw [List.length_take]; omega)
    have hst := zcY (p := zoW S i) (l := List.range S.length) (k := j) (by omega)
    rw [List.getElem_range] at hst
    simp only [z2C]
    rw [ed, if_pos (by rw [z0d]; omega), z2f hj, Option.bind_some, z0W (by omega), hst]
    by_cases e : j = i
    · have : zoW S i j = false := by unfold zoW; rw [decide_eq_true e]; rfl
      rw [if_pos (by omega), this, if_neg (by simp), List.append_nil]
    · rw [if_neg (by omega), z2f hi, Option.bind_some, z9x (lt62 i hi) (lt62 j hj), Option.bind_some]
      have : zoW S i j = decide (S.getD j 0 &&& S.getD i 0 = S.getD j 0) := by unfold zoW; rw [decide_eq_false e]; rfl
      rw [this]
      by_cases h : decide (S.getD j 0 &&& S.getD i 0 = S.getD j 0) = true
      · rw [if_pos h, if_pos h, z0n _ (by unfold z1q; rw [z0d]; omega), z5j]
      · rw [if_neg h, if_neg h, List.append_nil]
  · simp only [z2C]
    rw [ed, if_neg (by rw [z0d]; omega), List.take_of_length_le (by omega)]
    congr 1
    have hil : (z7H S i).length <= S.length := Nat.le_trans (zaT _ _) (by omega)
    show z0o (z1J (dgm d m n S) (toI (z7H S i))) LFm (0, []) = _
    refine z0K (s := ((0 : Int), ([] : List Int))) (z7H S i).length (fun q => ((q : Int), toI (((z7H S i).take q).filter (zjW S i)))) rfl (by simp only [LFm]; omega) (fun q hq => ?_) ?_
    · have hfl : (((z7H S i).take q).filter (zjW S i)).length <= q := Nat.le_trans (zaT _ _) (by rw [List.length_take]; omega)
      have hst := zcY (p := zjW S i) (l := z7H S i) (k := q) hq
      have hg : (z7H S i).getD q 0 = (z7H S i)[q] := by rw [List.getD, List.getElem?_eq_getElem hq, Option.getD_some]
      have hjl : (z7H S i)[q] < S.length := zgD (List.getElem_mem hq)
      simp only [z1J]
      rw [if_pos (by rw [z0d]; omega), z2f hq, Option.bind_some, hg, hst]
      generalize (z7H S i)[q] = j at hjl
      rw [z5w (s := (0 : Int)) (z7H S i).length (fun k => (k : Int)) (fun k => !(decide ((z7H S i).getD k 0 = j) || !decide (S.getD j 0 &&& S.getD ((z7H S i).getD k 0) 0 = S.getD j 0))) (fun _ => z0e (((q + 1 : Nat) : Int), toI (((z7H S i).take q).filter (zjW S i)))) (x := z0e (((q + 1 : Nat) : Int), toI (((z7H S i).take q).filter (zjW S i)) ++ [(j : Int)])) rfl (by simp only [LFm]; omega)]
      · rw [z8J]
        simp only [Bool.not_not]
        rw [zcn (fun k => decide (k = j) || !decide (S.getD j 0 &&& S.getD k 0 = S.getD j 0))]
        show (if zjW S i j = true then _ else _) = _
        by_cases h : zjW S i j = true
        · rw [if_pos h, if_pos h, z5j]
        · rw [if_neg h, if_neg h, List.append_nil]
      · intro k hk
        have hkl : (z7H S i).getD k 0 < S.length := zgD (z0h hk)
        simp only [z2u]
        rw [if_pos (by rw [z0d]; omega), z2f hk, Option.bind_some]
        by_cases e : (z7H S i).getD k 0 = j
        · rw [if_pos (by omega), decide_eq_true e, z0W (by omega)]; rfl
        · rw [if_neg (by omega), decide_eq_false e, ed, z2f hkl, Option.bind_some, z2f hjl, Option.bind_some, z9x (lt62 _ hkl) (lt62 _ hjl), Option.bind_some, Bool.false_or, Bool.not_not, z0W (by omega), z0W (by omega)]
      · simp only [z2u]
        rw [if_neg (by rw [z0d]; omega), z0n _ (by unfold z1q; rw [z0d]; omega), z0W (by omega)]
    · simp only [z1J]
      rw [if_neg (by rw [z0d]; omega), List.take_length]
def z5e (d : DFA) (m n : Nat) (S : List Nat) (i : Nat) : Nat := (z6t d m n S).getD (z6D (z1M d m n S) S.length i) 0
def z8l (d : DFA) (m n : Nat) (S : List Nat) (i : Nat) : ByteArray := z3P (z0L d m n (S.getD (z5e d m n S i) 0)) (S.getD i 0)
def zfi (d : DFA) (m n : Nat) (S : List Nat) (i : Nat) : ByteArray := z3P (z0L d m n (S.getD i 0)) (S.getD (z5e d m n S i) 0)
def z4F (d : DFA) (m n : Nat) (S : List Nat) : Imgs := ⟨toI S, znM d m n S, ztN d m n S, (List.range S.length).map fun i => toI (zaB S i), (List.range S.length).map (z8l d m n S), (List.range S.length).map (zfi d m n S)⟩
theorem zhQ {d : DFA} {m n : Nat} {S : List Nat} {c : Nat} (hc : c < (z6t d m n S).length) : (z6t d m n S).getD c 0 < S.length := zb9 _ _ _ (z0h hc)
theorem zh9 {d : DFA} {m n : Nat} (hd : DfaOk d m n) {S : List Nat} (hS : SetsP d m n S) (hSl : S.length < 100000) {c : Nat} (hc : c < (z6t d m n S).length) (q : List Int) :
    z0o (z4O (toI S) (znM d m n S, toI (z6t d m n S)) (c : Int) (q, zfo S (z0L d m n (S.getD ((z6t d m n S).getD c 0) 0)))) LFm (0, (List.range S.length).map fun j => if z6D (z1M d m n S) S.length j < c then z8l d m n S j else ByteArray.empty) =
      z0e (((c + 1 : Nat) : Int), (List.range S.length).map fun j => if z6D (z1M d m n S) S.length j < c + 1 then z8l d m n S j else ByteArray.empty) := by
  have hcl : (z6t d m n S).length <= S.length := z7Y _ _
  refine z0K (s := ((0 : Int), (List.range S.length).map fun j => if z6D (z1M d m n S) S.length j < c then z8l d m n S j else ByteArray.empty)) S.length (fun k => ((k : Int), (List.range S.length).map fun j => if z6D (z1M d m n S) S.length j < c ∨ (z6D (z1M d m n S) S.length j = c /\ j < k) then z8l d m n S j else ByteArray.empty)) ?_ (by simp only [LFm]; omega) (fun k hk => ?_) ?_
  · refine Prod.ext rfl (List.map_congr_left fun j hj => ?_)
    simp
  · simp only [z4O]
    rw [if_pos (by rw [z0d]; omega), znM, z2W hk, Option.bind_some, z0W (by omega)]
    by_cases h : z6D (z1M d m n S) S.length k = c
    · have hw : z3P (z0L d m n (S.getD ((z6t d m n S).getD c 0) 0)) (S.getD k 0) = z8l d m n S k := by unfold z8l z5e; rw [h]
      rw [if_pos (by omega), zfo, z2W hk, Option.bind_some, hw, z2W hk, Option.bind_some, Int.toNat_natCast]
      refine congrArg z0e (Prod.ext rfl ?_)
      apply List.ext_getElem (by simp)
      intro j h1 h2
      simp only [List.getElem_set, List.getElem_map, List.getElem_range]
      by_cases e : k = j
      · subst e; rw [if_pos rfl, if_pos (.inr ⟨h, by omega⟩)]
      · rw [if_neg e]
        congr 1
        refine propext ⟨fun hh => hh.imp id fun hh => ⟨hh.1, by omega⟩, fun hh => hh.imp id fun hh => ⟨hh.1, by omega⟩⟩
    · rw [if_neg (by omega)]
      refine congrArg z0e (Prod.ext rfl (List.map_congr_left fun j hj => ?_))
      congr 1
      refine propext ⟨fun hh => hh.imp id fun hh => ⟨hh.1, by omega⟩, fun hh => hh.imp id fun hh => ⟨hh.1, ?_⟩⟩
      have : j ≠ k := fun e => h (e ▸ hh.1)
      omega
  · simp only [z4O]
    rw [if_neg (by rw [z0d]; omega), z0W (by omega)]
    congr 3
    refine List.map_congr_left fun j hj => ?_
    have hj := List.mem_range.1 hj
    congr 1
    refine propext ⟨fun hh => ?_, fun hh => ?_⟩
    · rcases hh with hh | hh <;> omega
    · by_cases e : z6D (z1M d m n S) S.length j = c
      · exact .inr ⟨e, hj⟩
      · exact .inl (by omega)
theorem zw7 {d : DFA} {m n : Nat} (hd : DfaOk d m n) (hn : n <= 7) : z7W d = some (z4F d m n (z3A d m n), 0) := by
  have h128 : 2 ^ n <= 128 := Nat.pow_le_pow_right (n := 2) (by omega) hn
  have hS := zem hd
  have hSl := z1C hS.nd hS.lt
  have he := z6B hd hS
  unfold z7W
  rw [zbM (zpN hd (by omega)), zpC hd (by omega), Option.bind_some, if_pos rfl, zqH hd hn, Option.bind_some]
  generalize z3A d m n = S at hS hSl he
  have hcl : (z6t d m n S).length <= S.length := z7Y _ _
  rw [if_neg (by rw [z0d]; omega), zkM hd (by omega) hS, Option.bind_some, zkT hd (by omega) hS, Option.bind_some]
  simp only
  rw [zkC hd hn hS, Option.bind_some, z0d, z0n _ (by unfold z1i; omega), z0n _ (by unfold z1i; omega), Int.toNat_natCast]
  have f1 : List.replicate S.length ([] : List Int) = z2e S.length (fun i => toI (zaB S i)) [] 0 := (zai _ _ _).symm
  have f2 : List.replicate S.length (ByteArray.empty : ByteArray) = z2e S.length (zfi d m n S) ByteArray.empty 0 := (zai _ _ _).symm
  rw [f1, f2]
  refine z0K (s := ((0 : Int), z2e S.length (fun i => toI (zaB S i)) [] 0, z2e S.length (zfi d m n S) ByteArray.empty 0)) S.length (fun k => ((k : Int), z2e S.length (fun i => toI (zaB S i)) [] k, z2e S.length (zfi d m n S) ByteArray.empty k)) rfl (by simp only [LFm]; omega) (fun k hk => ?_) ?_
  · obtain ⟨c1, c2⟩ := z9y he hk
    have c1 : z6D (z1M d m n S) S.length k < (z6t d m n S).length := c1
    have hf : (z6t d m n S).getD (z6D (z1M d m n S) S.length k) 0 < S.length := zhQ c1
    simp only [z5S]
    rw [if_pos (by rw [z0d]; omega), zo8 hn hS hk, Option.bind_some, z8a hk, Option.bind_some, show dgm d m n S = ⟨toI S, zrv d m S, zph d m n S⟩ from rfl, zcf hd (by omega) hS _ hk, Option.bind_some, znM, z2W hk, Option.bind_some, z2f c1, Option.bind_some, show (zdg S (z0L d m n (S.getD k 0)), zfo S (z0L d m n (S.getD k 0))).2 = zfo S (z0L d m n (S.getD k 0)) from rfl, zfo, z2W hf, Option.bind_some, z8a hk, Option.bind_some, z0W (by omega), Int.toNat_natCast]
    have e1 := z5W (f := fun i => toI (zaB S i)) (z := []) hk
    have e2 := z5W (f := zfi d m n S) (z := ByteArray.empty) hk
    have e3 : z3P (z0L d m n (S.getD k 0)) (S.getD ((z6t d m n S).getD (z6D (z1M d m n S) S.length k) 0) 0) = zfi d m n S k := rfl
    rw [e1, e3, e2]
  · simp only [z5S]
    rw [if_neg (by rw [z0d]; omega), z0d, zah, zah, Int.toNat_natCast]
    congr 1
    have f3 : List.replicate S.length (ByteArray.empty : ByteArray) = (List.range S.length).map fun j => if z6D (z1M d m n S) S.length j < 0 then z8l d m n S j else ByteArray.empty := by
      apply List.ext_getElem (by simp); intro i h1 h2; simp
    rw [f3]
    refine z0K (s := ((0 : Int), (List.range S.length).map fun j => if z6D (z1M d m n S) S.length j < 0 then z8l d m n S j else ByteArray.empty)) (z6t d m n S).length (fun c => ((c : Int), (List.range S.length).map fun j => if z6D (z1M d m n S) S.length j < c then z8l d m n S j else ByteArray.empty)) rfl (by simp only [LFm]; omega) (fun c hc => ?_) ?_
    · have hf := zhQ hc
      simp only [z5R]
      rw [if_pos (by rw [z0d]; omega), z2f hc, Option.bind_some, show dgm d m n S = ⟨toI S, zrv d m S, zph d m n S⟩ from rfl, zcf hd (by omega) hS _ hf, Option.bind_some, zh9 hd hS (by omega) hc]
    · simp only [z5R]
      rw [if_neg (by rw [z0d]; omega)]
      have : ((List.range S.length).map fun j => if z6D (z1M d m n S) S.length j < (z6t d m n S).length then z8l d m n S j else ByteArray.empty) = (List.range S.length).map (z8l d m n S) := List.map_congr_left fun j hj => if_pos (z9y he (List.mem_range.1 hj)).1
      rw [this]; rfl
end
section
open Go
set_option maxRecDepth 100000
theorem z7C (s : Nat) : szN s = z4s (fun q => s.testBit q) 7 := by
  simp only [szN, z4s, List.range, List.range.loop, List.countP_cons, List.countP_nil]
  omega
theorem zyS {s : Nat} (h : s < 128) {q : Nat} (hq : s.testBit q = true) : q < 7 := by
  rcases Nat.lt_or_ge q 7 with h' | h'
  · exact h'
  · have : s.testBit q = false := Nat.testBit_lt_two_pow (Nat.lt_of_lt_of_le h (Nat.pow_le_pow_right (n := 2) (by omega) h'))
    rw [this] at hq; cases hq
theorem zlX {a b : Nat} (h : z6h a b) : szN a <= szN b := by
  rw [z7C, z7C]; exact zjs fun q _ hq => z1O.1 h q hq
theorem zqc {a b : Nat} (hb : b < 128) (h : z6h a b) (hne : a ≠ b) : szN a < szN b := by
  have : ∃ q, b.testBit q = true /\ a.testBit q = false := by
    refine Classical.byContradiction fun hn => hne (z7J h (z1O.2 fun q hq => ?_))
    cases ha : a.testBit q with
    | true => rfl
    | false => exact absurd ⟨q, hq, ha⟩ hn
  obtain ⟨q, h1, h2⟩ := this
  rw [z7C, z7C]
  exact zgR (fun q _ hq => z1O.1 h q hq) (zyS hb h1) h2 h1
theorem zqd {a b : Nat} (hb : b < 128) (h : z6h a b) (he : szN b <= szN a) : a = b := by
  refine Classical.byContradiction fun hne => ?_
  have := zqc hb h hne
  omega
theorem zlW {x p : Nat} (hx : x < 128) (hp : p < 7) : szN (x ||| 2 ^ p) <= szN x + 1 := by
  revert p; revert x; decide +kernel
theorem ztn {x y : Nat} (hx : x < 128) (hy : y < 128) : szN (x ||| y) <= szN x + szN y := by
  rw [z7C, z7C, z7C]
  have : ∀ k, z4s (fun q => (x ||| y).testBit q) k <= z4s (fun q => x.testBit q) k + z4s (fun q => y.testBit q) k := by
    intro k
    induction k with
    | zero => simp [z4s]
    | succ k ih =>
      simp only [z4s, Nat.testBit_or]
      simp only [Nat.testBit_or] at ih
      have : ∀ a b : Bool, (if (a || b) = true then 1 else 0) <= (if a = true then 1 else 0) + (if b = true then 1 else 0) := by decide
      have := this (x.testBit k) (y.testBit k)
      omega
  exact this 7
theorem ztG {d : DFA} {m n : Nat} (hd : DfaOk d m n) {x y a : Nat} (ha : a < m) : mvN d (x ||| y) a = mvN d x a ||| mvN d y a := by
  apply Nat.eq_of_testBit_eq
  intro p
  rw [Bool.eq_iff_iff, Nat.testBit_or, Bool.or_eq_true, z7x hd ha, z7x hd ha, z7x hd ha]
  constructor
  · rintro ⟨i, h1, h2, h3⟩
    rw [Nat.testBit_or, Bool.or_eq_true] at h2
    exact h2.imp (fun h => ⟨i, h1, h, h3⟩) fun h => ⟨i, h1, h, h3⟩
  · rintro (⟨i, h1, h2, h3⟩ | ⟨i, h1, h2, h3⟩)
    · exact ⟨i, h1, by rw [Nat.testBit_or, h2]; rfl, h3⟩
    · exact ⟨i, h1, by rw [Nat.testBit_or, h2, Bool.or_true], h3⟩
abbrev zqF (m : Nat) (w : List UInt8) : Prop := ∀ c ∈ w, 97 <= c.toNat /\ c.toNat < 97 + m
theorem zhG {m : Nat} {c : UInt8} {w : List UInt8} (h : zqF m (c :: w)) : zqF m w /\ c.toNat - 97 < m := ⟨fun c' hc' => h c' (List.mem_cons_of_mem _ hc'), by have := h c (List.mem_cons_self ..); omega⟩
theorem zmj {d : DFA} {m n : Nat} (hd : DfaOk d m n) : ∀ {w : List UInt8} {x y : Nat}, zqF m w -> z2U d (x ||| y) w = z2U d x w ||| z2U d y w
  | [], x, y, _ => rfl
  | c :: w, x, y, hw => by
    obtain ⟨h1, h2⟩ := zhG hw
    simp only [z2U]
    rw [ztG hd h2, zmj hd h1]
theorem ztF {d : DFA} {m n : Nat} (hd : DfaOk d m n) (hn : n <= 7) {s a : Nat} (hs : s < 2 ^ n) (ha : a < m) : szN (mvN d s a) <= szN s := by
  have h128 : 2 ^ n <= 128 := Nat.pow_le_pow_right (n := 2) (by omega) hn
  have key : ∀ q, q <= n -> szN (zgp d.next s a q) <= z4s (fun q => s.testBit q) q := by
    intro q
    induction q with
    | zero => intro _; exact (by decide : szN 0 <= 0)
    | succ q ih =>
      intro hq
      have hlt := zct hd (s := s) ha q (by omega)
      obtain ⟨h1, h2, e, h3, h4⟩ := zaJ hd (q := q) (by omega) ha
      simp only [zgp, z4s]
      by_cases hb : s.testBit q = true
      · rw [if_pos hb, if_pos hb]
        have := zlW (x := zgp d.next s a q) (p := ((d.next.getD q []).getD a 0).toNat) (by omega) (by rw [e]; omega)
        have := ih (by omega)
        omega
      · rw [if_neg hb, if_neg hb]
        have := ih (by omega)
        omega
  have h1 := key n (Nat.le_refl _)
  have h2 : z4s (fun q => s.testBit q) n <= szN s := by
    rw [z7C]
    have : ∀ j, z4s (fun q => s.testBit q) n <= z4s (fun q => s.testBit q) (n + j) := by
      intro j
      induction j with
      | zero => exact Nat.le_refl _
      | succ j ih => rw [← Nat.add_assoc]; simp only [z4s]; omega
    have := this (7 - n)
    rwa [show n + (7 - n) = 7 by omega] at this
  unfold mvN
  rw [hd.nl]
  omega
theorem zci {d : DFA} {m n : Nat} (hd : DfaOk d m n) (hn : n <= 7) : ∀ {w : List UInt8} {s : Nat}, s < 2 ^ n -> zqF m w -> szN (z2U d s w) <= szN s
  | [], s, _, _ => Nat.le_refl _
  | c :: w, s, hs, hw => by
    obtain ⟨h1, h2⟩ := zhG hw
    simp only [z2U]
    exact Nat.le_trans (zci hd hn (zcu hd h2) h1) (ztF hd hn hs h2)
theorem zsb {d : DFA} {m n : Nat} (hd : DfaOk d m n) {s a : Nat} (hs : s < 2 ^ n) (h0 : s ≠ 0) (ha : a < m) : mvN d s a ≠ 0 := by
  obtain ⟨q, hq⟩ : ∃ q, s.testBit q = true := Nat.exists_testBit_of_ne_zero h0
  have hqn : q < n := by
    rcases Nat.lt_or_ge q n with h' | h'
    · exact h'
    · have : s.testBit q = false := Nat.testBit_lt_two_pow (Nat.lt_of_lt_of_le hs (Nat.pow_le_pow_right (n := 2) (by omega) h'))
      rw [this] at hq; cases hq
  intro h
  have := (z7x hd ha (s := s) ((d.next.getD q []).getD a 0).toNat).2 ⟨q, hqn, hq, rfl⟩
  rw [h, Nat.zero_testBit] at this
  cases this
theorem zoj {d : DFA} {m n : Nat} (hd : DfaOk d m n) {x : Nat} (hx : x ∈ z3A d m n) : x ≠ 0 := by
  have hp := Nat.two_pow_pos n
  have h2n : 2 <= 2 ^ n := by have := Nat.pow_le_pow_right (n := 2) (by omega) hd.n1; omega
  have hf : 2 ^ n - 1 < 2 ^ n := by omega
  have hi := z4I hd hf
  obtain ⟨_, h2, _⟩ := z7j hi.nd n
  have hpm := zaG (z8S (z0L d m n (2 ^ n - 1)).1 n)
  rcases (h2 x).1 (hpm.mem_iff.1 hx) with h | ⟨i, _, rfl⟩
  · obtain ⟨i, hil, rfl⟩ := List.getElem_of_mem h
    obtain ⟨_, o2, o3⟩ := hi.ok i hil
    rw [List.getD, List.getD, List.getElem?_eq_getElem hil, Option.getD_some] at o3
    rw [← o3]
    have : ∀ {w : List UInt8} {s : Nat}, s < 2 ^ n -> s ≠ 0 -> zqF m w -> z2U d s w ≠ 0 := by
      intro w
      induction w with
      | nil => intro s _ h0 _; exact h0
      | cons c w ih =>
        intro s hs h0 hw
        obtain ⟨q1, q2⟩ := zhG hw
        exact ih (zcu hd q2) (zsb hd hs h0 q2) q1
    exact this hf (by omega) o2
  · exact Nat.ne_of_gt (Nat.two_pow_pos i)
theorem z6M {S : List Nat} {i j : Nat} : j ∈ z7H S i ↔ j < S.length /\ j ≠ i /\ z6h (S.getD j 0) (S.getD i 0) := by
  unfold z7H zoW z6h
  rw [List.mem_filter, List.mem_range]
  simp
theorem zej {S : List Nat} {i j : Nat} : zjW S i j = true ↔ ∀ k, k ∈ z7H S i -> k ≠ j -> ¬ z6h (S.getD j 0) (S.getD k 0) := by
  unfold zjW z6h
  rw [List.all_eq_true]
  constructor
  · intro h k hk hne hs
    have := h k hk
    simp only [Bool.or_eq_true, decide_eq_true_eq, Bool.not_eq_true', decide_eq_false_iff_not] at this
    exact this.elim hne fun hh => hh hs
  · intro h k hk
    simp only [Bool.or_eq_true, decide_eq_true_eq, Bool.not_eq_true', decide_eq_false_iff_not]
    by_cases e : k = j
    · exact .inl e
    · exact .inr (h k hk e)
theorem zei {S : List Nat} {i j : Nat} (hz : szN (S.getD i 0) ≠ 1) : j ∈ zaB S i ↔ j ∈ z7H S i /\ zjW S i j = true := by
  unfold zaB
  rw [if_neg hz, List.mem_filter]
theorem zcc {S : List Nat} {i j : Nat} (h : j ∈ zaB S i) : j ∈ z7H S i /\ zjW S i j = true /\ szN (S.getD i 0) ≠ 1 := by
  by_cases hz : szN (S.getD i 0) = 1
  · unfold zaB at h; rw [if_pos hz] at h; simp at h
  · exact ⟨((zei hz).1 h).1, ((zei hz).1 h).2, hz⟩
theorem zlS (S : List Nat) (i : Nat) : (zaB S i).Nodup := by
  unfold zaB
  split
  · simp
  · exact List.Pairwise.filter _ (List.Pairwise.filter _ List.nodup_range)
theorem zqP {d : DFA} {m n : Nat} (hn : n <= 7) {S : List Nat} (hS : SetsP d m n S) {i : Nat} (hi : i < S.length) (hz : szN (S.getD i 0) ≠ 1) : ∀ f j, 8 - szN (S.getD j 0) <= f -> j ∈ z7H S i -> ∃ t, t ∈ zaB S i /\ z6h (S.getD j 0) (S.getD t 0) := by
  have h128 : 2 ^ n <= 128 := Nat.pow_le_pow_right (n := 2) (by omega) hn
  have h8 : ∀ s, szN s <= 7 := fun s => by rw [z7C]; exact zjt _ _
  intro f
  induction f with
  | zero => intro j hf _; have := h8 (S.getD j 0); omega
  | succ f ih =>
    intro j hf hj
    by_cases hp : zjW S i j = true
    · exact ⟨j, (zei hz).2 ⟨hj, hp⟩, z7v _⟩
    · have : ∃ k, k ∈ z7H S i /\ k ≠ j /\ z6h (S.getD j 0) (S.getD k 0) := by
        refine Classical.byContradiction fun hn' => hp (zej.2 fun k hk hne hs => hn' ⟨k, hk, hne, hs⟩)
      obtain ⟨k, hk, hne, hs⟩ := this
      have hkl := (z6M.1 hk).1
      have hjl := (z6M.1 hj).1
      have hlt := zqc (a := S.getD j 0) (b := S.getD k 0) (by have := hS.lt _ (z0h hkl); omega) hs fun e => hne (z4l hS.nd hkl hjl e.symm)
      obtain ⟨t, h1, h2⟩ := ih k (by omega) hk
      exact ⟨t, h1, zfX hs h2⟩
theorem zlU {d : DFA} {m n : Nat} (hd : DfaOk d m n) (hn : n <= 7) {S : List Nat} (hS : SetsP d m n S) {i : Nat} (hi : i < S.length) (hz : szN (S.getD i 0) ≠ 1) {q : Nat} (hq : (S.getD i 0).testBit q = true) : ∃ t, t ∈ zaB S i /\ (S.getD t 0).testBit q = true := by
  have h128 : 2 ^ n <= 128 := Nat.pow_le_pow_right (n := 2) (by omega) hn
  have hil := hS.lt _ (z0h hi)
  have hqn : q < n := by
    rcases Nat.lt_or_ge q n with h' | h'
    · exact h'
    · have : (S.getD i 0).testBit q = false := Nat.testBit_lt_two_pow (Nat.lt_of_lt_of_le hil (Nat.pow_le_pow_right (n := 2) (by omega) h'))
      rw [this] at hq; cases hq
  have h1 := hS.one q hqn
  have hg := z2d h1
  have hsz : szN (2 ^ q) = 1 := by
    have : ∀ q, q < 7 -> szN (2 ^ q) = 1 := by decide +kernel
    exact this q (by omega)
  have hinn : S.idxOf (2 ^ q) ∈ z7H S i := z6M.2 ⟨z4r h1, fun e => by rw [← e, hg] at hz; exact hz hsz, by
    rw [hg]
    refine z1O.2 fun p hp => ?_
    rw [Nat.testBit_two_pow, decide_eq_true_iff] at hp
    rw [← hp]; exact hq⟩
  obtain ⟨t, h2, h3⟩ := zqP hn hS hi hz _ _ (Nat.le_refl _) hinn
  refine ⟨t, h2, z1O.1 h3 q ?_⟩
  rw [hg, Nat.testBit_two_pow]; simp
theorem zlT {d : DFA} {m n : Nat} (hn : n <= 7) {S : List Nat} (hS : SetsP d m n S) {i k : Nat} (hi : i < S.length) (h : k ∈ zaB S i) : i < k /\ k < S.length /\ z6h (S.getD k 0) (S.getD i 0) /\ S.getD k 0 ≠ S.getD i 0 := by
  have h128 : 2 ^ n <= 128 := Nat.pow_le_pow_right (n := 2) (by omega) hn
  obtain ⟨h1, _, _⟩ := zcc h
  obtain ⟨hk, hne, hs⟩ := z6M.1 h1
  have hx : S.getD k 0 ≠ S.getD i 0 := fun e => hne (z4l hS.nd hk hi e)
  refine ⟨?_, hk, hs, hx⟩
  have hlt := zqc (by have := hS.lt _ (z0h hi); omega) hs hx
  rcases Nat.lt_trichotomy i k with h' | h' | h'
  · exact h'
  · exact absurd h'.symm hne
  · have := List.pairwise_iff_getElem.1 hS.srt k i hk hi h'
    rw [zi6] at this
    rw [List.getD, List.getD, List.getElem?_eq_getElem hk, List.getElem?_eq_getElem hi, Option.getD_some, Option.getD_some] at hlt
    omega
end
section
open Go
set_option maxRecDepth 100000
theorem zob {A K : Nat} (h : z6h A K) : szN A + szN (K ^^^ A) = szN K := by
  rw [z7C, z7C, z7C]
  have hb := z1O.1 h
  have : ∀ k, z4s (fun q => A.testBit q) k + z4s (fun q => (K ^^^ A).testBit q) k = z4s (fun q => K.testBit q) k := by
    intro k
    induction k with
    | zero => simp [z4s]
    | succ k ih =>
      have h1 := hb k
      simp only [z4s]
      have h2 : (K ^^^ A).testBit k = (K.testBit k ^^ A.testBit k) := Nat.testBit_xor ..
      have h3 : ∀ a b c : Bool, (a = true -> b = true) -> c = (b ^^ a) -> (if a = true then 1 else 0) + (if c = true then 1 else 0) = (if b = true then 1 else 0) := by decide
      have := h3 _ _ _ h1 h2
      omega
  exact this 7
theorem zpx {A K : Nat} (h : z6h A K) : A ||| (K ^^^ A) = K := by
  apply Nat.eq_of_testBit_eq
  intro q
  have h1 := z1O.1 h q
  rw [Nat.testBit_or, Nat.testBit_xor]
  revert h1
  cases A.testBit q <;> cases K.testBit q <;> simp
theorem zlZ {A K : Nat} (h : z6h A K) : A <= K := by
  unfold z6h at h; rw [← h]; exact Nat.and_le_right
theorem zoe (A B : Nat) : z6h A (A ||| B) := z1O.2 fun q hq => by rw [Nat.testBit_or, hq]; rfl
theorem ziB (A B : Nat) : z6h B (A ||| B) := z1O.2 fun q hq => by rw [Nat.testBit_or, hq, Bool.or_true]
theorem zgl {A B : Nat} (h : z6h A B) : A ||| B = B := z7J (z1O.2 fun q hq => by
  rw [Nat.testBit_or, Bool.or_eq_true] at hq
  exact hq.elim (z1O.1 h q) id) (ziB A B)
theorem zrK {A B K : Nat} (h1 : z6h A K) (h2 : z6h B K) : z6h (A ||| B) K := z1O.2 fun q hq => by
  rw [Nat.testBit_or, Bool.or_eq_true] at hq
  exact hq.elim (z1O.1 h1 q) (z1O.1 h2 q)
structure Lead (d : DFA) (m n K I : Nat) (w : List UInt8) : Prop where
  hw : zqF m w
  hK : K < 2 ^ n
  hI : I < 2 ^ n
  run : z2U d K w = I
  sz : szN I = szN K
theorem zhJ {d : DFA} {m n : Nat} (hd : DfaOk d m n) (hn : n <= 7) {K I : Nat} {w : List UInt8} (h : Lead d m n K I w) {A : Nat} (hA : z6h A K) : szN (z2U d A w) = szN A := by
  have h128 : 2 ^ n <= 128 := Nat.pow_le_pow_right (n := 2) (by omega) hn
  have hAK := zlZ hA
  have hK := h.hK
  have hB : z6h (K ^^^ A) K := by
    have := zpx hA
    rw [← this]; rw [this]; rw [← this]
    exact (by rw [this]; exact (by
      refine z1O.2 fun q hq => ?_
      rw [Nat.testBit_xor] at hq
      have h1 := z1O.1 hA q
      revert hq h1
      cases A.testBit q <;> cases K.testBit q <;> simp))
  have hBl := zlZ hB
  have e1 := zmj hd (x := A) (y := K ^^^ A) h.hw
  rw [zpx hA, h.run] at e1
  have l1 := zaI hd (s := A) (w := w) (by omega) h.hw
  have l2 := zaI hd (s := K ^^^ A) (w := w) (by omega) h.hw
  have s1 := ztn (x := z2U d A w) (y := z2U d (K ^^^ A) w) (by omega) (by omega)
  rw [← e1, h.sz] at s1
  have s2 := zci hd hn (s := K ^^^ A) (by omega) h.hw
  have s3 := zci hd hn (s := A) (by omega) h.hw
  have s4 := zob hA
  omega
theorem zeD {d : DFA} {m n : Nat} (hd : DfaOk d m n) (hn : n <= 7) {K I : Nat} {w : List UInt8} (h : Lead d m n K I w) {A B : Nat} (hA : z6h A K) (hB : z6h B K) (hs : z6h (z2U d A w) (z2U d B w)) : z6h A B := by
  have h128 : 2 ^ n <= 128 := Nat.pow_le_pow_right (n := 2) (by omega) hn
  have hK := h.hK
  have hAB := zrK hA hB
  have hl := zlZ hAB
  have e1 := zhJ hd hn h hAB
  rw [zmj hd h.hw, zgl hs, zhJ hd hn h hB] at e1
  have := zqd (a := B) (b := A ||| B) (by omega) (ziB A B) (by omega)
  rw [this]
  exact zoe A B
theorem zeE {d : DFA} {m n : Nat} (hd : DfaOk d m n) (hn : n <= 7) {K I : Nat} {w : List UInt8} (h : Lead d m n K I w) {A B : Nat} (hA : z6h A K) (hB : z6h B K) (he : z2U d A w = z2U d B w) : A = B :=
  z7J (zeD hd hn h hA hB (by rw [he]; exact z7v _)) (zeD hd hn h hB hA (by rw [he]; exact z7v _))
theorem zoc {α β : Type} {l : List α} {r : List β} {f : α -> β} (hl : (l.map f).Nodup) (hs : ∀ x ∈ l.map f, x ∈ r) (hle : r.length <= l.length) {u : β} (hu : u ∈ r) : u ∈ l.map f := by
  refine Classical.byContradiction fun hn => ?_
  have := z9t (l := u :: l.map f) (r := r) (List.nodup_cons.2 ⟨hn, hl⟩) fun x hx => by
    rcases List.mem_cons.1 hx with rfl | hx
    · exact hu
    · exact hs x hx
  rw [List.length_cons, List.length_map] at this
  omega
theorem z6Y {α β : Type} {l : List α} {f : α -> β} (hl : l.Nodup) (hf : ∀ x ∈ l, ∀ y ∈ l, f x = f y -> x = y) : (l.map f).Nodup := by
  induction l with
  | nil => simp
  | cons a l ih =>
    rw [List.nodup_cons] at hl
    rw [List.map_cons, List.nodup_cons]
    refine ⟨fun h => ?_, ih hl.2 fun x hx y hy => hf x (List.mem_cons_of_mem _ hx) y (List.mem_cons_of_mem _ hy)⟩
    obtain ⟨x, hx, he⟩ := List.mem_map.1 h
    have := hf x (List.mem_cons_of_mem _ hx) a (List.mem_cons_self ..) he
    exact hl.1 (this ▸ hx)
section
variable {d : DFA} {m n : Nat} {S : List Nat} (hd : DfaOk d m n) (hn : n <= 7) (hS : SetsP d m n S)
include hd hn hS
theorem zmO {k i : Nat} (hk : k < S.length) (hi : i < S.length) {w : List UInt8} (h : Lead d m n (S.getD k 0) (S.getD i 0) w) :
    (∀ j ∈ z7H S k, S.idxOf (z2U d (S.getD j 0) w) ∈ z7H S i /\ S.getD (S.idxOf (z2U d (S.getD j 0) w)) 0 = z2U d (S.getD j 0) w) /\ ((z7H S k).map fun j => S.idxOf (z2U d (S.getD j 0) w)).Nodup := by
  have h128 : 2 ^ n <= 128 := Nat.pow_le_pow_right (n := 2) (by omega) hn
  have hmem : ∀ j, j < S.length -> z2U d (S.getD j 0) w ∈ S := fun j hj => zg8 hS h.hw (z0h hj)
  refine ⟨fun j hj => ?_, z6Y (List.Pairwise.filter _ List.nodup_range) fun x hx y hy e => ?_⟩
  · obtain ⟨h1, h2, h3⟩ := z6M.1 hj
    have hg := z2d (hmem j h1)
    refine ⟨z6M.2 ⟨z4r (hmem j h1), fun e => ?_, ?_⟩, hg⟩
    · rw [e] at hg
      have s1 := zhJ hd hn h h3
      rw [← hg, h.sz] at s1
      have := zqd (a := S.getD j 0) (b := S.getD k 0) (by have := h.hK; omega) h3 (by omega)
      exact h2 (z4l hS.nd h1 hk this)
    · rw [hg, ← h.run]
      exact z8z hd h.hw h3
  · obtain ⟨h1, h2, h3⟩ := z6M.1 hx
    obtain ⟨k1, k2, k3⟩ := z6M.1 hy
    have e2 : z2U d (S.getD x 0) w = z2U d (S.getD y 0) w := by
      rw [← z2d (hmem x h1), ← z2d (hmem y k1)]
      exact congrArg (fun q => S.getD q 0) e
    exact z4l hS.nd h1 k1 (zeE hd hn h h3 k3 e2)
theorem zqQ {k i : Nat} (hk : k < S.length) (hi : i < S.length) {w : List UInt8} (h : Lead d m n (S.getD k 0) (S.getD i 0) w) : (z7H S k).length <= (z7H S i).length := by
  obtain ⟨h1, h2⟩ := zmO hd hn hS hk hi h
  have := z9t h2 (r := z7H S i) fun x hx => by
    obtain ⟨j, hj, rfl⟩ := List.mem_map.1 hx
    exact (h1 j hj).1
  simpa using this
theorem zqa {k i : Nat} (hk : k < S.length) (hi : i < S.length) {w v : List UInt8} (h : Lead d m n (S.getD k 0) (S.getD i 0) w) (h' : Lead d m n (S.getD i 0) (S.getD k 0) v) {t : Nat} (ht : t ∈ zaB S k) : S.idxOf (z2U d (S.getD t 0) w) ∈ zaB S i := by
  obtain ⟨h1, h2⟩ := zmO hd hn hS hk hi h
  obtain ⟨t1, t2, t3⟩ := zcc ht
  have hz : szN (S.getD i 0) ≠ 1 := by rw [h.sz]; exact t3
  refine (zei hz).2 ⟨(h1 t t1).1, zej.2 fun u hu hne hs => ?_⟩
  have hsur := zoc (l := z7H S k) (r := z7H S i) h2 (fun x hx => by
    obtain ⟨j, hj, rfl⟩ := List.mem_map.1 hx
    exact (h1 j hj).1) (zqQ hd hn hS hi hk h') hu
  obtain ⟨j, hj, rfl⟩ := List.mem_map.1 hsur
  rw [(h1 t t1).2, (h1 j hj).2] at hs
  have hsub := zeD hd hn h (z6M.1 t1).2.2 (z6M.1 hj).2.2 hs
  exact zej.1 t2 j hj (fun e => hne (by rw [e])) hsub
theorem zeW {k i : Nat} (hk : k < S.length) (hi : i < S.length) (he : z1M d m n S i k = true) : szN (S.getD i 0) = szN (S.getD k 0) /\ S.getD i 0 ∈ (z0L d m n (S.getD k 0)).1 := by
  have h128 : 2 ^ n <= 128 := Nat.pow_le_pow_right (n := 2) (by omega) hn
  simp only [z1M, Bool.and_eq_true] at he
  obtain ⟨w, w1, w2⟩ := (z3q hd hS hk).1 he.1
  obtain ⟨v, v1, v2⟩ := (z3q hd hS hi).1 he.2
  have hkl := hS.lt _ (z0h hk)
  have hil := hS.lt _ (z0h hi)
  have a1 := zlX w2
  have a2 := zci hd hn hkl w1
  have a3 := zlX v2
  have a4 := zci hd hn hil v1
  refine ⟨by omega, ?_⟩
  have hrl := zaI hd hkl w1
  have := zqd (by omega) w2 (by omega)
  rw [this]
  exact zck hd hkl w1 (zaK hd hkl)
omit hn hS in
theorem zbL {s x : Nat} (hs : s < 2 ^ n) (hx : x ∈ (z0L d m n s).1) : zqF m (z3P (z0L d m n s) x).data.toList /\ (z3P (z0L d m n s) x).size <= 2 ^ n /\ z2U d s (z3P (z0L d m n s) x).data.toList = x := by
  have hi := z4I hd hs
  have hl := z1C hi.nd hi.lt
  have hlt := z4r hx
  obtain ⟨o1, o2, o3⟩ := hi.ok _ hlt
  unfold z3P
  exact ⟨o2, by omega, by rw [o3, z2d hx]⟩
end
end
section
open Go
set_option maxRecDepth 100000
end
section
open Go
set_option maxRecDepth 100000
theorem zcR {N : Nat} {e : Nat -> Nat -> Bool} (he : EqvN N e) {i : Nat} (hi : i < N) :
    (z6D e N i < (z0Q e i).length /\ (z0Q e i).getD (z6D e N i) 0 = (z0Q e N).getD (z6D e N i) 0 /\ z0Q e (i + 1) = z0Q e i) ∨
    (z6D e N i = (z0Q e i).length /\ (z0Q e N).getD (z6D e N i) 0 = i /\ z0Q e (i + 1) = z0Q e i ++ [i]) := by
  have hc := zpQ he hi
  by_cases h : (z0Q e i).any (e i) = true
  · left
    obtain ⟨x, hx, hp⟩ := List.any_eq_true.1 h
    have hlt : z6D e N i < (z0Q e i).length := by rw [← hc]; exact List.findIdx_lt_length_of_exists ⟨x, hx, hp⟩
    refine ⟨hlt, ?_, by rw [z0Q, if_pos h]⟩
    obtain ⟨R, hR⟩ := zaS e (i := i) N (by omega)
    rw [hR, List.getD, List.getD, List.getElem?_append_left hlt]
  · right
    have hlt : z6D e N i = (z0Q e i).length := by
      rw [← hc]
      exact List.findIdx_eq_length.2 fun x hx => by
        cases hh : e i x with
        | false => rfl
        | true => exact absurd (List.any_eq_true.2 ⟨x, hx, hh⟩) h
    refine ⟨hlt, ?_, by rw [z0Q, if_neg h]⟩
    obtain ⟨R, hR⟩ := zaS e (i := i + 1) N (by omega)
    rw [hR, z0Q, if_neg h, hlt, List.getD, List.append_assoc, List.getElem?_append_right (Nat.le_refl _), Nat.sub_self]
    rfl
section
variable {d : DFA} {m n : Nat} {S : List Nat} (hd : DfaOk d m n) (hn : n <= 7) (hS : SetsP d m n S)
include hd hn hS
theorem zn1 {i : Nat} (hi : i < S.length) : z5e d m n S i <= i := by
  have _u := hn
  rcases zcR (z6B hd hS) hi with ⟨h1, h2, _⟩ | ⟨h1, h2, _⟩
  · have := zb9 (z1M d m n S) i _ (z0h h1)
    rw [h2] at this
    exact Nat.le_of_lt this
  · exact Nat.le_of_eq h2
theorem zn2 {i : Nat} (hi : i < S.length) : z1M d m n S i (z5e d m n S i) = true := by
  have _u := hn
  exact (z9y (z6B hd hS) hi).2
end
end
section
open Go
set_option maxRecDepth 100000
theorem z7a {d : DFA} {m n K I J : Nat} {u v : List UInt8} (h1 : Lead d m n K I u) (h2 : Lead d m n I J v) : Lead d m n K J (u ++ v) where
  hw c hc := (List.mem_append.1 hc).elim (h1.hw c) (h2.hw c)
  hK := h1.hK
  hI := h2.hI
  run := by rw [z2c, h1.run, h2.run]
  sz := h2.sz.trans h1.sz
def z1e (S : List Nat) (k : Nat) : List Nat := (zaB S k).map fun t => S.getD t 0
def z1B (d : DFA) (w : List UInt8) (T : List Nat) : List Nat := T.map fun t => T.idxOf (z2U d t w)
theorem z5N (d : DFA) (w : List UInt8) (T : List Nat) : (z1B d w T).length = T.length := by simp [z1B]
def clN (d : DFA) (m n : Nat) (S : List Nat) (i : Nat) : Nat := z6D (z1M d m n S) S.length i
def zeY (d : DFA) (S : List Nat) (i a : Nat) : Nat := S.idxOf (mvN d (S.getD i 0) a)
def hwN (d : DFA) (m n : Nat) (S : List Nat) (i a : Nat) : ByteArray := z8l d m n S i ++ ziX a ++ zfi d m n S (zeY d S i a)
section
variable {d : DFA} {m n : Nat} {S : List Nat} (hd : DfaOk d m n) (hn : n <= 7) (hS : SetsP d m n S)
include hd hn hS
theorem z5t {k : Nat} (hk : k < S.length) : (z1e S k).Nodup /\ ∀ t ∈ z1e S k, t ∈ S /\ z6h t (S.getD k 0) /\ t < 2 ^ n := by
  have _u := hd
  have hin : ∀ x ∈ zaB S k, x < S.length := fun x hx => zgD (zcc hx).1
  refine ⟨z6Y (zlS S k) fun x hx y hy e => z4l hS.nd (hin x hx) (hin y hy) e, fun t ht => ?_⟩
  obtain ⟨x, hx, rfl⟩ := List.mem_map.1 ht
  obtain ⟨h1, h2, h3, _⟩ := zlT hn hS hk hx
  exact ⟨z0h h2, h3, hS.lt _ (z0h h2)⟩
theorem zeh {k : Nat} (hk : k < S.length) {w : List UInt8} (h : Lead d m n (S.getD k 0) (S.getD k 0) w) : ∀ t ∈ z1e S k, z2U d t w ∈ z1e S k := fun t ht => by
  obtain ⟨x, hx, rfl⟩ := List.mem_map.1 ht
  have hm := zqa hd hn hS hk hk h h hx
  have hr := zg8 hS h.hw (z0h (zgD (zcc hx).1) : S.getD x 0 ∈ S)
  exact List.mem_map.2 ⟨_, hm, z2d hr⟩
theorem z5Z {k : Nat} (hk : k < S.length) {w : List UInt8} (h : Lead d m n (S.getD k 0) (S.getD k 0) w) : (z1B d w (z1e S k)).Nodup /\ (∀ p ∈ z1B d w (z1e S k), p < (z1e S k).length) /\ ∀ i, i < (z1e S k).length -> (z1e S k).getD ((z1B d w (z1e S k)).getD i 0) 0 = z2U d ((z1e S k).getD i 0) w := by
  obtain ⟨hnd, hf⟩ := z5t hd hn hS hk
  have hr := zeh hd hn hS hk h
  refine ⟨z6Y hnd fun x hx y hy e => ?_, fun p hp => ?_, fun i hi => ?_⟩
  · have e2 : z2U d x w = z2U d y w := by
      rw [← z2d (hr x hx), ← z2d (hr y hy), e]
    exact zeE hd hn h (hf x hx).2.1 (hf y hy).2.1 e2
  · obtain ⟨x, hx, rfl⟩ := List.mem_map.1 hp
    exact z4r (hr x hx)
  · have e : (z1B d w (z1e S k)).getD i 0 = (z1e S k).idxOf (z2U d ((z1e S k).getD i 0) w) := by
      simp [z1B, List.getD, hi]
    rw [e, z2d (hr _ (z0h hi))]
theorem zbg {i : Nat} (hi : i < S.length) : Lead d m n (S.getD (z5e d m n S i) 0) (S.getD i 0) (z8l d m n S i).data.toList /\ (z8l d m n S i).size <= 2 ^ n := by
  have hk : z5e d m n S i < S.length := by have := zn1 hd hn hS hi; omega
  obtain ⟨h1, h2⟩ := zeW hd hn hS hk hi (zn2 hd hn hS hi)
  have hlk := hS.lt _ (z0h hk)
  obtain ⟨w1, w2, w3⟩ := zbL hd hlk h2
  exact ⟨⟨w1, hlk, hS.lt _ (z0h hi), w3, h1⟩, w2⟩
theorem zf7 {i : Nat} (hi : i < S.length) : Lead d m n (S.getD i 0) (S.getD (z5e d m n S i) 0) (zfi d m n S i).data.toList /\ (zfi d m n S i).size <= 2 ^ n := by
  have hk : z5e d m n S i < S.length := by have := zn1 hd hn hS hi; omega
  have he := zn2 hd hn hS hi
  have he' : z1M d m n S (z5e d m n S i) i = true := by
    simp only [z1M, Bool.and_eq_true] at he ⊢; exact he.symm
  obtain ⟨h1, h2⟩ := zeW hd hn hS hi hk he'
  have hli := hS.lt _ (z0h hi)
  obtain ⟨w1, w2, w3⟩ := zbL hd hli h2
  exact ⟨⟨w1, hli, hS.lt _ (z0h hk), w3, h1⟩, w2⟩
theorem znd {i a : Nat} (hi : i < S.length) (ha : a < m) : zeY d S i a < S.length /\ S.getD (zeY d S i a) 0 = mvN d (S.getD i 0) a := by
  have _u := hd
  have _v := hn
  have := hS.cl _ (z0h hi) a ha
  exact ⟨z4r this, z2d this⟩
theorem zsH {i : Nat} (hi : i < S.length) : clN d m n S i < (z6t d m n S).length /\ (z6t d m n S).getD (clN d m n S i) 0 = z5e d m n S i := by
  have _u := hn
  exact ⟨(z9y (z6B hd hS) hi).1, rfl⟩
theorem zeK {i a : Nat} (hi : i < S.length) (ha : a < m) (hc : clN d m n S (zeY d S i a) = clN d m n S i) : Lead d m n (S.getD (z5e d m n S i) 0) (S.getD (z5e d m n S i) 0) (hwN d m n S i a).data.toList /\ (hwN d m n S i a).size <= 2 * 2 ^ n + 1 := by
  obtain ⟨j1, j2⟩ := znd hd hn hS hi ha
  obtain ⟨l1, s1⟩ := zbg hd hn hS hi
  obtain ⟨l2, s2⟩ := zf7 hd hn hS j1
  have hf : z5e d m n S (zeY d S i a) = z5e d m n S i := by
    unfold z5e; unfold clN at hc; rw [hc]
  rw [hf] at l2
  have h26 : (UInt8.ofNat (97 + a)).toNat = 97 + a := z8F (by have := hd.m6; omega)
  have l3 : Lead d m n (S.getD i 0) (S.getD (zeY d S i a) 0) (ziX a).data.toList := by
    refine ⟨fun c hc => ?_, l1.hI, hS.lt _ (z0h j1), ?_, ?_⟩
    · rw [z6n, List.mem_singleton] at hc
      subst hc; omega
    · rw [z6n, j2, z2U, z2U, h26, Nat.add_sub_cancel_left]
    · have := l1.sz; have := l2.sz; omega
  have l4 := z7a (z7a l1 l3) l2
  refine ⟨?_, ?_⟩
  · unfold hwN; rw [z6F, z6F]; exact l4
  · unfold hwN; rw [zbH, zbH, z6m]; omega
end
abbrev HS := List ByteArray × List (List Nat)
def zaE (d : DFA) (m n : Nat) (S : List Nat) (T : List Nat) (i : Nat) (st : HS) (a : Nat) : HS :=
  if clN d m n S (zeY d S i a) = clN d m n S i then
    (if z1B d (hwN d m n S i a).data.toList T = List.range T.length ∨ z1B d (hwN d m n S i a).data.toList T ∈ st.2 then st else (st.1 ++ [hwN d m n S i a], st.2 ++ [z1B d (hwN d m n S i a).data.toList T]))
  else st
def zfg (d : DFA) (m n : Nat) (S : List Nat) (T : List Nat) (i : Nat) (st : HS) (a : Nat) : HS := (List.range a).foldl (zaE d m n S T i) st
def zfc (d : DFA) (m n : Nat) (S : List Nat) (T : List Nat) (c k : Nat) : HS := (List.range k).foldl (fun st i => if clN d m n S i = c then zfg d m n S T i st m else st) ([], [])
theorem z9S (d : DFA) (m n : Nat) (S T : List Nat) (i : Nat) (st : HS) (a : Nat) : zfg d m n S T i st (a + 1) = zaE d m n S T i (zfg d m n S T i st a) a := by
  unfold zfg; rw [List.range_succ, List.foldl_append]; rfl
theorem zfb (d : DFA) (m n : Nat) (S T : List Nat) (c k : Nat) : zfc d m n S T c (k + 1) = if clN d m n S k = c then zfg d m n S T k (zfc d m n S T c k) m else zfc d m n S T c k := by
  unfold zfc; rw [List.range_succ, List.foldl_append]; rfl
def z0R (d : DFA) (m n : Nat) (S : List Nat) (c : Nat) : Nat := (z6t d m n S).getD c 0
structure HInv (d : DFA) (m n : Nat) (S : List Nat) (c : Nat) (B : Nat) (st : HS) : Prop where
  len : st.1.length = st.2.length
  bd : st.1.length <= B
  ok : ∀ j, j < st.1.length -> ∃ w : ByteArray, st.1.getD j ByteArray.empty = w /\ Lead d m n (S.getD (z0R d m n S c) 0) (S.getD (z0R d m n S c) 0) w.data.toList /\ w.size <= 2 * 2 ^ n + 1 /\ st.2.getD j [] = z1B d w.data.toList (z1e S (z0R d m n S c))
section
variable {d : DFA} {m n : Nat} {S : List Nat} (hd : DfaOk d m n) (hn : n <= 7) (hS : SetsP d m n S)
include hd hn hS
theorem zqf {c i a B : Nat} {st : HS} (h : HInv d m n S c B st) (hi : i < S.length) (ha : a < m) (hc : clN d m n S i = c) : HInv d m n S c (B + 1) (zaE d m n S (z1e S (z0R d m n S c)) i st a) := by
  have h1 : HInv d m n S c (B + 1) st := ⟨h.len, by have := h.bd; omega, h.ok⟩
  unfold zaE
  split
  · rename_i hj
    split
    · exact h1
    · obtain ⟨l1, l2⟩ := zeK hd hn hS hi ha hj
      have hf : z0R d m n S c = z5e d m n S i := by unfold z0R; rw [← hc]; exact (zsH hd hn hS hi).2
      rw [← hf] at l1
      refine ⟨by simp [h.len], by have := h.bd; simp; omega, fun j hj => ?_⟩
      rw [List.length_append, List.length_singleton] at hj
      rcases Nat.lt_or_ge j st.1.length with h3 | h3
      · rw [z3G _ h3, z3G _ (by rw [← h.len]; exact h3)]
        exact h.ok j h3
      · have e : j = st.1.length := by omega
        rw [z6s e, z6s (by rw [← h.len]; exact e)]
        exact ⟨_, rfl, l1, l2, rfl⟩
  · exact h1
theorem ziI {c i B : Nat} {st : HS} (h : HInv d m n S c B st) (hi : i < S.length) (hc : clN d m n S i = c) : ∀ a, a <= m -> HInv d m n S c (B + a) (zfg d m n S (z1e S (z0R d m n S c)) i st a)
  | 0, _ => h
  | a + 1, ha => by
    rw [z9S]
    exact zqf hd hn hS (ziI h hi hc a (by omega)) hi (by omega) hc
theorem znD {c : Nat} : ∀ k, k <= S.length -> HInv d m n S c (k * m) (zfc d m n S (z1e S (z0R d m n S c)) c k)
  | 0, _ => ⟨rfl, by simp [zfc], fun j hj => by simp [zfc] at hj⟩
  | k + 1, hk => by
    have ih := znD (c := c) k (by omega)
    rw [zfb]
    have e : (k + 1) * m = k * m + m := by rw [Nat.add_mul]; omega
    split
    · rename_i hc
      rw [e]; exact ziI hd hn hS ih (by omega) hc m (Nat.le_refl _)
    · exact ⟨ih.len, by have := ih.bd; omega, ih.ok⟩
end
end
section
open Go
noncomputable section
set_option maxRecDepth 100000
set_option maxHeartbeats 6000000
abbrev z5n (a1 : List Int) (w31 : Int) (w32 : List Int) (v41 : Int) : Int × Int -> Option ((Int × Int) ⊕ ((Int × List Int) ⊕ (List Int × Bool)))
  | (w43, w44) =>
  if w44 < (a1.length : Int) then
    (atI a1 w44).bind fun v46 =>
    if v46 = v41 then
      z0e (w44, IntKind.i64.wrap (w44 + 1))
    else
      z0e (w43, IntKind.i64.wrap (w44 + 1))
  else
    z0k <|
    if w43 = (-1) then
      z0k <|
      some ([], false)
    else
      chk (z1q 8 (w32.length + 1)) <|
      z0e (IntKind.i64.wrap (w31 + 1), w32 ++ [w43])
instance {a1 : List Int} {w31 : Int} {w32 : List Int} {v41 : Int} : Hd (z5n a1 w31 w32 v41) := ⟨fun (w43, w44) => ([(12, xI w43), (27, xI w44)], [])⟩
abbrev z5o (a0 : DFA) (a1 : List Int) (a2 : ByteArray) : Int × List Int -> Option ((Int × List Int) ⊕ (List Int × Bool))
  | (w31, w32) =>
  if w31 < (a1.length : Int) then
    (atI a1 w31).bind fun v40 =>
    (z6W a0 v40 a2).bind fun v41 =>
    z0o (z5n a1 w31 w32 v41) LFm ((-1), 0)
  else
    z0k <|
    some (w32, true)
instance {a0 : DFA} {a1 : List Int} {a2 : ByteArray} : Hd (z5o a0 a1 a2) := ⟨fun (w31, w32) => ([(17, xI w31)], [(8, .os 1 w32.length (w32.map fun x0 => .sc (.int .i64 x0)))])⟩
def z6i (a0 : DFA) (a1 : List Int) (a2 : ByteArray) : Option (List Int × Bool) :=
  z0o (z5o a0 a1 a2) LFm (0, [])
instance ref25_Moved_ok {a0 : DFA} {a1 : List Int} {a2 : ByteArray} : Ok (z6i a0 a1 a2) (fun r => L 20 [.agg [.sc (.int .i64 a0.letters), .sc (.int .i64 a0.start), .sl a0.final.length (a0.final.map fun x0 => .sc (.bool x0)), .sl a0.next.length (a0.next.map fun x0 => .sl x0.length (x0.map fun x1 => .sc (.int .i64 x1)))], .sl a1.length (a1.map fun x0 => .sc (.int .i64 x0)), .sc (.string a2)] = some (.tup [.os 1 r.1.length (r.1.map fun x0 => .sc (.int .i64 x0)), .sc (.bool r.2)], [.dead, .dead, .dead])) := ⟨fun r h => by have h := z4c h; unfold z6i at h; exact z4E zvO zxE zzA⟩
end
end
section
open Go
set_option maxRecDepth 100000
theorem zac {κ ν : Type} [DecidableEq κ] (k q : κ) (v : ν) : ∀ m : List (κ × ν), zad q (z9R k v m) = if k = q then some v else zad q m
  | [] => rfl
  | (a, u) :: r => by
    simp only [z9R]
    by_cases h : a = k
    · subst h
      rw [if_pos rfl]
      simp only [zad]
      by_cases h2 : a = q
      · rw [if_pos h2, if_pos h2]
      · rw [if_neg h2, if_neg h2, if_neg h2]
    · rw [if_neg h]
      simp only [zad, zac k q v r]
      by_cases h2 : a = q
      · rw [if_pos h2, if_pos h2, if_neg (fun e => h (h2.trans e.symm))]
      · rw [if_neg h2, if_neg h2]
def zeJ (S : List Nat) : Nat -> List (Int × Int)
  | 0 => []
  | k + 1 => z9R ((S.getD k 0 : Nat) : Int) (k : Int) (zeJ S k)
theorem zeI {S : List Nat} (hS : S.Nodup) {j : Nat} : ∀ k, k <= S.length -> j < k -> zad ((S.getD j 0 : Nat) : Int) (zeJ S k) = some (j : Int)
  | k + 1, hk, hj => by
    simp only [zeJ]
    rw [zac]
    by_cases e : j = k
    · subst e; rw [if_pos rfl]
    · rw [if_neg (fun h => e (z4l hS (by omega) (by omega) (by omega))), zeI hS k (by omega) (by omega)]
theorem zco {d : DFA} {w : List UInt8} {T : List Nat} {k : Nat} (h : k < T.length) : (z1B d w T).getD k 0 = T.idxOf (z2U d (T.getD k 0) w) := by
  simp [z1B, List.getD, h]
theorem z7I {l : List Nat} {k : Nat} (h : k < l.length) : l.take (k + 1) = l.take k ++ [l.getD k 0] := by
  rw [List.take_succ_eq_append_getElem h, List.getD, List.getElem?_eq_getElem h, Option.getD_some]
theorem zoG {d : DFA} {m n : Nat} (hd : DfaOk d m n) (hn : n <= 12) {T : List Nat} (hT : T.Nodup) (hl : T.length <= 1000) (hlt : ∀ t ∈ T, t < 2 ^ n) {w : ByteArray} (hw : zdV m w) (hr : ∀ t ∈ T, z2U d t w.data.toList ∈ T) : z6i d (toI T) w = some (toI (z1B d w.data.toList T), true) := by
  have hpl := z5N d w.data.toList T
  unfold z6i
  refine z0K (s := ((0 : Int), ([] : List Int))) T.length (fun k => ((k : Int), toI ((z1B d w.data.toList T).take k))) rfl (by simp only [LFm]; omega) (fun k hk => ?_) ?_
  · have hm := hr _ (z0h hk)
    have hi := z4r hm
    have hg := z2d hm
    have hp := zco (d := d) (w := w.data.toList) hk
    simp only [z5o]
    rw [if_pos (by rw [z0d]; omega), z2f hk, Option.bind_some, zrl hd hn (hlt _ (z0h hk)) hw, Option.bind_some]
    generalize z2U d (T.getD k 0) w.data.toList = s at *
    refine z0K (s := ((-1 : Int), (0 : Int))) T.length (fun q => ((if T.idxOf s < q then ((T.idxOf s : Nat) : Int) else -1), (q : Int))) rfl (by simp only [LFm]; omega) (fun q hq => ?_) ?_
    · simp only [z5n]
      rw [if_pos (by rw [z0d]; omega), z2f hq, Option.bind_some, z0W (by omega)]
      by_cases e : T.getD q 0 = s
      · have : T.idxOf s = q := z4l hT hi hq (by rw [hg, e])
        rw [if_pos (by omega), if_pos (by omega), this]
      · have : T.idxOf s ≠ q := fun h => e (by rw [← h, hg])
        rw [if_neg (by omega)]
        by_cases h3 : T.idxOf s < q
        · rw [if_pos h3, if_pos (by omega)]
        · rw [if_neg h3, if_neg (by omega)]
    · simp only [z5n]
      rw [if_neg (by rw [z0d]; omega), if_pos hi, if_neg (by omega), z0n _ (by unfold z1q; rw [z0d, List.length_take]; omega), z0W (by omega), z7I (by omega), z5j, hp]
  · simp only [z5o]
    rw [if_neg (by rw [z0d]; omega), ← hpl, List.take_length]
section
variable {d : DFA} {m n : Nat} {S : List Nat} (hd : DfaOk d m n) (hn : n <= 7) (hS : SetsP d m n S)
include hd hn hS
theorem z1R {c : Nat} (hc : c < (z6t d m n S).length) : clN d m n S (z0R d m n S c) = c /\ z0R d m n S c < S.length := by
  have _u := hn
  have he := z6B hd hS
  have hk : z0R d m n S c < S.length := zhQ hc
  obtain ⟨h1, h2⟩ := z9y he hk
  refine ⟨zhP he (zag he _ (Nat.le_refl _)) (fun f hf => zb9 _ _ f hf) hk h1 hc h2 (he.refl _ hk), hk⟩
end
end
section
open Go
set_option maxRecDepth 100000
def leH (H : Nat -> Nat) (a b : Nat) : Prop := H b < H a ∨ (H a = H b /\ a <= b)
abbrev zws (H : Nat -> Nat) (l : List Nat) : Prop := l.Pairwise (leH H)
end
section
open Go
set_option maxRecDepth 100000
def hL (N : Nat) (h : Nat -> Nat) : List Int := (List.range N).map fun i => ((h i : Nat) : Int)
structure RndH (N : Nat) (b : Nat -> Nat -> Bool) (z : Nat -> Bool) (h0 : Nat -> Nat) (ch : Bool) (h : Nat -> Nat) : Prop where
  lo : ∀ i, i < N -> h0 i <= h i
  hi : ∀ i, i < N -> h i <= zqU N b z i
  no : ch = false -> ∀ i, i < N -> h i = h0 i
  yes : ch = true -> ∃ i, i < N /\ h0 i < h i
section
variable {d : DFA} {m n : Nat} {S : List Nat} (hd : DfaOk d m n) (hn : n <= 7) (hS : SetsP d m n S) (hpos : ∀ x ∈ S, x ≠ 0)
include hd hn hS hpos
end
end
section
open Go
set_option maxRecDepth 100000
section
variable {d : DFA} {m n : Nat} {S : List Nat} (hd : DfaOk d m n) (hn : n <= 7) (hS : SetsP d m n S) (hpos : ∀ x ∈ S, x ≠ 0)
include hd hn hS hpos
end
end
section
open Go
set_option maxRecDepth 100000
def hC (d : DFA) (m n : Nat) (S : List Nat) (c : Nat) : Nat := z7X d m n S (z0R d m n S c)
def ziN (d : DFA) (m n : Nat) (S : List Nat) (k : Nat) : List Nat := (List.range (z0Q (z1M d m n S) k).length).filter fun c => decide (0 < hC d m n S c)
def zzJ (d : DFA) (m n : Nat) (S : List Nat) : Prop := ∀ i, i < S.length -> z7X d m n S i = z7X d m n S (z5e d m n S i)
section
variable {d : DFA} {m n : Nat} {S : List Nat} (hd : DfaOk d m n) (hn : n <= 7) (hS : SetsP d m n S) (hH : zzJ d m n S)
include hd hn hS hH
end
end
section
open Go
set_option maxRecDepth 100000
def z9D (d : DFA) (m n : Nat) (S : List Nat) (c : Nat) : Hol := ⟨((S.getD (z0R d m n S c) 0 : Nat) : Int), toI (z1e S (z0R d m n S c)), (zfc d m n S (z1e S (z0R d m n S c)) c S.length).1, (zfc d m n S (z1e S (z0R d m n S c)) c S.length).2.map toI⟩
theorem zdE {N k : Nat} (h : k < N) : (List.range N).getD k 0 = k := by simp [List.getD, h]
theorem zlR {S : List Nat} {k : Nat} : (z1e S k).length = (zaB S k).length := by simp [z1e]
section
variable {d : DFA} {m n : Nat} {S : List Nat} (hd : DfaOk d m n) (hn : n <= 7) (hS : SetsP d m n S)
include hd hn hS
theorem zo7 {k : Nat} (hk : k < S.length) : (z1e S k).length <= 128 := by
  have h128 : 2 ^ n <= 128 := Nat.pow_le_pow_right (n := 2) (by omega) hn
  obtain ⟨h1, h2⟩ := z5t hd hn hS hk
  have := z1C h1 fun t ht => (h2 t ht).2.2
  omega
end
end
section
open Go
set_option maxRecDepth 100000
theorem zj6 {d : DFA} {m n : Nat} {S : List Nat} {c B : Nat} {st : HS} (h : HInv d m n S c B st) : ∀ y ∈ st.2, y.length = (z1e S (z0R d m n S c)).length := fun y hy => by
  obtain ⟨j, hj, rfl⟩ := List.getElem_of_mem hy
  obtain ⟨w, _, _, _, e⟩ := h.ok j (by rw [h.len]; exact hj)
  rw [List.getD, List.getElem?_eq_getElem hj, Option.getD_some] at e
  rw [e, z5N]
theorem zaa {d : DFA} {m n : Nat} {S : List Nat} {c B : Nat} {st : HS} (h : HInv d m n S c B st) {j : Nat} (hj : j < st.1.length) : Lead d m n (S.getD (z0R d m n S c) 0) (S.getD (z0R d m n S c) 0) (st.1.getD j ByteArray.empty).data.toList /\ (st.1.getD j ByteArray.empty).size <= 2 * 2 ^ n + 1 /\ st.2.getD j [] = z1B d (st.1.getD j ByteArray.empty).data.toList (z1e S (z0R d m n S c)) := by
  obtain ⟨w, e1, e2, e3, e4⟩ := h.ok j hj
  rw [e1]; exact ⟨e2, e3, e4⟩
section
variable {d : DFA} {m n : Nat} {S : List Nat} (hd : DfaOk d m n) (hn : n <= 7) (hS : SetsP d m n S)
include hd hn hS
end
end
section
open Go
set_option maxRecDepth 100000
def z9C (d : DFA) (m n : Nat) (S : List Nat) (c k : Nat) : List Nat := (List.range k).filter fun j => decide (clN d m n S j = c)
def zcw (d : DFA) (m n : Nat) (S : List Nat) (k : Nat) : List (List Int) := (List.range (z0Q (z1M d m n S) k).length).map fun c => toI (z9C d m n S c k)
theorem zcx (d : DFA) (m n : Nat) (S : List Nat) (c k : Nat) : z9C d m n S c (k + 1) = if clN d m n S k = c then z9C d m n S c k ++ [k] else z9C d m n S c k := by
  unfold z9C
  rw [List.range_succ, List.filter_append, List.filter_cons, List.filter_nil]
  by_cases h : clN d m n S k = c
  · rw [if_pos h, if_pos (by simpa using h)]
  · rw [if_neg h, if_neg (by simpa using h), List.append_nil]
section
variable {d : DFA} {m n : Nat} {S : List Nat} (hd : DfaOk d m n) (hn : n <= 7) (hS : SetsP d m n S)
include hd hn hS
theorem zv4 {i : Nat} (hi : i < S.length) {j : Nat} (hj : j < i) : clN d m n S j < (z0Q (z1M d m n S) i).length := by
  have _u := hn
  have he := z6B hd hS
  obtain ⟨R, hR⟩ := zaS (z1M d m n S) (i := j + 1) i (by omega)
  have hl : (z0Q (z1M d m n S) i).length = (z0Q (z1M d m n S) (j + 1)).length + R.length := by rw [hR, List.length_append]
  rcases zcR he (show j < S.length by omega) with ⟨h1, _, h3⟩ | ⟨h1, _, h3⟩
  · rw [h3] at hl
    unfold clN; omega
  · rw [h3, List.length_append, List.length_singleton] at hl
    unfold clN; omega
theorem zoI {i : Nat} (hi : i < S.length) : z9C d m n S (z0Q (z1M d m n S) i).length i = [] := by
  unfold z9C
  refine List.filter_eq_nil_iff.2 fun j hj => ?_
  have := zv4 hd hn hS hi (List.mem_range.1 hj)
  simp only [decide_eq_true_eq]
  omega
theorem zoH {i : Nat} (hi : i < S.length) (hSl : S.length <= 1000) : z2M (z4F d m n S) ((i : Int), zcw d m n S i) = z0e (((i + 1 : Nat) : Int), zcw d m n S (i + 1)) := by
  have he := z6B hd hS
  have l2 : (z4F d m n S).class_.length = S.length := by simp [z4F, znM]
  have hcat : atI (z4F d m n S).class_ (i : Int) = some ((clN d m n S i : Nat) : Int) := z2W hi
  have hml : (zcw d m n S i).length = (z0Q (z1M d m n S) i).length := by simp [zcw]
  have hfl := z7Y (z1M d m n S) i
  have hcl : ∀ c, (toI (z9C d m n S c i)).length <= i := fun c => by
    rw [z0d]; unfold z9C
    exact Nat.le_trans (List.length_filter_le _ _) (by rw [List.length_range]; omega)
  simp only [z2M]
  rw [l2, if_pos (by omega), hcat, Option.bind_some]
  rcases zcR he hi with ⟨h1, _, h3⟩ | ⟨h1, _, h3⟩
  · have h1' : clN d m n S i < (z0Q (z1M d m n S) i).length := h1
    have hc := hcl (clN d m n S i)
    have hat : atI (zcw d m n S i) ((clN d m n S i : Nat) : Int) = some (toI (z9C d m n S (clN d m n S i) i)) := z2W h1'
    rw [if_neg (by omega), hat, Option.bind_some, z0n _ (by unfold z1q; omega), z0W (by omega), Int.toNat_natCast]
    congr 2
    refine List.ext_getElem (by simp [zcw, h3]) fun c c1 c2 => ?_
    have hc' : c < (z0Q (z1M d m n S) i).length := by simpa [zcw] using c1
    rw [List.getElem_set]
    simp only [zcw, List.getElem_map, List.getElem_range]
    rw [zcx]
    by_cases e : clN d m n S i = c
    · rw [if_pos e, if_pos e, z5j, e]
    · rw [if_neg e, if_neg e]
  · have h1' : clN d m n S i = (z0Q (z1M d m n S) i).length := h1
    have hat : atI (zcw d m n S i ++ [[]]) ((clN d m n S i : Nat) : Int) = some [] := at0 (zcw d m n S i) [] [] (by omega)
    rw [if_pos (by omega), z0n _ (by unfold z1q; omega), hat, Option.bind_some, z0n _ (by unfold z1q; simp), z0W (by omega), Int.toNat_natCast, List.nil_append, zqp (zcw d m n S i) [] _ [] (by omega)]
    congr 2
    have hlen : (z0Q (z1M d m n S) (i + 1)).length = (z0Q (z1M d m n S) i).length + 1 := by rw [h3, List.length_append, List.length_singleton]
    show zcw d m n S i ++ [[((i : Nat) : Int)]] = zcw d m n S (i + 1)
    unfold zcw
    rw [hlen, List.range_succ, List.map_append, List.map_cons, List.map_nil]
    congr 1
    · refine List.map_congr_left fun c hc => ?_
      have := List.mem_range.1 hc
      rw [zcx, if_neg (by omega)]
    · rw [zcx, if_pos h1', zoI hd hn hS hi, List.nil_append]; rfl
theorem zoJ {c : Nat} (hc : c < (z6t d m n S).length) : ∃ R, z9C d m n S c S.length = z0R d m n S c :: R := by
  obtain ⟨h1, h2⟩ := z1R hd hn hS hc
  have hh : (z9C d m n S c S.length).head? = some (z0R d m n S c) := by
    unfold z9C
    rw [List.head?_filter, List.find?_range_eq_some]
    refine ⟨by simpa using h1, List.mem_range.2 h2, fun j hj => ?_⟩
    simp only [Bool.not_eq_true', decide_eq_false_iff_not]
    intro e
    have := zn1 hd hn hS (i := j) (by omega)
    have e3 : z0R d m n S c = z5e d m n S j := by unfold z0R; rw [← e]; rfl
    omega
  cases h : z9C d m n S c S.length with
  | nil => rw [h] at hh; cases hh
  | cons x R =>
    rw [h] at hh
    exact ⟨R, by rw [Option.some.inj hh]⟩
theorem ziT {c : Nat} (hc : c < (z6t d m n S).length) : atI (zcw d m n S S.length) (c : Int) = some (toI (z9C d m n S c S.length)) /\ atI (toI (z9C d m n S c S.length)) 0 = some ((z0R d m n S c : Nat) : Int) := by
  obtain ⟨R, hR⟩ := zoJ hd hn hS hc
  refine ⟨z2W hc, ?_⟩
  rw [hR]
  exact at0 [] _ _ (i := 0) rfl
theorem zi2 (hSl : S.length <= 1000) : ∃ O, z3I (z4F d m n S) = some (toI O, zcw d m n S S.length) /\ zws (hC d m n S) O /\ O.Perm (ziN d m n S S.length) := by
  have he := z6B hd hS
  have l2 : (z4F d m n S).class_.length = S.length := by simp [z4F, znM]
  have hhat : ∀ i, i < S.length -> atI (z4F d m n S).height (i : Int) = some ((z7X d m n S i : Nat) : Int) := fun i hi => z2W hi
  have hml : (zcw d m n S S.length).length = (z6t d m n S).length := by simp [zcw, z6t]
  have hfl : (z6t d m n S).length <= S.length := z7Y (z1M d m n S) S.length
  have hko : ∀ c, c < (z6t d m n S).length -> zqL (zcw d m n S S.length) (z4F d m n S).height (c : Int) = some ((hC d m n S c : Nat) : Int) := fun c hc => by
    obtain ⟨m1, m2⟩ := ziT hd hn hS hc
    unfold zqL
    rw [m1, Option.bind_some, m2, Option.bind_some, hhat _ (z1R hd hn hS hc).2]; rfl
  have hout : ∀ c ∈ ziN d m n S S.length, c < (z6t d m n S).length := fun c hc => List.mem_range.1 (List.mem_filter.1 hc).1
  have hol : (ziN d m n S S.length).length <= S.length := by
    unfold ziN
    exact Nat.le_trans (List.length_filter_le _ _) (by rw [List.length_range]; exact hfl)
  have hasc : (toI (ziN d m n S S.length)).Pairwise (· < ·) := by
    unfold toI ziN
    exact List.Pairwise.map _ (fun a b (h : a < b) => by omega) (List.Pairwise.filter _ List.pairwise_lt_range)
  obtain ⟨Z, e, z1, z2⟩ := zm4 (K := zry (z4F d m n S).sets (z4F d m n S).class_ (z4F d m n S).height (z4F d m n S).tiles (z4F d m n S).words (z4F d m n S).back (zcw d m n S S.length)) (l := toI (ziN d m n S S.length))
    (fun x hx => by
      obtain ⟨c, hc, rfl⟩ := List.mem_map.1 hx
      have := hout c hc
      exact ⟨by omega, by omega, by rw [hko c this]; rfl⟩) hasc (by rw [z0d]; omega)
  have hZ : ∃ O, Z = toI O /\ O.Perm (ziN d m n S S.length) := by
    refine ⟨Z.map Int.toNat, ?_, ?_⟩
    · unfold toI
      rw [List.map_map]
      refine (List.map_id' Z).symm.trans (List.map_congr_left fun x hx => ?_)
      obtain ⟨c, hc, rfl⟩ := List.mem_map.1 (z2.mem_iff.1 hx)
      simp
    · have := z2.map Int.toNat
      refine this.trans ?_
      unfold toI
      rw [List.map_map]
      have : (Int.toNat ∘ fun x : Nat => (x : Int)) = id := by funext x; simp
      rw [this, List.map_id]
  obtain ⟨O, rfl, hO⟩ := hZ
  refine ⟨O, ?_, ?_, hO⟩
  · unfold z3I
    refine z0K (s := ((0 : Int), ([] : List (List Int)))) S.length (fun k => ((k : Int), zcw d m n S k)) rfl (by simp only [LFm]; omega) (fun i hi => zoH hd hn hS hi hSl) ?_
    simp only [z2M]
    rw [l2, if_neg (by omega)]
    congr 1
    refine z0K (s := ((0 : Int), ([] : List Int))) (z6t d m n S).length (fun k => ((k : Int), toI ((List.range k).filter fun c => decide (0 < hC d m n S c)))) rfl (by simp only [LFm]; omega) (fun c hc => ?_) ?_
    · obtain ⟨m1, m2⟩ := ziT hd hn hS hc
      have hq : (toI ((List.range c).filter fun c => decide (0 < hC d m n S c))).length <= c := by
        rw [z0d]
        exact Nat.le_trans (List.length_filter_le _ _) (by rw [List.length_range]; omega)
      simp only [z3p]
      rw [hml, if_pos (by omega), m1, Option.bind_some, m2, Option.bind_some, hhat _ (z1R hd hn hS hc).2, Option.bind_some, z0W (by omega), List.range_succ, List.filter_append, List.filter_cons, List.filter_nil]
      by_cases h : 0 < hC d m n S c
      · have h' : 0 < z7X d m n S (z0R d m n S c) := h
        rw [if_pos (by omega), z0n _ (by unfold z1q; omega), if_pos (by simpa using h), z5j]
      · have h' : ¬ 0 < z7X d m n S (z0R d m n S c) := h
        rw [if_neg (by omega), if_neg (by simpa using h), List.append_nil]
    · simp only [z3p]
      rw [hml, if_neg (by omega), zm2]
      have e' : toI ((List.range (z6t d m n S).length).filter fun c => decide (0 < hC d m n S c)) = toI (ziN d m n S S.length) := rfl
      rw [e', e, Option.bind_some]
  · have z1' : (O.map fun x : Nat => (x : Int)).Pairwise _ := z1
    rw [List.pairwise_map] at z1'
    refine List.Pairwise.imp_of_mem (fun {x y} hx hy h => ?_) z1'
    have ox := hout x (hO.mem_iff.1 hx)
    have oy := hout y (hO.mem_iff.1 hy)
    have h3 : (x : Int) - (zqL (zcw d m n S S.length) (z4F d m n S).height (x : Int)).getD 0 * 1048576 <= (y : Int) - (zqL (zcw d m n S S.length) (z4F d m n S).height (y : Int)).getD 0 * 1048576 := h
    rw [hko x ox, hko y oy, Option.getD_some, Option.getD_some] at h3
    unfold leH
    omega
end
end
section
open Go
noncomputable section
set_option maxRecDepth 100000
set_option maxHeartbeats 6000000
abbrev z3F (a0 : DFA) (a1 : ByteArray) (w79 : Int) (w80 : List Int) : Int × List Int -> Option ((Int × List Int) ⊕ ((Int × List Int) ⊕ List Int))
  | (w103, w104) =>
  if w103 < (w80.length : Int) then
    (atI w104 w103).bind fun v110 =>
    (atI a0.next v110).bind fun v111 =>
    (zf3 a1 w79).bind fun v112 =>
    (atI v111 (IntKind.u8.wrap (v112 - 97))).bind fun v113 =>
    z0e (IntKind.i64.wrap (w103 + 1), (w104.set w103.toNat v113))
  else
    z0k <|
    z0e (IntKind.i64.wrap (w79 + 1), w104)
instance {a0 : DFA} {a1 : ByteArray} {w79 : Int} {w80 : List Int} : Hd (z3F a0 a1 w79 w80) := ⟨fun (w103, w104) => ([(31, xI w103)], [(5, .os 1 w104.length (w104.map fun x0 => .sc (.int .i64 x0)))])⟩
abbrev z3M (a0 : DFA) (a1 : ByteArray) : Int × List Int -> Option ((Int × List Int) ⊕ List Int)
  | (w79, w80) =>
  if w79 < (a1.size : Int) then
    z0o (z3F a0 a1 w79 w80) LFm (0, w80)
  else
    z0k <|
    some w80
instance {a0 : DFA} {a1 : ByteArray} : Hd (z3M a0 a1) := ⟨fun (w79, w80) => ([(26, xI w79)], [(5, .os 1 w80.length (w80.map fun x0 => .sc (.int .i64 x0)))])⟩
abbrev z3N (a0 : DFA) (a1 : ByteArray) : Int × List Int -> Option ((Int × List Int) ⊕ List Int)
  | (w58, w59) =>
  if w58 < (a0.final.length : Int) then
    (atI w59 w58).bind fun v61 =>
    z0e (IntKind.i64.wrap (w58 + 1), (w59.set w58.toNat w58))
  else
    z0k <|
    z0o (z3M a0 a1) LFm (0, w59)
instance {a0 : DFA} {a1 : ByteArray} : Hd (z3N a0 a1) := ⟨fun (w58, w59) => ([(16, xI w58)], [(5, .os 1 w59.length (w59.map fun x0 => .sc (.int .i64 x0)))])⟩
def z3y (a0 : DFA) (a1 : ByteArray) : Option (List Int) :=
  chk (z1i 8 (a0.final.length : Int)) <|
  z0o (z3N a0 a1) LFm (0, List.replicate (a0.final.length : Int).toNat (0 : Int))
instance holonomy_action_ok {a0 : DFA} {a1 : ByteArray} : Ok (z3y a0 a1) (fun r => L 61 [.agg [.sc (.int .i64 a0.letters), .sc (.int .i64 a0.start), .sl a0.final.length (a0.final.map fun x0 => .sc (.bool x0)), .sl a0.next.length (a0.next.map fun x0 => .sl x0.length (x0.map fun x1 => .sc (.int .i64 x1)))], .sc (.string a1)] = some (.os 1 r.length (r.map fun x0 => .sc (.int .i64 x0)), [.dead, .dead])) := ⟨fun r h => by have h := z4c h; unfold z3y at h; exact z4E zvm zxd zz9⟩
abbrev z4h (a0 : List Int) (a1 : Int) : Int × Int -> Option ((Int × Int) ⊕ Int)
  | (w7, w8) =>
  if w8 < (a0.length : Int) then
    (atI a0 w8).bind fun v10 =>
    chk (¬ w8 < 0) <|
    if (z2b .i64 (z0f .i64 a1 w8) 1) = 1 then
      chk (¬ v10 < 0) <|
      z0e (orI .i64 w7 (zhl .i64 1 v10), IntKind.i64.wrap (w8 + 1))
    else
      z0e (w7, IntKind.i64.wrap (w8 + 1))
  else
    z0k <|
    some w7
instance {a0 : List Int} {a1 : Int} : Hd (z4h a0 a1) := ⟨fun (w7, w8) => ([(5, xI w7), (10, xI w8)], [])⟩
def z2F (a0 : List Int) (a1 : Int) : Option (Int) :=
  z0o (z4h a0 a1) LFm (0, 0)
instance holonomy_apply_ok {a0 : List Int} {a1 : Int} : Ok (z2F a0 a1) (fun r => L 60 [.sl a0.length (a0.map fun x0 => .sc (.int .i64 x0)), .sc (.int .i64 a1)] = some (.sc (.int .i64 r), [.dead, .dead])) := ⟨fun r h => by have h := z4c h; unfold z2F at h; exact z4E zvn zxe zza⟩
abbrev z3b (a0 : List Int) : Int -> Option (Int ⊕ Bool)
  | w6 =>
  if w6 < (a0.length : Int) then
    (atI a0 w6).bind fun v8 =>
    if w6 = v8 then
      z0e (IntKind.i64.wrap (w6 + 1))
    else
      z0k <|
      some false
  else
    z0k <|
    some true
instance {a0 : List Int} : Hd (z3b a0) := ⟨fun w6 => ([(7, xI w6)], [])⟩
def z3c (a0 : List Int) : Option (Bool) :=
  z0o (z3b a0) LFm 0
instance holonomy_identical_ok {a0 : List Int} : Ok (z3c a0) (fun r => L 63 [.sl a0.length (a0.map fun x0 => .sc (.int .i64 x0))] = some (.sc (.bool r), [.dead])) := ⟨fun r h => by have h := z4c h; unfold z3c at h; exact z4E zvk zxb zz7⟩
abbrev z4v (a0 : List Int) : Int × List Int -> Option ((Int × List Int) ⊕ ByteArray)
  | (w7, w8) =>
  if w7 < (a0.length : Int) then
    (atI a0 w7).bind fun v10 =>
    chk (¬ 8 < 0) <|
    chk (z1q 1 (w8.length + 2)) <|
    z0e (IntKind.i64.wrap (w7 + 1), w8 ++ [IntKind.u8.wrap (z0f .i64 v10 8), IntKind.u8.wrap v10])
  else
    z0k <|
    some (z1l w8)
instance {a0 : List Int} : Hd (z4v a0) := ⟨fun (w7, w8) => ([(12, xI w7)], [(3, .os 1 w8.length (w8.map fun x0 => .sc (.int .u8 x0)))])⟩
def z4g (a0 : List Int) : Option (ByteArray) :=
  chk (z1i 1 (IntKind.i64.wrap (2 * (a0.length : Int)))) <|
  z0o (z4v a0) LFm (0, [])
instance holonomy_text_ok {a0 : List Int} : Ok (z4g a0) (fun r => L 64 [.sl a0.length (a0.map fun x0 => .sc (.int .i64 x0))] = some (.sc (.string r), [.dead])) := ⟨fun r h => by have h := z4c h; unfold z4g at h; exact z4E zvj zxa zz6⟩
abbrev z2D (a0 : List Int) (a1 : List Int) (w18 : List (Int × Int)) : Int × List Int -> Option ((Int × List Int) ⊕ List Int)
  | (w23, w24) =>
  if w23 < (a1.length : Int) then
    (atI a1 w23).bind fun v28 =>
    (z2F a0 v28).bind fun v29 =>
    (atI w24 w23).bind fun v30 =>
    z0e (IntKind.i64.wrap (w23 + 1), (w24.set w23.toNat ((zad v29 w18).getD 0)))
  else
    z0k <|
    some w24
instance {a0 : List Int} {a1 : List Int} {w18 : List (Int × Int)} : Hd (z2D a0 a1 w18) := ⟨fun (w23, w24) => ([(30, xI w23)], [(8, .os 1 w24.length (w24.map fun x0 => .sc (.int .i64 x0)))])⟩
abbrev z2E (a0 : List Int) (a1 : List Int) : Int × (List (Int × Int)) -> Option ((Int × (List (Int × Int))) ⊕ List Int)
  | (w17, w18) =>
  if w17 < (a1.length : Int) then
    (atI a1 w17).bind fun v20 =>
    z0e (IntKind.i64.wrap (w17 + 1), z9R v20 w17 w18)
  else
    z0k <|
    chk (z1i 8 (a1.length : Int)) <|
    z0o (z2D a0 a1 w18) LFm (0, List.replicate (a1.length : Int).toNat (0 : Int))
instance {a0 : List Int} {a1 : List Int} : Hd (z2E a0 a1) := ⟨fun (w17, w18) => ([(16, xI w17)], [(5, .mp (some .i64) (w18.map fun x0 => (.int .i64 x0.1, .int .i64 x0.2)))])⟩
def z2y (a0 : List Int) (a1 : List Int) : Option (List Int) :=
  z0o (z2E a0 a1) LFm (0, ([] : List (Int × Int)))
instance holonomy_permutation_ok {a0 : List Int} {a1 : List Int} : Ok (z2y a0 a1) (fun r => L 62 [.sl a0.length (a0.map fun x0 => .sc (.int .i64 x0)), .sl a1.length (a1.map fun x0 => .sc (.int .i64 x0))] = some (.os 1 r.length (r.map fun x0 => .sc (.int .i64 x0)), [.dead, .dead])) := ⟨fun r h => by have h := z4c h; unfold z2y at h; exact z4E zvl zxc zz8⟩
end
end
section
open Go
set_option maxRecDepth 100000
def zev {α : Type} (N : Nat) (f g : Nat -> α) (k : Nat) : List α := (List.range N).map fun i => if i < k then f i else g i
theorem zqD {α : Type} {N : Nat} {f g : Nat -> α} {k : Nat} : (zev N f g k).length = N := by simp [zev]
theorem zhB {α : Type} {N : Nat} {f g : Nat -> α} : zev N f g 0 = (List.range N).map g := by simp [zev]
theorem zhA {α : Type} {N : Nat} {f g : Nat -> α} : zev N f g N = (List.range N).map f := List.map_congr_left fun i hi => by rw [if_pos (List.mem_range.1 hi)]
theorem zcv {α : Type} {N : Nat} {f g : Nat -> α} {k : Nat} (h : k < N) : atI (zev N f g k) (k : Int) = some (g k) := by
  rw [z0S (by rw [zqD]; exact h)]; simp [zev]
theorem z9r {α : Type} {N : Nat} {f g : Nat -> α} {k : Nat} (h : k < N) : (zev N f g k).set k (f k) = zev N f g (k + 1) := by
  refine List.ext_getElem (by simp [zev]) fun i h1 h2 => ?_
  have hi : i < N := by simpa [zev] using h2
  rw [List.getElem_set]
  simp only [zev, List.getElem_map, List.getElem_range]
  by_cases e : k = i
  · subst e; rw [if_pos rfl, if_pos (Nat.lt_succ_self k)]
  · rw [if_neg e]
    by_cases h3 : i < k
    · rw [if_pos h3, if_pos (by omega)]
    · rw [if_neg h3, if_neg (by omega)]
abbrev zfh (m : Nat) (w : List UInt8) : Prop := ∀ c ∈ w, 97 <= c.toNat /\ c.toNat < 97 + m
theorem z9s {m : Nat} {c : UInt8} {w : List UInt8} (h : zfh m (c :: w)) : zfh m w /\ c.toNat - 97 < m := ⟨fun c' hc' => h c' (List.mem_cons_of_mem _ hc'), by have := h c (List.mem_cons_self ..); omega⟩
def nxN (d : DFA) (q a : Nat) : Nat := ((d.next.getD q []).getD a 0).toNat
def zda (d : DFA) : Nat -> List UInt8 -> Nat
  | q, [] => q
  | q, c :: w => zda d (nxN d q (c.toNat - 97)) w
theorem zdS (d : DFA) : ∀ (q : Nat) (u v : List UInt8), zda d q (u ++ v) = zda d (zda d q u) v
  | q, [], v => rfl
  | q, c :: u, v => by simp only [List.cons_append, zda, zdS]
theorem zqz {d : DFA} {m n : Nat} (hd : DfaOk d m n) {q a : Nat} (hq : q < n) (ha : a < m) : ∃ r, atI d.next (q : Int) = some r /\ atI r (a : Int) = some ((nxN d q a : Nat) : Int) /\ nxN d q a < n := by
  obtain ⟨h1, h2, h3, h4, h5⟩ := zaJ hd hq ha
  refine ⟨d.next[q], z0S h1, ?_, ?_⟩
  · rw [z0S h2]; unfold nxN; rw [h3]; congr 1; omega
  · unfold nxN; rw [h3]; omega
theorem zjG {d : DFA} {m n : Nat} (hd : DfaOk d m n) : ∀ {w : List UInt8} {q : Nat}, q < n -> zfh m w -> zda d q w < n
  | [], q, hq, _ => hq
  | c :: w, q, hq, hw => by
    obtain ⟨_, _, _, h⟩ := zqz hd hq (z9s hw).2
    exact zjG (w := w) (q := nxN d q (c.toNat - 97)) hd h (z9s hw).1
theorem zpV {s n p : Nat} (hs : s < 2 ^ n) (h : s.testBit p = true) : p < n := by
  rcases Nat.lt_or_ge p n with h1 | h1
  · exact h1
  · have := Nat.testBit_lt_two_pow (Nat.lt_of_lt_of_le hs (Nat.pow_le_pow_right (n := 2) (by omega) h1))
    rw [this] at h; cases h
theorem zch {d : DFA} {m n : Nat} (hd : DfaOk d m n) : ∀ {w : List UInt8} {s p : Nat}, zfh m w -> s < 2 ^ n -> ((z2U d s w).testBit p = true ↔ ∃ i, i < n /\ s.testBit i = true /\ zda d i w = p)
  | [], s, p, _, hs => by
    refine ⟨fun h => ⟨p, zpV hs h, h, rfl⟩, ?_⟩
    rintro ⟨i, _, h, rfl⟩; exact h
  | c :: w, s, p, hw, hs => by
    have ha := (z9s hw).2
    rw [z2U, zch hd (z9s hw).1 (zcu hd ha)]
    constructor
    · rintro ⟨j, h1, h2, h3⟩
      obtain ⟨i, i1, i2, i3⟩ := (z7x hd ha j).1 h2
      exact ⟨i, i1, i2, by rw [zda, nxN, i3]; exact h3⟩
    · rintro ⟨i, h1, h2, h3⟩
      obtain ⟨_, _, _, h⟩ := zqz hd h1 ha
      exact ⟨_, h, (z7x hd ha _).2 ⟨i, h1, h2, rfl⟩, h3⟩
def zdp (d : DFA) (n : Nat) (w : List UInt8) : List Nat := (List.range n).map fun q => zda d q w
theorem zw6 (d : DFA) (n : Nat) (w : List UInt8) : toI (zdp d n w) = (List.range n).map fun q => ((zda d q w : Nat) : Int) := by simp [toI, zdp]
theorem zh3 {d : DFA} {m n : Nat} (hd : DfaOk d m n) (hn : n <= 12) {w : ByteArray} (hw : zfh m w.data.toList) (hs : w.size < 2 ^ 40) : z3y d w = some (toI (zdp d n w.data.toList)) := by
  have hl : w.data.toList.length = w.size := by rw [Array.length_toList]; rfl
  have hm := hd.m6
  unfold z3y
  rw [hd.fin, z0n _ (by unfold z1i; omega), Int.toNat_natCast]
  refine z0K (s := ((0 : Int), List.replicate n (0 : Int))) n (fun k => ((k : Int), zev n (fun q => (q : Int)) (fun _ => 0) k)) (by rw [zhB]; congr 1; exact (List.ext_getElem (by simp) fun i h1 h2 => by simp)) (by simp only [LFm]; omega) (fun k hk => ?_) ?_
  · simp only [z3N]
    rw [hd.fin, if_pos (by omega), zcv hk, Option.bind_some, z0W (by omega), Int.toNat_natCast, z9r hk]
  · simp only [z3N]
    rw [hd.fin, if_neg (by omega), zhA]
    congr 1
    refine z0K (s := ((0 : Int), (List.range n).map fun q : Nat => (q : Int))) w.size (fun k => ((k : Int), toI (zdp d n (w.data.toList.take k)))) (by rw [zw6]; rfl) (by simp only [LFm]; omega) (fun k hk => ?_) ?_
    · have hk' : k < w.data.toList.length := by omega
      have hc := hw _ (List.getElem_mem hk')
      have hb : w[k] = w.data.toList[k] := by rw [z8h hk, List.getD, List.getElem?_eq_getElem hk', Option.getD_some]
      have ht : zfh m (w.data.toList.take k) := fun c hc => hw c (List.mem_of_mem_take hc)
      simp only [z3M]
      rw [if_pos (by omega)]
      have hst : ∀ q, zda d q (w.data.toList.take (k + 1)) = nxN d (zda d q (w.data.toList.take k)) (w.data.toList[k].toNat - 97) := fun q => by
        rw [z9O hk', zdS]; rfl
      refine z0K (s := ((0 : Int), toI (zdp d n (w.data.toList.take k)))) n (fun q => ((q : Int), zev n (fun q => ((zda d q (w.data.toList.take (k + 1)) : Nat) : Int)) (fun q => ((zda d q (w.data.toList.take k) : Nat) : Int)) q)) (by rw [zhB, zw6]; rfl) (by simp only [LFm]; omega) (fun q hq => ?_) ?_
      · obtain ⟨r, r1, r2, r3⟩ := zqz hd (zjG hd hq ht) (a := w.data.toList[k].toNat - 97) (by omega)
        have h256 : w[k].toNat < 256 := w[k].toNat_lt
        have wl : IntKind.u8.wrap ((w.data.toList[k].toNat : Int) - 97) = ((w.data.toList[k].toNat - 97 : Nat) : Int) := by
          rw [IntKind.wrap_u8]; rw [hb] at h256; omega
        simp only [z3F]
        rw [if_pos (by rw [z0d]; simp [zdp]; omega), zcv hq, Option.bind_some, r1, Option.bind_some, zam hk, Option.bind_some, hb, wl, r2, Option.bind_some, z0W (by omega), Int.toNat_natCast, ← hst, z9r hq]
      · simp only [z3F]
        rw [if_neg (by rw [z0d]; simp [zdp]), zhA, z0W (by omega), zw6]
    · simp only [z3M]
      rw [if_neg (by omega), ← hl, List.take_length]
def zl3 (F : List Nat) (s : Nat) : Nat -> Nat
  | 0 => 0
  | k + 1 => if s.testBit k = true then zl3 F s k ||| 2 ^ F.getD k 0 else zl3 F s k
theorem zjE {F : List Nat} {s p : Nat} : ∀ k, (zl3 F s k).testBit p = true ↔ ∃ i, i < k /\ s.testBit i = true /\ F.getD i 0 = p
  | 0 => by simp [zl3]
  | k + 1 => by
    have ih := zjE (F := F) (s := s) (p := p) k
    unfold zl3
    by_cases hb : s.testBit k = true
    · rw [if_pos hb, Nat.testBit_or, Bool.or_eq_true, ih, Nat.testBit_two_pow]
      constructor
      · rintro (⟨i, h1, h2, h3⟩ | h)
        · exact ⟨i, by omega, h2, h3⟩
        · exact ⟨k, by omega, hb, by simpa using h⟩
      · rintro ⟨i, h1, h2, h3⟩
        by_cases e : i = k
        · subst e; right; simpa using h3
        · left; exact ⟨i, by omega, h2, h3⟩
    · rw [if_neg hb, ih]
      constructor
      · rintro ⟨i, h1, h2, h3⟩; exact ⟨i, by omega, h2, h3⟩
      · rintro ⟨i, h1, h2, h3⟩
        by_cases e : i = k
        · subst e; exact absurd h2 hb
        · exact ⟨i, by omega, h2, h3⟩
theorem zi7 {F : List Nat} {s n : Nat} (hF : ∀ x ∈ F, x < n) : ∀ k, k <= F.length -> zl3 F s k < 2 ^ n
  | 0, _ => Nat.two_pow_pos n
  | k + 1, hk => by
    unfold zl3
    split
    · exact zqv (zi7 hF k (by omega)) (Nat.pow_lt_pow_right (by omega) (hF _ (z0h (by omega))))
    · exact zi7 hF k (by omega)
theorem zpk {F : List Nat} {s n : Nat} (hn : n <= 12) (hF : ∀ x ∈ F, x < n) (hl : F.length <= 60) (hs : s < 2 ^ 62) : z2F (toI F) (s : Int) = some ((zl3 F s F.length : Nat) : Int) := by
  unfold z2F
  have h62 : ∀ k, k <= F.length -> zl3 F s k < 2 ^ 62 := fun k hk => Nat.lt_of_lt_of_le (zi7 hF k hk) (Nat.pow_le_pow_right (by omega) (by omega))
  refine z0K (s := ((0 : Int), (0 : Int))) F.length (fun k => (((zl3 F s k : Nat) : Int), (k : Int))) rfl (by simp only [LFm]; omega) (fun k hk => ?_) ?_
  · have hx := hF _ (z0h hk)
    simp only [z4h]
    rw [if_pos (by rw [z0d]; omega), z2f hk, Option.bind_some, z0n _ (by omega), z0W (by omega)]
    have hb := zd4 (a := s) (q := k) hs (by omega)
    by_cases h : s.testBit k = true
    · rw [if_pos (hb.2 h), z0n _ (by omega), z6y (by omega), zhw (h62 k (by omega)) (Nat.pow_lt_pow_right (by omega) (by omega))]
      simp only [zl3]; rw [if_pos h]
    · rw [if_neg (fun e => h (hb.1 e))]
      simp only [zl3]; rw [if_neg h]
  · simp only [z4h]
    rw [if_neg (by rw [z0d]; omega)]
theorem zgZ {d : DFA} {m n : Nat} (hd : DfaOk d m n) (hn : n <= 12) {w : List UInt8} (hw : zfh m w) {s : Nat} (hs : s < 2 ^ n) : z2F (toI (zdp d n w)) (s : Int) = some ((z2U d s w : Nat) : Int) := by
  have hF : ∀ x ∈ zdp d n w, x < n := fun x hx => by
    obtain ⟨q, hq, rfl⟩ := List.mem_map.1 hx
    exact zjG hd (List.mem_range.1 hq) hw
  have hl : (zdp d n w).length = n := by simp [zdp]
  rw [zpk hn hF (by omega) (Nat.lt_of_lt_of_le hs (Nat.pow_le_pow_right (by omega) (by omega)))]
  congr 2
  refine Nat.eq_of_testBit_eq fun p => ?_
  rw [Bool.eq_iff_iff, zjE, zch hd hw hs, hl]
  refine exists_congr fun i => and_congr_right fun hi => and_congr_right fun _ => ?_
  simp [zdp, List.getD, hi]
end
section
open Go
set_option maxRecDepth 100000
theorem zdi {d : DFA} {m n : Nat} (hd : DfaOk d m n) (hn : n <= 12) {T : List Nat} (hT : T.Nodup) (hl : T.length <= 1000) (hlt : ∀ t ∈ T, t < 2 ^ n) {w : List UInt8} (hw : zfh m w) (hr : ∀ t ∈ T, z2U d t w ∈ T) : z2y (toI (zdp d n w)) (toI T) = some (toI (z1B d w T)) := by
  unfold z2y
  refine z0K (s := ((0 : Int), ([] : List (Int × Int)))) T.length (fun k => ((k : Int), zeJ T k)) rfl (by simp only [LFm]; omega) (fun k hk => ?_) ?_
  · simp only [z2E]
    rw [if_pos (by rw [z0d]; omega), z2f hk, Option.bind_some, z0W (by omega)]
    rfl
  · simp only [z2E]
    rw [if_neg (by rw [z0d]; omega), z0d, z0n _ (by unfold z1i; omega), Int.toNat_natCast]
    congr 1
    have e0 : toI (z1B d w T) = (List.range T.length).map fun k => ((T.idxOf (z2U d (T.getD k 0) w) : Nat) : Int) := by
      refine List.ext_getElem (by simp [toI, z1B]) fun i h1 h2 => ?_
      have hi : i < T.length := by simpa [toI, z1B] using h1
      simp [toI, z1B, List.getD, hi]
    rw [e0]
    refine z0K (s := ((0 : Int), List.replicate T.length (0 : Int))) T.length (fun k => ((k : Int), zev T.length (fun k => ((T.idxOf (z2U d (T.getD k 0) w) : Nat) : Int)) (fun _ => 0) k)) (by rw [zhB]; congr 1; exact (List.ext_getElem (by simp) fun i h1 h2 => by simp)) (by simp only [LFm]; omega) (fun k hk => ?_) ?_
    · have hm := hr _ (z0h hk)
      have hg := zeI hT T.length (Nat.le_refl _) (z4r hm)
      rw [z2d hm] at hg
      simp only [z2D]
      rw [if_pos (by rw [z0d]; omega), z2f hk, Option.bind_some, zgZ hd hn hw (hlt _ (z0h hk)), Option.bind_some, zcv hk, Option.bind_some, z0W (by omega), Int.toNat_natCast, hg, Option.getD_some, z9r (f := fun k => ((T.idxOf (z2U d (T.getD k 0) w) : Nat) : Int)) hk]
    · simp only [z2D]
      rw [if_neg (by rw [z0d]; omega), zhA]
theorem zgE {p : List Nat} (hl : p.length <= 100000) : z3c (toI p) = some (decide (p = List.range p.length)) := by
  unfold z3c
  rw [z5w (s := (0 : Int)) p.length (fun k => (k : Int)) (fun k => !decide (p.getD k 0 = k)) (fun _ => some false) (x := some true) rfl (by simp only [LFm]; omega) ?_ ?_]
  · rw [z8J]
    simp only [Bool.not_not]
    have : ((List.range p.length).all fun k => decide (p.getD k 0 = k)) = decide (p = List.range p.length) := by
      rw [Bool.eq_iff_iff, decide_eq_true_eq, List.all_eq_true]
      constructor
      · intro h
        refine List.ext_getElem (by simp) fun i h1 h2 => ?_
        have := h i (List.mem_range.2 h1)
        rw [decide_eq_true_eq, List.getD, List.getElem?_eq_getElem h1, Option.getD_some] at this
        rw [this, List.getElem_range]
      · intro h k hk
        have hk := List.mem_range.1 hk
        rw [decide_eq_true_eq]
        rw [h, zdE hk]
    rw [this]
    cases decide (p = List.range p.length) <;> rfl
  · intro k hk
    simp only [z3b]
    rw [if_pos (by rw [z0d]; omega), z2f hk, Option.bind_some, z0W (by omega)]
    by_cases h : p.getD k 0 = k
    · rw [if_pos (by omega), decide_eq_true h, if_neg (by simp)]
    · rw [if_neg (by omega), decide_eq_false h, if_pos (by simp)]
  · simp only [z3b]
    rw [if_neg (by rw [z0d]; omega)]
def zdW (p : List Nat) : List Int := p.flatMap fun k => [((k / 256 : Nat) : Int), ((k % 256 : Nat) : Int)]
theorem zqb {p : List Nat} (hl : p.length <= 100000) (hp : ∀ k ∈ p, k < 65536) : z4g (toI p) = some (z1l (zdW p)) := by
  have hlen : ∀ q : List Nat, (zdW q).length = 2 * q.length := fun q => by
    unfold zdW; rw [zjg (m := 2) (fun _ => rfl)]; omega
  unfold z4g
  rw [z0d, z1N (by omega) (by omega), z0n _ (by unfold z1i; omega)]
  refine z0K (s := ((0 : Int), ([] : List Int))) p.length (fun k => ((k : Int), zdW (p.take k))) rfl (by simp only [LFm]; omega) (fun k hk => ?_) ?_
  · have h1 := hp _ (z0h hk)
    have h2 := hlen (p.take k)
    rw [List.length_take] at h2
    have e1 : IntKind.u8.wrap (z0f .i64 ((p.getD k 0 : Nat) : Int) 8) = ((p.getD k 0 / 256 : Nat) : Int) := by
      have := ziE (a := p.getD k 0) (q := 8) (by omega)
      rw [show ((8 : Nat) : Int) = 8 from rfl] at this
      rw [this, Nat.shiftRight_eq_div_pow, IntKind.wrap_u8]; omega
    have e2 : IntKind.u8.wrap ((p.getD k 0 : Nat) : Int) = ((p.getD k 0 % 256 : Nat) : Int) := by rw [IntKind.wrap_u8]; omega
    simp only [z4v]
    rw [if_pos (by rw [z0d]; omega), z2f hk, Option.bind_some, z0n _ (by omega), z0n _ (by unfold z1q; omega), z0W (by omega), e1, e2, z7I hk]
    unfold zdW
    rw [List.flatMap_append]
    rfl
  · simp only [z4v]
    rw [if_neg (by rw [z0d]; omega), List.take_length]
theorem zq6 : ∀ {p q : List Nat}, (∀ k ∈ p, k < 65536) -> (∀ k ∈ q, k < 65536) -> p.length = q.length -> z1l (zdW p) = z1l (zdW q) -> p = q := by
  have key : ∀ {p q : List Nat}, (∀ k ∈ p, k < 65536) -> (∀ k ∈ q, k < 65536) -> p.length = q.length -> (zdW p).map (fun z : Int => UInt8.ofNat z.toNat) = (zdW q).map (fun z : Int => UInt8.ofNat z.toNat) -> p = q := by
    intro p
    induction p with
    | nil => intro q _ _ hl _; exact (List.eq_nil_of_length_eq_zero hl.symm).symm
    | cons a p ih =>
      intro q hp hq hl h
      cases q with
      | nil => cases hl
      | cons b q =>
        simp only [zdW, List.flatMap_cons, List.cons_append, List.nil_append, List.map_cons, List.cons.injEq] at h
        obtain ⟨h1, h2, h3⟩ := h
        have ha := hp a (List.mem_cons_self ..)
        have hb := hq b (List.mem_cons_self ..)
        have g1 := congrArg UInt8.toNat h1
        have g2 := congrArg UInt8.toNat h2
        simp only [Int.toNat_natCast, UInt8.toNat_ofNat'] at g1 g2
        have : a = b := by omega
        subst this
        rw [ih (fun k hk => hp k (List.mem_cons_of_mem _ hk)) (fun k hk => hq k (List.mem_cons_of_mem _ hk)) (by simpa using hl) h3]
  intro p q hp hq hl h
  refine key hp hq hl ?_
  have := congrArg ByteArray.data h
  simpa [z1l] using this
end
section
open Go
noncomputable section
set_option maxRecDepth 100000
set_option maxHeartbeats 6000000
abbrev z1Q (a0 : DFA) (a1 : Imgs) (a2 : List (Int × Int)) (v139 : Int) (w145 : List Int) (w191 : Int) (v236 : Int) (v140 : Int) : Int × List ByteArray × List (List Int) × (List (ByteArray × Bool)) -> Option ((Int × List ByteArray × List (List Int) × (List (ByteArray × Bool))) ⊕ ((Int × List ByteArray × List (List Int) × (List (ByteArray × Bool))) ⊕ (Hol × Int)))
  | (w249, w250, w251, w252) =>
  if w249 < a0.letters then
    (atI a1.sets v236).bind fun v265 =>
    (z3y a0 ⟨#[UInt8.ofNat (IntKind.u8.wrap (IntKind.i64.wrap (97 + w249))).toNat]⟩).bind fun v266 =>
    (z2F v266 v265).bind fun v267 =>
    (atI a1.class_ ((zad v267 a2).getD 0)).bind fun v268 =>
    (atI a1.class_ v139).bind fun v269 =>
    if v268 = v269 then
      (atI a1.words v236).bind fun v270 =>
      chk (z7G v270 ⟨#[UInt8.ofNat (IntKind.u8.wrap (IntKind.i64.wrap (97 + w249))).toNat]⟩) <|
      (atI a1.back ((zad v267 a2).getD 0)).bind fun v271 =>
      chk (z7G (v270 ++ ⟨#[UInt8.ofNat (IntKind.u8.wrap (IntKind.i64.wrap (97 + w249))).toNat]⟩) v271) <|
      (z3y a0 ((v270 ++ ⟨#[UInt8.ofNat (IntKind.u8.wrap (IntKind.i64.wrap (97 + w249))).toNat]⟩) ++ v271)).bind fun v272 =>
      (z2y v272 w145).bind fun v273 =>
      (z3c v273).bind fun v274 =>
      if v274 = true then
        z0e (IntKind.i64.wrap (w249 + 1), w250, w251, w252)
      else
        (z4g v273).bind fun v275 =>
        if ((zad v275 w252).getD false) = true then
          z0e (IntKind.i64.wrap (w249 + 1), w250, w251, w252)
        else
          if 2048 < ((v270.size : Int) + 1 + (v271.size : Int)) then
            z0k <|
            z0k <|
            some ((⟨0, [], [], []⟩ : Hol), 3)
          else
            (z4g v273).bind fun v276 =>
            chk (z1q 16 (w250.length + 1)) <|
            chk (z1q 24 (w251.length + 1)) <|
            z0e (IntKind.i64.wrap (w249 + 1), w250 ++ [(v270 ++ ⟨#[UInt8.ofNat (IntKind.u8.wrap (IntKind.i64.wrap (97 + w249))).toNat]⟩) ++ v271], w251 ++ [v273], z9R v276 true w252)
    else
      z0e (IntKind.i64.wrap (w249 + 1), w250, w251, w252)
  else
    z0k <|
    z0e (IntKind.i64.wrap (w191 + 1), w250, w251, w252)
instance {a0 : DFA} {a1 : Imgs} {a2 : List (Int × Int)} {v139 : Int} {w145 : List Int} {w191 : Int} {v236 : Int} {v140 : Int} : Hd (z1Q a0 a1 a2 v139 w145 w191 v236 v140) := ⟨fun (w249, w250, w251, w252) => ([(61, xI w249)], [(11, .vr [.sc (.int .i64 v140), .os 1 w145.length (w145.map fun x0 => .sc (.int .i64 x0)), .os 1 w250.length (w250.map fun x0 => .sc (.string x0)), .os 1 w251.length (w251.map fun x0 => .os 1 x0.length (x0.map fun x1 => .sc (.int .i64 x1)))]), (14, .mp none (w252.map fun x0 => (.string x0.1, .bool x0.2)))])⟩
abbrev z3o (a0 : DFA) (a1 : Imgs) (a2 : List (Int × Int)) (a3 : List Int) (v139 : Int) (v140 : Int) (w145 : List Int) : Int × List ByteArray × List (List Int) × (List (ByteArray × Bool)) -> Option ((Int × List ByteArray × List (List Int) × (List (ByteArray × Bool))) ⊕ (Hol × Int))
  | (w191, w192, w193, w194) =>
  if w191 < (a3.length : Int) then
    (atI a3 w191).bind fun v236 =>
    z0o (z1Q a0 a1 a2 v139 w145 w191 v236 v140) LFm (0, w192, w193, w194)
  else
    z0k <|
    some ((⟨v140, w145, w192, w193⟩ : Hol), 0)
instance {a0 : DFA} {a1 : Imgs} {a2 : List (Int × Int)} {a3 : List Int} {v139 : Int} {v140 : Int} {w145 : List Int} : Hd (z3o a0 a1 a2 a3 v139 v140 w145) := ⟨fun (w191, w192, w193, w194) => ([(55, xI w191)], [(11, .vr [.sc (.int .i64 v140), .os 1 w145.length (w145.map fun x0 => .sc (.int .i64 x0)), .os 1 w192.length (w192.map fun x0 => .sc (.string x0)), .os 1 w193.length (w193.map fun x0 => .os 1 x0.length (x0.map fun x1 => .sc (.int .i64 x1)))]), (14, .mp none (w194.map fun x0 => (.string x0.1, .bool x0.2)))])⟩
abbrev z3E (a0 : DFA) (a1 : Imgs) (a2 : List (Int × Int)) (a3 : List Int) (v139 : Int) (v140 : Int) (v141 : List Int) : Int × List Int -> Option ((Int × List Int) ⊕ (Hol × Int))
  | (w144, w145) =>
  if w144 < (v141.length : Int) then
    (atI v141 w144).bind fun v148 =>
    (atI a1.sets v148).bind fun v149 =>
    chk (z1q 8 (w145.length + 1)) <|
    z0e (IntKind.i64.wrap (w144 + 1), w145 ++ [v149])
  else
    z0k <|
    z0o (z3o a0 a1 a2 a3 v139 v140 w145) LFm (0, [], [], ([] : List (ByteArray × Bool)))
instance {a0 : DFA} {a1 : Imgs} {a2 : List (Int × Int)} {a3 : List Int} {v139 : Int} {v140 : Int} {v141 : List Int} : Hd (z3E a0 a1 a2 a3 v139 v140 v141) := ⟨fun (w144, w145) => ([(37, xI w144)], [(11, .vr [.sc (.int .i64 v140), .os 1 w145.length (w145.map fun x0 => .sc (.int .i64 x0)), .os 1 0 [], .os 1 0 []])])⟩
def z3H (a0 : DFA) (a1 : Imgs) (a2 : List (Int × Int)) (a3 : List Int) : Option (Hol × Int) :=
  (atI a3 0).bind fun v139 =>
  (atI a1.sets v139).bind fun v140 =>
  (atI a1.tiles v139).bind fun v141 =>
  z0o (z3E a0 a1 a2 a3 v139 v140 v141) LFm (0, [])
instance holonomy_ofClass_ok {a0 : DFA} {a1 : Imgs} {a2 : List (Int × Int)} {a3 : List Int} : Ok (z3H a0 a1 a2 a3) (fun r => L 31 [.agg [.sc (.int .i64 a0.letters), .sc (.int .i64 a0.start), .sl a0.final.length (a0.final.map fun x0 => .sc (.bool x0)), .sl a0.next.length (a0.next.map fun x0 => .sl x0.length (x0.map fun x1 => .sc (.int .i64 x1)))], .agg [.sl a1.sets.length (a1.sets.map fun x0 => .sc (.int .i64 x0)), .sl a1.class_.length (a1.class_.map fun x0 => .sc (.int .i64 x0)), .sl a1.height.length (a1.height.map fun x0 => .sc (.int .i64 x0)), .sl a1.tiles.length (a1.tiles.map fun x0 => .sl x0.length (x0.map fun x1 => .sc (.int .i64 x1))), .sl a1.words.length (a1.words.map fun x0 => .sc (.string x0)), .sl a1.back.length (a1.back.map fun x0 => .sc (.string x0))], .mr (some .i64) (a2.map fun x0 => (.int .i64 x0.1, .int .i64 x0.2)), .sl a3.length (a3.map fun x0 => .sc (.int .i64 x0))] = some (.tup [.agg [.sc (.int .i64 r.1.set), .sl r.1.tiles.length (r.1.tiles.map fun x0 => .sc (.int .i64 x0)), .sl r.1.words.length (r.1.words.map fun x0 => .sc (.string x0)), .sl r.1.perms.length (r.1.perms.map fun x0 => .sl x0.length (x0.map fun x1 => .sc (.int .i64 x1)))], .sc (.int .i64 r.2)], [.dead, .dead, .dead, .dead])) := ⟨fun r h => by have h := z4c h; unfold z3H at h; exact zi9 zvG zxx zzt⟩
end
end
section
open Go
noncomputable section
set_option maxRecDepth 100000
set_option maxHeartbeats 6000000
abbrev z4P (a0 : DFA) (v19 : Imgs × Int) (w22 : List (Int × Int)) (v25 : List Int × List (List Int)) : Int × List Hol -> Option ((Int × List Hol) ⊕ (List Hol × Int))
  | (w29, w30) =>
  if w29 < (v25.1.length : Int) then
    (atI v25.1 w29).bind fun v34 =>
    (atI v25.2 v34).bind fun v35 =>
    (z3H a0 v19.1 w22 v35).bind fun v36 =>
    if v36.2 = 0 then
      chk (z1q 80 (w30.length + 1)) <|
      z0e (IntKind.i64.wrap (w29 + 1), w30 ++ [v36.1])
    else
      z0k <|
      some ([], v36.2)
  else
    z0k <|
    some (w30, 0)
instance {a0 : DFA} {v19 : Imgs × Int} {w22 : List (Int × Int)} {v25 : List Int × List (List Int)} : Hd (z4P a0 v19 w22 v25) := ⟨fun (w29, w30) => ([(50, xI w29)], [(11, .os 4 w30.length (w30.flatMap fun x0 => [.sc (.int .i64 x0.set), .sl x0.tiles.length (x0.tiles.map fun x1 => .sc (.int .i64 x1)), .sl x0.words.length (x0.words.map fun x1 => .sc (.string x1)), .sl x0.perms.length (x0.perms.map fun x1 => .sl x1.length (x1.map fun x2 => .sc (.int .i64 x2)))]))])⟩
abbrev z5r (a0 : DFA) (v19 : Imgs × Int) : Int × (List (Int × Int)) -> Option ((Int × (List (Int × Int))) ⊕ (List Hol × Int))
  | (w21, w22) =>
  if w21 < (v19.1.sets.length : Int) then
    (atI v19.1.sets w21).bind fun v24 =>
    z0e (IntKind.i64.wrap (w21 + 1), z9R v24 w21 w22)
  else
    z0k <|
    (z3I v19.1).bind fun v25 =>
    chk (z1i 80 (v25.1.length : Int)) <|
    z0o (z4P a0 v19 w22 v25) LFm (0, [])
instance {a0 : DFA} {v19 : Imgs × Int} : Hd (z5r a0 v19) := ⟨fun (w21, w22) => ([(31, xI w21)], [(6, .mp (some .i64) (w22.map fun x0 => (.int .i64 x0.1, .int .i64 x0.2)))])⟩
def z6q (a0 : DFA) : Option (List Hol × Int) :=
  (z7W a0).bind fun v19 =>
  if v19.2 = 0 then
    z0o (z5r a0 v19) LFm (0, ([] : List (Int × Int)))
  else
    some ([], v19.2)
instance holonomy_Of_ok {a0 : DFA} : Ok (z6q a0) (fun r => L 15 [.agg [.sc (.int .i64 a0.letters), .sc (.int .i64 a0.start), .sl a0.final.length (a0.final.map fun x0 => .sc (.bool x0)), .sl a0.next.length (a0.next.map fun x0 => .sl x0.length (x0.map fun x1 => .sc (.int .i64 x1)))]] = some (.tup [.sl r.1.length (r.1.flatMap fun x0 => [.sc (.int .i64 x0.set), .sl x0.tiles.length (x0.tiles.map fun x1 => .sc (.int .i64 x1)), .sl x0.words.length (x0.words.map fun x1 => .sc (.string x1)), .sl x0.perms.length (x0.perms.map fun x1 => .sl x1.length (x1.map fun x2 => .sc (.int .i64 x2)))]), .sc (.int .i64 r.2)], [.dead])) := ⟨fun r h => by have h := z4c h; unfold z6q at h; exact zi9 zvT zxJ zzF⟩
end
end
section
open Go
set_option maxRecDepth 100000
def zbc : List (List Nat) -> List (ByteArray × Bool) := List.foldl (fun mp q => z9R (z1l (zdW q)) true mp) []
theorem zmh (Q : List (List Nat)) (p : List Nat) : zbc (Q ++ [p]) = z9R (z1l (zdW p)) true (zbc Q) := by
  unfold zbc; rw [List.foldl_append]; rfl
theorem zom {L : Nat} {p : List Nat} (hp : p.length = L) (hb : ∀ k ∈ p, k < 65536) : ∀ {Q : List (List Nat)}, (∀ q ∈ Q, q.length = L /\ ∀ k ∈ q, k < 65536) -> (((zad (z1l (zdW p)) (zbc Q)).getD false) = true ↔ p ∈ Q) := by
  have key : ∀ (Q : List (List Nat)) (mp : List (ByteArray × Bool)), (∀ q ∈ Q, q.length = L /\ ∀ k ∈ q, k < 65536) -> (((zad (z1l (zdW p)) (Q.foldl (fun mp q => z9R (z1l (zdW q)) true mp) mp)).getD false) = true ↔ (p ∈ Q ∨ ((zad (z1l (zdW p)) mp).getD false) = true)) := by
    intro Q
    induction Q with
    | nil => intro mp _; simp
    | cons q Q ih =>
      intro mp hQ
      rw [List.foldl_cons, ih _ (fun x hx => hQ x (List.mem_cons_of_mem _ hx)), zac, List.mem_cons]
      have hq := hQ q (List.mem_cons_self ..)
      by_cases e : q = p
      · subst e
        rw [if_pos rfl]; simp
      · have : ¬ z1l (zdW q) = z1l (zdW p) := fun h => e (zq6 hq.2 hb (by rw [hq.1, hp]) h)
        rw [if_neg this]
        constructor
        · rintro (h | h)
          · exact .inl (.inr h)
          · exact .inr h
        · rintro ((h | h) | h)
          · exact absurd h.symm e
          · exact .inl h
          · exact .inr h
  intro Q hQ
  have := key Q [] hQ
  rw [show zbc Q = Q.foldl (fun mp q => z9R (z1l (zdW q)) true mp) [] from rfl, this]
  simp [zad]
def zoP (d : DFA) (m n : Nat) (S T : List Nat) (l : List Nat) : HS := l.foldl (fun st i => zfg d m n S T i st m) ([], [])
theorem zqG (d : DFA) (m n : Nat) (S T : List Nat) (c k : Nat) : zoP d m n S T (z9C d m n S c k) = zfc d m n S T c k := by
  unfold zoP z9C zfc
  rw [List.foldl_filter]
  congr 1
  funext st i
  by_cases h : clN d m n S i = c
  · rw [if_pos (by simpa using h), if_pos h]
  · rw [if_neg (by simpa using h), if_neg h]
theorem zoO (d : DFA) (m n : Nat) (S T l : List Nat) (i : Nat) : zoP d m n S T (l ++ [i]) = zfg d m n S T i (zoP d m n S T l) m := by
  unfold zoP; rw [List.foldl_append]; rfl
section
variable {d : DFA} {m n : Nat} {S : List Nat} (hd : DfaOk d m n) (hn : n <= 7) (hS : SetsP d m n S)
include hd hn hS
theorem zmD {c k i : Nat} (h : i ∈ z9C d m n S c k) : i < k /\ clN d m n S i = c := by
  have _u := hd
  have _v := hn
  have _w := hS
  unfold z9C at h
  rw [List.mem_filter, List.mem_range, decide_eq_true_eq] at h
  exact h
theorem zsj {c : Nat} : ∀ {l : List Nat}, (∀ i ∈ l, i < S.length /\ clN d m n S i = c) -> HInv d m n S c (l.length * m) (zoP d m n S (z1e S (z0R d m n S c)) l) := by
  have key : ∀ (l : List Nat) (st : HS) (B : Nat), HInv d m n S c B st -> (∀ i ∈ l, i < S.length /\ clN d m n S i = c) -> HInv d m n S c (B + l.length * m) (l.foldl (fun st i => zfg d m n S (z1e S (z0R d m n S c)) i st m) st) := by
    intro l
    induction l with
    | nil => intro st B h _; simpa using h
    | cons i l ih =>
      intro st B h hl
      have hi := hl i (List.mem_cons_self ..)
      have := ih _ _ (ziI hd hn hS h hi.1 hi.2 m (Nat.le_refl _)) (fun j hj => hl j (List.mem_cons_of_mem _ hj))
      rw [List.foldl_cons]
      have e : B + (i :: l).length * m = B + m + l.length * m := by rw [List.length_cons, Nat.add_mul]; omega
      rw [e]; exact this
  intro l hl
  have := key l ([], []) 0 ⟨rfl, by simp, fun j hj => by simp at hj⟩ hl
  rw [Nat.zero_add] at this
  exact this
theorem zqR {c B : Nat} {st : HS} (hc : c < (z6t d m n S).length) (h : HInv d m n S c B st) : ∀ q ∈ st.2, q.length = (z1e S (z0R d m n S c)).length /\ ∀ k ∈ q, k < 65536 := fun q hq => by
  have hk := (z1R hd hn hS hc).2
  have htl := zo7 hd hn hS hk
  refine ⟨zj6 h q hq, fun k hkq => ?_⟩
  obtain ⟨j, hj, rfl⟩ := List.getElem_of_mem hq
  obtain ⟨l1, l2, l3⟩ := zaa h (j := j) (by rw [h.len]; exact hj)
  rw [List.getD, List.getElem?_eq_getElem hj, Option.getD_some] at l3
  rw [l3] at hkq
  have := (z5Z hd hn hS hk l1).2.1 k hkq
  omega
theorem zhH {c i a : Nat} {st : HS} {B : Nat} {w : Int} (hB : B <= 10000) (h : HInv d m n S c B st) (hi : i < S.length) (ha : a < m) (hc : clN d m n S i = c) (hcl : c < (z6t d m n S).length) (z : Int) :
    z1Q d (z4F d m n S) (zeJ S S.length) ((z0R d m n S c : Nat) : Int) (toI (z1e S (z0R d m n S c))) w (i : Int) z ((a : Int), st.1, st.2.map toI, zbc st.2) = z0e (((a + 1 : Nat) : Int), (zaE d m n S (z1e S (z0R d m n S c)) i st a).1, (zaE d m n S (z1e S (z0R d m n S c)) i st a).2.map toI, zbc (zaE d m n S (z1e S (z0R d m n S c)) i st a).2) := by
  have h128 : 2 ^ n <= 128 := Nat.pow_le_pow_right (n := 2) (by omega) hn
  have hm := hd.m6
  obtain ⟨j1, j2⟩ := znd hd hn hS hi ha
  obtain ⟨f1, hk⟩ := z1R hd hn hS hcl
  have hsat : atI (z4F d m n S).sets (i : Int) = some ((S.getD i 0 : Nat) : Int) := z2f hi
  have hcat : ∀ i, i < S.length -> atI (z4F d m n S).class_ (i : Int) = some ((clN d m n S i : Nat) : Int) := fun i hi => z2W hi
  have hwat : atI (z4F d m n S).words (i : Int) = some (z8l d m n S i) := z2W hi
  have hbat : ∀ i, i < S.length -> atI (z4F d m n S).back (i : Int) = some (zfi d m n S i) := fun i hi => z2W hi
  have hix : (zad ((mvN d (S.getD i 0) a : Nat) : Int) (zeJ S S.length)).getD 0 = ((zeY d S i a : Nat) : Int) := by
    rw [← j2, zeI hS.nd _ (Nat.le_refl _) j1]; rfl
  have h26 : (UInt8.ofNat (97 + a)).toNat = 97 + a := z8F (by omega)
  have hlw : zfh m (ziX a).data.toList := fun c hc => by
    rw [z6n, List.mem_singleton] at hc
    subst hc; omega
  have hap : z2F (toI (zdp d n (ziX a).data.toList)) ((S.getD i 0 : Nat) : Int) = some ((mvN d (S.getD i 0) a : Nat) : Int) := by
    rw [zgZ hd (by omega) hlw (hS.lt _ (z0h hi)), z6n, z2U, z2U, h26, Nat.add_sub_cancel_left]
  simp only [z1Q]
  rw [hd.lt, if_pos (by omega), hsat, Option.bind_some, zhI (by omega), zh3 hd (by omega) hlw (by rw [z6m]; omega), Option.bind_some, hap, Option.bind_some, hix, hcat _ j1, Option.bind_some, hcat _ hk, Option.bind_some, f1]
  unfold zaE
  by_cases hj : clN d m n S (zeY d S i a) = clN d m n S i
  · obtain ⟨l1, l2⟩ := zeK hd hn hS hi ha hj
    have hf : z0R d m n S c = z5e d m n S i := by unfold z0R; rw [← hc]; rfl
    rw [← hf] at l1
    obtain ⟨_, w1⟩ := zbg hd hn hS hi
    obtain ⟨_, w2⟩ := zf7 hd hn hS j1
    have htl := zo7 hd hn hS hk
    obtain ⟨t1, t2⟩ := z5t hd hn hS hk
    have hwd : (z8l d m n S i ++ ziX a ++ zfi d m n S (zeY d S i a)) = hwN d m n S i a := rfl
    have hbd := h.bd
    have hln := h.len
    have hpl := z5N d (hwN d m n S i a).data.toList (z1e S (z0R d m n S c))
    have hpf := (z5Z hd hn hS hk l1).2.1
    have hp6 : ∀ k ∈ z1B d (hwN d m n S i a).data.toList (z1e S (z0R d m n S c)), k < 65536 := fun k hk' => by have := hpf k hk'; omega
    have hsg := zom hpl hp6 (zqR hd hn hS hcl h)
    rw [if_pos (by omega), hwat, Option.bind_some, z0n _ (by unfold z7G; rw [z6m]; omega), hbat _ j1, Option.bind_some, z0n _ (by unfold z7G; rw [zbH, z6m]; omega), hwd,
      zh3 hd (by omega) l1.hw (by omega), Option.bind_some, zdi hd (by omega) t1 (by omega) (fun t ht => (t2 t ht).2.2) l1.hw (zeh hd hn hS hk l1), Option.bind_some, zgE (by omega), Option.bind_some, hpl, if_pos hj, z0W (by omega)]
    by_cases hid : z1B d (hwN d m n S i a).data.toList (z1e S (z0R d m n S c)) = List.range (z1e S (z0R d m n S c)).length
    · rw [if_pos (by simpa using hid), if_pos (.inl hid)]
    · rw [if_neg (by simpa using hid), zqb (by omega) hp6, Option.bind_some]
      by_cases hin : z1B d (hwN d m n S i a).data.toList (z1e S (z0R d m n S c)) ∈ st.2
      · rw [if_pos (hsg.2 hin), if_pos (.inr hin)]
      · rw [if_neg (fun e => hin (hsg.1 e)), if_neg (by omega), Option.bind_some, z0n _ (by unfold z1q; omega), z0n _ (by unfold z1q; rw [List.length_map]; omega), if_neg (fun e => e.elim hid hin)]
        simp only [zmh, List.map_append, List.map_cons, List.map_nil]
  · rw [if_neg (by omega), if_neg hj, z0W (by omega)]
theorem zkB {c i : Nat} {st : HS} {B : Nat} {w : Nat} (hB : B <= 9000) (h : HInv d m n S c B st) (hi : i < S.length) (hc : clN d m n S i = c) (hcl : c < (z6t d m n S).length) (hw : w < 1000) (z : Int) :
    z0o (z1Q d (z4F d m n S) (zeJ S S.length) ((z0R d m n S c : Nat) : Int) (toI (z1e S (z0R d m n S c))) (w : Int) (i : Int) z) LFm (0, st.1, st.2.map toI, zbc st.2) = z0e (((w + 1 : Nat) : Int), (zfg d m n S (z1e S (z0R d m n S c)) i st m).1, (zfg d m n S (z1e S (z0R d m n S c)) i st m).2.map toI, zbc (zfg d m n S (z1e S (z0R d m n S c)) i st m).2) := by
  have hm := hd.m6
  refine z0K (s := ((0 : Int), st.1, st.2.map toI, zbc st.2)) m (fun a => ((a : Int), (zfg d m n S (z1e S (z0R d m n S c)) i st a).1, (zfg d m n S (z1e S (z0R d m n S c)) i st a).2.map toI, zbc (zfg d m n S (z1e S (z0R d m n S c)) i st a).2)) rfl (by simp only [LFm]; omega) (fun a ha => ?_) ?_
  · rw [zhH hd hn hS (B := B + a) (by omega) (ziI hd hn hS h hi hc a (by omega)) hi ha hc hcl, z9S]
  · simp only [z1Q]
    rw [hd.lt, if_neg (by omega), z0W (by omega)]
theorem zkf {c : Nat} (hcl : c < (z6t d m n S).length) (hSl : S.length <= 128) : z3H d (z4F d m n S) (zeJ S S.length) (toI (z9C d m n S c S.length)) = some (z9D d m n S c, 0) := by
  have hm := hd.m6
  obtain ⟨f1, hk⟩ := z1R hd hn hS hcl
  obtain ⟨_, m2⟩ := ziT hd hn hS hcl
  have hta : atI (z4F d m n S).tiles ((z0R d m n S c : Nat) : Int) = some (toI (zaB S (z0R d m n S c))) := z2W hk
  have hsat : atI (z4F d m n S).sets ((z0R d m n S c : Nat) : Int) = some ((S.getD (z0R d m n S c) 0 : Nat) : Int) := z2f hk
  have htl := zo7 hd hn hS hk
  have hl := zlR (S := S) (k := z0R d m n S c)
  have hmf : ∀ i ∈ z9C d m n S c S.length, i < S.length /\ clN d m n S i = c := fun i hi => zmD hd hn hS hi
  have hml : (z9C d m n S c S.length).length <= 128 := by
    unfold z9C
    exact Nat.le_trans (List.length_filter_le _ _) (by rw [List.length_range]; exact hSl)
  unfold z3H
  rw [m2, Option.bind_some, hsat, Option.bind_some, hta, Option.bind_some]
  refine z0K (s := ((0 : Int), ([] : List Int))) (zaB S (z0R d m n S c)).length (fun q => ((q : Int), toI ((z1e S (z0R d m n S c)).take q))) rfl (by simp only [LFm]; omega) (fun q hq => ?_) ?_
  · have hx : (zaB S (z0R d m n S c)).getD q 0 < S.length := zgD (zcc (z0h hq)).1
    have e : (z1e S (z0R d m n S c)).getD q 0 = S.getD ((zaB S (z0R d m n S c)).getD q 0) 0 := by simp [z1e, List.getD, hq]
    have hsat : atI (z4F d m n S).sets (((zaB S (z0R d m n S c)).getD q 0 : Nat) : Int) = some ((S.getD ((zaB S (z0R d m n S c)).getD q 0) 0 : Nat) : Int) := z2f hx
    simp only [z3E]
    rw [if_pos (by rw [z0d]; omega), z2f hq, Option.bind_some, hsat, Option.bind_some, z0n _ (by unfold z1q; rw [z0d, List.length_take]; omega), z0W (by omega), z7I (by omega), z5j, e]
  · simp only [z3E]
    rw [if_neg (by rw [z0d]; omega), ← hl, List.take_length]
    congr 1
    refine z0K (s := ((0 : Int), ([] : List ByteArray), ([] : List (List Int)), ([] : List (ByteArray × Bool)))) (z9C d m n S c S.length).length (fun k => ((k : Int), (zoP d m n S (z1e S (z0R d m n S c)) ((z9C d m n S c S.length).take k)).1, (zoP d m n S (z1e S (z0R d m n S c)) ((z9C d m n S c S.length).take k)).2.map toI, zbc (zoP d m n S (z1e S (z0R d m n S c)) ((z9C d m n S c S.length).take k)).2)) rfl (by simp only [LFm]; omega) (fun k hk' => ?_) ?_
    · have hmem := hmf _ (z0h hk')
      have hI := zsj hd hn hS (c := c) (l := (z9C d m n S c S.length).take k) (fun i hi => hmf i (List.mem_of_mem_take hi))
      have hB : ((z9C d m n S c S.length).take k).length * m <= 128 * 6 := Nat.mul_le_mul (by rw [List.length_take]; omega) hm
      simp only [z3o]
      rw [if_pos (by rw [z0d]; omega), z2f hk', Option.bind_some, zkB hd hn hS (by omega) hI hmem.1 hmem.2 hcl (by omega), z7I hk', zoO]
    · simp only [z3o]
      rw [if_neg (by rw [z0d]; omega), List.take_length, zqG]
      rfl
end
theorem zsr {d : DFA} {m n : Nat} (hd : DfaOk d m n) (hn : n <= 7) : ∃ O, z6q d = some (O.map (z9D d m n (z3A d m n)), 0) /\ zws (hC d m n (z3A d m n)) O /\ O.Perm (ziN d m n (z3A d m n) (z3A d m n).length) := by
  have h128 : 2 ^ n <= 128 := Nat.pow_le_pow_right (n := 2) (by omega) hn
  have hS := zem hd
  have hSl := z1C hS.nd hS.lt
  unfold z6q
  rw [zw7 hd hn, Option.bind_some, if_pos rfl]
  generalize z3A d m n = S at *
  obtain ⟨O, e, o1, o2⟩ := zi2 hd hn hS (by omega)
  refine ⟨O, ?_, o1, o2⟩
  have hOc : ∀ c ∈ O, c < (z6t d m n S).length := fun c hc => by
    have := o2.mem_iff.1 hc
    unfold ziN at this
    exact List.mem_range.1 (List.mem_filter.1 this).1
  have hOl : O.length <= 128 := by
    rw [o2.length_eq]; unfold ziN
    refine Nat.le_trans (List.length_filter_le _ _) ?_
    rw [List.length_range]
    have := z7Y (z1M d m n S) S.length
    omega
  have hsl : (z4F d m n S).sets.length = S.length := z0d _
  refine z0K (s := ((0 : Int), ([] : List (Int × Int)))) S.length (fun k => ((k : Int), zeJ S k)) rfl (by simp only [LFm]; omega) (fun k hk => ?_) ?_
  · have hsat : atI (z4F d m n S).sets (k : Int) = some ((S.getD k 0 : Nat) : Int) := z2f hk
    simp only [z5r]
    rw [hsl, if_pos (by omega), hsat, Option.bind_some, z0W (by omega)]
    rfl
  · simp only [z5r]
    rw [hsl, if_neg (by omega), e, Option.bind_some, z0n _ (by unfold z1i; rw [z0d]; omega)]
    congr 1
    refine z0K (s := ((0 : Int), ([] : List Hol))) O.length (fun t => ((t : Int), (O.take t).map (z9D d m n S))) rfl (by simp only [LFm]; omega) (fun t ht => ?_) ?_
    · have hc := hOc _ (z0h ht)
      have hma := (ziT hd hn hS hc).1
      simp only [z4P]
      rw [if_pos (by rw [z0d]; omega), z2f ht, Option.bind_some, hma, Option.bind_some, zkf hd hn hS hc (by omega), Option.bind_some, if_pos rfl, z0n _ (by unfold z1q; rw [List.length_map, List.length_take]; omega), z0W (by omega), z7I ht, List.map_append, List.map_cons, List.map_nil]
    · simp only [z4P]
      rw [if_neg (by rw [z0d]; omega), List.take_length]
end
section
open Go
noncomputable section
set_option maxRecDepth 100000
set_option maxHeartbeats 6000000
abbrev z2v (a1 : Int) (w42 : Int) (v53 : List Int) : Int × List Bool -> Option ((Int × List Bool) ⊕ (Int ⊕ Bool))
  | (w55, w56) =>
  if w55 < (v53.length : Int) then
    (atI v53 w55).bind fun v60 =>
    if v60 < 0 then
      z0k <|
      z0k <|
      some false
    else
      if a1 <= v60 then
        z0k <|
        z0k <|
        some false
      else
        (atI w56 v60).bind fun v61 =>
        if v61 = true then
          z0k <|
          z0k <|
          some false
        else
          z0e (IntKind.i64.wrap (w55 + 1), (w56.set v60.toNat true))
  else
    z0k <|
    z0e (IntKind.i64.wrap (w42 + 1))
instance {a1 : Int} {w42 : Int} {v53 : List Int} : Hd (z2v a1 w42 v53) := ⟨fun (w55, w56) => ([(24, xI w55)], [(7, .os 1 w56.length (w56.map fun x0 => .sc (.bool x0)))])⟩
abbrev z1L (a0 : List (List Int)) (a1 : Int) : Int -> Option (Int ⊕ Bool)
  | w42 =>
  if w42 < (a0.length : Int) then
    (atI a0 w42).bind fun v53 =>
    if (v53.length : Int) = a1 then
      chk (z1i 1 a1) <|
      z0o (z2v a1 w42 v53) LFm (0, List.replicate a1.toNat (false : Bool))
    else
      z0k <|
      some false
  else
    z0k <|
    some true
instance {a0 : List (List Int)} {a1 : Int} : Hd (z1L a0 a1) := ⟨fun w42 => ([(12, xI w42)], [])⟩
def z2r (a0 : List (List Int)) (a1 : Int) : Option (Bool) :=
  z0o (z1L a0 a1) LFm 0
instance holonomy_permutations_ok {a0 : List (List Int)} {a1 : Int} : Ok (z2r a0 a1) (fun r => L 21 [.sl a0.length (a0.map fun x0 => .sl x0.length (x0.map fun x1 => .sc (.int .i64 x1))), .sc (.int .i64 a1)] = some (.sc (.bool r), [.dead, .dead])) := ⟨fun r h => by have h := z4c h; unfold z2r at h; exact z4E zvN zxD zzz⟩
abbrev z5i (a0 : List Int) : Int -> Option (Int ⊕ Bool)
  | w6 =>
  if w6 < (a0.length : Int) then
    (atI a0 w6).bind fun v8 =>
    if v8 < 0 then
      z0k <|
      some false
    else
      if (a0.length : Int) <= v8 then
        z0k <|
        some false
      else
        z0e (IntKind.i64.wrap (w6 + 1))
  else
    z0k <|
    some true
instance {a0 : List Int} : Hd (z5i a0) := ⟨fun w6 => ([(15, xI w6)], [])⟩
def z4X (a0 : List Int) : Option (Bool) :=
  if (a0.length : Int) < 1 then
    some false
  else
    if 32 < (a0.length : Int) then
      some false
    else
      z0o (z5i a0) LFm 0
instance trans_Valid_ok {a0 : List Int} : Ok (z4X a0) (fun r => L 83 [.sl a0.length (a0.map fun x0 => .sc (.int .i64 x0))] = some (.sc (.bool r), [.dead])) := ⟨fun r h => by have h := z4c h; unfold z4X at h; exact z4E zv9 zx0 zyW⟩
abbrev z1S (a0 : List Int) : Int -> Option (Int ⊕ List Int)
  | w10 =>
  if w10 < (a0.length : Int) then
    (atI a0 w10).bind fun v13 =>
    (atI a0 (IntKind.i64.wrap (w10 - 1))).bind fun v14 =>
    if v13 = v14 then
      none
    else
      z0e (IntKind.i64.wrap (w10 + 1))
  else
    z0k <|
    some a0
instance {a0 : List Int} : Hd (z1S a0) := ⟨fun w10 => ([(3, xI w10)], [])⟩
def z1P (a0 : List Int) : Option (List Int) :=
  if (a0.length : Int) < 2 then
    some a0
  else
    z0o (z1S a0) LFm 1
instance slices_Compact_Lint_int_ok {a0 : List Int} : Ok (z1P a0) (fun r => L 118 [.sl a0.length (a0.map fun x0 => .sc (.int .i64 x0))] = some (.sl r.length (r.map fun x0 => .sc (.int .i64 x0)), [.dead])) := ⟨fun r h => by have h := z4c h; unfold z1P at h; exact z4E zsM ztO zw3⟩
def z7n (a0 : List Int) : Option (List Int) :=
  (z4X a0).bind fun v5 =>
  if v5 = true then
    (zds a0).bind fun v6 =>
    (zdr v6).bind fun v7 =>
    (z1P v7).bind fun v8 =>
    some v8
  else
    some []
instance trans_Image_ok {a0 : List Int} : Ok (z7n a0) (fun r => L 100 [.sl a0.length (a0.map fun x0 => .sc (.int .i64 x0))] = some (.sl r.length (r.map fun x0 => .sc (.int .i64 x0)), [.dead])) := ⟨fun r h => by have h := z4c h; unfold z7n at h; exact zi9 zsO ztQ zw5⟩
def z8n (a0 : List Int) : Option (Int) :=
  (z7n a0).bind fun v2 =>
  some (v2.length : Int)
instance trans_Rank_ok {a0 : List Int} : Ok (z8n a0) (fun r => L 84 [.sl a0.length (a0.map fun x0 => .sc (.int .i64 x0))] = some (.sc (.int .i64 r), [.dead])) := ⟨fun r h => by have h := z4c h; unfold z8n at h; exact z4E zv8 zwZ zyV⟩
def z2J (a0 : List Int) : Option (Bool) :=
  (z4X a0).bind fun v3 =>
  if v3 = true then
    (z8n a0).bind fun v4 =>
    some (decide (v4 = (a0.length : Int)))
  else
    some false
instance trans_IsPermutation_ok {a0 : List Int} : Ok (z2J a0) (fun r => L 67 [.sl a0.length (a0.map fun x0 => .sc (.int .i64 x0))] = some (.sc (.bool r), [.dead])) := ⟨fun r h => by have h := z4c h; unfold z2J at h; exact z4E zvg zx7 zz3⟩
abbrev z3d (a0 : List (List Int)) (a1 : Int) : Int -> Option (Int ⊕ Bool)
  | w10 =>
  if w10 < (a0.length : Int) then
    (atI a0 w10).bind fun v13 =>
    if (v13.length : Int) = a1 then
      (z2J v13).bind fun v14 =>
      if v14 = true then
        z0e (IntKind.i64.wrap (w10 + 1))
      else
        z0k <|
        some false
    else
      z0k <|
      some false
  else
    z0k <|
    some true
instance {a0 : List (List Int)} {a1 : Int} : Hd (z3d a0 a1) := ⟨fun w10 => ([(9, xI w10)], [])⟩
def z3e (a0 : List (List Int)) (a1 : Int) : Option (Bool) :=
  z0o (z3d a0 a1) LFm 0
instance group_permutations_ok {a0 : List (List Int)} {a1 : Int} : Ok (z3e a0 a1) (fun r => L 37 [.sl a0.length (a0.map fun x0 => .sl x0.length (x0.map fun x1 => .sc (.int .i64 x1))), .sc (.int .i64 a1)] = some (.sc (.bool r), [.dead, .dead])) := ⟨fun r h => by have h := z4c h; unfold z3e at h; exact z4E zvA zxr zzn⟩
abbrev z3Y (a0 : Int) : Int × List Int -> Option ((Int × List Int) ⊕ List Int)
  | (w5, w6) =>
  if w5 < a0 then
    (atI w6 w5).bind fun v8 =>
    z0e (IntKind.i64.wrap (w5 + 1), (w6.set w5.toNat w5))
  else
    z0k <|
    some w6
instance {a0 : Int} : Hd (z3Y a0) := ⟨fun (w5, w6) => ([(15, xI w5)], [(3, .os 1 w6.length (w6.map fun x0 => .sc (.int .i64 x0)))])⟩
def z4n (a0 : Int) : Option (List Int) :=
  if a0 < 1 then
    some []
  else
    if 32 < a0 then
      some []
    else
      chk (z1i 8 a0) <|
      z0o (z3Y a0) LFm (0, List.replicate a0.toNat (0 : Int))
instance trans_Identity_ok {a0 : Int} : Ok (z4n a0) (fun r => L 38 [.sc (.int .i64 a0)] = some (.os 1 r.length (r.map fun x0 => .sc (.int .i64 x0)), [.dead])) := ⟨fun r h => by have h := z4c h; unfold z4n at h; exact z4E zvz zxq zzm⟩
abbrev z5T (a0 : List Int) : Int × List Int -> Option ((Int × List Int) ⊕ ByteArray)
  | (w9, w10) =>
  if w9 < (a0.length : Int) then
    (atI a0 w9).bind fun v13 =>
    (atI w10 w9).bind fun v14 =>
    z0e (IntKind.i64.wrap (w9 + 1), (w10.set w9.toNat (IntKind.u8.wrap v13)))
  else
    z0k <|
    some (z1l w10)
instance {a0 : List Int} : Hd (z5T a0) := ⟨fun (w9, w10) => ([(11, xI w9)], [(3, .os 1 w10.length (w10.map fun x0 => .sc (.int .u8 x0)))])⟩
def z5c (a0 : List Int) : Option (ByteArray) :=
  chk (z1i 1 (a0.length : Int)) <|
  z0o (z5T a0) LFm (0, List.replicate (a0.length : Int).toNat (0 : Int))
instance group_text_ok {a0 : List Int} : Ok (z5c a0) (fun r => L 39 [.sl a0.length (a0.map fun x0 => .sc (.int .i64 x0))] = some (.sc (.string r), [.dead])) := ⟨fun r h => by have h := z4c h; unfold z5c at h; exact z4E zvy zxp zzl⟩
abbrev z4w (a0 : List Int) (a1 : List Int) : Int × List Int -> Option ((Int × List Int) ⊕ List Int)
  | (w13, w14) =>
  if w13 < (a0.length : Int) then
    (atI a0 w13).bind fun v18 =>
    (atI a1 v18).bind fun v19 =>
    (atI w14 w13).bind fun v20 =>
    z0e (IntKind.i64.wrap (w13 + 1), (w14.set w13.toNat v19))
  else
    z0k <|
    some w14
instance {a0 : List Int} {a1 : List Int} : Hd (z4w a0 a1) := ⟨fun (w13, w14) => ([(13, xI w13)], [(5, .os 1 w14.length (w14.map fun x0 => .sc (.int .i64 x0)))])⟩
def z4i (a0 : List Int) (a1 : List Int) : Option (List Int) :=
  chk (z1i 8 (a0.length : Int)) <|
  z0o (z4w a0 a1) LFm (0, List.replicate (a0.length : Int).toNat (0 : Int))
instance group_compose_ok {a0 : List Int} {a1 : List Int} : Ok (z4i a0 a1) (fun r => L 40 [.sl a0.length (a0.map fun x0 => .sc (.int .i64 x0)), .sl a1.length (a1.map fun x0 => .sc (.int .i64 x0))] = some (.os 1 r.length (r.map fun x0 => .sc (.int .i64 x0)), [.dead, .dead])) := ⟨fun r h => by have h := z4c h; unfold z4i at h; exact z4E zvx zxo zzk⟩
end
end
section
open Go
set_option maxRecDepth 100000
def zcz (N : Nat) (X : List Int) : List Bool := (List.range N).map fun x : Nat => decide ((x : Int) ∈ X)
theorem zoM {N : Nat} {X : List Int} : (zcz N X).length = N := by simp [zcz]
theorem zsh {N : Nat} : zcz N [] = List.replicate N false := by
  unfold zcz; exact List.ext_getElem (by simp) fun i h1 h2 => by simp
theorem zqE {N v : Nat} {X : List Int} (h : v < N) : atI (zcz N X) (v : Int) = some (decide ((v : Int) ∈ X)) := by
  rw [z0S (by rw [zoM]; exact h)]; simp [zcz]
theorem zoK {N v : Nat} {X : List Int} (h : v < N) : (zcz N X).set v true = zcz N (X ++ [(v : Int)]) := by
  refine List.ext_getElem (by simp [zcz]) fun i h1 h2 => ?_
  rw [List.getElem_set]
  simp only [zcz, List.getElem_map, List.getElem_range, List.mem_append, List.mem_singleton]
  by_cases e : v = i
  · subst e; simp
  · rw [if_neg e]
    exact decide_eq_decide.2 ⟨fun h => .inl h, fun h => h.elim id fun h => absurd h (by omega)⟩
theorem zoa {l : List Int} {k : Nat} (h : k < l.length) : l.take (k + 1) = l.take k ++ [l[k]] := by rw [List.take_succ_eq_append_getElem h]
theorem zdG {l : List Int} : l.Nodup ↔ ∀ k (h : k < l.length), l[k] ∉ l.take k := by
  rw [List.nodup_iff_pairwise_ne, List.pairwise_iff_getElem]
  constructor
  · intro h k hk hm
    obtain ⟨i, hi, e⟩ := List.getElem_of_mem hm
    rw [List.length_take] at hi
    rw [List.getElem_take] at e
    exact h i k (by omega) hk (by omega) e
  · intro h i j hi hj hij e
    refine h j hj ?_
    have : i < (l.take j).length := by rw [List.length_take]; omega
    have h2 := List.getElem_mem this
    rw [List.getElem_take, e] at h2
    exact h2
def zcp (N : Nat) (p : List Int) : Bool := decide (p.length = N) && (p.all (fun x => decide (0 <= x /\ x < (N : Int))) && decide p.Nodup)
theorem zet {N : Nat} {p : List Int} : zcp N p = true ↔ p.length = N /\ (∀ x ∈ p, 0 <= x /\ x < (N : Int)) /\ p.Nodup := by
  simp [zcp]
def zrB (N : Nat) (p : List Int) (k : Nat) : Bool := !decide (0 <= p.getD k 0 /\ p.getD k 0 < (N : Int)) || decide (p.getD k 0 ∈ p.take k)
theorem zrf {N : Nat} {p : List Int} (hl : p.length = N) : ((List.range N).all fun k => !zrB N p k) = zcp N p := by
  rw [Bool.eq_iff_iff, zet, List.all_eq_true]
  have hg : ∀ k (h : k < p.length), p.getD k 0 = p[k] := fun k h => by rw [List.getD, List.getElem?_eq_getElem h, Option.getD_some]
  constructor
  · intro h
    refine ⟨hl, fun x hx => ?_, zdG.2 fun k hk => ?_⟩
    · obtain ⟨k, hk, rfl⟩ := List.getElem_of_mem hx
      have := h k (List.mem_range.2 (by omega))
      simp only [zrB, hg k hk] at this
      simp at this
      exact this.1
    · have := h k (List.mem_range.2 (by omega))
      simp only [zrB, hg k hk] at this
      simp at this
      exact this.2
  · rintro ⟨_, h1, h2⟩ k hk
    have hk := List.mem_range.1 hk
    have a := h1 _ (List.getElem_mem (show k < p.length by omega))
    have b := zdG.1 h2 k (by omega)
    simp only [zrB, hg k (by omega)]
    simp [a, b]
theorem zoz {Q : List (List Int)} {N : Nat} (hN : N <= 1000) (hQ : Q.length < 4611686018427387904) : z2r Q (N : Int) = some (Q.all (zcp N)) := by
  unfold z2r
  rw [zcB (b := z1L Q (N : Int)) (l := Q) [] (zcp N) (A := some false) (B := some true) hQ ?_ ?_]
  · cases Q.all (zcp N) <;> rfl
  · intro k hk
    have hg : Q.getD k [] = Q[k] := by rw [List.getD, List.getElem?_eq_getElem hk, Option.getD_some]
    simp only [z1L]
    rw [if_pos (by omega), z0S hk, Option.bind_some, hg]
    generalize Q[k] = p
    by_cases hl : p.length = N
    · rw [if_pos (by omega), z0n _ (by unfold z1i; omega), Int.toNat_natCast, ← zrf hl,
        z5w (s := ((0 : Int), List.replicate N false)) N (fun t => ((t : Int), zcz N (p.take t))) (zrB N p) (fun _ => z0k (some false)) (x := z0e ((k + 1 : Nat) : Int)) (by rw [List.take_zero, zsh]; rfl) (by simp only [LFm]; omega) ?_ ?_]
      · rw [z8J]
      · intro t ht
        have ht' : t < p.length := by omega
        have hgt : p.getD t 0 = p[t] := by rw [List.getD, List.getElem?_eq_getElem ht', Option.getD_some]
        simp only [z2v, zrB, hgt]
        rw [if_pos (by omega), z0S ht', Option.bind_some, zoa ht']
        generalize p[t] = v
        by_cases c1 : v < 0
        · rw [if_pos c1, if_pos (by simp; omega)]
        · rw [if_neg c1]
          by_cases c2 : (N : Int) <= v
          · rw [if_pos c2, if_pos (by simp; omega)]
          · obtain ⟨u, rfl⟩ := Int.eq_ofNat_of_zero_le (show 0 <= v by omega)
            rw [if_neg c2, zqE (by omega), Option.bind_some]
            by_cases c3 : (u : Int) ∈ p.take t
            · rw [if_pos (by simpa using c3), if_pos (by simp [c3])]
            · rw [if_neg (by simpa using c3), if_neg (by simp [c3]; omega), z0W (by omega), Int.toNat_natCast, zoK (by omega)]
      · simp only [z2v]
        rw [if_neg (by omega), z0W (by omega)]
    · have : zcp N p = false := by unfold zcp; rw [decide_eq_false hl]; rfl
      rw [if_neg (by omega), this, if_neg (by simp)]
  · simp only [z1L]
    rw [if_neg (by omega)]
end
section
open Go
set_option maxRecDepth 100000
def zpv (n : Nat) (s : Int) : Bool := decide (0 <= s /\ s < ((2 ^ n : Nat) : Int))
theorem ziG {n : Nat} {s : Int} : zpv n s = true ↔ 0 <= s /\ s.toNat < 2 ^ n := by
  unfold zpv; rw [decide_eq_true_eq]; omega
def zqK (d : DFA) (h : Hol) (k : Nat) : Bool := decide (((z2U d h.set.toNat (h.words.getD k ByteArray.empty).data.toList : Nat) : Int) = h.set) && (List.range h.tiles.length).all fun i => decide (((z2U d (h.tiles.getD i 0).toNat (h.words.getD k ByteArray.empty).data.toList : Nat) : Int) = h.tiles.getD ((h.perms.getD k []).getD i 0).toNat 0)
def zv5 (d : DFA) (m n : Nat) (h : Hol) : Bool := zpv n h.set && (decide (h.words.length = h.perms.length) && (decide (1 <= h.tiles.length /\ h.tiles.length <= 32) && (h.tiles.all (zpv n) && ((List.range h.words.length).all fun k => decide (zdV m (h.words.getD k ByteArray.empty)) && (zcp h.tiles.length (h.perms.getD k []) && zqK d h k)))))
section
variable {d : DFA} {m n : Nat} (hd : DfaOk d m n) (hn : n <= 12) {h : Hol} (hs : zpv n h.set = true) (hT : h.tiles.all (zpv n) = true) (hl : h.tiles.length <= 32)
include hd hn hs hT hl
end
end
section
open Go
set_option maxRecDepth 100000
theorem znn {d : DFA} {m n : Nat} {h : Hol} : zv5 d m n h = true ↔ zpv n h.set = true /\ h.words.length = h.perms.length /\ (1 <= h.tiles.length /\ h.tiles.length <= 32) /\ h.tiles.all (zpv n) = true /\ ∀ k, k < h.words.length -> zdV m (h.words.getD k ByteArray.empty) /\ zcp h.tiles.length (h.perms.getD k []) = true /\ zqK d h k = true := by
  unfold zv5
  simp only [Bool.and_eq_true, decide_eq_true_eq, List.all_eq_true, List.mem_range]
section
variable {d : DFA} {m n : Nat} (hd : DfaOk d m n) (hn : n <= 12) {h : Hol} (hw : h.words.length < 2 ^ 61) (hp : h.perms.length < 2 ^ 61)
include hd hn hw hp
end
end
section
open Go
set_option maxRecDepth 100000
def zt0 (a : Nat) : ByteArray := ⟨#[UInt8.ofNat (IntKind.u8.wrap (IntKind.i64.wrap (97 + (a : Int)))).toNat]⟩
def zk4 (W : List ByteArray) (w : ByteArray) : Nat -> Option (List Int)
  | 0 => some []
  | a + 1 => match zk4 W w a with
    | none => none
    | some row => if z7G w (zt0 a) then (match z0o (z2P W (a : Int) row) LFm (w ++ zt0 a, -1) with
      | some (.inl (x, r)) => if x = ((a + 1 : Nat) : Int) then some r else none
      | _ => none) else none
def zrz (m L : Nat) : Bool := match z5a m L with
  | none => false
  | some W => decide (1 <= W.length) && decide (W.length <= 7) && W.all fun w => match zk4 W w m with
    | none => false
    | some r => decide (r.length = m) && r.all fun x => decide (0 <= x /\ x < (W.length : Int))
theorem zrc : zrz 1 1 = true /\ zrz 1 2 = true /\ zrz 2 1 = true /\ zrz 2 2 = true := ⟨by kernel_rfl, by kernel_rfl, by kernel_rfl, by kernel_rfl⟩
theorem zsR {m : Nat} {W : List ByteArray} {i : Int} {fs : List Bool} {rs : List (List Int)} {w : ByteArray} {v : Int × Tape} {r : List Int} (hm : m <= 6) (h : zk4 W w m = some r) :
    z0o (z2o (m : Int) W i fs rs w v) LFm (0, []) = chk (z1q 24 (rs.length + 1)) (z0e (IntKind.i64.wrap (i + 1), v.2.l, v.2.at_, fs ++ [decide (v.1 = 1)], rs ++ [r])) := by
  have key : ∀ a, a <= m -> ∃ r', zk4 W w a = some r' := by
    have : ∀ j a, a + j = m -> ∃ r', zk4 W w a = some r' := by
      intro j
      induction j with
      | zero => intro a ha; obtain rfl : a = m := by omega
                exact ⟨r, h⟩
      | succ j ih =>
        intro a ha
        obtain ⟨r', hr'⟩ := ih (a + 1) (by omega)
        rw [zk4] at hr'
        split at hr'
        · cases hr'
        · rename_i row hrow; exact ⟨row, hrow⟩
    intro a ha
    exact this (m - a) a (by omega)
  refine z0K (s := ((0 : Int), ([] : List Int))) m (fun a => ((a : Int), (zk4 W w a).getD [])) rfl (by simp only [LFm]; omega) (fun a ha => ?_) ?_
  · obtain ⟨r1, h1⟩ := key a (by omega)
    obtain ⟨r2, h2⟩ := key (a + 1) (by omega)
    rw [h1, h2, Option.getD_some, Option.getD_some]
    rw [zk4, h1] at h2
    simp only [z2o]
    rw [if_pos (by omega)]
    dsimp only at h2
    split at h2
    case isFalse => cases h2
    rename_i hc
    change chk (z7G w (zt0 a)) (z0o (z2P W (a : Int) r1) LFm (w ++ zt0 a, -1)) = _
    rw [z0n _ hc]
    split at h2
    · rename_i x q hq
      split at h2
      · rename_i hx
        cases h2
        rw [← hx]
        exact hq
      · cases h2
    · cases h2
  · simp only [z2o]
    rw [if_neg (by omega), h, Option.getD_some]
end
section
open Go
set_option maxRecDepth 100000
def defT : List (List Int) := [[1, 2], [3, 4], [5, 6], [3, 4], [5, 6], [3, 4], [5, 6]]
theorem zxM (l s : Int) (f : List Bool) : (z3A ⟨l, s, f, defT⟩ 2 7).length = 10 := by kernel_rfl
def zrq (m L : Nat) : Bool := match z5a m L with
  | none => true
  | some W => decide (W.length <= 4) || (decide (W.length = 7) && decide (m = 2) && decide ((W.map fun w => zk4 W w m) = defT.map some))
theorem zrI : zrq 1 1 = true /\ zrq 1 2 = true /\ zrq 2 1 = true /\ zrq 2 2 = true := ⟨by kernel_rfl, by kernel_rfl, by kernel_rfl, by kernel_rfl⟩
theorem zlV (m L : Nat) : match z5a m L with
  | none => True
  | some W => 1 <= m /\ m <= 2 -> 1 <= L /\ L <= 2 -> W.length <= 4 ∨ (W.length = 7 /\ m = 2 /\ (W.map fun w => zk4 W w m) = defT.map some) := by
  cases hW : z5a m L with
  | none => trivial
  | some W =>
    intro hm hL
    have h : zrq m L = true := by
      obtain ⟨c1, c2, c3, c4⟩ := zrI
      rcases (by omega : (m = 1 /\ L = 1) ∨ (m = 1 /\ L = 2) ∨ (m = 2 /\ L = 1) ∨ (m = 2 /\ L = 2)) with ⟨rfl, rfl⟩ | ⟨rfl, rfl⟩ | ⟨rfl, rfl⟩ | ⟨rfl, rfl⟩
      · exact c1
      · exact c2
      · exact c3
      · exact c4
    unfold zrq at h
    rw [hW] at h
    simpa [and_assoc] using h
theorem ziC {d : DFA} {m n : Nat} (hd : DfaOk d m n) (hn : n <= 5) : (z3A d m n).length <= 32 := by
  have hS := zem hd
  have := z1C hS.nd hS.lt
  have h32 : 2 ^ n <= 32 := Nat.pow_le_pow_right (n := 2) (by omega) hn
  omega
theorem zgP {t : Tape} (ht : TapeOk t) (m : Nat) (hm : 1 <= m /\ m <= 2) : ∃ d t' n, z2Y t m = some (d, t') /\ DfaOk d m n /\ n <= 7 /\ TapeOk t' /\ (n <= 4 ∨ (n = 7 /\ m = 2 /\ d.next = defT)) := by
  unfold z2Y
  obtain ⟨v, t1, e1, v0, v1, ht1⟩ := z4J ht 2 (by omega) (by omega)
  simp only [e1, Option.bind_some]
  obtain ⟨k, rfl⟩ := Int.eq_ofNat_of_zero_le v0
  have hw : IntKind.i64.wrap (1 + (k : Int)) = ((k + 1 : Nat) : Int) := by rw [z1N (by omega) (by omega)]; omega
  rw [hw]
  have hchk : zrz m (k + 1) = true := by
    obtain ⟨c1, c2, c3, c4⟩ := zrc
    rcases (by omega : (m = 1 /\ k = 0) ∨ (m = 1 /\ k = 1) ∨ (m = 2 /\ k = 0) ∨ (m = 2 /\ k = 1)) with ⟨rfl, rfl⟩ | ⟨rfl, rfl⟩ | ⟨rfl, rfl⟩ | ⟨rfl, rfl⟩
    · exact c1
    · exact c2
    · exact c3
    · exact c4
  have hsmall := zlV m (k + 1)
  have htab : m = 2 /\ k = 1 ∨ ¬ (m = 2 /\ k = 1) := Decidable.em _
  unfold zrz at hchk
  split at hchk
  · cases hchk
  rename_i W hW
  simp only [Bool.and_eq_true, decide_eq_true_eq, List.all_eq_true] at hchk
  obtain ⟨⟨hW1, hW7⟩, hrow⟩ := hchk
  rw [hW, Option.bind_some]
  have hfin : ∀ nx : List (List Int), nx.map some = (W.map fun w => zk4 W w m) -> W.length <= 4 ∨ (W.length = 7 /\ m = 2 /\ nx = defT) := fun nx hnx => by
    rw [hW] at hsmall
    rcases hsmall hm (by omega) with h | ⟨h1, h2, h3⟩
    · exact .inl h
    · refine .inr ⟨h1, h2, ?_⟩
      rw [h3] at hnx
      have := congrArg (fun l => l.map (fun o : Option (List Int) => o.getD [])) hnx
      simpa [Function.comp_def] using this
  refine Exists.elim (z1z (b := z2X (m : Int) W) (fun z => 0 <= z.1 /\ z.1 <= W.length /\ TapeOk ⟨z.2.1, z.2.2.1⟩ /\ (z.2.2.2.1.length : Int) = z.1 /\ (z.2.2.2.2.length : Int) = z.1 /\ (∀ r ∈ z.2.2.2.2, z7k m W.length r) /\ z.2.2.2.2.map some = (W.take z.1.toNat).map fun w => zk4 W w m) (fun z => W.length + 1 - z.1.toNat)
    (fun r => DfaOk r.1 m W.length /\ TapeOk r.2 /\ r.1.next.map some = W.map fun w => zk4 W w m) ?_ LFm (0, t1.l, t1.at_, [], []) ⟨by simp, by simp, ht1, by simp, by simp, by simp, by simp⟩ (by simp only [LFm]; omega)) fun r h => ⟨r.1, r.2, W.length, h.1, h.2.1, hW7, h.2.2.1, hfin r.1.next h.2.2.2⟩
  rintro ⟨i, tl, ta, fs, rs⟩ ⟨i0, i1, i2, i3, i4, i5, i6⟩
  simp only at i0 i1 i2 i3 i4 i5 i6 ⊢
  obtain ⟨i, rfl⟩ := Int.eq_ofNat_of_zero_le i0
  simp only [z2X]
  by_cases hi : (i : Int) < (W.length : Int)
  · left
    have hi' : i < W.length := by omega
    rw [if_pos hi, z0S hi', Option.bind_some]
    obtain ⟨u, t3, e3, u0, u1, ht3⟩ := z4J i2 2 (by omega) (by omega)
    rw [e3, Option.bind_some, z0n _ (by unfold z1q; omega)]
    have hr := hrow _ (List.getElem_mem hi')
    split at hr
    · cases hr
    rename_i r hr0
    simp only [Bool.and_eq_true, decide_eq_true_eq, List.all_eq_true] at hr
    rw [zsR (by omega) hr0, z0n _ (by unfold z1q; omega), z1N (by omega) (by omega)]
    refine ⟨_, rfl, ⟨by simp only; omega, by simp only; omega, ht3, by simp only [List.length_append, List.length_singleton]; omega, by simp only [List.length_append, List.length_singleton]; omega, fun y hy => ?_, ?_⟩, by simp only; omega⟩
    rotate_left
    · rw [Int.toNat_natCast] at i6
      have e : ((i : Int) + 1).toNat = i + 1 := by omega
      rw [e, List.map_append, i6, List.take_succ_eq_append_getElem hi', List.map_append, List.map_cons, List.map_nil, List.map_cons, List.map_nil, hr0]
    rcases za0.1 hy with h | rfl
    · exact i5 y h
    · exact ⟨hr.1, fun x hx => hr.2 x hx⟩
  · right
    rw [if_neg hi]
    exact ⟨_, rfl, ⟨rfl, by omega, by omega, by omega, by simp only; omega, by simp only; omega, by simp only; omega, by simp only; omega, i5⟩, i2, by rw [i6, show (i : Int).toNat = W.length by omega, List.take_length]⟩
theorem zrj {t : Tape} (ht : TapeOk t) (m : Nat) (hm : 1 <= m /\ m <= 2) : ∃ d t' n, z4M t m 4 = some (d, t') /\ DfaOk d m n /\ n <= 7 /\ TapeOk t' /\ (z3A d m n).length <= 32 /\ (n <= 4 ∨ (n = 7 /\ m = 2 /\ d.next = defT)) := by
  unfold z4M
  obtain ⟨v, t1, e1, v0, v1, ht1⟩ := z4J ht 6 (by omega) (by omega)
  simp only [e1, Option.bind_some]
  split
  · obtain ⟨d, t', n, e, h1, h2, h3⟩ := zke ht1 m 4 (by omega) (by omega)
    exact ⟨d, t', n, by have e' : z2H t1 (m : Int) 4 = some (d, t') := e; rw [e', Option.bind_some], h1, by omega, h3, ziC h1 (by omega), .inl (by omega)⟩
  · split
    · have : (if (4 : Int) < 4 then (4 : Int) else 4) = ((4 : Nat) : Int) := by split <;> rfl
      rw [this]
      obtain ⟨d, t', n, e, h1, h2, h3⟩ := zoy ht1 m 4 (by omega) (by omega)
      exact ⟨d, t', n, by rw [e, Option.bind_some], h1, by omega, h3, ziC h1 (by omega), .inl (by omega)⟩
    · split
      · obtain ⟨d, t', n, e, h1, h2, h3, h4⟩ := zgP ht1 m hm
        refine ⟨d, t', n, by rw [e, Option.bind_some], h1, h2, h3, ?_, h4⟩
        rcases h4 with h4 | ⟨rfl, rfl, h4⟩
        · exact ziC h1 (by omega)
        · obtain ⟨l, s, f, nx⟩ := d
          simp only at h4
          subst h4
          rw [zxM]; omega
      · obtain ⟨d, t', n, e, h1, h2, h3⟩ := zpM ht1 m 4 (by omega) (by omega)
        exact ⟨d, t', n, by have e' : z3C t1 (m : Int) 4 = some (d, t') := e; rw [e', Option.bind_some], h1, by omega, h3, ziC h1 (by omega), .inl (by omega)⟩
end
section
open Go
set_option maxRecDepth 100000
structure HolOk (m n : Nat) (h : Hol) : Prop where
  t1 : 1 <= h.tiles.length
  t2 : h.tiles.length <= 32
  wp : h.words.length = h.perms.length
  wl : h.words.length <= 1000
  wb : ∀ w ∈ h.words, w.size <= 257
  pl : ∀ p ∈ h.perms, p.length = h.tiles.length
section
variable {d : DFA} {m n : Nat} {S : List Nat} (hd : DfaOk d m n) (hn : n <= 7) (hS : SetsP d m n S)
include hd hn hS
theorem zgF {c : Nat} (hc : c < (z6t d m n S).length) (hz : szN (S.getD (z0R d m n S c) 0) ≠ 1) (hpos : ∀ x ∈ S, x ≠ 0) (h32 : S.length <= 32) : HolOk m n (z9D d m n S c) /\ zv5 d m n (z9D d m n S c) = true := by
  have h128 : 2 ^ n <= 128 := Nat.pow_le_pow_right (n := 2) (by omega) hn
  have h6 := hd.m6
  have hk := (z1R hd hn hS hc).2
  have hI := znD hd hn hS (c := c) S.length (Nat.le_refl _)
  obtain ⟨t1, t2⟩ := z5t hd hn hS hk
  have tl32 : (z1e S (z0R d m n S c)).length <= S.length := z9t t1 fun t ht => (t2 t ht).1
  have hkl := hS.lt _ (z0h hk)
  have tpos : 1 <= (z1e S (z0R d m n S c)).length := by
    have hne := hpos _ (z0h hk)
    obtain ⟨q, hq⟩ : ∃ q, (S.getD (z0R d m n S c) 0).testBit q = true := by
      refine Classical.byContradiction fun h => hne (Nat.eq_of_testBit_eq fun q => ?_)
      rw [Nat.zero_testBit]
      cases hh : (S.getD (z0R d m n S c) 0).testBit q with
      | false => rfl
      | true => exact absurd ⟨q, hh⟩ h
    obtain ⟨t, ht, _⟩ := zlU hd hn hS hk hz hq
    have := List.length_pos_of_mem ht
    rw [zlR]; omega
  have hB : S.length * m <= 32 * 6 := Nat.mul_le_mul h32 h6
  have hbd := hI.bd
  have hln := hI.len
  have htI : (toI (z1e S (z0R d m n S c))).length = (z1e S (z0R d m n S c)).length := z0d _
  refine ⟨⟨by simp only [z9D]; omega, by simp only [z9D]; omega, by simp only [z9D, List.length_map]; omega, by simp only [z9D]; omega, fun w hw => ?_, fun p hp => ?_⟩, znn.2 ⟨?_, by simp only [z9D, List.length_map]; omega, by simp only [z9D]; omega, ?_, fun j hj => ?_⟩⟩
  · simp only [z9D] at hw
    obtain ⟨j, hj, rfl⟩ := List.getElem_of_mem hw
    obtain ⟨_, e, _⟩ := zaa hI hj
    rw [List.getD, List.getElem?_eq_getElem hj, Option.getD_some] at e
    omega
  · simp only [z9D] at hp ⊢
    obtain ⟨y, hy, rfl⟩ := List.mem_map.1 hp
    rw [z0d, z0d, zj6 hI y hy]
  · simp only [z9D]; exact ziG.2 ⟨by omega, by rw [Int.toNat_natCast]; exact hkl⟩
  · simp only [z9D]
    refine List.all_eq_true.2 fun x hx => ?_
    obtain ⟨t, ht, rfl⟩ := List.mem_map.1 hx
    exact ziG.2 ⟨by omega, by rw [Int.toNat_natCast]; exact (t2 t ht).2.2⟩
  · simp only [z9D] at hj ⊢
    obtain ⟨l1, l2, l3⟩ := zaa hI hj
    have hj2 : j < (zfc d m n S (z1e S (z0R d m n S c)) c S.length).2.length := by omega
    have ep : ((zfc d m n S (z1e S (z0R d m n S c)) c S.length).2.map toI).getD j [] = toI ((zfc d m n S (z1e S (z0R d m n S c)) c S.length).2.getD j []) := by
      simp [List.getD, hj2]
    rw [l3] at ep
    obtain ⟨p1, p2, p3⟩ := z5Z hd hn hS hk l1
    generalize hw : (zfc d m n S (z1e S (z0R d m n S c)) c S.length).1.getD j ByteArray.empty = w at *
    refine ⟨⟨by omega, l1.hw⟩, ?_, ?_⟩
    · rw [ep, htI]
      refine zet.2 ⟨by rw [z0d, z5N], fun x hx => ?_, ?_⟩
      · obtain ⟨y, hy, rfl⟩ := List.mem_map.1 hx
        have := p2 y hy
        omega
      · exact List.Pairwise.map _ (fun a b (hab : a ≠ b) => by intro e; exact hab (by omega)) p1
    · unfold zqK
      simp only [z9D]
      rw [hw, ep, htI, Bool.and_eq_true, decide_eq_true_eq, Int.toNat_natCast]
      refine ⟨by rw [l1.run], List.all_eq_true.2 fun i hi => ?_⟩
      have hi := List.mem_range.1 hi
      have hpi : i < (z1B d w.data.toList (z1e S (z0R d m n S c))).length := by rw [z5N]; exact hi
      have g1 : (toI (z1e S (z0R d m n S c))).getD i 0 = (((z1e S (z0R d m n S c)).getD i 0 : Nat) : Int) := by simp [toI, List.getD, hi]
      have g2 : (toI (z1B d w.data.toList (z1e S (z0R d m n S c)))).getD i 0 = (((z1B d w.data.toList (z1e S (z0R d m n S c))).getD i 0 : Nat) : Int) := by simp [toI, List.getD, hpi]
      have hlt := p2 _ (z0h hpi)
      have g3 : (toI (z1e S (z0R d m n S c))).getD ((z1B d w.data.toList (z1e S (z0R d m n S c))).getD i 0) 0 = (((z1e S (z0R d m n S c)).getD ((z1B d w.data.toList (z1e S (z0R d m n S c))).getD i 0) 0 : Nat) : Int) := by
        generalize (z1B d w.data.toList (z1e S (z0R d m n S c))).getD i 0 = q at *
        simp [toI, List.getD, hlt]
      rw [g1, g2, Int.toNat_natCast, Int.toNat_natCast, g3, p3 i hi, decide_eq_true_eq]
end
end
section
open Go
noncomputable section
set_option maxRecDepth 100000
set_option maxHeartbeats 6000000
abbrev z5M (a0 : List Int) (a1 : List Int) : Int -> Option (Int ⊕ Bool)
  | w10 =>
  if w10 < (a0.length : Int) then
    (atI a0 w10).bind fun v13 =>
    (atI a1 w10).bind fun v14 =>
    if v13 = v14 then
      z0e (IntKind.i64.wrap (w10 + 1))
    else
      z0k <|
      some false
  else
    z0k <|
    some true
instance {a0 : List Int} {a1 : List Int} : Hd (z5M a0 a1) := ⟨fun w10 => ([(13, xI w10)], [])⟩
def z6X (a0 : List Int) (a1 : List Int) : Option (Bool) :=
  if (a0.length : Int) = (a1.length : Int) then
    z0o (z5M a0 a1) LFm 0
  else
    some false
instance ref03_Same_ok {a0 : List Int} {a1 : List Int} : Ok (z6X a0 a1) (fun r => L 17 [.sl a0.length (a0.map fun x0 => .sc (.int .i64 x0)), .sl a1.length (a1.map fun x0 => .sc (.int .i64 x0))] = some (.sc (.bool r), [.dead, .dead])) := ⟨fun r h => by have h := z4c h; unfold z6X at h; exact z4E zvR zxH zzD⟩
abbrev z3f (w225 : List (List Int)) (v276 : List Int) (w293 : Int) : Int × List (List Int) × (List (ByteArray × Bool)) -> Option ((Int × List (List Int) × (List (ByteArray × Bool))) ⊕ ((Int × List (List Int) × (List (ByteArray × Bool))) ⊕ ((Int × List (List Int) × (List (ByteArray × Bool)) × List (List Int)) ⊕ (List (List Int) × Int))))
  | (w315, w316, w317) =>
  if w315 < ((w225.length : Int) + 1) then
    (atI (w225 ++ [v276]) w315).bind fun v322 =>
    (atI w316 w293).bind fun v323 =>
    (z4i v323 v322).bind fun v324 =>
    (z5c v324).bind fun v325 =>
    if ((zad v325 w317).getD false) = true then
      z0e (IntKind.i64.wrap (w315 + 1), w316, w317)
    else
      chk (z1q 24 (w316.length + 1)) <|
      z0e (IntKind.i64.wrap (w315 + 1), w316 ++ [v324], z9R v325 true w317)
  else
    z0k <|
    if 2000 < (w316.length : Int) then
      z0k <|
      z0k <|
      some ([], 3)
    else
      z0e (IntKind.i64.wrap (w293 + 1), w316, w317)
instance {w225 : List (List Int)} {v276 : List Int} {w293 : Int} : Hd (z3f w225 v276 w293) := ⟨fun (w315, w316, w317) => ([(57, xI w315)], [(6, .os 1 w316.length (w316.map fun x0 => .sl x0.length (x0.map fun x1 => .sc (.int .i64 x1)))), (7, .mp none (w317.map fun x0 => (.string x0.1, .bool x0.2)))])⟩
abbrev z3g (w222 : Int) (w225 : List (List Int)) (v276 : List Int) : Int × List (List Int) × (List (ByteArray × Bool)) -> Option ((Int × List (List Int) × (List (ByteArray × Bool))) ⊕ ((Int × List (List Int) × (List (ByteArray × Bool)) × List (List Int)) ⊕ (List (List Int) × Int)))
  | (w293, w294, w295) =>
  if w293 < (w294.length : Int) then
    z0o (z3f w225 v276 w293) LFm (0, w294, w295)
  else
    z0k <|
    z0e (IntKind.i64.wrap (w222 + 1), w294, w295, w225 ++ [v276])
instance {w222 : Int} {w225 : List (List Int)} {v276 : List Int} : Hd (z3g w222 w225 v276) := ⟨fun (w293, w294, w295) => ([(11, xI w293)], [(6, .os 1 w294.length (w294.map fun x0 => .sl x0.length (x0.map fun x1 => .sc (.int .i64 x1)))), (7, .mp none (w295.map fun x0 => (.string x0.1, .bool x0.2)))])⟩
abbrev z3O (a0 : List (List Int)) : Int × List (List Int) × (List (ByteArray × Bool)) × List (List Int) -> Option ((Int × List (List Int) × (List (ByteArray × Bool)) × List (List Int)) ⊕ (List (List Int) × Int))
  | (w222, w223, w224, w225) =>
  if w222 < (a0.length : Int) then
    (atI a0 w222).bind fun v276 =>
    (z5c v276).bind fun v277 =>
    if ((zad v277 w224).getD false) = true then
      z0e (IntKind.i64.wrap (w222 + 1), w223, w224, w225)
    else
      chk (z1q 24 (w225.length + 1)) <|
      z0o (z3g w222 w225 v276) LFm (0, w223, w224)
  else
    z0k <|
    (zjK w223).bind fun v326 =>
    some (v326, 0)
instance {a0 : List (List Int)} : Hd (z3O a0) := ⟨fun (w222, w223, w224, w225) => ([(37, xI w222)], [(6, .os 1 w223.length (w223.map fun x0 => .sl x0.length (x0.map fun x1 => .sc (.int .i64 x1)))), (7, .mp none (w224.map fun x0 => (.string x0.1, .bool x0.2))), (8, .os 1 w225.length (w225.map fun x0 => .sl x0.length (x0.map fun x1 => .sc (.int .i64 x1))))])⟩
def z3K (a0 : List (List Int)) : Option (List (List Int) × Int) :=
  if (a0.length : Int) = 0 then
    some ([], 1)
  else
    (atI a0 0).bind fun v164 =>
    (z3e a0 (v164.length : Int)).bind fun v165 =>
    if v165 = true then
      (z4n (v164.length : Int)).bind fun v166 =>
      (z5c v166).bind fun v167 =>
      z0o (z3O a0) LFm (0, [v166], z9R v167 true ([] : List (ByteArray × Bool)), [])
    else
      some ([], 4)
instance group_Generate_ok {a0 : List (List Int)} : Ok (z3K a0) (fun r => L 22 [.sl a0.length (a0.map fun x0 => .sl x0.length (x0.map fun x1 => .sc (.int .i64 x1)))] = some (.tup [.sl r.1.length (r.1.map fun x0 => .sl x0.length (x0.map fun x1 => .sc (.int .i64 x1))), .sc (.int .i64 r.2)], [.dead])) := ⟨fun r h => by have h := z4c h; unfold z3K at h; exact zi9 zvM zxC zzy⟩
abbrev z2A (a0 : Hol) : Int × List Int -> Option ((Int × List Int) ⊕ (List (List Int) × Int))
  | (w8, w9) =>
  if w8 < (a0.tiles.length : Int) then
    (atI w9 w8).bind fun v11 =>
    z0e (IntKind.i64.wrap (w8 + 1), (w9.set w8.toNat w8))
  else
    z0k <|
    if (a0.perms.length : Int) = 0 then
      some ([w9], 0)
    else
      (z3K a0.perms).bind fun v12 =>
      some (v12.1, v12.2)
instance {a0 : Hol} : Hd (z2A a0) := ⟨fun (w8, w9) => ([(27, xI w8)], [(5, .os 1 w9.length (w9.map fun x0 => .sc (.int .i64 x0)))])⟩
def z2I (a0 : Hol) : Option (List (List Int) × Int) :=
  if (a0.tiles.length : Int) < 1 then
    some ([], 4)
  else
    if 32 < (a0.tiles.length : Int) then
      some ([], 4)
    else
      (z2r a0.perms (a0.tiles.length : Int)).bind fun v7 =>
      if v7 = true then
        chk (z1i 8 (a0.tiles.length : Int)) <|
        z0o (z2A a0) LFm (0, List.replicate (a0.tiles.length : Int).toNat (0 : Int))
      else
        some ([], 4)
instance holonomy_Elements_ok {a0 : Hol} : Ok (z2I a0) (fun r => L 9 [.agg [.sc (.int .i64 a0.set), .sl a0.tiles.length (a0.tiles.map fun x0 => .sc (.int .i64 x0)), .sl a0.words.length (a0.words.map fun x0 => .sc (.string x0)), .sl a0.perms.length (a0.perms.map fun x0 => .sl x0.length (x0.map fun x1 => .sc (.int .i64 x1)))]] = some (.tup [.sl r.1.length (r.1.map fun x0 => .sl x0.length (x0.map fun x1 => .sc (.int .i64 x1))), .sc (.int .i64 r.2)], [.dead])) := ⟨fun r h => by have h := z4c h; unfold z2I at h; exact zi9 zxS fn9 bd9⟩
end
end
section
open Go Go.RowKit Go.Sort
set_option maxRecDepth 100000
set_option maxHeartbeats 4000000
theorem z8e : ∀ x y : List Int, z7B y x = -z7B x y
  | [], [] => by simp [z7B]
  | [], _ :: _ => by simp [z7B]
  | _ :: _, [] => by simp [z7B]
  | a :: x, b :: y => by
    have ih := z8e x y
    simp only [z7B]
    by_cases h1 : a < b
    · have h2 : ¬ b < a := by omega
      simp only [if_neg h2, if_pos h1]; omega
    · by_cases h2 : b < a
      · simp only [if_pos h2, if_neg h1]
      · simp only [if_neg h2, if_neg h1]; exact ih
theorem z8L : ∀ x y z : List Int, z7B x y <= 0 -> z7B y z <= 0 -> z7B x z <= 0 /\ (z7B x z = 0 -> z7B x y = 0 /\ z7B y z = 0)
  | [], [], z, _, h2 => ⟨h2, fun e => ⟨by simp [z7B], e⟩⟩
  | [], b :: y, [], _, h2 => by simp [z7B] at h2
  | [], b :: y, c :: z, _, _ => by simp [z7B]
  | a :: x, [], _, h1, _ => by simp [z7B] at h1
  | a :: x, b :: y, [], _, h2 => by simp [z7B] at h2
  | a :: x, b :: y, c :: z, h1, h2 => by
    have ih := z8L x y z
    simp only [z7B] at h1 h2 ⊢
    by_cases h3 : a < b
    · by_cases h4 : b < c
      · rw [if_pos (show a < c by omega)]; exact ⟨by omega, fun e => by omega⟩
      · rw [if_neg h4] at h2
        by_cases h5 : c < b
        · rw [if_pos h5] at h2; omega
        · rw [if_pos (show a < c by omega)]; exact ⟨by omega, fun e => by omega⟩
    · rw [if_neg h3] at h1
      by_cases h4 : b < a
      · rw [if_pos h4] at h1; omega
      · rw [if_neg h4] at h1
        have hab : a = b := by omega
        subst hab
        by_cases h5 : a < c
        · simp only [if_pos h5]; exact ⟨by omega, fun e => by omega⟩
        · simp only [if_neg h5] at h2
          by_cases h6 : c < a
          · simp only [if_pos h6] at h2; omega
          · simp only [if_neg h6] at h2
            simp only [if_neg h5, if_neg h6, if_neg h3, if_neg h4]
            exact ih h1 h2
theorem zcF (x : List Int) : ∀ l : List (List Int), (zqO x l).Perm (x :: l)
  | [] => .refl _
  | y :: l => by
    unfold zqO
    split
    · exact .refl _
    · exact ((zcF x l).cons y).trans (.swap x y l)
theorem z8y : ∀ l : List (List Int), (zaF l).Perm l
  | [] => .refl _
  | x :: l => (zcF x (zaF l)).trans ((z8y l).cons x)
abbrev zrm (l : List (List Int)) : Prop := l.Pairwise fun a b => z7B a b <= 0
theorem zcE (x : List Int) : ∀ l : List (List Int), zrm l -> zrm (zqO x l)
  | [], _ => by simp [zqO]
  | y :: l, h => by
    unfold zqO
    rw [zrm, List.pairwise_cons] at h
    split
    · rename_i hxy
      refine List.pairwise_cons.2 ⟨fun z hz => ?_, List.pairwise_cons.2 h⟩
      rcases List.mem_cons.1 hz with rfl | hz
      · exact hxy
      · exact (z8L _ _ _ hxy (h.1 z hz)).1
    · rename_i hxy
      refine List.pairwise_cons.2 ⟨fun z hz => ?_, zcE x l h.2⟩
      rcases List.mem_cons.1 ((zcF x l).mem_iff.1 hz) with rfl | hz
      · rw [z8e]; omega
      · exact h.1 z hz
theorem zb3 : ∀ l : List (List Int), zrm (zaF l)
  | [] => by simp [zaF]
  | x :: l => zcE x _ (zb3 l)
theorem zoh {l r : List (List Int)} (h : l.Perm r) (h1 : zrm l) (h2 : zrm r) : l = r := by
  refine List.Perm.eq_of_pairwise (le := fun a b => z7B a b <= 0) (fun a b _ _ h3 h4 => ?_) h1 h2 h
  rw [z8e] at h4
  exact (zcZ a b).1 (by omega)
def zkZ (B : Nat) (K : Nat -> z0a) (b : Nat) : z0a := if B <= b then [0] else K b
def rwN (n j : Nat) : Nat := if j < n then j else 0
def cfR (rows : List (List Int)) (i j : Nat) : Int := z7B (rows.getD (rwN rows.length i) []) (rows.getD (rwN rows.length j) [])
theorem zww (rows : List (List Int)) : SWO (ltOf (cfR rows)) where
  irrefl x := by
    unfold ltOf cfR
    rw [(zcZ _ _).2 rfl]; simp
  trans x y z h1 h2 := by
    unfold ltOf cfR at *
    simp only [decide_eq_true_eq] at *
    obtain ⟨a, b⟩ := z8L _ _ _ (Int.le_of_lt h1) (Int.le_of_lt h2)
    rcases Int.lt_or_eq_of_le a with h | h
    · exact h
    · have := (b h).1; omega
  ntrans x y z h1 h2 := by
    unfold ltOf cfR at *
    simp only [decide_eq_false_iff_not] at *
    rw [z8e] at h1 h2 ⊢
    have := (z8L _ _ _ (show z7B (rows.getD (rwN rows.length z) []) (rows.getD (rwN rows.length y) []) <= 0 by omega) (show z7B (rows.getD (rwN rows.length y) []) (rows.getD (rwN rows.length x) []) <= 0 by omega)).1
    omega
theorem zhj {rows : List (List Int)} {d' : Array Nat} (hp : PermIn 0 (List.range rows.length).toArray.size (List.range rows.length).toArray d') (hs : SortedIn (ltOf (cfR rows)) 0 (List.range rows.length).toArray.size d') : d'.size = rows.length /\ (∀ x ∈ d'.toList, x < rows.length) /\ d'.toList.map (fun j => rows.getD j []) = zaF rows := by
  obtain ⟨h1, _, h3⟩ := hp
  have hsz : d'.size = rows.length := by simpa using h1
  have hp2 : d'.toList.Perm (List.range rows.length) := by
    have : (d'.extract 0 (List.range rows.length).toArray.size).toList = d'.toList := by
      rw [← h1]; simp
    rw [this] at h3
    simp at h3
    exact h3
  have hlt : ∀ x ∈ d'.toList, x < rows.length := fun x hx => List.mem_range.1 (hp2.mem_iff.1 hx)
  have e1 : (List.range rows.length).map (fun j => rows.getD j []) = rows := by
    refine List.ext_getElem (by simp) fun i h1 h2 => ?_
    simp [List.getD, h2]
  refine ⟨hsz, hlt, zoh ?_ ?_ (zb3 rows)⟩
  · have := hp2.map (fun j => rows.getD j [])
    rw [e1] at this
    exact this.trans (z8y rows).symm
  · rw [zrm, List.pairwise_iff_getElem]
    intro i j hi hj hij
    simp only [List.length_map, Array.length_toList] at hi hj
    have := hs i j (by omega) hij (by simp; omega)
    rw [getElem!_pos d' i hi, getElem!_pos d' j hj] at this
    unfold ltOf cfR rwN at this
    simp only [decide_eq_false_iff_not] at this
    have l1 := hlt d'[i] (by simp)
    have l2 := hlt d'[j] (by simp)
    rw [if_pos l1, if_pos l2, z8e] at this
    simp only [List.getElem_map, Array.getElem_toList]
    omega
theorem zab {α : Type} [Inhabited α] {enc : α -> Value} {w : World} {g n : Nat} {os : Array Obj} {cur : Array Value} {e : TypeId} {fr : Nat × Nat} (d : Array α) (hb : w.heap[g]? = some (.cells cur e fr)) : (sortWorld enc w g 0 n d os).heap[g]? = some (.cells (putCells enc 0 d cur) e fr) := by
  unfold sortWorld
  rw [heap_grow_old _ _ (by rw [size_putRow]; exact z1w hb)]
  simp [putRow, mapBlock, Sort.ahead, Array.getElem?_modify, hb, onCells]
theorem z6r {α : Type} [Inhabited α] {enc : α -> Value} {w : World} {g n : Nat} {os : Array Obj} (d : Array α) {b : Nat} (hb : b < w.heap.size) (hne : b ≠ g) : (sortWorld enc w g 0 n d os).heap[b]? = w.heap[b]? := by
  unfold sortWorld
  rw [heap_grow_old _ _ (by rw [size_putRow]; exact hb)]
  simp [putRow, mapBlock, Sort.ahead, Array.getElem?_modify, Ne.symm hne]
theorem z7K {α : Type} [Inhabited α] {enc : α -> Value} {w : World} {g n : Nat} {os : Array Obj} (d : Array α) : w.heap.size <= (sortWorld enc w g 0 n d os).heap.size := by
  unfold sortWorld
  rw [size_grow, size_putRow]
  show w.heap.size <= w.heap.size + _
  omega
theorem zep {w w' : World} {K K' : Nat -> z0a} {c c' : z0a} {v : Value} {x : List Int} (h : TRep w K c v (zh4 x)) (hk : ∀ b, b < w.heap.size -> K b = [] -> K' b = [] /\ w'.heap[b]? = w.heap[b]?) (hs : w.heap.size <= w'.heap.size) : TRep w' K' c' v (zh4 x) /\ IntsAt w' v x := by
  unfold zh4 at *
  generalize hT : T.sl x.length (x.map fun z => T.sc (.int .i64 z)) = t at h
  cases h with
  | emp c a cap hc =>
    injection hT with e1 e2
    have : x = [] := List.eq_nil_of_length_eq_zero e1
    subst this
    exact ⟨.emp c' a cap hc, a, cap, rfl, by simp, hc, fun j hj => by simp at hj⟩
  | fro c g o n cap cs F hK hg hn hc hF hh =>
    injection hT with e1 e2
    subst e1 e2
    obtain ⟨k1, k2⟩ := hk g hg hK
    have hcell : ∀ j, j < x.length -> w'.cell? ⟨g, o + j, none⟩ = some (F j) := fun j hj => by
      rw [z1o k2]; exact hF j (by simpa using hj)
    have hv : ∀ j (hj : j < x.length), F j = .int .i64 (x.getD j 0) := fun j hj => by
      have := hh j (.sc (.int .i64 x[j])) (by simp [hj])
      rw [this.sc_eq, List.getD, List.getElem?_eq_getElem hj, Option.getD_some]
    refine ⟨.fro c' g o _ cap _ F k1 (by omega) hn hc (fun j hj => hcell j (by simpa using hj)) (fun j t ht => ?_), some ⟨g, o, none⟩, cap, rfl, hn, hc, fun j hj => ⟨g, o, rfl, by rw [hcell j hj, hv j hj]⟩⟩
    have := hh j t ht
    simp only [List.getElem?_map, Option.map_eq_some_iff] at ht
    obtain ⟨z, hz, rfl⟩ := ht
    rw [this.sc_eq]
    exact .sc _ _ rfl
  | _ => cases hT
theorem zos {w : World} {K : Nat -> z0a} {c : z0a} {v : Value} {x : List Int} (h : TRep w K c v (zh4 x)) : v.oneCell' = true := by
  unfold zh4 at h
  generalize hT : T.sl x.length (x.map fun z => T.sc (.int .i64 z)) = t at h
  cases h with
  | emp => rfl
  | fro => rfl
  | _ => cases hT
theorem zh7 {I : World -> (Nat -> z0a) -> Prop} {args : List T} {r : T} {outs : List T} (h : znP 42 args = some (r, outs)) : CallOk Tryz.prog I 41 args r outs := by
  unfold znP at h
  split at h
  case h_2 => cases h
  rename_i n cs f fs gs
  split at h
  case isFalse => cases h
  rename_i hfg
  obtain ⟨rfl, hfs, hgs⟩ := hfg
  simp only [Array.isEmpty_iff] at hfs hgs
  subst hfs hgs
  split at h
  case h_2 => cases h
  rename_i xs hxs
  split at h
  case isFalse => cases h
  rename_i hn
  subst hn
  unfold zjK at h
  split at h
  case isFalse => cases h
  rename_i hc
  obtain ⟨hne, hlen⟩ := hc
  obtain ⟨rfl, rfl⟩ : T.tup [] = r /\ [T.os 1 (zaF xs).length ((zaF xs).map zh4), .dead] = outs := by simpa using h
  have hcs := zga hxs
  subst hcs
  clear h hxs
  refine ⟨fun vals w => ?_, fun w K vals hs ha hI => ?_⟩
  · have hb : ∃ c, Tryz.f41.body = some c := ⟨_, rfl⟩
    obtain ⟨c, hb⟩ := hb
    have hname : Tryz.f41.name ≠ "runtime.NumGoroutine" := by decide
    simp [callFunc, program, Sem.run, Tryz.func41, hname, hb]
  · obtain ⟨v, u, rfl⟩ : ∃ v u, vals = #[v, u] := by
      obtain ⟨l⟩ := vals
      match l, hs with
      | [v, u], _ => exact ⟨v, u, rfl⟩
    have hv : TRep w K (col 0) v (.os 1 xs.length (xs.map zh4)) := ha 0 _ rfl
    have hu : TRep w K [] u (.sc (.func (.func 42) #[] #[])) := ha 1 _ rfl
    rw [hu.sc_eq]
    clear hu ha
    have hl0 : 0 < xs.length := List.length_pos_iff.2 hne
    generalize hT : T.os 1 xs.length (xs.map zh4) = t at hv
    cases hv with
    | nil => injection hT with _ e _; omega
    | own c g n cap size cs arr e fz F hfz hc0 hK hg hsz hl hz hn hcap hF hh =>
      injection hT with e1 e2 e3
      subst e1 e2 e3
      have hrow : ∀ j, j < xs.length -> TRep w K (col 0 ++ [j]) (F j) (zh4 (xs.getD j [])) := fun j hj => by
        have := hh j (zh4 xs[j]) (by simp [hj])
        rwa [List.getD, List.getElem?_eq_getElem hj, Option.getD_some]
      have hcell : ∀ j, j < xs.length -> arr[j]? = some (F j) := fun j hj => hF j (by simpa using hj)
      let enc : Nat -> Value := fun j => F (rwN xs.length j)
      have hdg : ∀ j, j < xs.length -> (List.range xs.length).toArray[j]! = j := fun j hj => by
        rw [getElem!_pos _ j (by simpa using hj)]; simp
      have hH : Holds enc w g 0 (List.range xs.length).toArray := fun j hj => by
        have hj' : j < xs.length := by simpa using hj
        constructor
        · rw [Nat.zero_add, z3h hg, hcell j hj', hdg j hj']
          show some (F j) = some (F (rwN xs.length j))
          rw [rwN, if_pos hj']
        · unfold World.frozen?
          rw [Nat.zero_add]
          simp only [hg]
          have := hfz j (by omega)
          obtain ⟨lo, hi⟩ := fz
          simp only at this ⊢
          simp only [Bool.and_eq_false_iff, decide_eq_false_iff_not]
          omega
      have eg : ∀ args w, (callFunc 42 args).run Tryz.prog w = .ok (.enter 42 args) w := enters_of Tryz.func42 (by kernel_rfl) rfl
      have hlay : ∀ (d : Array Nat) (m : Nat) (os : Array Obj) (b : Nat), b < w.heap.size -> K b = [] -> K b = [] /\ (sortWorld enc w g 0 m d os).heap[b]? = w.heap[b]? := fun d m os b hb hk => ⟨hk, z6r d hb (by rintro rfl; rw [hK] at hk; simp [col] at hk)⟩
      have hrw : ∀ j, rwN xs.length j < xs.length := fun j => by unfold rwN; split <;> omega
      have hcmp : CmpLays1 Tryz.prog 42 #[] enc (cfR xs) g 0 (List.range xs.length).toArray.size w := fun m os dk _ x y => by
        refine (zel (enc x) (enc y) _ _ _ (zep (c' := []) (hrow _ (hrw x)) (hlay dk m os) (z7K dk)).2 (zep (c' := []) (hrow _ (hrw y)) (hlay dk m os) (z7K dk)).2).mono ?_
        rintro e' w' ⟨he, hw⟩
        exact ⟨he, 0, #[], by rw [← hw, grow_empty]; rfl⟩
      have hcon := Tryz.slices_SortFunc_f41 enc (fun j => zos (hrow _ (hrw j))) (cfR xs) (zww xs) 42 #[] g 0 cap (List.range xs.length).toArray w eg hcmp hH (z1w hg) (by simpa using hlen)
      have hsize : (List.range xs.length).toArray.size = xs.length := by simp
      rw [hsize] at hcon
      refine hcon.mono fun e' w' ⟨he, d', m, os, hp, hso, hw⟩ => ?_
      subst hw
      obtain ⟨hd, hdl, hsort⟩ := zhj (by rw [hsize]; exact hp) (by rw [hsize]; exact hso)
      have hys : (zaF xs).length = xs.length := (z8y xs).length_eq
      refine ⟨.tuple #[], zkZ w.heap.size K, he, ?_, fun i t hi hio => ?_, rfl, rfl, rfl, z7K d', fun b hb hcb => ⟨by unfold zkZ; rw [if_neg (by omega)], z6r d' hb ?_⟩, ?_⟩
      · exact .tup _ #[] [] (fun _ => undef) rfl (fun j hj => by simp at hj) (fun j t ht => by simp at ht)
      · match i, hi with
        | 0, hi =>
          refine ⟨_, rfl, ?_⟩
          show TRep _ _ (col 0) (.slice (some ⟨g, 0, none⟩) xs.length cap) _
          rw [← hys]
          refine .own (col 0) g _ cap 1 _ (putCells enc 0 d' arr) e fz (fun j => F (d'.toList.getD j 0)) (fun i hi => hfz i (by simpa [putCells] using hi)) (by simp [col]) (by unfold zkZ; rw [if_neg (by have := z1w hg; omega)]; exact hK) (zab d' hg) (by simpa [putCells] using hsz) (by simp) (by omega) (by omega) hcap (fun j hj => ?_) (fun j t ht => ?_)
          · have hj' : j < xs.length := by simpa [hys] using hj
            have hja : j < arr.size := (Array.getElem?_eq_some_iff.1 (hcell j hj')).1
            have hjd : j < d'.size := by omega
            have hjl := hdl d'[j] (by simp)
            simp only [putCells, Array.getElem?_mapIdx, hcell j hj', Option.map_some]
            rw [if_pos (by omega), Nat.sub_zero, getElem!_pos d' j hjd]
            show some (F (rwN xs.length d'[j])) = some (F (d'.toList.getD j 0))
            rw [rwN, if_pos hjl]
            simp [List.getD, hjd]
          · simp only [List.getElem?_map, Option.map_eq_some_iff] at ht
            obtain ⟨x, hx', rfl⟩ := ht
            have hjs : j < (zaF xs).length := (List.getElem?_eq_some_iff.1 hx').1
            have hjd : j < d'.toList.length := by rw [Array.length_toList]; omega
            have hjl := hdl d'.toList[j] (List.getElem_mem hjd)
            have ex : x = xs.getD d'.toList[j] [] := by
              have h1 : (d'.toList.map fun j => xs.getD j [])[j]? = some x := by rw [hsort]; exact hx'
              rw [List.getElem?_map, List.getElem?_eq_getElem hjd, Option.map_some] at h1
              exact (Option.some.inj h1).symm
            have e2 : d'.toList.getD j 0 = d'.toList[j] := by rw [List.getD, List.getElem?_eq_getElem hjd, Option.getD_some]
            rw [e2, ex]
            exact (zep (hrow _ hjl) (fun b hb hk => ⟨by unfold zkZ; rw [if_neg (by omega)]; exact hk, (hlay d' m os b hb hk).2⟩) (z7K d')).1
        | 1, hi => cases hi; cases hio
      · rintro rfl
        rw [hK] at hcb
        simp [col] at hcb
      · intro b arr0 e0 fz0 hb0
        by_cases hbg : b = g
        · subst hbg
          rw [hg] at hb0
          cases hb0
          exact ⟨_, _, _, zab d' hg, by simp [putCells]⟩
        · exact ⟨_, _, _, (z6r d' (z1w hb0) hbg).trans hb0, rfl⟩
    | _ => cases hT
theorem zfm {I : World -> (Nat -> z0a) -> Prop} {args : List T} {r : T} {outs : List T} (h : zic args = some (r, outs)) : CallOk Tryz.prog I 117 args r outs := by
  unfold zic at h
  split at h
  case h_2 => cases h
  rename_i n cs
  split at h
  case h_2 => cases h
  rename_i xs hxs
  split at h
  case isFalse => cases h
  rename_i hn
  subst hn
  unfold zdr at h
  split at h
  case isFalse => cases h
  rename_i hc
  obtain ⟨hne, hlen⟩ := hc
  have hcs := z7U hxs
  subst hcs
  clear hxs
  have hys : (xs.mergeSort fun x y => decide (x <= y)).length = xs.length := List.length_mergeSort xs
  simp only [Option.map_some, Option.some.injEq, Prod.mk.injEq] at h
  generalize hgen : (xs.mergeSort fun x y => decide (x <= y)) = ys at h hys
  obtain ⟨rfl, rfl⟩ := h
  refine ⟨fun vals w => ?_, fun w K vals hs ha hI => ?_⟩
  · have hb : ∃ c, Tryz.f117.body = some c := ⟨_, rfl⟩
    obtain ⟨c, hb⟩ := hb
    have hname : Tryz.f117.name ≠ "runtime.NumGoroutine" := by decide
    simp [callFunc, program, Sem.run, Tryz.func117, hname, hb]
  · obtain ⟨v, rfl⟩ : ∃ v, vals = #[v] := by
      obtain ⟨l⟩ := vals
      match l, hs with
      | [v], _ => exact ⟨v, rfl⟩
    have hv : TRep w K (col 0) v (.os 1 xs.length (xs.map fun x => .sc (.int .i64 x))) := ha 0 _ rfl
    clear ha
    have hl0 : 0 < xs.length := List.length_pos_iff.2 hne
    generalize hT : T.os 1 xs.length (xs.map fun x => T.sc (.int .i64 x)) = t at hv
    cases hv with
    | nil => injection hT with _ e _; omega
    | own c g n cap size cs arr e fz F hfz hc0 hK hg hsz hl hz hn hcap hF hh =>
      injection hT with e1 e2 e3
      subst e1 e2 e3
      have hcell : ∀ j (hj : j < xs.length), arr[j]? = some (.int .i64 xs[j]) := fun j hj => by
        rw [hF j (by simpa using hj)]
        have := hh j (.sc (.int .i64 xs[j])) (by simp [hj])
        rw [this.sc_eq]
      have hH : Holds (Value.int .i64) w g 0 xs.toArray := fun j hj => by
        have hj' : j < xs.length := by simpa using hj
        constructor
        · rw [Nat.zero_add, z3h hg, hcell j hj', getElem!_pos _ j hj]; simp
        · unfold World.frozen?
          rw [Nat.zero_add]
          simp only [hg]
          have := hfz j (by omega)
          obtain ⟨lo, hi⟩ := fz
          simp only at this ⊢
          simp only [Bool.and_eq_false_iff, decide_eq_false_iff_not]
          omega
      have hcon := Tryz.slices_Sort_int g 0 cap xs w hH (z1w hg) hlen
      refine hcon.mono fun e' w' ⟨he, m, os, hw⟩ => ?_
      rw [hgen] at hw
      have hw' : w' = sortWorld (Value.int .i64) w g 0 m ys.toArray os := hw
      clear hw
      subst hw'
      refine ⟨.tuple #[], zkZ w.heap.size K, he, ?_, fun i t hi hio => ?_, rfl, rfl, rfl, z7K _, fun b hb hcb => ⟨by unfold zkZ; rw [if_neg (by omega)], z6r _ hb ?_⟩, ?_⟩
      · exact .tup _ #[] [] (fun _ => undef) rfl (fun j hj => by simp at hj) (fun j t ht => by simp at ht)
      · match i, hi with
        | 0, hi =>
          refine ⟨_, rfl, ?_⟩
          show TRep _ _ (col 0) (.slice (some ⟨g, 0, none⟩) xs.length cap) _
          rw [← hys]
          refine .own (col 0) g _ cap 1 _ (putCells (Value.int .i64) 0 ys.toArray arr) e fz (fun j => .int .i64 (ys.getD j 0)) (fun i hi => hfz i (by simpa [putCells] using hi)) (by simp [col]) (by unfold zkZ; rw [if_neg (by have := z1w hg; omega)]; exact hK) (zab _ hg) (by simpa [putCells] using hsz) (by simp) (by omega) (by omega) hcap (fun j hj => ?_) (fun j t ht => ?_)
          · have hj' : j < xs.length := by simpa [hys] using hj
            have hjd : j < ys.toArray.size := by simp; omega
            simp only [putCells, Array.getElem?_mapIdx, hcell j hj', Option.map_some]
            rw [if_pos (by omega), Nat.sub_zero, getElem!_pos _ j hjd]
            have hjy : j < ys.length := by omega
            simp [List.getD, hjy]
          · simp only [List.getElem?_map, Option.map_eq_some_iff] at ht
            obtain ⟨x, hx', rfl⟩ := ht
            simp only [List.getD, hx']
            exact .sc _ _ rfl
      · rintro rfl
        rw [hK] at hcb
        simp [col] at hcb
      · intro b arr0 e0 fz0 hb0
        by_cases hbg : b = g
        · subst hbg
          rw [hg] at hb0
          cases hb0
          exact ⟨_, _, _, zab _ hg, by simp [putCells]⟩
        · exact ⟨_, _, _, (z6r _ (z1w hb0) hbg).trans hb0, rfl⟩
    | _ => cases hT
theorem zrb {w w' : World} {K : Nat -> z0a} (h : Below w.heap.size w w') : Step w K w' (zkZ w.heap.size K) :=
  ⟨h.os, h.tape, h.output, h.size, fun b hb _ => ⟨by unfold zkZ; rw [if_neg (by omega)], h.block b hb⟩, .olds fun b hb => h.block b hb⟩
theorem zsG {w : World} {K : Nat -> z0a} {B : Nat} {e : TypeId} {v : Value} {n : Nat} {xs : List Int} (hn : xs.length = n) (h : w.ownsRow B e 1 v n (xs.map (Value.int .i64))) : TRep w (zkZ B K) [0] v (.os 1 xs.length (xs.map fun x => .sc (.int .i64 x))) := by
  obtain ⟨h1, h2⟩ := h
  subst hn
  rcases h2 with ⟨rfl, h0⟩ | ⟨g, cap, cur, rfl, hb, hg, hc1, hc2, hs, ht⟩
  · have : xs = [] := List.eq_nil_of_length_eq_zero h0
    subst this
    exact .nil _ _
  · refine .own [0] g xs.length cap 1 _ cur e (0, 0) (fun j => .int .i64 (xs.getD j 0)) (fun i _ => by simp) (by simp) (by unfold zkZ; rw [if_pos hb]) hg hs (by simp) (by omega) hc1 hc2 (fun j hj => ?_) (fun j t ht => ?_)
    · have hj' : j < xs.length := by simpa using hj
      have h3 : (cur.toList.take (xs.length * 1))[j]? = (xs.map (Value.int .i64))[j]? := by rw [ht]
      rw [List.getElem?_take_of_lt (by omega), List.getElem?_map, List.getElem?_eq_getElem hj'] at h3
      simp only [Option.map_some, Array.getElem?_toList] at h3
      rw [h3, List.getD, List.getElem?_eq_getElem hj']
      rfl
    · simp only [List.getElem?_map, Option.map_eq_some_iff] at ht
      obtain ⟨x, hx, rfl⟩ := ht
      simp only [List.getD, hx]
      exact .sc _ _ rfl
theorem zfn {I : World -> (Nat -> z0a) -> Prop} {args : List T} {r : T} {outs : List T} (h : zid args = some (r, outs)) : CallOk Tryz.prog I 116 args r outs := by
  unfold zid at h
  split at h
  case h_2 => cases h
  rename_i n cs
  split at h
  case h_2 => cases h
  rename_i xs hxs
  split at h
  case isFalse => cases h
  rename_i hn
  subst hn
  unfold zds at h
  split at h
  case isFalse => cases h
  rename_i hb
  have hcs := z7U hxs
  subst hcs
  clear hxs
  simp only [Option.map_some, Option.some.injEq, Prod.mk.injEq] at h
  obtain ⟨rfl, rfl⟩ := h
  refine ⟨fun vals w => ?_, fun w K vals hs ha hI => ?_⟩
  · have hb : ∃ c, Tryz.f116.body = some c := ⟨_, rfl⟩
    obtain ⟨c, hb⟩ := hb
    have hname : Tryz.f116.name ≠ "runtime.NumGoroutine" := by decide
    simp [callFunc, program, Sem.run, Tryz.func116, hname, hb]
  · obtain ⟨v, rfl⟩ : ∃ v, vals = #[v] := by
      obtain ⟨l⟩ := vals
      match l, hs with
      | [v], _ => exact ⟨v, rfl⟩
    have hv : TRep w K [] v (.sl xs.length (xs.map fun x => .sc (.int .i64 x))) := ha 0 _ rfl
    have fin : ∀ e w', (∃ v', e = Ending.returned v' /\ w'.ownsRow w.heap.size 3 1 v' xs.length (xs.map (Value.int .i64)) /\ Below w.heap.size w w') -> ∃ v' K', e = Ending.returned v' /\ TRep w' K' [0] v' (.os 1 xs.length (xs.map fun x => .sc (.int .i64 x))) /\ (∀ i t, [T.sl xs.length (xs.map fun x => T.sc (.int .i64 x))][i]? = some t -> z5O t = true -> ∃ t', [T.dead][i]? = some t' /\ TRep w' K' (col i) (#[v].getD i undef) t') /\ Step w K w' K' := by
      rintro e w' ⟨v', he, ho, hbl⟩
      refine ⟨v', zkZ w.heap.size K, he, zsG rfl ho, fun i t hi hio => ?_, zrb hbl⟩
      match i, hi with
      | 0, hi => cases hi; cases hio
    generalize hT : T.sl xs.length (xs.map fun x => T.sc (.int .i64 x)) = t at hv
    cases hv with
    | emp c a cap hcap =>
      have : xs = [] := by
        have : xs.length = 0 := by injection hT
        exact List.eq_nil_of_length_eq_zero this
      subst this
      cases a with
      | none => exact (Tryz.slices_Clone_int_nil 0 cap w).mono fun e w' ⟨he, hw⟩ => fin e w' ⟨_, he, ⟨by simp, .inl ⟨rfl, rfl⟩⟩, hw ▸ Below.refl _ _⟩
      | some a => exact (Tryz.slices_Clone_int_zero a cap w).mono fun e w' ⟨v', he, ho, _, hb⟩ => fin e w' ⟨v', he, ho, hb⟩
    | fro c g o n cap cs F hK hg hn hcap hF hh =>
      injection hT with e1 e2
      subst e1
      subst e2
      refine (Tryz.slices_Clone_int g o xs.length cap xs w (Nat.le_refl _) hb (fun j hj => ?_)).mono fun e w' ⟨v', he, ho, _, hbl⟩ => fin e w' ⟨v', he, ?_, hbl⟩
      · have h1 := hF j (by simpa using hj)
        rw [h1]
        have h2 := hh j (.sc (.int .i64 (xs.getD j 0))) (by simp [List.getD, hj])
        rw [h2.sc_eq]
      · rw [List.take_of_length_le (Nat.le_refl _)] at ho
        exact ho
    | _ => cases hT
end
end Go.Proofs.YtodliknibbafeaaGreat

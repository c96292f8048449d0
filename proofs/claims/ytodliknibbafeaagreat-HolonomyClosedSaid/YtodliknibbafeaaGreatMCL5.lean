/- Proved here: a part of the proof of the law at hand, in one text: no condition. -/
import Derived.Test.YtodliknibbafeaaGreatMCL4
import Derived.KernelRfl
set_option linter.unusedVariables false
set_option linter.unusedSimpArgs false
namespace Go.Proofs.YtodliknibbafeaaGreat
section
open Go
noncomputable section
set_option maxRecDepth 100000
set_option maxHeartbeats 6000000
abbrev z1G (w93 : Int) (v122 : List Int) : Int × List Bool × List ByteArray × List Int -> Option ((Int × List Bool × List ByteArray × List Int) ⊕ ((Int × List Bool × List ByteArray × List Int) ⊕ (List Int × List ByteArray)))
  | (w129, w130, w131, w132) =>
  if w129 < (v122.length : Int) then
    (atI v122 w129).bind fun v139 =>
    (atI w130 v139).bind fun v140 =>
    if v140 = true then
      z0e (IntKind.i64.wrap (w129 + 1), w130, w131, w132)
    else
      (atI w132 w93).bind fun v142 =>
      (atI w131 v142).bind fun v143 =>
      chk (z7l v143 ⟨#[UInt8.ofNat (IntKind.u8.wrap (IntKind.i64.wrap (97 + w129))).toNat]⟩) <|
      (atI w131 v139).bind fun v144 =>
      chk (z1s 8 (w132.length + 1)) <|
      z0e (IntKind.i64.wrap (w129 + 1), (w130.set v139.toNat true), (w131.set v139.toNat (v143 ++ ⟨#[UInt8.ofNat (IntKind.u8.wrap (IntKind.i64.wrap (97 + w129))).toNat]⟩)), w132 ++ [v139])
  else
    z0l <|
    z0e (IntKind.i64.wrap (w93 + 1), w130, w131, w132)
instance {w93 : Int} {v122 : List Int} : Hd (z1G w93 v122) := ⟨fun (w129, w130, w131, w132) => ([(40, xI w129)], [(6, .os 1 w130.length (w130.map fun x0 => .sc (.bool x0))), (7, .os 1 w131.length (w131.map fun x0 => .sc (.string x0))), (8, .os 1 w132.length (w132.map fun x0 => .sc (.int .i64 x0)))])⟩
abbrev z3v (a0 : Dgm) : Int × List Bool × List ByteArray × List Int -> Option ((Int × List Bool × List ByteArray × List Int) ⊕ (List Int × List ByteArray))
  | (w93, w94, w95, w96) =>
  if w93 < (w96.length : Int) then
    (atI w96 w93).bind fun v121 =>
    (atI a0.next v121).bind fun v122 =>
    z0m (z1G w93 v122) LFm (0, w94, w95, w96)
  else
    z0l <|
    some (w96, w95)
instance {a0 : Dgm} : Hd (z3v a0) := ⟨fun (w93, w94, w95, w96) => ([(9, xI w93)], [(6, .os 1 w94.length (w94.map fun x0 => .sc (.bool x0))), (7, .os 1 w95.length (w95.map fun x0 => .sc (.string x0))), (8, .os 1 w96.length (w96.map fun x0 => .sc (.int .i64 x0)))])⟩
def z1j (a0 : Dgm) (a1 : Int) : Option (List Int × List ByteArray) :=
  chk (z1g 1 (a0.sets.length : Int)) <|
  chk (z1g 16 (a0.sets.length : Int)) <|
  chk (0 <= a1 /\ a1 < (a0.sets.length : Int)) <|
  z0m (z3v a0) LFm (0, ((List.replicate (a0.sets.length : Int).toNat (false : Bool)).set a1.toNat true), List.replicate (a0.sets.length : Int).toNat (ByteArray.empty : ByteArray), [a1])
instance images_diagram_search_ok {a0 : Dgm} {a1 : Int} : Ok (z1j a0 a1) (fun r => L 56 [.agg [.sl a0.sets.length (a0.sets.map fun x0 => .sc (.int .i64 x0)), .sl a0.next.length (a0.next.map fun x0 => .sl x0.length (x0.map fun x1 => .sc (.int .i64 x1))), .sl a0.below.length (a0.below.map fun x0 => .sl x0.length (x0.map fun x1 => .sc (.bool x1)))], .sc (.int .i64 a1)] = some (.tup [.os 1 r.1.length (r.1.map fun x0 => .sc (.int .i64 x0)), .os 1 r.2.length (r.2.map fun x0 => .sc (.string x0))], [.dead, .dead])) := ⟨fun r h => by have h := z4u h; unfold z1j at h; exact z4X zuI zws zya⟩
abbrev z2n (a0 : DFA) (a1 : List Int) (w226 : List Int) (w246 : Int) (w248 : List (List Bool)) (v266 : Int) : Int × List (List Int) -> Option ((Int × List (List Int)) ⊕ ((Int × List (List Int) × List (List Bool)) ⊕ Dgm))
  | (w272, w273) =>
  if w272 < a0.letters then
    (atI w273 w246).bind fun v278 =>
    (z4R a0 v266 w272).bind fun v279 =>
    (atI w226 v279).bind fun v280 =>
    (atI v278 w272).bind fun v281 =>
    z0e (IntKind.i64.wrap (w272 + 1), (w273.set w246.toNat (v278.set w272.toNat v280)))
  else
    z0l <|
    chk (z1g 1 (a1.length : Int)) <|
    (atI w248 w246).bind fun v282 =>
    z0e (IntKind.i64.wrap (w246 + 1), w273, (w248.set w246.toNat (List.replicate (a1.length : Int).toNat (false : Bool))))
instance {a0 : DFA} {a1 : List Int} {w226 : List Int} {w246 : Int} {w248 : List (List Bool)} {v266 : Int} : Hd (z2n a0 a1 w226 w246 w248 v266) := ⟨fun (w272, w273) => ([(60, xI w272)], [(8, .vr [.sl a1.length (a1.map fun x0 => .sc (.int .i64 x0)), .os 1 w273.length (w273.map fun x0 => .os 1 x0.length (x0.map fun x1 => .sc (.int .i64 x1))), .os 1 w248.length (w248.map fun x0 => .os 1 x0.length (x0.map fun x1 => .sc (.bool x1)))])])⟩
abbrev z2m (a1 : List Int) (w337 : Int) (v393 : List Int × List ByteArray) (w411 : Int) (w412 : List (List Bool)) (v430 : Int) : Int -> Option (Int ⊕ ((Int × List (List Bool)) ⊕ ((Int × List (List Bool)) ⊕ Dgm)))
  | w436 =>
  if w436 < (v393.1.length : Int) then
    (atI v393.1 w436).bind fun v442 =>
    (atI a1 v442).bind fun v443 =>
    (z2K v443 v430).bind fun v444 =>
    if v444 = true then
      (atI w412 w411).bind fun v445 =>
      (atI v445 w337).bind fun v446 =>
      z0l <|
      z0e (IntKind.i64.wrap (w411 + 1), (w412.set w411.toNat (v445.set w337.toNat true)))
    else
      z0e (IntKind.i64.wrap (w436 + 1))
  else
    z0l <|
    z0e (IntKind.i64.wrap (w411 + 1), w412)
instance {a1 : List Int} {w337 : Int} {v393 : List Int × List ByteArray} {w411 : Int} {w412 : List (List Bool)} {v430 : Int} : Hd (z2m a1 w337 v393 w411 w412 v430) := ⟨fun w436 => ([(106, xI w436)], [])⟩
abbrev z2Y (a1 : List Int) (w337 : Int) (v393 : List Int × List ByteArray) (w247 : List (List Int)) : Int × List (List Bool) -> Option ((Int × List (List Bool)) ⊕ ((Int × List (List Bool)) ⊕ Dgm))
  | (w411, w412) =>
  if w411 < (a1.length : Int) then
    (atI a1 w411).bind fun v430 =>
    z0m (z2m a1 w337 v393 w411 w412 v430) LFm 0
  else
    z0l <|
    z0e (IntKind.i64.wrap (w337 + 1), w412)
instance {a1 : List Int} {w337 : Int} {v393 : List Int × List ByteArray} {w247 : List (List Int)} : Hd (z2Y a1 w337 v393 w247) := ⟨fun (w411, w412) => ([(99, xI w411)], [(8, .vr [.sl a1.length (a1.map fun x0 => .sc (.int .i64 x0)), .os 1 w247.length (w247.map fun x0 => .os 1 x0.length (x0.map fun x1 => .sc (.int .i64 x1))), .os 1 w412.length (w412.map fun x0 => .os 1 x0.length (x0.map fun x1 => .sc (.bool x1)))])])⟩
abbrev z2Z (a1 : List Int) (w247 : List (List Int)) : Int × List (List Bool) -> Option ((Int × List (List Bool)) ⊕ Dgm)
  | (w337, w338) =>
  if w337 < (a1.length : Int) then
    (z1j (⟨a1, w247, w338⟩ : Dgm) w337).bind fun v393 =>
    z0m (z2Y a1 w337 v393 w247) LFm (0, w338)
  else
    z0l <|
    some (⟨a1, w247, w338⟩ : Dgm)
instance {a1 : List Int} {w247 : List (List Int)} : Hd (z2Z a1 w247) := ⟨fun (w337, w338) => ([(88, xI w337)], [(8, .vr [.sl a1.length (a1.map fun x0 => .sc (.int .i64 x0)), .os 1 w247.length (w247.map fun x0 => .os 1 x0.length (x0.map fun x1 => .sc (.int .i64 x1))), .os 1 w338.length (w338.map fun x0 => .os 1 x0.length (x0.map fun x1 => .sc (.bool x1)))])])⟩
abbrev z3m (a0 : DFA) (a1 : List Int) (w226 : List Int) : Int × List (List Int) × List (List Bool) -> Option ((Int × List (List Int) × List (List Bool)) ⊕ Dgm)
  | (w246, w247, w248) =>
  if w246 < (a1.length : Int) then
    (atI a1 w246).bind fun v266 =>
    chk (z1g 8 a0.letters) <|
    (atI w247 w246).bind fun v267 =>
    z0m (z2n a0 a1 w226 w246 w248 v266) LFm (0, (w247.set w246.toNat (List.replicate a0.letters.toNat (0 : Int))))
  else
    z0l <|
    z0m (z2Z a1 w247) LFm (0, w248)
instance {a0 : DFA} {a1 : List Int} {w226 : List Int} : Hd (z3m a0 a1 w226) := ⟨fun (w246, w247, w248) => ([(46, xI w246)], [(8, .vr [.sl a1.length (a1.map fun x0 => .sc (.int .i64 x0)), .os 1 w247.length (w247.map fun x0 => .os 1 x0.length (x0.map fun x1 => .sc (.int .i64 x1))), .os 1 w248.length (w248.map fun x0 => .os 1 x0.length (x0.map fun x1 => .sc (.bool x1)))])])⟩
abbrev z3n (a0 : DFA) (a1 : List Int) : Int × List Int -> Option ((Int × List Int) ⊕ Dgm)
  | (w225, w226) =>
  if w225 < (a1.length : Int) then
    (atI a1 w225).bind fun v229 =>
    (atI w226 v229).bind fun v230 =>
    z0e (IntKind.i64.wrap (w225 + 1), (w226.set v229.toNat w225))
  else
    z0l <|
    chk (z1g 24 (a1.length : Int)) <|
    z0m (z3m a0 a1 w226) LFm (0, List.replicate (a1.length : Int).toNat ([] : List Int), List.replicate (a1.length : Int).toNat ([] : List Bool))
instance {a0 : DFA} {a1 : List Int} : Hd (z3n a0 a1) := ⟨fun (w225, w226) => ([(26, xI w225)], [(5, .os 1 w226.length (w226.map fun x0 => .sc (.int .i64 x0)))])⟩
def z3u (a0 : DFA) (a1 : List Int) : Option (Dgm) :=
  chk (¬ (a0.final.length : Int) < 0) <|
  chk (z1g 8 (zjq .i64 1 (a0.final.length : Int))) <|
  z0m (z3n a0 a1) LFm (0, List.replicate (zjq .i64 1 (a0.final.length : Int)).toNat (0 : Int))
instance images_newDiagram_ok {a0 : DFA} {a1 : List Int} : Ok (z3u a0 a1) (fun r => L 52 [.agg [.sc (.int .i64 a0.letters), .sc (.int .i64 a0.start), .sl a0.final.length (a0.final.map fun x0 => .sc (.bool x0)), .sl a0.next.length (a0.next.map fun x0 => .sl x0.length (x0.map fun x1 => .sc (.int .i64 x1)))], .sl a1.length (a1.map fun x0 => .sc (.int .i64 x0))] = some (.agg [.sl r.sets.length (r.sets.map fun x0 => .sc (.int .i64 x0)), .os 1 r.next.length (r.next.map fun x0 => .os 1 x0.length (x0.map fun x1 => .sc (.int .i64 x1))), .os 1 r.below.length (r.below.map fun x0 => .os 1 x0.length (x0.map fun x1 => .sc (.bool x1)))], [.dead, .dead])) := ⟨fun r h => by have h := z4u h; unfold z3u at h; exact z4X zuM zww zye⟩
abbrev z2i (a0 : Dgm) (w50 : Int) (w52 : List Int) : Int × List Int -> Option ((Int × List Int) ⊕ ((Int × List Int × List Int) ⊕ (List Int × List Int)))
  | (w82, w83) =>
  if w82 < (w52.length : Int) then
    (atI w52 w82).bind fun v90 =>
    (atI a0.below w50).bind fun v91 =>
    (atI v91 v90).bind fun v92 =>
    if v92 = true then
      (atI a0.below v90).bind fun v93 =>
      (atI v93 w50).bind fun v94 =>
      if v94 = true then
        (atI w83 w50).bind fun v95 =>
        z0e (IntKind.i64.wrap (w82 + 1), (w83.set w50.toNat w82))
      else
        z0e (IntKind.i64.wrap (w82 + 1), w83)
    else
      z0e (IntKind.i64.wrap (w82 + 1), w83)
  else
    z0l <|
    (atI w83 w50).bind fun v96 =>
    if v96 = (w52.length : Int) then
      chk (z1s 8 (w52.length + 1)) <|
      z0e (IntKind.i64.wrap (w50 + 1), w83, w52 ++ [w50])
    else
      z0e (IntKind.i64.wrap (w50 + 1), w83, w52)
instance {a0 : Dgm} {w50 : Int} {w52 : List Int} : Hd (z2i a0 w50 w52) := ⟨fun (w82, w83) => ([(26, xI w82)], [(4, .os 1 w83.length (w83.map fun x0 => .sc (.int .i64 x0)))])⟩
abbrev z2j (a0 : Dgm) : Int × List Int × List Int -> Option ((Int × List Int × List Int) ⊕ (List Int × List Int))
  | (w50, w51, w52) =>
  if w50 < (a0.sets.length : Int) then
    (atI w51 w50).bind fun v75 =>
    z0m (z2i a0 w50 w52) LFm (0, (w51.set w50.toNat (w52.length : Int)))
  else
    z0l <|
    some (w51, w52)
instance {a0 : Dgm} : Hd (z2j a0) := ⟨fun (w50, w51, w52) => ([(16, xI w50)], [(4, .os 1 w51.length (w51.map fun x0 => .sc (.int .i64 x0))), (5, .os 1 w52.length (w52.map fun x0 => .sc (.int .i64 x0)))])⟩
def z1Y (a0 : Dgm) : Option (List Int × List Int) :=
  chk (z1g 8 (a0.sets.length : Int)) <|
  z0m (z2j a0) LFm (0, List.replicate (a0.sets.length : Int).toNat (0 : Int), [])
instance images_diagram_classes_ok {a0 : Dgm} : Ok (z1Y a0) (fun r => L 53 [.agg [.sl a0.sets.length (a0.sets.map fun x0 => .sc (.int .i64 x0)), .sl a0.next.length (a0.next.map fun x0 => .sl x0.length (x0.map fun x1 => .sc (.int .i64 x1))), .sl a0.below.length (a0.below.map fun x0 => .sl x0.length (x0.map fun x1 => .sc (.bool x1)))]] = some (.tup [.os 1 r.1.length (r.1.map fun x0 => .sc (.int .i64 x0)), .os 1 r.2.length (r.2.map fun x0 => .sc (.int .i64 x0))], [.dead])) := ⟨fun r h => by have h := z4u h; unfold z1Y at h; exact z4X zuL zwv zyd⟩
abbrev z2v (a0 : Dgm) (w64 : List Int) (w85 : Int) (w86 : List Int) (v101 : Int) : Int -> Option (Int ⊕ ((Int × List Int) ⊕ List Int))
  | w106 =>
  if w106 < (w64.length : Int) then
    (atI w64 w106).bind fun v111 =>
    if v111 = v101 then
      z0e (IntKind.i64.wrap (w106 + 1))
    else
      (atI a0.sets v111).bind fun v112 =>
      (atI a0.sets v101).bind fun v113 =>
      (z2K v112 v113).bind fun v114 =>
      if v114 = true then
        z0l <|
        z0e (IntKind.i64.wrap (w85 + 1), w86)
      else
        z0e (IntKind.i64.wrap (w106 + 1))
  else
    z0l <|
    chk (z1s 8 (w86.length + 1)) <|
    z0e (IntKind.i64.wrap (w85 + 1), w86 ++ [v101])
instance {a0 : Dgm} {w64 : List Int} {w85 : Int} {w86 : List Int} {v101 : Int} : Hd (z2v a0 w64 w85 w86 v101) := ⟨fun w106 => ([(53, xI w106)], [])⟩
abbrev z1F (a0 : Dgm) (w64 : List Int) : Int × List Int -> Option ((Int × List Int) ⊕ List Int)
  | (w85, w86) =>
  if w85 < (w64.length : Int) then
    (atI w64 w85).bind fun v101 =>
    z0m (z2v a0 w64 w85 w86 v101) LFm 0
  else
    z0l <|
    some w86
instance {a0 : Dgm} {w64 : List Int} : Hd (z1F a0 w64) := ⟨fun (w85, w86) => ([(47, xI w85)], [(8, .os 1 w86.length (w86.map fun x0 => .sc (.int .i64 x0)))])⟩
abbrev z2C (a0 : Dgm) (a1 : Int) : Int × List Int -> Option ((Int × List Int) ⊕ List Int)
  | (w63, w64) =>
  if w63 < (a0.sets.length : Int) then
    (atI a0.sets w63).bind fun v68 =>
    if w63 = a1 then
      z0e (IntKind.i64.wrap (w63 + 1), w64)
    else
      (atI a0.sets a1).bind fun v69 =>
      (z2K v69 v68).bind fun v70 =>
      if v70 = true then
        chk (z1s 8 (w64.length + 1)) <|
        z0e (IntKind.i64.wrap (w63 + 1), w64 ++ [w63])
      else
        z0e (IntKind.i64.wrap (w63 + 1), w64)
  else
    z0l <|
    z0m (z1F a0 w64) LFm (0, [])
instance {a0 : Dgm} {a1 : Int} : Hd (z2C a0 a1) := ⟨fun (w63, w64) => ([(23, xI w63)], [(5, .os 1 w64.length (w64.map fun x0 => .sc (.int .i64 x0)))])⟩
def z2y (a0 : Dgm) (a1 : Int) : Option (List Int) :=
  (atI a0.sets a1).bind fun v58 =>
  (z4Q v58).bind fun v59 =>
  if v59 = 1 then
    some []
  else
    z0m (z2C a0 a1) LFm (0, [])
instance images_diagram_tiles_ok {a0 : Dgm} {a1 : Int} : Ok (z2y a0 a1) (fun r => L 55 [.agg [.sl a0.sets.length (a0.sets.map fun x0 => .sc (.int .i64 x0)), .sl a0.next.length (a0.next.map fun x0 => .sl x0.length (x0.map fun x1 => .sc (.int .i64 x1))), .sl a0.below.length (a0.below.map fun x0 => .sl x0.length (x0.map fun x1 => .sc (.bool x1)))], .sc (.int .i64 a1)] = some (.os 1 r.length (r.map fun x0 => .sc (.int .i64 x0)), [.dead, .dead])) := ⟨fun r h => by have h := z4u h; unfold z2y at h; exact z4X zuJ zwt zyb⟩
abbrev z2q (a0 : List Int) (a1 : Int) : Int -> Option (Int ⊕ Int)
  | w6 =>
  if w6 < (a0.length : Int) then
    (atI a0 w6).bind fun v8 =>
    if a1 = v8 then
      z0l <|
      some w6
    else
      z0e (IntKind.i64.wrap (w6 + 1))
  else
    z0l <|
    some (-1)
instance {a0 : List Int} {a1 : Int} : Hd (z2q a0 a1) := ⟨fun w6 => ([(8, xI w6)], [])⟩
def z2U (a0 : List Int) (a1 : Int) : Option (Int) :=
  z0m (z2q a0 a1) LFm 0
instance slices_Index_Lint_int_ok {a0 : List Int} {a1 : Int} : Ok (z2U a0 a1) (fun r => L 95 [.sl a0.length (a0.map fun x0 => .sc (.int .i64 x0)), .sc (.int .i64 a1)] = some (.sc (.int .i64 r), [.dead, .dead])) := ⟨fun r h => by have h := z4u h; unfold z2U at h; exact z4X zuq zwa zxS⟩
def z1D (a0 : List Int) (a1 : Int) : Option (Bool) :=
  (z2U a0 a1).bind fun v2 =>
  some (decide (0 <= v2))
instance slices_Contains_Lint_int_ok {a0 : List Int} {a1 : Int} : Ok (z1D a0 a1) (fun r => L 74 [.sl a0.length (a0.map fun x0 => .sc (.int .i64 x0)), .sc (.int .i64 a1)] = some (.sc (.bool r), [.dead, .dead])) := ⟨fun r h => by have h := z4u h; unfold z1D at h; exact z4X zux zwh zxZ⟩
abbrev z5e (a0 : DFA) : Int × List Int -> Option ((Int × List Int) ⊕ List Int)
  | (w10, w11) =>
  if w10 < (a0.final.length : Int) then
    chk (¬ w10 < 0) <|
    (z1D w11 (zjq .i64 1 w10)).bind fun v13 =>
    if v13 = true then
      z0e (IntKind.i64.wrap (w10 + 1), w11)
    else
      chk (z1s 8 (w11.length + 1)) <|
      z0e (IntKind.i64.wrap (w10 + 1), w11 ++ [zjq .i64 1 w10])
  else
    z0l <|
    (zgw w11).bind fun v14 =>
    some v14
instance {a0 : DFA} : Hd (z5e a0) := ⟨fun (w10, w11) => ([(19, xI w10)], [(3, .os 1 w11.length (w11.map fun x0 => .sc (.int .i64 x0)))])⟩
def z5W (a0 : DFA) : Option (List Int) :=
  chk (¬ (a0.final.length : Int) < 0) <|
  (z5j a0 (IntKind.i64.wrap ((zjq .i64 1 (a0.final.length : Int)) - 1))).bind fun v8 =>
  z0m (z5e a0) LFm (0, v8.1)
instance images_list_ok {a0 : DFA} : Ok (z5W a0) (fun r => L 51 [.agg [.sc (.int .i64 a0.letters), .sc (.int .i64 a0.start), .sl a0.final.length (a0.final.map fun x0 => .sc (.bool x0)), .sl a0.next.length (a0.next.map fun x0 => .sl x0.length (x0.map fun x1 => .sc (.int .i64 x1)))]] = some (.os 1 r.length (r.map fun x0 => .sc (.int .i64 x0)), [.dead])) := ⟨fun r h => by have h := z4u h; unfold z5W at h; exact z4X zuN zwx zyf⟩
def z4D (v69 : List Int) (v71 : List Int × List Int) (w107 : Int) (v123 : List Int × List ByteArray) : Int × List ByteArray -> Option ((Int × List ByteArray) ⊕ ((Int × List ByteArray) ⊕ (Imgs × Int)))
  | (w127, w128) =>
  if w127 < (v69.length : Int) then
    (atI v71.1 w127).bind fun v132 =>
    if v132 = w107 then
      (atI v123.2 w127).bind fun v133 =>
      (atI w128 w127).bind fun v134 =>
      z0e (IntKind.i64.wrap (w127 + 1), (w128.set w127.toNat v133))
    else
      z0e (IntKind.i64.wrap (w127 + 1), w128)
  else
    z0l <|
    z0e (IntKind.i64.wrap (w107 + 1), w128)
def z4C (v69 : List Int) (v70 : Dgm) (v71 : List Int × List Int) (v72 : List Int) (w79 : List (List Int)) (w80 : List ByteArray) (w107 : Int) (v123 : List Int × List ByteArray) : Int × List ByteArray -> Fr
  | (w127, w128) => ⟨120, [(2, .one (.a 2 [] (0))), (5, .one (.t none (.sl v69.length (v69.map fun x0 => .sc (.int .i64 x0))))), (7, .one (.a 7 [] (0))), (8, .one (.t none (.sl v71.1.length (v71.1.map fun x0 => .sc (.int .i64 x0))))), (10, .one (.a 10 [] (0))), (14, .one (.t none (.sc (.int .i64 w107)))), (17, .one (.h 17 [])), (85, .one (.h 9 [])), (86, .one (.t none (.sc (.int .i64 (v71.2.length : Int))))), (87, .one (.t none (.sc (.int .i64 w107)))), (99, .one (.t none (.sc (.int .i64 (v69.length : Int))))), (100, .one (.t none (.sc (.int .i64 w127))))], [(2, .vr [.os 1 0 [], .os 1 0 [], .os 1 0 [], .os 1 0 [], .os 1 0 [], .os 1 0 []]), (7, .vr [.sl v70.sets.length (v70.sets.map fun x0 => .sc (.int .i64 x0)), .os 1 v70.next.length (v70.next.map fun x0 => .os 1 x0.length (x0.map fun x1 => .sc (.int .i64 x1))), .os 1 v70.below.length (v70.below.map fun x0 => .os 1 x0.length (x0.map fun x1 => .sc (.bool x1)))]), (10, .vr [.sl v69.length (v69.map fun x0 => .sc (.int .i64 x0)), .sl v71.1.length (v71.1.map fun x0 => .sc (.int .i64 x0)), .os 1 v72.length (v72.map fun x0 => .sc (.int .i64 x0)), .os 1 w79.length (w79.map fun x0 => .os 1 x0.length (x0.map fun x1 => .sc (.int .i64 x1))), .os 1 w128.length (w128.map fun x0 => .sc (.string x0)), .os 1 w80.length (w80.map fun x0 => .sc (.string x0))]), (17, .os 1 v123.2.length (v123.2.map fun x0 => .sc (.string x0))), (9, .os 1 v71.2.length (v71.2.map fun x0 => .sc (.int .i64 x0)))]⟩
def z5x (v69 : List Int) (v70 : Dgm) (v71 : List Int × List Int) (v72 : List Int) (w79 : List (List Int)) (w80 : List ByteArray) : Int × List ByteArray -> Option ((Int × List ByteArray) ⊕ (Imgs × Int))
  | (w107, w108) =>
  if w107 < (v71.2.length : Int) then
    (atI v71.2 w107).bind fun v122 =>
    (z1j v70 v122).bind fun v123 =>
    z0m (z4D v69 v71 w107 v123) LFm (0, w108)
  else
    z0l <|
    some ((⟨v69, v71.1, v72, w79, w108, w80⟩ : Imgs), 0)
def z5v (v69 : List Int) (v70 : Dgm) (v71 : List Int × List Int) (v72 : List Int) (w79 : List (List Int)) (w80 : List ByteArray) : Int × List ByteArray -> Fr
  | (w107, w108) => ⟨120, [(2, .one (.a 2 [] (0))), (5, .one (.t none (.sl v69.length (v69.map fun x0 => .sc (.int .i64 x0))))), (7, .one (.a 7 [] (0))), (8, .one (.t none (.sl v71.1.length (v71.1.map fun x0 => .sc (.int .i64 x0))))), (10, .one (.a 10 [] (0))), (85, .one (.h 9 [])), (86, .one (.t none (.sc (.int .i64 (v71.2.length : Int))))), (87, .one (.t none (.sc (.int .i64 w107))))], [(2, .vr [.os 1 0 [], .os 1 0 [], .os 1 0 [], .os 1 0 [], .os 1 0 [], .os 1 0 []]), (7, .vr [.sl v70.sets.length (v70.sets.map fun x0 => .sc (.int .i64 x0)), .os 1 v70.next.length (v70.next.map fun x0 => .os 1 x0.length (x0.map fun x1 => .sc (.int .i64 x1))), .os 1 v70.below.length (v70.below.map fun x0 => .os 1 x0.length (x0.map fun x1 => .sc (.bool x1)))]), (10, .vr [.sl v69.length (v69.map fun x0 => .sc (.int .i64 x0)), .sl v71.1.length (v71.1.map fun x0 => .sc (.int .i64 x0)), .os 1 v72.length (v72.map fun x0 => .sc (.int .i64 x0)), .os 1 w79.length (w79.map fun x0 => .os 1 x0.length (x0.map fun x1 => .sc (.int .i64 x1))), .os 1 w108.length (w108.map fun x0 => .sc (.string x0)), .os 1 w80.length (w80.map fun x0 => .sc (.string x0))]), (9, .os 1 v71.2.length (v71.2.map fun x0 => .sc (.int .i64 x0)))]⟩
def z5y (v69 : List Int) (v70 : Dgm) (v71 : List Int × List Int) (v72 : List Int) : Int × List (List Int) × List ByteArray -> Option ((Int × List (List Int) × List ByteArray) ⊕ (Imgs × Int))
  | (w78, w79, w80) =>
  if w78 < (v69.length : Int) then
    (z2y v70 w78).bind fun v88 =>
    (atI w79 w78).bind fun v89 =>
    (z1j v70 w78).bind fun v90 =>
    (atI v71.1 w78).bind fun v91 =>
    (atI v71.2 v91).bind fun v92 =>
    (atI v90.2 v92).bind fun v93 =>
    (atI w80 w78).bind fun v94 =>
    z0e (IntKind.i64.wrap (w78 + 1), (w79.set w78.toNat v88), (w80.set w78.toNat v93))
  else
    z0l <|
    z0m (z5x v69 v70 v71 v72 w79 w80) LFm (0, List.replicate (v69.length : Int).toNat (ByteArray.empty : ByteArray))
def z5w (v69 : List Int) (v70 : Dgm) (v71 : List Int × List Int) (v72 : List Int) : Int × List (List Int) × List ByteArray -> Fr
  | (w78, w79, w80) => ⟨120, [(2, .one (.a 2 [] (0))), (5, .one (.t none (.sl v69.length (v69.map fun x0 => .sc (.int .i64 x0))))), (7, .one (.a 7 [] (0))), (8, .one (.t none (.sl v71.1.length (v71.1.map fun x0 => .sc (.int .i64 x0))))), (9, .one (.h 9 [])), (10, .one (.a 10 [] (0))), (53, .one (.t none (.sc (.int .i64 (v69.length : Int))))), (54, .one (.t none (.sc (.int .i64 w78))))], [(2, .vr [.os 1 0 [], .os 1 0 [], .os 1 0 [], .os 1 0 [], .os 1 0 [], .os 1 0 []]), (7, .vr [.sl v70.sets.length (v70.sets.map fun x0 => .sc (.int .i64 x0)), .os 1 v70.next.length (v70.next.map fun x0 => .os 1 x0.length (x0.map fun x1 => .sc (.int .i64 x1))), .os 1 v70.below.length (v70.below.map fun x0 => .os 1 x0.length (x0.map fun x1 => .sc (.bool x1)))]), (9, .os 1 v71.2.length (v71.2.map fun x0 => .sc (.int .i64 x0))), (10, .vr [.sl v69.length (v69.map fun x0 => .sc (.int .i64 x0)), .sl v71.1.length (v71.1.map fun x0 => .sc (.int .i64 x0)), .os 1 v72.length (v72.map fun x0 => .sc (.int .i64 x0)), .os 1 w79.length (w79.map fun x0 => .os 1 x0.length (x0.map fun x1 => .sc (.int .i64 x1))), .os 1 (List.replicate (v69.length : Int).toNat (ByteArray.empty : ByteArray)).length ((List.replicate (v69.length : Int).toNat (ByteArray.empty : ByteArray)).map fun x0 => .sc (.string x0)), .os 1 w80.length (w80.map fun x0 => .sc (.string x0))])]⟩
def z7B (a0 : DFA) : Option (Imgs × Int) :=
  (z3P a0).bind fun v68 =>
  if v68 = 0 then
    (z5W a0).bind fun v69 =>
    if 400 < (v69.length : Int) then
      some ((⟨[], [], [], [], [], []⟩ : Imgs), 3)
    else
      (z3u a0 v69).bind fun v70 =>
      (z1Y v70).bind fun v71 =>
      (z1X v70 v71.1).bind fun v72 =>
      chk (z1g 24 (v69.length : Int)) <|
      chk (z1g 16 (v69.length : Int)) <|
      z0m (z5y v69 v70 v71 v72) LFm (0, List.replicate (v69.length : Int).toNat ([] : List Int), List.replicate (v69.length : Int).toNat (ByteArray.empty : ByteArray))
  else
    some ((⟨[], [], [], [], [], []⟩ : Imgs), v68)
instance images_Of_ok {a0 : DFA} : Ok (z7B a0) (fun r => L 29 [.agg [.sc (.int .i64 a0.letters), .sc (.int .i64 a0.start), .sl a0.final.length (a0.final.map fun x0 => .sc (.bool x0)), .sl a0.next.length (a0.next.map fun x0 => .sl x0.length (x0.map fun x1 => .sc (.int .i64 x1)))]] = some (.tup [.agg [.sl r.1.sets.length (r.1.sets.map fun x0 => .sc (.int .i64 x0)), .sl r.1.class_.length (r.1.class_.map fun x0 => .sc (.int .i64 x0)), .sl r.1.height.length (r.1.height.map fun x0 => .sc (.int .i64 x0)), .sl r.1.tiles.length (r.1.tiles.map fun x0 => .sl x0.length (x0.map fun x1 => .sc (.int .i64 x1))), .sl r.1.words.length (r.1.words.map fun x0 => .sc (.string x0)), .sl r.1.back.length (r.1.back.map fun x0 => .sc (.string x0))], .sc (.int .i64 r.2)], [.dead])) := ⟨fun r h0 => by
  simp only [z7B] at h0
  refine znb zuX zvw (zb5 zvD ⟨of_decide_eq_true rfl, of_decide_eq_true rfl⟩ rfl ?_)
  simp only [z6h, z5Z, z5q, z7J, z5u]
  refine zq rfl (zr rfl rfl rfl (by simp; rfl) ?_)
  refine z0i (zq rfl (zq rfl ?_))
  obtain ⟨v68, f87, h1⟩ := z1z h0
  have f87k := Ok.ok _ f87
  try simp at f87k
  refine zr rfl rfl rfl (by simp [f87k]; rfl) ?_
  refine z0i (zq rfl (zr rfl rfl rfl (by simp; rfl) ?_))
  refine z0i ?_
  by_cases c88 : v68 = 0
  ·rw [if_pos c88] at h1
   have c88e := eq_true c88
   refine z8T rfl (by simp [c88e]) (z5S rfl (z0i (zq rfl ?_)))
   obtain ⟨v69, f89, h2⟩ := z1z h1
   have f89k := Ok.ok _ f89
   try simp at f89k
   refine zr rfl rfl rfl (by simp [f89k]; rfl) ?_
   refine z0i (zq rfl (zr rfl rfl rfl (by simp; rfl) ?_))
   refine z0i (zq rfl (zq rfl (zr rfl rfl rfl (by simp; rfl) ?_)))
   refine z0i ?_
   by_cases c90 : 400 < (v69.length : Int)
   ·rw [if_pos c90] at h2
    refine z8S rfl (by simp [c90]) (zq rfl (zr rfl rfl rfl (by simp; rfl) ?_))
    refine z0i (zjy rfl (zgD ?_))
    cases h2
    simp
   ·rw [if_neg c90] at h2
    refine z8T rfl (by simp [c90]) (z5S rfl (z0i (zq rfl (znZ rfl rfl (by simp; rfl) ?_))))
    obtain ⟨v70, f91, h3⟩ := z1z h2
    have f91k := Ok.ok _ f91
    try simp at f91k
    refine zr rfl rfl rfl (by simp [f91k]; rfl) ?_
    refine z0i (zq rfl ?_)
    obtain ⟨v71, f92, h4⟩ := z1z h3
    have f92k := Ok.ok _ f92
    try simp at f92k
    refine zr rfl rfl rfl (by simp [f92k]; rfl) ?_
    refine z0i (zq rfl (znZ rfl rfl (by simp; rfl) ?_))
    obtain ⟨v72, f93, h5⟩ := z1z h4
    have f93k := Ok.ok _ f93
    try simp at f93k
    obtain ⟨f94, h6⟩ := zt7 h5
    obtain ⟨f95, h7⟩ := zt7 h6
    refine zfB rfl rfl rfl rfl ?_
    refine zoR [(0, 0, 0, 1), (1, 1, 0, 2), (2, 2, 0, 3), (3, 3, 0, 4), (4, 5, 0, 5), (5, 7, 0, 6), (6, 9, 0, 7), (7, 4, 1, 8), (7, 6, 1, 9), (7, 8, 1, 10), (7, 10, 1, 11), (7, 12, 1, 12), (8, 6, 1, 13), (8, 8, 1, 14), (8, 10, 1, 15), (8, 12, 1, 16), (9, 4, 1, 13), (9, 8, 1, 17), (9, 10, 1, 18), (9, 12, 1, 19), (10, 4, 1, 14), (10, 6, 1, 17), (10, 10, 1, 20), (10, 12, 1, 21), (11, 4, 1, 15), (11, 6, 1, 18), (11, 8, 1, 20), (11, 12, 1, 22), (12, 4, 1, 16), (12, 6, 1, 19), (12, 8, 1, 21), (12, 10, 1, 22), (13, 8, 1, 23), (13, 10, 1, 24), (13, 12, 1, 25), (14, 6, 1, 23), (14, 10, 1, 26), (14, 12, 1, 27), (15, 6, 1, 24), (15, 8, 1, 26), (15, 12, 1, 28), (16, 6, 1, 25), (16, 8, 1, 27), (16, 10, 1, 28), (17, 4, 1, 23), (17, 10, 1, 29), (17, 12, 1, 30), (18, 4, 1, 24), (18, 8, 1, 29), (18, 12, 1, 31), (19, 4, 1, 25), (19, 8, 1, 30), (19, 10, 1, 31), (20, 4, 1, 26), (20, 6, 1, 29), (20, 12, 1, 32), (21, 4, 1, 27), (21, 6, 1, 30), (21, 10, 1, 32), (22, 4, 1, 28), (22, 6, 1, 31), (22, 8, 1, 32), (23, 10, 1, 33), (23, 12, 1, 34), (24, 8, 1, 33), (24, 12, 1, 35), (25, 8, 1, 34), (25, 10, 1, 35), (26, 6, 1, 33), (26, 12, 1, 36), (27, 6, 1, 34), (27, 10, 1, 36), (28, 6, 1, 35), (28, 8, 1, 36), (29, 4, 1, 33), (29, 12, 1, 37), (30, 4, 1, 34), (30, 10, 1, 37), (31, 4, 1, 35), (31, 8, 1, 37), (32, 4, 1, 36), (32, 6, 1, 37), (33, 11, 0, 38), (34, 10, 1, 39), (35, 8, 1, 39), (36, 6, 1, 39), (37, 4, 1, 39), (38, 12, 1, 40), (39, 11, 0, 40), (40, 13, 2, 41)] 41 (by kernel_rfl) ?_
    refine z0o rfl rfl rfl rfl (by simp [z0b, z0c, f93k, f94, f95]; rfl) ?_
    refine z0o rfl rfl rfl rfl (by simp [z0b, z0c, f93k, f94, f95]; rfl) ?_
    refine z0o rfl rfl rfl rfl (by simp [z0b, z0c, f93k, f94, f95]; rfl) ?_
    refine z0o rfl rfl rfl rfl (by simp [z0b, z0c, f93k, f94, f95]; rfl) ?_
    refine z0o rfl rfl rfl rfl (by simp [z0b, z0c, f93k, f94, f95]; rfl) ?_
    refine z0o rfl rfl rfl rfl (by simp [z0b, z0c, f93k, f94, f95]; rfl) ?_
    refine z0o rfl rfl rfl rfl (by simp [z0b, z0c, f93k, f94, f95]; rfl) ?_
    refine z0o rfl rfl rfl rfl (by simp [z0b, z0c, f93k, f94, f95]; rfl) ?_
    refine z0o rfl rfl rfl rfl (by simp [z0b, z0c, f93k, f94, f95]; rfl) ?_
    refine z0o rfl rfl rfl rfl (by simp [z0b, z0c, f93k, f94, f95]; rfl) ?_
    refine z0o rfl rfl rfl rfl (by simp [z0b, z0c, f93k, f94, f95]; rfl) ?_
    refine z0o rfl rfl rfl rfl (by simp [z0b, z0c, f93k, f94, f95]; rfl) ?_
    refine z0o rfl rfl rfl rfl (by simp [z0b, z0c, f93k, f94, f95]; rfl) ?_
    refine z0o rfl rfl rfl rfl (by simp [z0b, z0c, f93k, f94, f95]; rfl) ?_
    refine z0o rfl rfl rfl rfl (by simp [z0b, z0c, f93k, f94, f95]; rfl) ?_
    refine z0o rfl rfl rfl rfl (by simp [z0b, z0c, f93k, f94, f95]; rfl) ?_
    refine z0n rfl rfl rfl rfl (by simp [z0b, z0c, f93k, f94, f95]) ?_
    refine z0o rfl rfl rfl rfl (by simp [z0b, z0c, f93k, f94, f95]; rfl) ?_
    refine z0o rfl rfl rfl rfl (by simp [z0b, z0c, f93k, f94, f95]; rfl) ?_
    refine z0o rfl rfl rfl rfl (by simp [z0b, z0c, f93k, f94, f95]; rfl) ?_
    refine z0n rfl rfl rfl rfl (by simp [z0b, z0c, f93k, f94, f95]) ?_
    refine z0n rfl rfl rfl rfl (by simp [z0b, z0c, f93k, f94, f95]) ?_
    refine z0o rfl rfl rfl rfl (by simp [z0b, z0c, f93k, f94, f95]; rfl) ?_
    refine z0o rfl rfl rfl rfl (by simp [z0b, z0c, f93k, f94, f95]; rfl) ?_
    refine z0n rfl rfl rfl rfl (by simp [z0b, z0c, f93k, f94, f95]) ?_
    refine z0n rfl rfl rfl rfl (by simp [z0b, z0c, f93k, f94, f95]) ?_
    refine z0n rfl rfl rfl rfl (by simp [z0b, z0c, f93k, f94, f95]) ?_
    refine z0o rfl rfl rfl rfl (by simp [z0b, z0c, f93k, f94, f95]; rfl) ?_
    refine z0n rfl rfl rfl rfl (by simp [z0b, z0c, f93k, f94, f95]) ?_
    refine z0n rfl rfl rfl rfl (by simp [z0b, z0c, f93k, f94, f95]) ?_
    refine z0n rfl rfl rfl rfl (by simp [z0b, z0c, f93k, f94, f95]) ?_
    refine z0n rfl rfl rfl rfl (by simp [z0b, z0c, f93k, f94, f95]) ?_
    refine z0o rfl rfl rfl rfl (by simp [z0b, z0c, f93k, f94, f95]; rfl) ?_
    refine z0o rfl rfl rfl rfl (by simp [z0b, z0c, f93k, f94, f95]; rfl) ?_
    refine z0o rfl rfl rfl rfl (by simp [z0b, z0c, f93k, f94, f95]; rfl) ?_
    refine z0n rfl rfl rfl rfl (by simp [z0b, z0c, f93k, f94, f95]) ?_
    refine z0o rfl rfl rfl rfl (by simp [z0b, z0c, f93k, f94, f95]; rfl) ?_
    refine z0o rfl rfl rfl rfl (by simp [z0b, z0c, f93k, f94, f95]; rfl) ?_
    refine z0n rfl rfl rfl rfl (by simp [z0b, z0c, f93k, f94, f95]) ?_
    refine z0n rfl rfl rfl rfl (by simp [z0b, z0c, f93k, f94, f95]) ?_
    refine z0o rfl rfl rfl rfl (by simp [z0b, z0c, f93k, f94, f95]; rfl) ?_
    refine z0n rfl rfl rfl rfl (by simp [z0b, z0c, f93k, f94, f95]) ?_
    refine z0n rfl rfl rfl rfl (by simp [z0b, z0c, f93k, f94, f95]) ?_
    refine z0n rfl rfl rfl rfl (by simp [z0b, z0c, f93k, f94, f95]) ?_
    refine z0n rfl rfl rfl rfl (by simp [z0b, z0c, f93k, f94, f95]) ?_
    refine z0o rfl rfl rfl rfl (by simp [z0b, z0c, f93k, f94, f95]; rfl) ?_
    refine z0o rfl rfl rfl rfl (by simp [z0b, z0c, f93k, f94, f95]; rfl) ?_
    refine z0n rfl rfl rfl rfl (by simp [z0b, z0c, f93k, f94, f95]) ?_
    refine z0n rfl rfl rfl rfl (by simp [z0b, z0c, f93k, f94, f95]) ?_
    refine z0o rfl rfl rfl rfl (by simp [z0b, z0c, f93k, f94, f95]; rfl) ?_
    refine z0n rfl rfl rfl rfl (by simp [z0b, z0c, f93k, f94, f95]) ?_
    refine z0n rfl rfl rfl rfl (by simp [z0b, z0c, f93k, f94, f95]) ?_
    refine z0n rfl rfl rfl rfl (by simp [z0b, z0c, f93k, f94, f95]) ?_
    refine z0n rfl rfl rfl rfl (by simp [z0b, z0c, f93k, f94, f95]) ?_
    refine z0n rfl rfl rfl rfl (by simp [z0b, z0c, f93k, f94, f95]) ?_
    refine z0o rfl rfl rfl rfl (by simp [z0b, z0c, f93k, f94, f95]; rfl) ?_
    refine z0n rfl rfl rfl rfl (by simp [z0b, z0c, f93k, f94, f95]) ?_
    refine z0n rfl rfl rfl rfl (by simp [z0b, z0c, f93k, f94, f95]) ?_
    refine z0n rfl rfl rfl rfl (by simp [z0b, z0c, f93k, f94, f95]) ?_
    refine z0n rfl rfl rfl rfl (by simp [z0b, z0c, f93k, f94, f95]) ?_
    refine z0n rfl rfl rfl rfl (by simp [z0b, z0c, f93k, f94, f95]) ?_
    refine z0n rfl rfl rfl rfl (by simp [z0b, z0c, f93k, f94, f95]) ?_
    refine z0o rfl rfl rfl rfl (by simp [z0b, z0c, f93k, f94, f95]; rfl) ?_
    refine z0o rfl rfl rfl rfl (by simp [z0b, z0c, f93k, f94, f95]; rfl) ?_
    refine z0n rfl rfl rfl rfl (by simp [z0b, z0c, f93k, f94, f95]) ?_
    refine z0o rfl rfl rfl rfl (by simp [z0b, z0c, f93k, f94, f95]; rfl) ?_
    refine z0n rfl rfl rfl rfl (by simp [z0b, z0c, f93k, f94, f95]) ?_
    refine z0n rfl rfl rfl rfl (by simp [z0b, z0c, f93k, f94, f95]) ?_
    refine z0n rfl rfl rfl rfl (by simp [z0b, z0c, f93k, f94, f95]) ?_
    refine z0o rfl rfl rfl rfl (by simp [z0b, z0c, f93k, f94, f95]; rfl) ?_
    refine z0n rfl rfl rfl rfl (by simp [z0b, z0c, f93k, f94, f95]) ?_
    refine z0n rfl rfl rfl rfl (by simp [z0b, z0c, f93k, f94, f95]) ?_
    refine z0n rfl rfl rfl rfl (by simp [z0b, z0c, f93k, f94, f95]) ?_
    refine z0n rfl rfl rfl rfl (by simp [z0b, z0c, f93k, f94, f95]) ?_
    refine z0n rfl rfl rfl rfl (by simp [z0b, z0c, f93k, f94, f95]) ?_
    refine z0o rfl rfl rfl rfl (by simp [z0b, z0c, f93k, f94, f95]; rfl) ?_
    refine z0n rfl rfl rfl rfl (by simp [z0b, z0c, f93k, f94, f95]) ?_
    refine z0n rfl rfl rfl rfl (by simp [z0b, z0c, f93k, f94, f95]) ?_
    refine z0n rfl rfl rfl rfl (by simp [z0b, z0c, f93k, f94, f95]) ?_
    refine z0n rfl rfl rfl rfl (by simp [z0b, z0c, f93k, f94, f95]) ?_
    refine z0n rfl rfl rfl rfl (by simp [z0b, z0c, f93k, f94, f95]) ?_
    refine z0n rfl rfl rfl rfl (by simp [z0b, z0c, f93k, f94, f95]) ?_
    refine z0o rfl rfl rfl rfl (by simp [z0b, z0c, f93k, f94, f95]; rfl) ?_
    refine z0o rfl rfl rfl rfl (by simp [z0b, z0c, f93k, f94, f95]; rfl) ?_
    refine z0n rfl rfl rfl rfl (by simp [z0b, z0c, f93k, f94, f95]) ?_
    refine z0n rfl rfl rfl rfl (by simp [z0b, z0c, f93k, f94, f95]) ?_
    refine z0n rfl rfl rfl rfl (by simp [z0b, z0c, f93k, f94, f95]) ?_
    refine z0o rfl rfl rfl rfl (by simp [z0b, z0c, f93k, f94, f95]; rfl) ?_
    refine z0n rfl rfl rfl rfl (by simp [z0b, z0c, f93k, f94, f95]) ?_
    refine z0o rfl rfl rfl rfl (by simp [z0b, z0c, f93k, f94, f95]; rfl) ?_
    refine zpb rfl ?_
    refine zff rfl (by simp [f93k, f94, f95]; rfl) ?_
    refine z0i (zq rfl (zq rfl (zr rfl rfl rfl (by simp; rfl) ?_)))
    refine z0i (zb rfl (z6n h7 (z5w v69 v70 v71 v72) rfl rfl (by simp [z5w]) fun s o1 h8 hr1 => ?_))
    obtain ⟨w78, w79, w80⟩ := s
    simp only [z5y] at h8
    simp only [z5w]
    refine zq rfl (zr rfl rfl rfl (by simp; rfl) ?_)
    refine z0i (zq rfl ?_)
    by_cases c111 : w78 < (v69.length : Int)
    ·rw [if_pos c111] at h8
     refine z8S rfl (by simp [c111]) (z5S rfl (z0i (zq rfl (zb rfl (zq rfl (zr rfl rfl rfl (by simp; rfl) ?_))))))
     refine z0i (zq rfl ?_)
     obtain ⟨v88, f112, h9⟩ := z1z h8
     have f112k := Ok.ok _ f112
     try simp at f112k
     obtain ⟨v89, f113, h10⟩ := z6M h9
     refine z7u rfl rfl rfl rfl ?_; repeat' ((first | refine z4t rfl rfl fun Q' hQ => ?_ | refine z3N rfl fun Q' hQ => ?_); simp [f112k, f113]; refine hQ.out _ ?_; clear hQ; clear Q')
     refine z0i (zq rfl ?_)
     obtain ⟨v90, f114, h11⟩ := z1z h10
     have f114k := Ok.ok _ f114
     try simp at f114k
     refine zr rfl rfl rfl (by simp [f114k]; rfl) ?_
     refine z0i ?_
     obtain ⟨v91, f115, h12⟩ := z6M h11
     obtain ⟨v92, f116, h13⟩ := z6M h12
     obtain ⟨v93, f117, h14⟩ := z6M h13
     obtain ⟨v94, f118, h15⟩ := z6M h14
     refine z7u rfl rfl rfl rfl ?_; repeat' ((first | refine z4t rfl rfl fun Q' hQ => ?_ | refine z3N rfl fun Q' hQ => ?_); simp [f115, f116, f117, f118]; refine hQ.out _ ?_; clear hQ; clear Q')
     refine z4d (z0i (zr rfl rfl rfl (by simp; rfl) ?_))
     have ho := z3s h15
     refine z3W ho ?_
     simp [z5w]
    ·rw [if_neg c111] at h8
     refine z8T rfl (by simp [c111]) (z8y rfl (z6l ?_))
     obtain ⟨rr1, h9, ho1⟩ := z3R h8
     have hs1 := hr1 _ ho1
     subst hs1
     refine z5c ho1 (z3h rfl (z0i (zq rfl (zq rfl (zr rfl rfl rfl (by simp; rfl) ?_)))))
     refine z0i (zb rfl (z6n h9 (z5v v69 v70 v71 v72 w79 w80) rfl rfl (by simp [z5v]) fun s o2 h10 hr2 => ?_))
     obtain ⟨w107, w108⟩ := s
     simp only [z5x] at h10
     simp only [z5v]
     refine zq rfl (zr rfl rfl rfl (by simp; rfl) ?_)
     refine z0i (zq rfl ?_)
     by_cases c155 : w107 < (v71.2.length : Int)
     ·rw [if_pos c155] at h10
      refine z8S rfl (by simp [c155]) (z5S rfl (z0i (zq rfl (zb rfl (zq rfl ?_)))))
      obtain ⟨v122, f156, h11⟩ := z6M h10
      refine zr rfl rfl rfl (by simp [f156]; rfl) ?_
      refine z0i (zq rfl ?_)
      obtain ⟨v123, f157, h12⟩ := z1z h11
      have f157k := Ok.ok _ f157
      try simp at f157k
      refine zr rfl rfl rfl (by simp [f157k]; rfl) ?_
      refine z0i (zq rfl (zr rfl rfl rfl (by simp; rfl) ?_))
      refine z0i (zb rfl (z6n h12 (z4C v69 v70 v71 v72 w79 w80 w107 v123) rfl rfl (by simp [z4C]) fun s o3 h13 hr3 => ?_))
      obtain ⟨w127, w128⟩ := s
      simp only [z4D] at h13
      simp only [z4C]
      refine zq rfl (zr rfl rfl rfl (by simp; rfl) ?_)
      refine z0i (zq rfl ?_)
      by_cases c168 : w127 < (v69.length : Int)
      ·rw [if_pos c168] at h13
       refine z8S rfl (by simp [c168]) (z5S rfl (z0i (zq rfl (zb rfl (zq rfl (zr rfl rfl rfl (by simp; rfl) ?_))))))
       refine z0i (zq rfl ?_)
       obtain ⟨v132, f169, h14⟩ := z6M h13
       refine zr rfl rfl rfl (by simp [f169]; rfl) ?_
       refine z0i ?_
       by_cases c170 : v132 = w107
       ·rw [if_pos c170] at h14
        have c170e := eq_true c170
        refine z8S rfl (by simp [c170e]) ?_
        obtain ⟨v133, f171, h15⟩ := z6M h14
        obtain ⟨v134, f172, h16⟩ := z6M h15
        refine z7u rfl rfl rfl rfl ?_; repeat' ((first | refine z4t rfl rfl fun Q' hQ => ?_ | refine z3N rfl fun Q' hQ => ?_); simp [f171, f172]; refine hQ.out _ ?_; clear hQ; clear Q')
        refine z4d (z0i (zr rfl rfl rfl (by simp; rfl) ?_))
        have ho := z3s h16
        refine z3W ho ?_
        simp [z4C]
       ·rw [if_neg c170] at h14
        have c170e := eq_false c170
        refine z8T rfl (by simp [c170e]) (z5S rfl (z4d (z0i (zr rfl rfl rfl (by simp; rfl) ?_))))
        have ho := z3s h14
        refine z3W ho ?_
        simp [z4C]
      ·rw [if_neg c168] at h13
       refine z8T rfl (by simp [c168]) (z8y rfl (z6l ?_))
       obtain ⟨rr3, h14, ho3⟩ := z3R h13
       have hs3 := hr3 _ ho3
       subst hs3
       refine z5c ho3 (z3h rfl (z4d (z0i (zr rfl rfl rfl (by simp; rfl) ?_))))
       have ho := z3s h14
       refine z3W ho ?_
       simp [z5v]
     ·rw [if_neg c155] at h10
      refine z8T rfl (by simp [c155]) (z8y rfl (z6l ?_))
      obtain ⟨rr2, h11, ho2⟩ := z3R h10
      have hs2 := hr2 _ ho2
      subst hs2
      refine z5c ho2 (z3h rfl (z0i (zq rfl (zr rfl rfl rfl (by simp; rfl) ?_))))
      refine z0i (zjy rfl ?_)
      cases h11
      simp
  ·rw [if_neg c88] at h1
   have c88e := eq_false c88
   refine z8S rfl (by simp [c88e]) (zq rfl (zr rfl rfl rfl (by simp; rfl) ?_))
   refine z0i (zjy rfl (zgD ?_))
   cases h1
   simp⟩
end
end
section
open Go
set_option maxRecDepth 100000
theorem zhq (a b : Nat) : zpm a b = true ↔ (szN b < szN a ∨ (szN a = szN b /\ a <= b)) := by unfold zpm; simp
def zom (x : Nat) : List Nat -> List Nat
  | [] => [x]
  | y :: l => if zpm x y = true then x :: y :: l else y :: zom x l
def zdJ : List Nat -> List Nat
  | [] => []
  | x :: l => zom x (zdJ l)
abbrev zsi (l : List Nat) : Prop := l.Pairwise fun a b => zpm a b = true
theorem ziq (x : Nat) : ∀ l : List Nat, zon (x : Int) (toI l) = toI (zom x l)
  | [] => rfl
  | y :: l => by
    have ih := ziq x l
    have e : leI (x : Int) (y : Int) = zpm x y := by simp [leI]
    simp only [toI, List.map_cons, zon, zom] at ih ⊢
    rw [e]
    by_cases h : zpm x y = true
    · rw [if_pos h, if_pos h]; rfl
    · rw [if_neg h, if_neg h, ih]; rfl
theorem zfk : ∀ l : List Nat, z9t (toI l) = toI (zdJ l)
  | [] => rfl
  | x :: l => by
    have ih := zfk l
    simp only [toI, List.map_cons, z9t, zdJ] at ih ⊢
    rw [ih]; exact ziq x (zdJ l)
theorem zcc (x : Nat) : ∀ l : List Nat, (zom x l).Perm (x :: l)
  | [] => .refl _
  | y :: l => by
    unfold zom
    split
    · exact .refl _
    · exact ((zcc x l).cons y).trans (.swap x y l)
theorem zai : ∀ l : List Nat, (zdJ l).Perm l
  | [] => .refl _
  | x :: l => (zcc x (zdJ l)).trans ((zai l).cons x)
theorem zcb (x : Nat) : ∀ l : List Nat, zsi l -> zsi (zom x l)
  | [], _ => by simp [zom]
  | y :: l, h => by
    unfold zom
    rw [zsi, List.pairwise_cons] at h
    split
    · rename_i hxy
      refine List.pairwise_cons.2 ⟨fun z hz => ?_, List.pairwise_cons.2 h⟩
      rcases List.mem_cons.1 hz with rfl | hz
      · exact hxy
      · have := h.1 z hz
        rw [zhq] at *
        omega
    · rename_i hxy
      refine List.pairwise_cons.2 ⟨fun z hz => ?_, zcb x l h.2⟩
      rcases List.mem_cons.1 ((zcc x l).mem_iff.1 hz) with rfl | hz
      · rw [zhq] at *
        omega
      · exact h.1 z hz
theorem zaF : ∀ l : List Nat, zsi (zdJ l)
  | [] => by simp [zdJ]
  | x :: l => zcb x _ (zaF l)
def z8w (S : List Nat) : Nat -> List Nat
  | 0 => S
  | q + 1 => if 2 ^ q ∈ z8w S q then z8w S q else z8w S q ++ [2 ^ q]
theorem z6N {S : List Nat} (hS : S.Nodup) : ∀ q, (z8w S q).Nodup /\ (∀ x, x ∈ z8w S q ↔ x ∈ S ∨ ∃ i, i < q /\ x = 2 ^ i) /\ (z8w S q).length <= S.length + q
  | 0 => ⟨hS, fun x => by simp [z8w], by simp [z8w]⟩
  | q + 1 => by
    obtain ⟨h1, h2, h3⟩ := z6N hS q
    unfold z8w
    split
    · rename_i h
      refine ⟨h1, fun x => ?_, by omega⟩
      rw [h2]
      constructor
      · rintro (h | ⟨i, h, e⟩)
        · exact .inl h
        · exact .inr ⟨i, by omega, e⟩
      · rintro (h' | ⟨i, h', e⟩)
        · exact .inl h'
        · by_cases ei : i = q
          · subst ei; rw [e]; exact (h2 _).1 h
          · exact .inr ⟨i, by omega, e⟩
    · rename_i h
      refine ⟨List.nodup_append.2 ⟨h1, by simp, fun a ha b hb e => ?_⟩, fun x => ?_, by rw [List.length_append, List.length_singleton]; omega⟩
      · obtain rfl := List.mem_singleton.1 hb
        exact h (e ▸ ha)
      · rw [List.mem_append, h2, List.mem_singleton]
        constructor
        · rintro ((h' | ⟨i, h', e⟩) | e)
          · exact .inl h'
          · exact .inr ⟨i, by omega, e⟩
          · exact .inr ⟨q, by omega, e⟩
        · rintro (h' | ⟨i, h', e⟩)
          · exact .inl (.inl h')
          · by_cases ei : i = q
            · subst ei; exact .inr e
            · exact .inl (.inr ⟨i, by omega, e⟩)
def z6m (d : DFA) (m n : Nat) : List Nat := zdJ (z8w (z0Y d m n (2 ^ n - 1)).1 n)
structure SetsP (d : DFA) (m n : Nat) (S : List Nat) : Prop where
  nd : S.Nodup
  lt : ∀ x ∈ S, x < 2 ^ n
  cl : ∀ x ∈ S, ∀ a, a < m -> mvN d x a ∈ S
  one : ∀ q, q < n -> 2 ^ q ∈ S
  srt : zsi S
theorem zry {d : DFA} {m n : Nat} (hd : DfaOk d m n) {q a : Nat} (hq : q < n) (ha : a < m) : ∃ p, p < n /\ mvN d (2 ^ q) a = 2 ^ p := by
  obtain ⟨h1, h2, e, h3, h4⟩ := zbR hd hq ha
  refine ⟨((d.next.getD q []).getD a 0).toNat, by rw [e]; omega, Nat.eq_of_testBit_eq fun i => ?_⟩
  rw [Bool.eq_iff_iff, z7a hd ha, Nat.testBit_two_pow, decide_eq_true_iff]
  constructor
  · rintro ⟨j, j1, j2, j3⟩
    rw [Nat.testBit_two_pow, decide_eq_true_iff] at j2
    subst j2; exact j3
  · intro h
    exact ⟨q, hq, by rw [Nat.testBit_two_pow]; simp, h⟩
theorem zdL {d : DFA} {m n : Nat} (hd : DfaOk d m n) : SetsP d m n (z6m d m n) := by
  have hp := Nat.two_pow_pos n
  have hf : 2 ^ n - 1 < 2 ^ n := by omega
  have hi := z5Q hd hf
  obtain ⟨h1, h2, h3⟩ := z6N hi.nd n
  have hpm := zai (z8w (z0Y d m n (2 ^ n - 1)).1 n)
  have hm : ∀ x, x ∈ z6m d m n ↔ x ∈ (z0Y d m n (2 ^ n - 1)).1 ∨ ∃ i, i < n /\ x = 2 ^ i := fun x => hpm.mem_iff.trans (h2 x)
  refine ⟨hpm.nodup_iff.2 h1, fun x hx => ?_, fun x hx a ha => ?_, fun q hq => (hm _).2 (.inr ⟨q, hq, rfl⟩), zaF _⟩
  · rcases (hm x).1 hx with h | ⟨i, hi', rfl⟩
    · exact hi.lt x h
    · exact Nat.pow_lt_pow_right (by omega) hi'
  · rcases (hm x).1 hx with h | ⟨i, hi', rfl⟩
    · exact (hm _).2 (.inl (zaH hd hf h ha))
    · obtain ⟨p, hp1, hp2⟩ := zry hd hi' ha
      exact (hm _).2 (.inr ⟨p, hp1, hp2⟩)
theorem zhu {S : List Nat} (hl : S.length < 4611686018427387904) (x : Nat) : z1D (toI S) (x : Int) = some (decide (x ∈ S)) := by
  unfold z1D z2U
  rw [z5T (s := (0 : Int)) S.length (fun k => (k : Int)) (fun k => decide (x = S.getD k 0)) (fun k => some (k : Int)) (x := some (-1)) rfl (by simp only [LFm]; omega)]
  · cases h : (List.range S.length).find? (fun k => decide (x = S.getD k 0)) with
    | none =>
      have := zg5.1 h
      rw [Option.bind_some]
      congr 1
      have hn : ¬ x ∈ S := fun hx => by
        obtain ⟨i, hi, rfl⟩ := List.getElem_of_mem hx
        have := this i hi
        simp [List.getD, hi] at this
      simp [hn]
    | some k =>
      obtain ⟨k1, k2, _⟩ := zg4.1 h
      rw [Option.bind_some]
      congr 1
      have hx : x ∈ S := by
        have : x = S.getD k 0 := by simpa using k2
        rw [this]; exact z0r k1
      simp [hx]
  · intro k hk
    simp only [z2q]
    rw [if_pos (by rw [z0d]; omega), z2c hk, Option.bind_some]
    by_cases h : x = S.getD k 0
    · rw [if_pos (by omega), if_pos (by simpa using h)]
    · rw [if_neg (by omega), if_neg (by simpa using h), z1b (by omega)]
  · simp only [z2q]
    rw [if_neg (by rw [z0d]; omega)]
theorem zq2 {d : DFA} {m n : Nat} (hd : DfaOk d m n) (hn : n <= 7) : z5W d = some (toI (z6m d m n)) := by
  have hp := Nat.two_pow_pos n
  have h128 : 2 ^ n <= 128 := Nat.pow_le_pow_right (n := 2) (by omega) hn
  have hf : 2 ^ n - 1 < 2 ^ n := by omega
  have hi := z5Q hd hf
  have hl := z1x hi.nd hi.lt
  obtain ⟨h1, h2, h3⟩ := z6N hi.nd n
  unfold z5W
  have ew : IntKind.i64.wrap (((2 ^ n : Nat) : Int) - 1) = ((2 ^ n - 1 : Nat) : Int) := by rw [z1Z (by omega) (by omega)]; omega
  rw [hd.fin, z0q _ (by omega), z8d (by omega), ew, znX hd (by omega) hf, Option.bind_some]
  refine z0L (s := ((0 : Int), toI (z0Y d m n (2 ^ n - 1)).1)) n (fun q => ((q : Int), toI (z8w (z0Y d m n (2 ^ n - 1)).1 q))) rfl (by simp only [LFm]; omega) (fun q hq => ?_) ?_
  · have h3' := (z6N hi.nd q).2.2
    simp only [z5e]
    rw [if_pos (by rw [hd.fin]; omega), z0q _ (by omega), z8d (by omega), zhu (by omega), Option.bind_some, z1b (by omega), z8w]
    by_cases h : 2 ^ q ∈ z8w (z0Y d m n (2 ^ n - 1)).1 q
    · rw [if_pos (by simpa using h), if_pos h]
    · rw [if_neg (by simpa using h), if_neg h, z0q _ (by unfold z1s; rw [z0d]; omega), z4Z]
  · simp only [z5e]
    rw [if_neg (by rw [hd.fin]; omega)]
    have hv : zgw (toI (z8w (z0Y d m n (2 ^ n - 1)).1 n)) = some (toI (z6m d m n)) := by
      unfold zgw
      rw [if_pos, zfk]; rfl
      refine ⟨fun h => ?_, by rw [z0d]; omega, ?_⟩
      · have hm := (h2 (2 ^ n - 1)).2 (.inl (zak hd hf))
        have := congrArg List.length h
        rw [z0d] at this
        have h0 := List.length_pos_of_mem hm
        simp at this
        rw [this] at h0; simp at h0
      · rw [List.all_eq_true]
        intro x hx
        simp only [toI, List.mem_map] at hx
        obtain ⟨y, hy, rfl⟩ := hx
        have : y < 2 ^ n := by
          rcases (h2 y).1 hy with h | ⟨i, hi', rfl⟩
          · exact hi.lt y h
          · exact Nat.pow_lt_pow_right (by omega) hi'
        simp; omega
    rw [hv, Option.bind_some]
end
section
open Go
set_option maxRecDepth 100000
def z2a {α : Type} (N : Nat) (f : Nat -> α) (z : α) (k : Nat) : List α := (List.range N).map fun i => if i < k then f i else z
theorem zbd {α : Type} (N : Nat) (f : Nat -> α) (z : α) (k : Nat) : (z2a N f z k).length = N := by simp [z2a]
theorem z9U {α : Type} (N : Nat) (f : Nat -> α) (z : α) : z2a N f z 0 = List.replicate N z := by
  apply List.ext_getElem (by simp [z2a]); intro i h1 h2; simp [z2a]
theorem z9T {α : Type} (N : Nat) (f : Nat -> α) (z : α) : z2a N f z N = (List.range N).map f := by
  apply List.ext_getElem (by simp [z2a]); intro i h1 h2
  have : i < N := by simpa [z2a] using h1
  simp [z2a, this]
theorem z7G {α : Type} {N : Nat} {f : Nat -> α} {z : α} {k i : Nat} (h : i < N) : atI (z2a N f z k) (i : Int) = some (if i < k then f i else z) := by
  rw [z0Q (by rw [zbd]; exact h)]; simp [z2a]
theorem z5D {α : Type} {N : Nat} {f : Nat -> α} {z : α} {k : Nat} (h : k < N) : (z2a N f z k).set k (f k) = z2a N f z (k + 1) := by
  apply List.ext_getElem (by simp [z2a]); intro i h1 h2
  simp only [z2a, List.getElem_set, List.getElem_map, List.getElem_range]
  by_cases e : k = i
  · subst e; rw [if_pos rfl, if_pos (by omega)]
  · rw [if_neg e]
    by_cases e2 : i < k
    · rw [if_pos e2, if_pos (by omega)]
    · rw [if_neg e2, if_neg (by omega)]
theorem zmy {α : Type} {N : Nat} {f : Nat -> α} {z : α} {k : Nat} (h : f k = z) : z2a N f z k = z2a N f z (k + 1) := by
  apply List.ext_getElem (by simp [z2a]); intro i h1 h2
  simp only [z2a, List.getElem_map, List.getElem_range]
  by_cases e : k = i
  · subst e; rw [if_neg (by omega), if_pos (by omega), h]
  · by_cases e2 : i < k
    · rw [if_pos e2, if_pos (by omega)]
    · rw [if_neg e2, if_neg (by omega)]
theorem z2V {α : Type} {N : Nat} {f : Nat -> α} {i : Nat} (h : i < N) : atI ((List.range N).map f) (i : Int) = some (f i) := by
  rw [z0Q (by simpa using h)]; simp
theorem zi0 {α : Type} {l : List α} {i : Nat} {x : α} (h : i < l.length) : atI (l.set i x) (i : Int) = some x := by
  rw [z0Q (by simpa using h)]; simp
theorem zgH {α : Type} (l : List α) (i : Nat) (x y : α) : (l.set i x).set i y = l.set i y := by simp
theorem z9b {S : List Nat} (hS : S.Nodup) {i : Nat} (h : i < S.length) : S.idxOf (S.getD i 0) = i := by
  rw [List.getD, List.getElem?_eq_getElem h, Option.getD_some]
  have hm : S[i] ∈ S := List.getElem_mem h
  have h1 := List.idxOf_lt_length_of_mem hm
  have h2 : S[S.idxOf S[i]] = S[i] := List.getElem_idxOf h1
  exact (List.getElem_inj hS).1 h2
theorem z3C {S : List Nat} {x : Nat} (h : x ∈ S) : S.getD (S.idxOf x) 0 = x := by
  have := List.idxOf_lt_length_of_mem h
  rw [List.getD, List.getElem?_eq_getElem this, Option.getD_some, List.getElem_idxOf]
theorem z6g {S : List Nat} {x : Nat} (h : x ∈ S) : S.idxOf x < S.length := List.idxOf_lt_length_of_mem h
theorem z7e {S : List Nat} (hS : S.Nodup) {i j : Nat} (hi : i < S.length) (hj : j < S.length) (h : S.getD i 0 = S.getD j 0) : i = j := by
  rw [← z9b hS hi, h, z9b hS hj]
def z5N (st : RS) (x : Nat) : ByteArray := st.2.getD (st.1.idxOf x) ByteArray.empty
theorem zgu {st : RS} (hl : st.2.length = st.1.length) {x : Nat} (hx : x ∉ st.1) (w : ByteArray) (y : Nat) : z5N (st.1 ++ [x], st.2 ++ [w]) y = if y = x then w else z5N st y := by
  unfold z5N
  simp only
  by_cases hy : y ∈ st.1
  · have hne : y ≠ x := fun e => hx (e ▸ hy)
    rw [if_neg hne, List.idxOf_append, if_pos hy, z5B _ (by rw [hl]; exact z6g hy)]
  · rw [List.idxOf_append, if_neg hy]
    by_cases e : y = x
    · subst e
      rw [if_pos rfl, show List.idxOf y [y] = 0 by simp, Nat.zero_add, z7D hl.symm]
    · rw [if_neg e]
      have h1 : List.idxOf y [x] = 1 := by
        rw [List.idxOf_cons]
        have : (x == y) = false := by simpa using fun h => e h.symm
        simp [this]
      have h2 : st.1.idxOf y = st.1.length := List.idxOf_eq_length hy
      rw [h1, h2, List.getD, List.getD, List.getElem?_eq_none (by simp [hl]; omega), List.getElem?_eq_none (by omega)]
theorem zi3 {d : DFA} {m n : Nat} {S : List Nat} (hS : SetsP d m n S) : ∀ {w : List UInt8} {s : Nat}, (∀ c ∈ w, 97 <= c.toNat /\ c.toNat < 97 + m) -> s ∈ S -> z4m d s w ∈ S
  | [], s, _, h => h
  | c :: w, s, hw, h => zi3 (w := w) (s := mvN d s (c.toNat - 97)) hS (fun c' hc' => hw c' (List.mem_cons_of_mem _ hc')) (hS.cl s h _ (by have := hw c (List.mem_cons_self ..); omega))
theorem zmf {d : DFA} {m n s : Nat} {S : List Nat} (hS : SetsP d m n S) (hs : s ∈ S) {st : RS} (h : RInv d m n s st) {x : Nat} (hx : x ∈ st.1) : x ∈ S := by
  obtain ⟨i, hi, rfl⟩ := List.getElem_of_mem hx
  obtain ⟨_, o2, o3⟩ := h.ok i hi
  rw [List.getD, List.getD, List.getElem?_eq_getElem hi, Option.getD_some] at o3
  rw [← o3]
  exact zi3 hS o2 hs
def zib (d : DFA) (m : Nat) (S : List Nat) (i : Nat) : List Int := (List.range m).map fun a => ((S.idxOf (mvN d (S.getD i 0) a) : Nat) : Int)
def zqP (d : DFA) (m : Nat) (S : List Nat) : List (List Int) := (List.range S.length).map (zib d m S)
def zm4 (S : List Nat) (st : RS) : List Bool := (List.range S.length).map fun i => decide (S.getD i 0 ∈ st.1)
def zeG (S : List Nat) (st : RS) : List ByteArray := (List.range S.length).map fun i => z5N st (S.getD i 0)
def zcJ (S : List Nat) (st : RS) : List Int := toI (st.1.map S.idxOf)
theorem zlP {S : List Nat} {st : RS} {k : Nat} (h : k < st.1.length) : atI (zcJ S st) (k : Int) = some ((S.idxOf (st.1.getD k 0) : Nat) : Int) := by
  unfold zcJ
  rw [z2c (by simpa using h)]
  simp [List.getD, h]
theorem zfr {d : DFA} {m n s : Nat} (hd : DfaOk d m n) (hn : n <= 12) {S : List Nat} (hS : SetsP d m n S) (hs : s ∈ S) {st : RS} (h : RInv d m n s st) {k : Nat} (hk : k < st.1.length) :
    z0m (z1G (k : Int) (zib d m S (S.idxOf (st.1.getD k 0)))) LFm (0, zm4 S st, zeG S st, zcJ S st) = z0e (((k + 1 : Nat) : Int), zm4 S (z7i d k st m), zeG S (z7i d k st m), zcJ S (z7i d k st m)) := by
  have h12 := zdV hn
  have hm6 := hd.m6
  have hSl := z1x hS.nd hS.lt
  refine z0L (s := ((0 : Int), zm4 S st, zeG S st, zcJ S st)) m (fun a => ((a : Int), zm4 S (z7i d k st a), zeG S (z7i d k st a), zcJ S (z7i d k st a))) rfl (by simp only [LFm]; omega) (fun a ha => ?_) ?_
  · obtain ⟨k1, _, X, W, k3, k4⟩ := ze9 hd h hk a (by omega)
    have hk' : k < (z7i d k st a).1.length := by rw [k3, List.length_append]; omega
    have hl := z1x k1.nd k1.lt
    have eg : (z7i d k st a).1.getD k 0 = st.1.getD k 0 := by rw [k3, z5B _ hk]
    have hkS : st.1.getD k 0 ∈ S := zmf hS hs h (z0r hk)
    have hxS : mvN d (st.1.getD k 0) a ∈ S := hS.cl _ hkS a ha
    obtain ⟨o1, _, _⟩ := k1.ok k hk'
    have hwk : z5N (z7i d k st a) (st.1.getD k 0) = (z7i d k st a).2.getD k ByteArray.empty := by
      unfold z5N; rw [← eg, z9b k1.nd hk']
    simp only [z1G]
    rw [if_pos (by simp [zib]; omega), zib, z2V ha, Option.bind_some, z3C hkS, zm4, z2V (z6g hxS), Option.bind_some, z3C hxS, z1b (by omega), z7i]
    unfold zfj
    rw [eg]
    simp only [decide_eq_true_eq]
    by_cases hm : mvN d (st.1.getD k 0) a ∈ (z7i d k st a).1
    · rw [if_pos hm, if_pos hm]; rfl
    · rw [if_neg hm, if_neg hm, zlP hk', Option.bind_some, eg, zeG, z2V (z6g hkS), Option.bind_some, z3C hkS, hwk, zh1 (by omega), z0q _ (by unfold z7l; rw [z5U]; omega), z2V (z6g hxS), Option.bind_some, z0q _ (by unfold z1s zcJ; rw [z0d, List.length_map]; omega), Int.toNat_natCast]
      congr 1
      refine Prod.ext rfl (Prod.ext ?_ (Prod.ext ?_ ?_))
      · simp only [zm4]
        apply List.ext_getElem (by simp)
        intro i i1 i2
        have hi : i < S.length := by simpa using i2
        simp only [List.getElem_set, List.getElem_map, List.getElem_range, List.mem_append, List.mem_singleton]
        by_cases e : S.idxOf (mvN d (st.1.getD k 0) a) = i
        · subst e; rw [if_pos rfl, z3C hxS]; simp
        · rw [if_neg e]
          have : S.getD i 0 ≠ mvN d (st.1.getD k 0) a := fun hh => e (by rw [← hh, z9b hS.nd hi])
          simp only [this, or_false]
      · simp only [zeG]
        apply List.ext_getElem (by simp)
        intro i i1 i2
        have hi : i < S.length := by simpa using i2
        simp only [List.getElem_set, List.getElem_map, List.getElem_range]
        rw [zgu k1.len hm]
        by_cases e : S.idxOf (mvN d (st.1.getD k 0) a) = i
        · subst e; rw [if_pos rfl, z3C hxS, if_pos rfl]
        · have : S.getD i 0 ≠ mvN d (st.1.getD k 0) a := fun hh => e (by rw [← hh, z9b hS.nd hi])
          rw [if_neg e, if_neg this]
      · simp only [zcJ, List.map_append, List.map_cons, List.map_nil]
        rw [z4Z]
  · simp only [z1G]
    have := z1x h.nd h.lt
    rw [if_neg (by simp [zib]), z1b (by omega)]
theorem zbN {d : DFA} {m n : Nat} (hd : DfaOk d m n) (hn : n <= 12) {S : List Nat} (hS : SetsP d m n S) (bl : List (List Bool)) {j : Nat} (hj : j < S.length) :
    z1j ⟨toI S, zqP d m S, bl⟩ (j : Int) = some (zcJ S (z0Y d m n (S.getD j 0)), zeG S (z0Y d m n (S.getD j 0))) := by
  have h12 := zdV hn
  have hp := Nat.two_pow_pos n
  have hSl := z1x hS.nd hS.lt
  have hs : S.getD j 0 ∈ S := z0r hj
  have hs2 : S.getD j 0 < 2 ^ n := hS.lt _ hs
  unfold z1j
  simp only
  rw [z0d, z0q _ (by unfold z1g; omega), z0q _ (by unfold z1g; omega), z0q _ (by omega), Int.toNat_natCast, Int.toNat_natCast]
  have e1 : (List.replicate S.length false).set j true = zm4 S (z6b d m (S.getD j 0) 0) := by
    apply List.ext_getElem (by simp [zm4])
    intro i i1 i2
    have hi : i < S.length := by simpa using i1
    simp only [zm4, z6b, List.getElem_set, List.getElem_map, List.getElem_range, List.getElem_replicate, List.mem_singleton]
    by_cases e : j = i
    · subst e; simp
    · rw [if_neg e]
      have : S.getD i 0 ≠ S.getD j 0 := fun hh => e (z7e hS.nd hi hj hh).symm
      symm; simpa using this
  have e2 : List.replicate S.length (ByteArray.empty : ByteArray) = zeG S (z6b d m (S.getD j 0) 0) := by
    apply List.ext_getElem (by simp [zeG])
    intro i i1 i2
    simp only [zeG, z6b, List.getElem_map, List.getElem_range, List.getElem_replicate, z5N]
    generalize List.idxOf (S.getD i 0) [S.getD j 0] = q
    cases q <;> rfl
  have e3 : [(j : Int)] = zcJ S (z6b d m (S.getD j 0) 0) := by
    simp only [zcJ, z6b, List.map_cons, List.map_nil, z9b hS.nd hj]; rfl
  rw [e1, e2, e3]
  refine ze3 (s := ((0 : Int), zm4 S (z6b d m (S.getD j 0) 0), zeG S (z6b d m (S.getD j 0) 0), zcJ S (z6b d m (S.getD j 0) 0))) (fun z => ∃ k : Nat, k <= 2 ^ n /\ z = ((k : Int), zm4 S (z6b d m (S.getD j 0) k), zeG S (z6b d m (S.getD j 0) k), zcJ S (z6b d m (S.getD j 0) k))) (fun z => 2 ^ n + 1 - z.1.toNat) ⟨0, by omega, rfl⟩ (by simp only [LFm]; omega) ?_
  rintro z ⟨k, hk, rfl⟩
  have hl := zgI hd hs2 k
  have hqs : (zcJ S (z6b d m (S.getD j 0) k)).length = (z6b d m (S.getD j 0) k).1.length := by simp [zcJ, toI]
  simp only [z3v]
  by_cases h : k < (z6b d m (S.getD j 0) k).1.length
  · left
    have hinv := (z8R hd hs2 k).1
    have hkS : (z6b d m (S.getD j 0) k).1.getD k 0 ∈ S := zmf hS hs hinv (z0r h)
    rw [if_pos (by rw [hqs]; omega), zlP h, Option.bind_some, zqP, z2V (z6g hkS), Option.bind_some, zfr hd hn hS hs hinv h]
    refine ⟨_, rfl, ⟨k + 1, by omega, ?_⟩, by simp only; omega⟩
    rw [z6b, if_pos h]
  · right
    rw [if_neg (by rw [hqs]; omega)]
    unfold z0Y
    rw [zdN h _ hk]
end
section
open Go
set_option maxRecDepth 100000
def z6a (d : DFA) (m n : Nat) (S : List Nat) (i j : Nat) : Bool := (z0Y d m n (S.getD j 0)).1.any fun x => decide (S.getD i 0 &&& x = S.getD i 0)
def zoI (d : DFA) (m n : Nat) (S : List Nat) : List (List Bool) := (List.range S.length).map fun i => (List.range S.length).map (z6a d m n S i)
def dgm (d : DFA) (m n : Nat) (S : List Nat) : Dgm := ⟨toI S, zqP d m S, zoI d m n S⟩
theorem z4e {d : DFA} {m n : Nat} (hd : DfaOk d m n) {S : List Nat} (hS : SetsP d m n S) {i j : Nat} (hj : j < S.length) : z6a d m n S i j = true ↔ zqV d m (S.getD i 0) (S.getD j 0) := by
  rw [zn1 hd (hS.lt _ (z0r hj))]
  unfold z6a z6c
  simp
def zkr (n : Nat) (S : List Nat) (k : Nat) : List Int := (List.range (2 ^ n)).map fun x => if x ∈ S.take k then ((S.idxOf x : Nat) : Int) else 0
theorem zop {n : Nat} {S : List Nat} (hS : S.Nodup) {k : Nat} (hk : k < S.length) : (zkr n S k).set (S.getD k 0) (k : Int) = zkr n S (k + 1) := by
  have hg : S.getD k 0 = S[k] := by rw [List.getD, List.getElem?_eq_getElem hk, Option.getD_some]
  apply List.ext_getElem (by simp [zkr])
  intro i h1 h2
  simp only [zkr, List.getElem_set, List.getElem_map, List.getElem_range]
  rw [List.take_succ_eq_append_getElem hk]
  simp only [List.mem_append, List.mem_singleton]
  by_cases e : S.getD k 0 = i
  · rw [if_pos e, if_pos (.inr (by rw [← hg]; exact e.symm)), ← e, z9b hS hk]
  · rw [if_neg e]
    have : ¬ i = S[k] := fun h => e (by rw [hg]; exact h.symm)
    simp [this]
theorem zp4 {n : Nat} {S : List Nat} {k x : Nat} (h : x < 2 ^ n) : atI (zkr n S k) (x : Int) = some (if x ∈ S.take k then ((S.idxOf x : Nat) : Int) else 0) := by
  unfold zkr; rw [z2V h]
theorem zjG {d : DFA} {m n : Nat} (hd : DfaOk d m n) (hn : n <= 12) {S : List Nat} (hS : SetsP d m n S) {i : Nat} (hi : i < S.length) :
    z0m (z2n d (toI S) (zkr n S S.length) (i : Int) (z2a S.length (fun _ => List.replicate S.length false) [] i) ((S.getD i 0 : Nat) : Int)) LFm (0, (z2a S.length (zib d m S) [] i).set i (List.replicate m 0)) =
      z0e (((i + 1 : Nat) : Int), z2a S.length (zib d m S) [] (i + 1), z2a S.length (fun _ => List.replicate S.length false) [] (i + 1)) := by
  have h12 := zdV hn
  have hm6 := hd.m6
  have hSl := z1x hS.nd hS.lt
  have hx : S.getD i 0 ∈ S := z0r hi
  refine z0L (s := ((0 : Int), (z2a S.length (zib d m S) [] i).set i (List.replicate m 0))) m (fun a => ((a : Int), (z2a S.length (zib d m S) [] i).set i (z2a m (fun a => ((S.idxOf (mvN d (S.getD i 0) a) : Nat) : Int)) 0 a))) (by rw [z9U]; rfl) (by simp only [LFm]; omega) (fun a ha => ?_) ?_
  · have hmv : mvN d (S.getD i 0) a ∈ S := hS.cl _ hx a ha
    simp only [z2n]
    rw [if_pos (by rw [hd.lt]; omega), zi0 (by rw [zbd]; exact hi), Option.bind_some, zm1 hd hn (hS.lt _ hx) ha, Option.bind_some, zp4 (hS.lt _ hmv), Option.bind_some, List.take_length, if_pos hmv, z7G ha, Option.bind_some, z1b (by omega), Int.toNat_natCast, Int.toNat_natCast, zgH]
    rw [z5D (f := fun a => ((S.idxOf (mvN d (S.getD i 0) a) : Nat) : Int)) (z := 0) ha]
  · simp only [z2n]
    rw [if_neg (by rw [hd.lt]; omega), z0d, z0q _ (by unfold z1g; omega), z7G hi, Option.bind_some, z1b (by omega), Int.toNat_natCast, Int.toNat_natCast, z9T]
    have e1 := z5D (f := zib d m S) (z := []) hi
    have e2 := z5D (f := fun _ => List.replicate S.length false) (z := []) hi
    rw [show ((List.range m).map fun a => ((S.idxOf (mvN d (S.getD i 0) a) : Nat) : Int)) = zib d m S i from rfl, e1, e2]
def zbh (d : DFA) (m n : Nat) (S : List Nat) (j i : Nat) : List (List Bool) := (List.range S.length).map fun i' => z2a S.length (z6a d m n S i') false (if i' < i then j + 1 else j)
theorem zts {d : DFA} {m n : Nat} {S : List Nat} {j : Nat} : zbh d m n S j S.length = zbh d m n S (j + 1) 0 := by
  unfold zbh
  refine List.map_congr_left fun i hi => ?_
  rw [if_pos (List.mem_range.1 hi), if_neg (by omega)]
theorem zoM {α : Type} (p : α -> Bool) (l : List α) (d : α) : ((List.range l.length).find? fun k => p (l.getD k d)).isSome = l.any p := by
  rw [Bool.eq_iff_iff, List.any_eq_true]
  rw [List.find?_isSome]
  constructor
  · rintro ⟨k, hk, h⟩
    have hk := List.mem_range.1 hk
    exact ⟨_, by rw [List.getD, List.getElem?_eq_getElem hk, Option.getD_some]; exact List.getElem_mem hk, h⟩
  · rintro ⟨x, hx, h⟩
    obtain ⟨i, hi, rfl⟩ := List.getElem_of_mem hx
    exact ⟨i, List.mem_range.2 hi, by rw [List.getD, List.getElem?_eq_getElem hi, Option.getD_some]; exact h⟩
theorem zn0 {d : DFA} {m n : Nat} (hd : DfaOk d m n) (hn : n <= 12) {S : List Nat} (hS : SetsP d m n S) {i j : Nat} (hi : i < S.length) (hj : j < S.length) (w : List ByteArray) :
    z0m (z2m (toI S) (j : Int) (zcJ S (z0Y d m n (S.getD j 0)), w) (i : Int) (zbh d m n S j i) ((S.getD i 0 : Nat) : Int)) LFm 0 = z0e (((i + 1 : Nat) : Int), zbh d m n S j (i + 1)) := by
  have h12 := zdV hn
  have hSl := z1x hS.nd hS.lt
  have hjS := z0r hj
  have hinv := z5Q hd (hS.lt _ hjS)
  have hl := z1x hinv.nd hinv.lt
  have hx62 : S.getD i 0 < 2 ^ n := hS.lt _ (z0r hi)
  have hcol : z6a d m n S i j = true -> (zbh d m n S j i).set i ((z2a S.length (z6a d m n S i) false j).set j true) = zbh d m n S j (i + 1) := fun hb => by
    have e := z5D (f := z6a d m n S i) (z := false) hj
    rw [hb] at e
    rw [e]
    apply List.ext_getElem (by simp [zbh])
    intro k h1 h2
    simp only [zbh, List.getElem_set, List.getElem_map, List.getElem_range]
    by_cases ek : i = k
    · subst ek; rw [if_pos rfl, if_pos (by omega)]
    · rw [if_neg ek]
      by_cases e2 : k < i
      · rw [if_pos e2, if_pos (by omega)]
      · rw [if_neg e2, if_neg (by omega)]
  have hcol0 : z6a d m n S i j = false -> zbh d m n S j i = zbh d m n S j (i + 1) := fun hb => by
    unfold zbh
    refine List.map_congr_left fun k hk => ?_
    by_cases ek : k = i
    · subst ek; rw [if_neg (by omega), if_pos (by omega)]; exact zmy hb
    · by_cases e2 : k < i
      · rw [if_pos e2, if_pos (by omega)]
      · rw [if_neg e2, if_neg (by omega)]
  rw [z5T (s := (0 : Int)) (z0Y d m n (S.getD j 0)).1.length (fun k => (k : Int)) (fun k => decide (S.getD i 0 &&& (z0Y d m n (S.getD j 0)).1.getD k 0 = S.getD i 0)) (fun _ => z0e (((i + 1 : Nat) : Int), (zbh d m n S j i).set i ((z2a S.length (z6a d m n S i) false j).set j true))) (x := z0e (((i + 1 : Nat) : Int), zbh d m n S j i)) rfl (by simp only [LFm]; omega)]
  · have ha : ((List.range (z0Y d m n (S.getD j 0)).1.length).find? fun k => decide (S.getD i 0 &&& (z0Y d m n (S.getD j 0)).1.getD k 0 = S.getD i 0)).isSome = z6a d m n S i j := zoM (fun x => decide (S.getD i 0 &&& x = S.getD i 0)) (z0Y d m n (S.getD j 0)).1 0
    revert ha
    cases (List.range (z0Y d m n (S.getD j 0)).1.length).find? fun k => decide (S.getD i 0 &&& (z0Y d m n (S.getD j 0)).1.getD k 0 = S.getD i 0) with
    | none => intro ha; simp only; rw [hcol0 (by simpa using ha.symm)]
    | some k => intro ha; simp only; rw [hcol (by simpa using ha.symm)]
  · intro k hk
    have hkS : (z0Y d m n (S.getD j 0)).1.getD k 0 ∈ S := zmf hS hjS hinv (z0r hk)
    have hqs : (zcJ S (z0Y d m n (S.getD j 0))).length = (z0Y d m n (S.getD j 0)).1.length := by simp [zcJ, toI]
    have h62 := hS.lt _ hkS
    simp only [z2m]
    rw [if_pos (by rw [hqs]; omega), zlP hk, Option.bind_some, z2c (z6g hkS), z3C hkS, Option.bind_some, z9c (by omega) (by omega), Option.bind_some]
    simp only [decide_eq_true_eq]
    split
    · rw [zbh, z2V hi, Option.bind_some, z7G hj, Option.bind_some, z1b (by omega), if_neg (by omega : ¬ i < i), Int.toNat_natCast, Int.toNat_natCast]
    · rw [z1b (by omega)]
  · have hqs : (zcJ S (z0Y d m n (S.getD j 0))).length = (z0Y d m n (S.getD j 0)).1.length := by simp [zcJ, toI]
    simp only [z2m]
    rw [if_neg (by rw [hqs]; omega), z1b (by omega)]
theorem zkc {d : DFA} {m n : Nat} (hd : DfaOk d m n) (hn : n <= 12) {S : List Nat} (hS : SetsP d m n S) : z3u d (toI S) = some (dgm d m n S) := by
  have h12 := zdV hn
  have hm6 := hd.m6
  have hp := Nat.two_pow_pos n
  have hSl := z1x hS.nd hS.lt
  unfold z3u
  rw [hd.fin, z0q _ (by omega), z8d (by omega), z0q _ (by unfold z1g; omega), Int.toNat_natCast]
  have e0 : List.replicate (2 ^ n) (0 : Int) = zkr n S 0 := by
    apply List.ext_getElem (by simp [zkr]); intro i h1 h2; simp [zkr]
  rw [e0]
  refine z0L (s := ((0 : Int), zkr n S 0)) S.length (fun k => ((k : Int), zkr n S k)) rfl (by simp only [LFm]; omega) (fun k hk => ?_) ?_
  · simp only [z3n]
    rw [if_pos (by rw [z0d]; omega), z2c hk, Option.bind_some, zp4 (hS.lt _ (z0r hk)), Option.bind_some, z1b (by omega), Int.toNat_natCast, zop hS.nd hk]
  · simp only [z3n]
    rw [if_neg (by rw [z0d]; omega), z0d, z0q _ (by unfold z1g; omega), Int.toNat_natCast]
    congr 1
    have f1 : List.replicate S.length ([] : List Int) = z2a S.length (zib d m S) [] 0 := (z9U _ _ _).symm
    have f2 : List.replicate S.length ([] : List Bool) = z2a S.length (fun _ => List.replicate S.length false) [] 0 := (z9U _ _ _).symm
    rw [f1, f2]
    refine z0L (s := ((0 : Int), z2a S.length (zib d m S) [] 0, z2a S.length (fun _ => List.replicate S.length false) [] 0)) S.length (fun k => ((k : Int), z2a S.length (zib d m S) [] k, z2a S.length (fun _ => List.replicate S.length false) [] k)) rfl (by simp only [LFm]; omega) (fun k hk => ?_) ?_
    · simp only [z3m]
      rw [if_pos (by rw [z0d]; omega), z2c hk, Option.bind_some, hd.lt, z0q _ (by unfold z1g; omega), z7G hk, Option.bind_some, Int.toNat_natCast, Int.toNat_natCast, zjG hd hn hS hk]
    · simp only [z3m]
      rw [if_neg (by rw [z0d]; omega), z9T, z9T]
      congr 1
      have f3 : ((List.range S.length).map fun _ => List.replicate S.length false) = zbh d m n S 0 0 := by
        unfold zbh
        refine List.map_congr_left fun i hi => ?_
        rw [if_neg (by omega), z9U]
      rw [f3]
      refine z0L (s := ((0 : Int), zbh d m n S 0 0)) S.length (fun j => ((j : Int), zbh d m n S j 0)) rfl (by simp only [LFm]; omega) (fun j hj => ?_) ?_
      · simp only [z2Z]
        rw [if_pos (by rw [z0d]; omega)]
        have es := zbN hd hn hS (zbh d m n S j 0) hj
        unfold zqP at es
        rw [es, Option.bind_some]
        refine z0L (s := ((0 : Int), zbh d m n S j 0)) S.length (fun i => ((i : Int), zbh d m n S j i)) rfl (by simp only [LFm]; omega) (fun i hi => ?_) ?_
        · simp only [z2Y]
          rw [if_pos (by rw [z0d]; omega), z2c hi, Option.bind_some, zn0 hd hn hS hi hj]
        · simp only [z2Y]
          rw [if_neg (by rw [z0d]; omega), z1b (by omega), zts]
      · simp only [z2Z]
        rw [if_neg (by rw [z0d]; omega)]
        have f4 : zbh d m n S S.length 0 = zoI d m n S := by
          unfold zbh zoI
          refine List.map_congr_left fun i hi => ?_
          rw [if_neg (by omega), z9T]
        rw [f4]; rfl
end
section
open Go
set_option maxRecDepth 100000
structure EqvN (N : Nat) (e : Nat -> Nat -> Bool) : Prop where
  refl : ∀ i, i < N -> e i i = true
  symm : ∀ i j, i < N -> j < N -> e i j = true -> e j i = true
  trans : ∀ i j k, i < N -> j < N -> k < N -> e i j = true -> e j k = true -> e i k = true
def z0O (e : Nat -> Nat -> Bool) : Nat -> List Nat
  | 0 => []
  | i + 1 => if (z0O e i).any (e i) = true then z0O e i else z0O e i ++ [i]
def z6u (e : Nat -> Nat -> Bool) (N i : Nat) : Nat := (z0O e N).findIdx (e i)
theorem zat (e : Nat -> Nat -> Bool) {i : Nat} : ∀ j, i <= j -> ∃ R, z0O e j = z0O e i ++ R
  | 0, h => by
    obtain rfl : i = 0 := by omega
    exact ⟨[], by simp⟩
  | j + 1, h => by
    by_cases e0 : i = j + 1
    · subst e0; exact ⟨[], by simp⟩
    · obtain ⟨R, hR⟩ := zat e (i := i) j (by omega)
      rw [show z0O e (j + 1) = if (z0O e j).any (e j) = true then z0O e j else z0O e j ++ [j] from rfl]
      split
      · exact ⟨R, hR⟩
      · exact ⟨R ++ [j], by rw [hR, List.append_assoc]⟩
theorem zaK (e : Nat -> Nat -> Bool) : ∀ i, ∀ f ∈ z0O e i, f < i
  | 0, f, h => by simp [z0O] at h
  | i + 1, f, h => by
    unfold z0O at h
    split at h
    · have := zaK e i f h; omega
    · rcases List.mem_append.1 h with h | h
      · have := zaK e i f h; omega
      · have := List.mem_singleton.1 h; omega
theorem z7E (e : Nat -> Nat -> Bool) : ∀ i, (z0O e i).length <= i
  | 0 => by simp [z0O]
  | i + 1 => by
    have := z7E e i
    unfold z0O
    split
    · omega
    · rw [List.length_append, List.length_singleton]; omega
theorem z9R {N : Nat} {e : Nat -> Nat -> Bool} (he : EqvN N e) : ∀ i, i <= N -> (z0O e i).Pairwise fun f g => e f g = false /\ e g f = false
  | 0, _ => by simp [z0O]
  | i + 1, hi => by
    have ih := z9R he i (by omega)
    unfold z0O
    split
    · exact ih
    · rename_i h
      refine List.pairwise_append.2 ⟨ih, by simp, fun a ha b hb => ?_⟩
      obtain rfl := List.mem_singleton.1 hb
      have hlt := zaK e b a ha
      have h1 : e b a = false := by
        cases hh : e b a with
        | false => rfl
        | true => exact absurd (List.any_eq_true.2 ⟨a, ha, hh⟩) h
      refine ⟨?_, h1⟩
      cases hh : e a b with
      | false => rfl
      | true => rw [he.symm a b (by omega) (by omega) hh] at h1; cases h1
theorem zh9 {N : Nat} {e : Nat -> Nat -> Bool} (he : EqvN N e) {i c c' : Nat} {l : List Nat} (hl : l.Pairwise fun f g => e f g = false /\ e g f = false) (hlt : ∀ f ∈ l, f < N) (hi : i < N) (hc : c < l.length) (hc' : c' < l.length) (h : e i (l.getD c 0) = true) (h' : e i (l.getD c' 0) = true) : c = c' := by
  have m1 : l.getD c 0 < N := hlt _ (z0r hc)
  have m2 : l.getD c' 0 < N := hlt _ (z0r hc')
  have hcc := he.trans _ _ _ m1 hi m2 (he.symm _ _ hi m1 h) h'
  rcases Nat.lt_trichotomy c c' with hlt' | rfl | hlt'
  · have := (List.pairwise_iff_getElem.1 hl c c' hc hc' hlt').1
    rw [List.getD, List.getD, List.getElem?_eq_getElem hc, List.getElem?_eq_getElem hc', Option.getD_some, Option.getD_some, this] at hcc
    cases hcc
  · rfl
  · have := (List.pairwise_iff_getElem.1 hl c' c hc' hc hlt').2
    rw [List.getD, List.getD, List.getElem?_eq_getElem hc, List.getElem?_eq_getElem hc', Option.getD_some, Option.getD_some, this] at hcc
    cases hcc
theorem zpf {N : Nat} {e : Nat -> Nat -> Bool} (he : EqvN N e) {i : Nat} (hi : i < N) : (z0O e i).findIdx (e i) = z6u e N i := by
  unfold z6u
  obtain ⟨R, hR⟩ := zat e (i := i + 1) N (by omega)
  rw [hR]
  by_cases h : (z0O e i).any (e i) = true
  · have : z0O e (i + 1) = z0O e i := by rw [z0O, if_pos h]
    rw [this, List.findIdx_append, if_pos]
    obtain ⟨x, hx, hp⟩ := List.any_eq_true.1 h
    exact List.findIdx_lt_length_of_exists ⟨x, hx, hp⟩
  · have e1 : z0O e (i + 1) = z0O e i ++ [i] := by rw [z0O, if_neg h]
    have e2 : (z0O e i).findIdx (e i) = (z0O e i).length := List.findIdx_eq_length.2 fun x hx => by
      cases hh : e i x with
      | false => rfl
      | true => exact absurd (List.any_eq_true.2 ⟨x, hx, hh⟩) h
    rw [e1, List.append_assoc, List.findIdx_append, if_neg (by rw [e2]; omega), List.singleton_append, List.findIdx_cons, he.refl i hi, e2]
    simp
theorem z9d {N : Nat} {e : Nat -> Nat -> Bool} (he : EqvN N e) {i : Nat} (hi : i < N) : z6u e N i < (z0O e N).length /\ e i ((z0O e N).getD (z6u e N i) 0) = true := by
  have hex : ∃ x ∈ z0O e N, e i x = true := by
    obtain ⟨R, hR⟩ := zat e (i := i + 1) N (by omega)
    by_cases h : (z0O e i).any (e i) = true
    · obtain ⟨x, hx, hp⟩ := List.any_eq_true.1 h
      refine ⟨x, ?_, hp⟩
      rw [hR, z0O, if_pos h]
      exact List.mem_append.2 (.inl hx)
    · refine ⟨i, ?_, he.refl i hi⟩
      rw [hR, z0O, if_neg h]; simp
  have hlt : z6u e N i < (z0O e N).length := List.findIdx_lt_length_of_exists hex
  refine ⟨hlt, ?_⟩
  rw [List.getD, List.getElem?_eq_getElem hlt, Option.getD_some]
  exact List.findIdx_getElem (w := hlt)
theorem zqw {N : Nat} {e : Nat -> Nat -> Bool} (he : EqvN N e) {i j : Nat} (hi : i < N) (hj : j < N) : z6u e N i = z6u e N j ↔ e i j = true := by
  obtain ⟨a1, a2⟩ := z9d he hi
  obtain ⟨b1, b2⟩ := z9d he hj
  have hF := zaK e N
  have m1 := hF _ (z0r a1)
  constructor
  · intro h
    rw [← h] at b2
    exact he.trans _ _ _ hi m1 hj a2 (he.symm _ _ hj m1 b2)
  · intro h
    exact zh9 he (z9R he N (Nat.le_refl _)) hF hj a1 b1 (he.trans _ _ _ hj hi m1 (he.symm _ _ hi hj h) a2) b2
def z1P (d : DFA) (m n : Nat) (S : List Nat) (i j : Nat) : Bool := z6a d m n S i j && z6a d m n S j i
theorem z7I {d : DFA} {m n : Nat} (hd : DfaOk d m n) {S : List Nat} (hS : SetsP d m n S) : EqvN S.length (z1P d m n S) where
  refl i hi := by
    have := (z4e hd hS hi (i := i)).2 (ziW d m _)
    simp [z1P, this]
  symm i j hi hj h := by
    simp only [z1P, Bool.and_eq_true] at h ⊢
    exact ⟨h.2, h.1⟩
  trans i j k hi hj hk h1 h2 := by
    simp only [z1P, Bool.and_eq_true] at h1 h2 ⊢
    exact ⟨(z4e hd hS hk).2 (zcy hd ((z4e hd hS hj).1 h1.1) ((z4e hd hS hk).1 h2.1)), (z4e hd hS hi).2 (zcy hd ((z4e hd hS hj).1 h2.2) ((z4e hd hS hi).1 h1.2))⟩
theorem ziX {d : DFA} {m n : Nat} {S : List Nat} {i : Nat} (hi : i < S.length) : atI (zoI d m n S) (i : Int) = some ((List.range S.length).map (z6a d m n S i)) := z2V hi
def znh (d : DFA) (m n : Nat) (S : List Nat) : List Int := (List.range S.length).map fun i => ((z6u (z1P d m n S) S.length i : Nat) : Int)
def z6H (d : DFA) (m n : Nat) (S : List Nat) : List Nat := z0O (z1P d m n S) S.length
theorem zkj {d : DFA} {m n : Nat} (hd : DfaOk d m n) (hn : n <= 12) {S : List Nat} (hS : SetsP d m n S) : z1Y (dgm d m n S) = some (znh d m n S, toI (z6H d m n S)) := by
  have h12 := zdV hn
  have hSl := z1x hS.nd hS.lt
  have he := z7I hd hS
  unfold z1Y
  have ed : (dgm d m n S).sets = toI S := rfl
  have eb : (dgm d m n S).below = zoI d m n S := rfl
  rw [ed, z0d, z0q _ (by unfold z1g; omega), Int.toNat_natCast]
  have f1 : List.replicate S.length (0 : Int) = z2a S.length (fun i => ((z6u (z1P d m n S) S.length i : Nat) : Int)) 0 0 := (z9U _ _ _).symm
  rw [f1]
  refine z0L (s := ((0 : Int), z2a S.length (fun i => ((z6u (z1P d m n S) S.length i : Nat) : Int)) 0 0, ([] : List Int))) S.length (fun k => ((k : Int), z2a S.length (fun i => ((z6u (z1P d m n S) S.length i : Nat) : Int)) 0 k, toI (z0O (z1P d m n S) k))) rfl (by simp only [LFm]; omega) (fun i hi => ?_) ?_
  · have hF := z7E (z1P d m n S) i
    have hFl := zaK (z1P d m n S) i
    have hap := z9R he i (by omega)
    have hcl := zpf he hi
    simp only [z2j]
    rw [ed, if_pos (by rw [z0d]; omega), z7G hi, Option.bind_some, z0d, Int.toNat_natCast]
    generalize hL : z2a S.length (fun i => ((z6u (z1P d m n S) S.length i : Nat) : Int)) 0 i = L at *
    have hLl : L.length = S.length := by rw [← hL, zbd]
    have hstep : ∀ c, c < (z0O (z1P d m n S) i).length -> (z1P d m n S i ((z0O (z1P d m n S) i).getD c 0) = true ↔ (z0O (z1P d m n S) i).findIdx (z1P d m n S i) = c) := fun c hc => by
      constructor
      · intro h
        have hex : (z0O (z1P d m n S) i).findIdx (z1P d m n S i) < (z0O (z1P d m n S) i).length := List.findIdx_lt_length_of_exists ⟨_, z0r hc, h⟩
        have hp : z1P d m n S i ((z0O (z1P d m n S) i).getD ((z0O (z1P d m n S) i).findIdx (z1P d m n S i)) 0) = true := by
          rw [List.getD, List.getElem?_eq_getElem hex, Option.getD_some]
          exact List.findIdx_getElem (w := hex)
        exact zh9 he hap (fun f hf => by have := hFl f hf; omega) hi hex hc hp h
      · intro h
        have hex : (z0O (z1P d m n S) i).findIdx (z1P d m n S i) < (z0O (z1P d m n S) i).length := by omega
        have hp : z1P d m n S i ((z0O (z1P d m n S) i)[(z0O (z1P d m n S) i).findIdx (z1P d m n S i)]) = true := List.findIdx_getElem (w := hex)
        rw [← h, List.getD, List.getElem?_eq_getElem hex, Option.getD_some]
        exact hp
    refine z0L (s := ((0 : Int), L.set i (((z0O (z1P d m n S) i).length : Nat) : Int))) (z0O (z1P d m n S) i).length (fun c => ((c : Int), L.set i (((if (z0O (z1P d m n S) i).findIdx (z1P d m n S i) < c then (z0O (z1P d m n S) i).findIdx (z1P d m n S i) else (z0O (z1P d m n S) i).length : Nat)) : Int))) (by simp) (by simp only [LFm]; omega) (fun c hc => ?_) ?_
    · have hf := hFl _ (z0r hc)
      simp only [z2i]
      rw [eb, if_pos (by rw [z0d]; omega), z2c hc, Option.bind_some, ziX hi, Option.bind_some, z2V (by omega), Option.bind_some, z1b (by omega)]
      by_cases h1 : z6a d m n S i ((z0O (z1P d m n S) i).getD c 0) = true
      · rw [if_pos h1, ziX (by omega), Option.bind_some, z2V hi, Option.bind_some]
        by_cases h2 : z6a d m n S ((z0O (z1P d m n S) i).getD c 0) i = true
        · have := (hstep c hc).1 ((Bool.and_eq_true _ _).mpr ⟨h1, h2⟩)
          rw [if_pos h2, zi0 (by omega), Option.bind_some, Int.toNat_natCast, zgH, this, if_pos (by omega)]
        · have : ¬ (z0O (z1P d m n S) i).findIdx (z1P d m n S i) = c := fun h => by
            have := (hstep c hc).2 h
            simp only [z1P, Bool.and_eq_true] at this
            exact h2 this.2
          rw [if_neg h2]
          congr 3
          by_cases h3 : (z0O (z1P d m n S) i).findIdx (z1P d m n S i) < c
          · rw [if_pos h3, if_pos (by omega)]
          · rw [if_neg h3, if_neg (by omega)]
      · have : ¬ (z0O (z1P d m n S) i).findIdx (z1P d m n S i) = c := fun h => by
          have := (hstep c hc).2 h
          simp only [z1P, Bool.and_eq_true] at this
          exact h1 this.1
        rw [if_neg h1]
        congr 3
        by_cases h3 : (z0O (z1P d m n S) i).findIdx (z1P d m n S i) < c
        · rw [if_pos h3, if_pos (by omega)]
        · rw [if_neg h3, if_neg (by omega)]
    · have hle : (z0O (z1P d m n S) i).findIdx (z1P d m n S i) <= (z0O (z1P d m n S) i).length := List.findIdx_le_length
      have hv : (if (z0O (z1P d m n S) i).findIdx (z1P d m n S i) < (z0O (z1P d m n S) i).length then (z0O (z1P d m n S) i).findIdx (z1P d m n S i) else (z0O (z1P d m n S) i).length) = (z0O (z1P d m n S) i).findIdx (z1P d m n S i) := by split <;> omega
      have hset : L.set i ((z6u (z1P d m n S) S.length i : Nat) : Int) = z2a S.length (fun i => ((z6u (z1P d m n S) S.length i : Nat) : Int)) 0 (i + 1) := by
        rw [← hL]; exact z5D (f := fun i => ((z6u (z1P d m n S) S.length i : Nat) : Int)) (z := 0) hi
      simp only [z2i]
      rw [if_neg (by rw [z0d]; omega), hv, zi0 (by omega), Option.bind_some, hcl, hset, z1b (by omega), z0d, z0O]
      by_cases h : (z0O (z1P d m n S) i).any (z1P d m n S i) = true
      · obtain ⟨x, hx, hpx⟩ := List.any_eq_true.1 h
        have := List.findIdx_lt_length_of_exists ⟨x, hx, hpx⟩
        rw [if_pos h, if_neg (by omega)]
      · have e2 : (z0O (z1P d m n S) i).findIdx (z1P d m n S i) = (z0O (z1P d m n S) i).length := List.findIdx_eq_length.2 fun x hx => by
          cases hh : z1P d m n S i x with
          | false => rfl
          | true => exact absurd (List.any_eq_true.2 ⟨x, hx, hh⟩) h
        rw [if_neg h, if_pos (by omega), z0q _ (by unfold z1s; omega), z4Z]
  · simp only [z2j]
    rw [ed, if_neg (by rw [z0d]; omega), z9T]
    rfl
end
section
open Go
set_option maxRecDepth 100000
def z6C (g : Nat -> Nat) : Nat -> Nat
  | 0 => 0
  | k + 1 => max (z6C g k) (g k)
theorem zc3 {g : Nat -> Nat} {k b : Nat} (h : ∀ j, j < k -> g j <= b) : z6C g k <= b := by
  induction k with
  | zero => simp [z6C]
  | succ k ih =>
    have := ih fun j hj => h j (by omega)
    have := h k (by omega)
    simp only [z6C]; omega
theorem zgV {g g' : Nat -> Nat} {k : Nat} (h : ∀ j, j < k -> g j = g' j) : z6C g k = z6C g' k := by
  induction k with
  | zero => rfl
  | succ k ih => simp only [z6C]; rw [ih fun j hj => h j (by omega), h k (by omega)]
def z4k (p : Nat -> Bool) : Nat -> Nat
  | 0 => 0
  | k + 1 => z4k p k + (if p k = true then 1 else 0)
theorem ziP (p : Nat -> Bool) (k : Nat) : z4k p k <= k := by
  induction k with
  | zero => simp [z4k]
  | succ k ih => simp only [z4k]; split <;> omega
theorem ziO {p q : Nat -> Bool} {k : Nat} (h : ∀ j, j < k -> p j = true -> q j = true) : z4k p k <= z4k q k := by
  induction k with
  | zero => simp [z4k]
  | succ k ih =>
    have := ih fun j hj => h j (by omega)
    have := h k (by omega)
    simp only [z4k]
    by_cases h1 : p k = true
    · rw [if_pos h1, if_pos (this h1)]; omega
    · rw [if_neg h1]; split <;> omega
theorem zgb {p q : Nat -> Bool} {k i : Nat} (h : ∀ j, j < k -> p j = true -> q j = true) (hi : i < k) (hp : p i = false) (hq : q i = true) : z4k p k < z4k q k := by
  induction k with
  | zero => omega
  | succ k ih =>
    simp only [z4k]
    by_cases e : i = k
    · subst e
      have := ziO (p := p) (q := q) (k := i) fun j hj => h j (by omega)
      rw [hp, hq]; simp; omega
    · have h1 := ih (fun j hj => h j (by omega)) (by omega)
      have := h k (by omega)
      by_cases h2 : p k = true
      · rw [if_pos h2, if_pos (this h2)]; omega
      · rw [if_neg h2]; split <;> omega
structure BelN (N : Nat) (b : Nat -> Nat -> Bool) : Prop where
  refl : ∀ i, i < N -> b i i = true
  trans : ∀ i j k, i < N -> j < N -> k < N -> b i j = true -> b j k = true -> b i k = true
def ze5 (N : Nat) (b : Nat -> Nat -> Bool) (i : Nat) : Nat := z4k (fun j => b j i) N
def sbN (b : Nat -> Nat -> Bool) (j i : Nat) : Bool := b j i && !b i j
theorem zmb {N : Nat} {b : Nat -> Nat -> Bool} (hb : BelN N b) {i j : Nat} (hi : i < N) (hj : j < N) (h : sbN b j i = true) : ze5 N b j < ze5 N b i := by
  simp only [sbN, Bool.and_eq_true, Bool.not_eq_true'] at h
  exact zgb (fun k hk hkj => hb.trans k j i hk hj hi hkj h.1) hi h.2 (hb.refl i hi)
def zvk (N : Nat) (b : Nat -> Nat -> Bool) (z : Nat -> Bool) (h : Nat -> Nat) : Prop := ∀ i, i < N -> h i = if z i = true then 0 else z6C (fun j => if sbN b j i = true then h j + 1 else 0) N
def zqg (N : Nat) (b : Nat -> Nat -> Bool) (z : Nat -> Bool) : Nat -> Nat -> Nat
  | 0, _ => 0
  | f + 1, i => if z i = true then 0 else z6C (fun j => if sbN b j i = true then zqg N b z f j + 1 else 0) N
def zqf (N : Nat) (b : Nat -> Nat -> Bool) (z : Nat -> Bool) (i : Nat) : Nat := zqg N b z N i
theorem zdc {N : Nat} {b : Nat -> Nat -> Bool} (hb : BelN N b) (z : Nat -> Bool) : ∀ f i, i < N -> ze5 N b i <= f -> ∀ g, ze5 N b i <= g -> zqg N b z f i = zqg N b z g i
  | 0, i, hi, hl, g, hg => by
    exfalso
    have := zgb (p := fun _ => false) (q := fun j => b j i) (k := N) (i := i) (fun j _ hf => by simp at hf) hi rfl (hb.refl i hi)
    unfold ze5 at hl; omega
  | f + 1, i, hi, hl, 0, hg => by
    exfalso
    have := zgb (p := fun _ => false) (q := fun j => b j i) (k := N) (i := i) (fun j _ hf => by simp at hf) hi rfl (hb.refl i hi)
    unfold ze5 at hg; omega
  | f + 1, i, hi, hl, g + 1, hg => by
    simp only [zqg]
    split
    · rfl
    · refine zgV fun j hj => ?_
      by_cases hs : sbN b j i = true
      · have := zmb hb hi hj hs
        rw [if_pos hs, if_pos hs, zdc hb z f j hj (by omega) g (by omega)]
      · rw [if_neg hs, if_neg hs]
theorem zp5 {N : Nat} {b : Nat -> Nat -> Bool} (hb : BelN N b) (z : Nat -> Bool) : zvk N b z (zqf N b z) := fun i hi => by
  have hl : ze5 N b i <= N := ziP _ _
  unfold zqf
  rw [zdc hb z N i hi hl (N + 1) (by omega)]
  rfl
theorem zp6 {N : Nat} {b : Nat -> Nat -> Bool} (hb : BelN N b) (z : Nat -> Bool) {i : Nat} (hi : i < N) : zqf N b z i <= N := by
  have : ∀ L i, i < N -> ze5 N b i <= L -> zqf N b z i <= L := by
    intro L
    induction L with
    | zero =>
      intro i hi hl
      exfalso
      have := zgb (p := fun _ => false) (q := fun j => b j i) (k := N) (i := i) (fun j _ hf => by simp at hf) hi rfl (hb.refl i hi)
      unfold ze5 at hl; omega
    | succ L ih =>
      intro i hi hl
      rw [zp5 hb z i hi]
      split
      · omega
      · refine zc3 fun j hj => ?_
        by_cases hs : sbN b j i = true
        · have := zmb hb hi hj hs
          have := ih j hj (by omega)
          rw [if_pos hs]; omega
        · rw [if_neg hs]; omega
  exact this N i hi (ziP _ _)
theorem zpl {d : DFA} {m n : Nat} (hd : DfaOk d m n) {S : List Nat} (hS : SetsP d m n S) : BelN S.length (z6a d m n S) where
  refl i hi := (z4e hd hS hi).2 (ziW d m _)
  trans i j k hi hj hk h1 h2 := (z4e hd hS hk).2 (zcy hd ((z4e hd hS hj).1 h1) ((z4e hd hS hk).1 h2))
theorem zlw {s : Nat} (h : s < 128) : z4Q (s : Int) = some ((szN s : Nat) : Int) := by
  unfold z4Q z3y
  rw [zsH (by omega)]
  have : z2k (s : Int) = some ((szN s : Nat) : Int) := by
    unfold z2k
    rw [z0q _ (by omega), z0q _ (by omega), z0q _ (by omega), z0q _ (by omega), z0q _ (by omega), z0q _ (by omega)]
    congr 1
    revert s
    decide +kernel
  rw [this]; rfl
def zpj (S : List Nat) (i : Nat) : Bool := decide (szN (S.getD i 0) = 1)
def z7C (d : DFA) (m n : Nat) (S : List Nat) (i : Nat) : Nat := zqf S.length (z6a d m n S) (zpj S) i
def ztd (d : DFA) (m n : Nat) (S : List Nat) : List Int := (List.range S.length).map fun i => ((z7C d m n S i : Nat) : Int)
theorem zlc (N : Nat) : toI (List.range N) = (List.range N).map fun i => ((i : Nat) : Int) := rfl
theorem zjM {d : DFA} {m n : Nat} {S : List Nat} (hl : S.length < 4611686018427387904) {i : Nat} (hi : i < S.length) (C O : List Int) (L : List Int) (hL : L.length = S.length) (h0 : L.getD i 0 = 0) :
    z0m (z1y (dgm d m n S) (i : Int) O) LFm (0, L) = z0e (((i + 1 : Nat) : Int), L.set i ((ze5 S.length (z6a d m n S) i : Nat) : Int), O.set i (i : Int)) := by
  refine z0L (s := ((0 : Int), L)) S.length (fun k => ((k : Int), L.set i ((z4k (fun j => z6a d m n S j i) k : Nat) : Int))) ?_ (by simp only [LFm]; omega) (fun k hk => ?_) ?_
  · refine Prod.ext rfl ?_
    show L = L.set i 0
    apply List.ext_getElem (by simp)
    intro j h1 h2
    rw [List.getElem_set]
    by_cases e : i = j
    · subst e
      rw [if_pos rfl]
      rw [List.getD, List.getElem?_eq_getElem h1, Option.getD_some] at h0
      exact h0
    · rw [if_neg e]
  · have hc := ziP (fun j => z6a d m n S j i) k
    have ed : (dgm d m n S).sets = toI S := rfl
    have eb : (dgm d m n S).below = zoI d m n S := rfl
    simp only [z1y]
    rw [ed, eb, if_pos (by rw [z0d]; omega), ziX hk, Option.bind_some, z2V hi, Option.bind_some, z1b (by omega)]
    simp only [z4k]
    by_cases h : z6a d m n S k i = true
    · rw [if_pos h, if_pos h, zi0 (by omega), Option.bind_some, Int.toNat_natCast, zgH, z1b (by omega)]
    · rw [if_neg h, if_neg h]; rfl
  · have ed : (dgm d m n S).sets = toI S := rfl
    simp only [z1y]
    rw [ed, if_neg (by rw [z0d]; omega), z1b (by omega), Int.toNat_natCast]
    rfl
theorem zml {d : DFA} {m n : Nat} (hd : DfaOk d m n) {S : List Nat} (hS : SetsP d m n S) (hl : S.length < 100000) (k : Int) {i : Nat} (hi : i < S.length) {H : Nat -> Nat} (h0 : H i = 0) (hlow : ∀ j, j < S.length -> sbN (z6a d m n S) j i = true -> H j = z7C d m n S j) :
    z0m (z1q (dgm d m n S) (znh d m n S) k (i : Int)) LFm (0, (List.range S.length).map fun j => ((H j : Nat) : Int)) = z0e (IntKind.i64.wrap (k + 1), (List.range S.length).map fun j => (((if j = i then z6C (fun j => if sbN (z6a d m n S) j i = true then z7C d m n S j + 1 else 0) S.length else H j) : Nat) : Int)) := by
  have he := z7I hd hS
  have hb := zpl hd hS
  have ed : (dgm d m n S).sets = toI S := rfl
  have eb : (dgm d m n S).below = zoI d m n S := rfl
  refine z0L (s := ((0 : Int), (List.range S.length).map fun j => ((H j : Nat) : Int))) S.length (fun q => ((q : Int), (List.range S.length).map fun j => (((if j = i then z6C (fun j => if sbN (z6a d m n S) j i = true then z7C d m n S j + 1 else 0) q else H j) : Nat) : Int))) ?_ (by simp only [LFm]; omega) (fun q hq => ?_) ?_
  · refine Prod.ext rfl ?_
    refine List.map_congr_left fun j hj => ?_
    by_cases e : j = i
    · subst e; simp [z6C, h0]
    · rw [if_neg e]
  · have hle := zp6 hb (zpj S) hq
    have hmx : z6C (fun j => if sbN (z6a d m n S) j i = true then z7C d m n S j + 1 else 0) q <= S.length + 1 := zc3 fun j hj => by
      have := zp6 hb (zpj S) (i := j) (by omega)
      unfold z7C; split <;> omega
    have hse : z6a d m n S q i = true -> (sbN (z6a d m n S) q i = true ↔ ¬ z6u (z1P d m n S) S.length q = z6u (z1P d m n S) S.length i) := fun h => by
      rw [zqw he hq hi]
      simp only [sbN, z1P, h, Bool.true_and, Bool.not_eq_true', Bool.not_eq_true]
    have hfin : ∀ v : Nat, v = (if sbN (z6a d m n S) q i = true then max (z6C (fun j => if sbN (z6a d m n S) j i = true then z7C d m n S j + 1 else 0) q) (z7C d m n S q + 1) else z6C (fun j => if sbN (z6a d m n S) j i = true then z7C d m n S j + 1 else 0) q) -> ((List.range S.length).map fun j => (((if j = i then v else H j) : Nat) : Int)) = (List.range S.length).map fun j => (((if j = i then z6C (fun j => if sbN (z6a d m n S) j i = true then z7C d m n S j + 1 else 0) (q + 1) else H j) : Nat) : Int) := fun v hv => by
      refine List.map_congr_left fun j hj => ?_
      by_cases e : j = i
      · rw [if_pos e, if_pos e, hv]
        simp only [z6C]
        by_cases h : sbN (z6a d m n S) q i = true
        · rw [if_pos h, if_pos h]
        · rw [if_neg h, if_neg h]; congr 1; omega
      · rw [if_neg e, if_neg e]
    simp only [z1q]
    rw [ed, eb, if_pos (by rw [z0d]; omega), ziX hq, Option.bind_some, z2V hi, Option.bind_some, z1b (by omega)]
    by_cases h : z6a d m n S q i = true
    · rw [if_pos h, znh, z2V hq, Option.bind_some, z2V hi, Option.bind_some]
      by_cases hc : z6u (z1P d m n S) S.length q = z6u (z1P d m n S) S.length i
      · have hs : ¬ sbN (z6a d m n S) q i = true := fun hh => (hse h).1 hh hc
        rw [if_pos (by rw [hc]), hfin _ (by rw [if_neg hs])]
      · have hs := (hse h).2 hc
        have hqi : q ≠ i := fun e => by subst e; exact hc rfl
        rw [if_neg (by omega), z2V hi, Option.bind_some, z2V hq, Option.bind_some, if_pos rfl, if_neg hqi, hlow q hq hs, z1b (by unfold z7C; omega), Int.toNat_natCast]
        have hset : ∀ v : Nat, ((List.range S.length).map fun j => (((if j = i then z6C (fun j => if sbN (z6a d m n S) j i = true then z7C d m n S j + 1 else 0) q else H j) : Nat) : Int)).set i (v : Int) = (List.range S.length).map fun j => (((if j = i then v else H j) : Nat) : Int) := fun v => by
          apply List.ext_getElem (by simp)
          intro j h1 h2
          simp only [List.getElem_set, List.getElem_map, List.getElem_range]
          by_cases e : i = j
          · subst e; rw [if_pos rfl, if_pos rfl]
          · rw [if_neg e, if_neg (fun hh => e hh.symm), if_neg (fun hh => e hh.symm)]
        by_cases hlt : ((z6C (fun j => if sbN (z6a d m n S) j i = true then z7C d m n S j + 1 else 0) q : Nat) : Int) < ((z7C d m n S q + 1 : Nat) : Int)
        · rw [if_pos hlt, hset, hfin _ (by rw [if_pos hs]; omega)]
        · rw [if_neg hlt, hset, hfin _ (by rw [if_pos hs]; omega)]
    · have hs : ¬ sbN (z6a d m n S) q i = true := fun hh => by simp only [sbN, Bool.and_eq_true] at hh; exact h hh.1
      rw [if_neg h, hfin _ (by rw [if_neg hs])]
  · simp only [z1q]
    rw [ed, if_neg (by rw [z0d]; omega)]
theorem zk2 {d : DFA} {m n : Nat} (hd : DfaOk d m n) (hn : n <= 7) {S : List Nat} (hS : SetsP d m n S) : z1X (dgm d m n S) (znh d m n S) = some (ztd d m n S) := by
  have h128 : 2 ^ n <= 128 := Nat.pow_le_pow_right (n := 2) (by omega) hn
  have hSl := z1x hS.nd hS.lt
  have hb := zpl hd hS
  have he := z7I hd hS
  have ed : (dgm d m n S).sets = toI S := rfl
  unfold z1X
  rw [ed, z0d, z0q _ (by unfold z1g; omega), Int.toNat_natCast]
  have f1 : List.replicate S.length (0 : Int) = z2a S.length (fun i => ((ze5 S.length (z6a d m n S) i : Nat) : Int)) 0 0 := (z9U _ _ _).symm
  have f2 : (List.replicate S.length (0 : Int)) = z2a S.length (fun i => ((i : Nat) : Int)) 0 0 := (z9U _ _ _).symm
  conv => lhs; arg 3; rw [show ((0 : Int), List.replicate S.length (0 : Int), List.replicate S.length (0 : Int)) = ((0 : Int), z2a S.length (fun i => ((ze5 S.length (z6a d m n S) i : Nat) : Int)) 0 0, z2a S.length (fun i => ((i : Nat) : Int)) 0 0) by rw [← f1, ← f2]]
  refine z0L (s := ((0 : Int), z2a S.length (fun i => ((ze5 S.length (z6a d m n S) i : Nat) : Int)) 0 0, z2a S.length (fun i => ((i : Nat) : Int)) 0 0)) S.length (fun k => ((k : Int), z2a S.length (fun i => ((ze5 S.length (z6a d m n S) i : Nat) : Int)) 0 k, z2a S.length (fun i => ((i : Nat) : Int)) 0 k)) rfl (by simp only [LFm]; omega) (fun i hi => ?_) ?_
  · simp only [z2h]
    rw [ed, if_pos (by rw [z0d]; omega), z7G hi, Option.bind_some, zjM (by omega) hi [] _ _ (zbd _ _ _ _) (by simp [z2a, List.getD, hi])]
    have e1 := z5D (f := fun i => ((ze5 S.length (z6a d m n S) i : Nat) : Int)) (z := 0) hi
    have e2 := z5D (f := fun i => ((i : Nat) : Int)) (z := 0) hi
    rw [e1, e2]
  · simp only [z2h]
    rw [ed, if_neg (by rw [z0d]; omega), z9T, z9T]
    have hK : ((List.range S.length).map fun i => ((ze5 S.length (z6a d m n S) i : Nat) : Int)).length = S.length := by simp
    have hv : zvF ((List.range S.length).map fun i => ((ze5 S.length (z6a d m n S) i : Nat) : Int)) (toI (List.range S.length)) := fun x hx => by
      simp only [toI, List.mem_map, List.mem_range] at hx
      obtain ⟨i, hi, rfl⟩ := hx
      exact ⟨by omega, by rw [hK]; omega⟩
    obtain ⟨O, hO, hs, hp⟩ := zlr hv (by rw [z0d, List.length_range]; omega)
    rw [← zlc, hO, Option.bind_some, z0d, z0q _ (by unfold z1g; omega), Int.toNat_natCast]
    have hOl : O.length = S.length := by rw [hp.length_eq, z0d, List.length_range]
    have hOn : O.Nodup := hp.nodup_iff.2 (by
      unfold toI
      exact List.Pairwise.map _ (fun a b h e => h (by omega)) List.nodup_range)
    have hmem : ∀ x, x ∈ O ↔ ∃ i, i < S.length /\ x = (i : Int) := fun x => by
      rw [hp.mem_iff]; simp only [toI, List.mem_map, List.mem_range]
      constructor
      · rintro ⟨i, hi, rfl⟩; exact ⟨i, hi, rfl⟩
      · rintro ⟨i, hi, rfl⟩; exact ⟨i, hi, rfl⟩
    have hkv : ∀ i, i < S.length -> kv ((List.range S.length).map fun i => ((ze5 S.length (z6a d m n S) i : Nat) : Int)) (i : Int) = ((ze5 S.length (z6a d m n S) i : Nat) : Int) := fun i hi => by
      simp [kv, List.getD, hi]
    congr 1
    have f3 : List.replicate S.length (0 : Int) = (List.range S.length).map fun (j : Nat) => (((if (j : Int) ∈ O.take 0 then z7C d m n S j else 0) : Nat) : Int) := by
      apply List.ext_getElem (by simp); intro i h1 h2; simp
    rw [f3]
    refine z0L (s := ((0 : Int), (List.range S.length).map fun (j : Nat) => (((if (j : Int) ∈ O.take 0 then z7C d m n S j else 0) : Nat) : Int))) S.length (fun k => ((k : Int), (List.range S.length).map fun (j : Nat) => (((if (j : Int) ∈ O.take k then z7C d m n S j else 0) : Nat) : Int))) rfl (by simp only [LFm]; omega) (fun k hk => ?_) ?_
    · have hkO : k < O.length := by omega
      obtain ⟨i, hi, hOk⟩ := (hmem O[k]).1 (List.getElem_mem hkO)
      have hnot : (i : Int) ∉ O.take k := fun h => by
        obtain ⟨j, hj, hji⟩ := List.getElem_of_mem h
        rw [List.length_take] at hj
        rw [List.getElem_take, ← hOk] at hji
        have := (List.getElem_inj hOn).1 hji
        omega
      have htake : ∀ j : Nat, (j : Int) ∈ O.take (k + 1) ↔ (j = i ∨ (j : Int) ∈ O.take k) := fun j => by
        rw [List.take_succ_eq_append_getElem hkO, List.mem_append, List.mem_singleton, hOk]
        constructor
        · rintro (h | h)
          · exact .inr h
          · exact .inl (by omega)
        · rintro (h | h)
          · exact .inr (by omega)
          · exact .inl h
      have hupd : ((List.range S.length).map fun (j : Nat) => (((if j = i then z7C d m n S i else if (j : Int) ∈ O.take k then z7C d m n S j else 0) : Nat) : Int)) = (List.range S.length).map fun (j : Nat) => (((if (j : Int) ∈ O.take (k + 1) then z7C d m n S j else 0) : Nat) : Int) := by
        refine List.map_congr_left fun j hj => ?_
        by_cases e : j = i
        · subst e; rw [if_pos rfl, if_pos ((htake j).2 (.inl rfl))]
        · rw [if_neg e]
          by_cases h : (j : Int) ∈ O.take k
          · rw [if_pos h, if_pos ((htake j).2 (.inr h))]
          · rw [if_neg h, if_neg (fun hh => ((htake j).1 hh).elim e h)]
      have hlt128 : S.getD i 0 < 2 ^ n := hS.lt _ (z0r hi)
      simp only [z1V]
      rw [if_pos (by omega), z0Q hkO, Option.bind_some, hOk, ed, z2c hi, Option.bind_some, zlw (by omega), Option.bind_some]
      have hok := zp5 hb (zpj S) i hi
      by_cases hz : szN (S.getD i 0) = 1
      · rw [if_pos (by omega), z1b (by omega)]
        have hh : z7C d m n S i = 0 := by
          unfold z7C; rw [hok, if_pos (by simp only [zpj, hz, decide_true])]
        refine congrArg z0e (Prod.ext rfl ?_)
        refine List.map_congr_left fun j hj => ?_
        by_cases e : j = i
        · subst e; rw [if_neg hnot, if_pos ((htake j).2 (.inl rfl)), hh]
        · by_cases h : (j : Int) ∈ O.take k
          · rw [if_pos h, if_pos ((htake j).2 (.inr h))]
          · rw [if_neg h, if_neg (fun hh => ((htake j).1 hh).elim e h)]
      · rw [if_neg (by omega), zml hd hS (by omega) (k : Int) hi (H := fun (j : Nat) => if (j : Int) ∈ O.take k then z7C d m n S j else 0) (if_neg hnot) (fun j hj hsb => ?_), z1b (by omega)]
        · have hh : z6C (fun j => if sbN (z6a d m n S) j i = true then z7C d m n S j + 1 else 0) S.length = z7C d m n S i := by
            have : z7C d m n S i = _ := hok
            rw [this, if_neg (by simp only [zpj, hz, decide_false]; simp)]; rfl
          rw [hh, hupd]
        · have hl := zmb hb hi hj hsb
          have hjO : (j : Int) ∈ O := (hmem _).2 ⟨j, hj, rfl⟩
          obtain ⟨p, hpO, hpj⟩ := List.getElem_of_mem hjO
          refine if_pos ?_
          rcases Nat.lt_trichotomy p k with h | h | h
          · rw [← hpj]
            exact List.mem_take_iff_getElem.2 ⟨p, by omega, rfl⟩
          · subst h
            rw [hOk] at hpj
            have : i = j := by omega
            subst this; omega
          · have := List.pairwise_iff_getElem.1 hs k p hkO hpO h
            rw [hOk, hpj, hkv i hi, hkv j hj] at this
            omega
    · simp only [z1V]
      rw [if_neg (by omega)]
      congr 2
      unfold ztd
      refine List.map_congr_left fun j hj => ?_
      rw [List.take_of_length_le (by omega), if_pos ((hmem _).2 ⟨j, List.mem_range.1 hj, rfl⟩)]
end
section
open Go
set_option maxRecDepth 100000
def zoo (S : List Nat) (i j : Nat) : Bool := !decide (j = i) && decide (S.getD j 0 &&& S.getD i 0 = S.getD j 0)
def z7m (S : List Nat) (i : Nat) : List Nat := (List.range S.length).filter (zoo S i)
def zjk (S : List Nat) (i j : Nat) : Bool := (z7m S i).all fun k => decide (k = j) || !decide (S.getD j 0 &&& S.getD k 0 = S.getD j 0)
def zae (S : List Nat) (i : Nat) : List Nat := if szN (S.getD i 0) = 1 then [] else (z7m S i).filter (zjk S i)
theorem zcs {α : Type} {p : α -> Bool} {l : List α} {k : Nat} (h : k < l.length) : (l.take (k + 1)).filter p = (l.take k).filter p ++ (if p l[k] = true then [l[k]] else []) := by
  rw [List.take_succ_eq_append_getElem h, List.filter_append, List.filter_cons, List.filter_nil]
theorem zfW {S : List Nat} {i j : Nat} (h : j ∈ z7m S i) : j < S.length := List.mem_range.1 (List.mem_filter.1 h).1
theorem zau {α : Type} (p : α -> Bool) (l : List α) : (l.filter p).length <= l.length := List.length_filter_le p l
theorem znC {d : DFA} {m n : Nat} (hn : n <= 7) {S : List Nat} (hS : SetsP d m n S) {i : Nat} (hi : i < S.length) : z2y (dgm d m n S) (i : Int) = some (toI (zae S i)) := by
  have h128 : 2 ^ n <= 128 := Nat.pow_le_pow_right (n := 2) (by omega) hn
  have hSl := z1x hS.nd hS.lt
  have ed : (dgm d m n S).sets = toI S := rfl
  have lt62 : ∀ j, j < S.length -> S.getD j 0 < 2 ^ 62 := fun j hj => by have := hS.lt _ (z0r hj); omega
  have hil := hS.lt _ (z0r hi)
  unfold z2y zae
  rw [ed, z2c hi, Option.bind_some, zlw (by omega), Option.bind_some]
  by_cases hz : szN (S.getD i 0) = 1
  · rw [if_pos (by omega), if_pos hz]; rfl
  rw [if_neg (by omega), if_neg hz]
  have hrl : (List.range S.length).length = S.length := List.length_range
  refine z0L (s := ((0 : Int), ([] : List Int))) S.length (fun j => ((j : Int), toI (((List.range S.length).take j).filter (zoo S i)))) rfl (by simp only [LFm]; omega) (fun j hj => ?_) ?_
  · have hfl : (((List.range S.length).take j).filter (zoo S i)).length <= j := Nat.le_trans (zau _ _) (by rw [List.length_take]; omega)
    have hst := zcs (p := zoo S i) (l := List.range S.length) (k := j) (by omega)
    rw [List.getElem_range] at hst
    simp only [z2C]
    rw [ed, if_pos (by rw [z0d]; omega), z2c hj, Option.bind_some, z1b (by omega), hst]
    by_cases e : j = i
    · have : zoo S i j = false := by unfold zoo; rw [decide_eq_true e]; rfl
      rw [if_pos (by omega), this, if_neg (by simp), List.append_nil]
    · rw [if_neg (by omega), z2c hi, Option.bind_some, z9c (lt62 i hi) (lt62 j hj), Option.bind_some]
      have : zoo S i j = decide (S.getD j 0 &&& S.getD i 0 = S.getD j 0) := by unfold zoo; rw [decide_eq_false e]; rfl
      rw [this]
      by_cases h : decide (S.getD j 0 &&& S.getD i 0 = S.getD j 0) = true
      · rw [if_pos h, if_pos h, z0q _ (by unfold z1s; rw [z0d]; omega), z4Z]
      · rw [if_neg h, if_neg h, List.append_nil]
  · simp only [z2C]
    rw [ed, if_neg (by rw [z0d]; omega), List.take_of_length_le (by omega)]
    congr 1
    have hil : (z7m S i).length <= S.length := Nat.le_trans (zau _ _) (by omega)
    show z0m (z1F (dgm d m n S) (toI (z7m S i))) LFm (0, []) = _
    refine z0L (s := ((0 : Int), ([] : List Int))) (z7m S i).length (fun q => ((q : Int), toI (((z7m S i).take q).filter (zjk S i)))) rfl (by simp only [LFm]; omega) (fun q hq => ?_) ?_
    · have hfl : (((z7m S i).take q).filter (zjk S i)).length <= q := Nat.le_trans (zau _ _) (by rw [List.length_take]; omega)
      have hst := zcs (p := zjk S i) (l := z7m S i) (k := q) hq
      have hg : (z7m S i).getD q 0 = (z7m S i)[q] := by rw [List.getD, List.getElem?_eq_getElem hq, Option.getD_some]
      have hjl : (z7m S i)[q] < S.length := zfW (List.getElem_mem hq)
      simp only [z1F]
      rw [if_pos (by rw [z0d]; omega), z2c hq, Option.bind_some, hg, hst]
      generalize (z7m S i)[q] = j at hjl
      rw [z5T (s := (0 : Int)) (z7m S i).length (fun k => (k : Int)) (fun k => !(decide ((z7m S i).getD k 0 = j) || !decide (S.getD j 0 &&& S.getD ((z7m S i).getD k 0) 0 = S.getD j 0))) (fun _ => z0e (((q + 1 : Nat) : Int), toI (((z7m S i).take q).filter (zjk S i)))) (x := z0e (((q + 1 : Nat) : Int), toI (((z7m S i).take q).filter (zjk S i)) ++ [(j : Int)])) rfl (by simp only [LFm]; omega)]
      · rw [z9S]
        simp only [Bool.not_not]
        rw [zfz (fun k => decide (k = j) || !decide (S.getD j 0 &&& S.getD k 0 = S.getD j 0))]
        show (if zjk S i j = true then _ else _) = _
        by_cases h : zjk S i j = true
        · rw [if_pos h, if_pos h, z4Z]
        · rw [if_neg h, if_neg h, List.append_nil]
      · intro k hk
        have hkl : (z7m S i).getD k 0 < S.length := zfW (z0r hk)
        simp only [z2v]
        rw [if_pos (by rw [z0d]; omega), z2c hk, Option.bind_some]
        by_cases e : (z7m S i).getD k 0 = j
        · rw [if_pos (by omega), decide_eq_true e, z1b (by omega)]; rfl
        · rw [if_neg (by omega), decide_eq_false e, ed, z2c hkl, Option.bind_some, z2c hjl, Option.bind_some, z9c (lt62 _ hkl) (lt62 _ hjl), Option.bind_some, Bool.false_or, Bool.not_not, z1b (by omega), z1b (by omega)]
      · simp only [z2v]
        rw [if_neg (by rw [z0d]; omega), z0q _ (by unfold z1s; rw [z0d]; omega), z1b (by omega)]
    · simp only [z1F]
      rw [if_neg (by rw [z0d]; omega), List.take_length]
def z6r (d : DFA) (m n : Nat) (S : List Nat) (i : Nat) : Nat := (z6H d m n S).getD (z6u (z1P d m n S) S.length i) 0
def zeH (d : DFA) (m n : Nat) (S : List Nat) (i : Nat) : ByteArray := z5N (z0Y d m n (S.getD (z6r d m n S i) 0)) (S.getD i 0)
def zn2 (d : DFA) (m n : Nat) (S : List Nat) (i : Nat) : ByteArray := z5N (z0Y d m n (S.getD i 0)) (S.getD (z6r d m n S i) 0)
def z4x (d : DFA) (m n : Nat) (S : List Nat) : Imgs := ⟨toI S, znh d m n S, ztd d m n S, (List.range S.length).map fun i => toI (zae S i), (List.range S.length).map (zeH d m n S), (List.range S.length).map (zn2 d m n S)⟩
theorem zha {d : DFA} {m n : Nat} {S : List Nat} {c : Nat} (hc : c < (z6H d m n S).length) : (z6H d m n S).getD c 0 < S.length := zaK _ _ _ (z0r hc)
theorem zgt {d : DFA} {m n : Nat} (hd : DfaOk d m n) {S : List Nat} (hS : SetsP d m n S) (hSl : S.length < 100000) {c : Nat} (hc : c < (z6H d m n S).length) (q : List Int) :
    z0m (z4D (toI S) (znh d m n S, toI (z6H d m n S)) (c : Int) (q, zeG S (z0Y d m n (S.getD ((z6H d m n S).getD c 0) 0)))) LFm (0, (List.range S.length).map fun j => if z6u (z1P d m n S) S.length j < c then zeH d m n S j else ByteArray.empty) =
      z0e (((c + 1 : Nat) : Int), (List.range S.length).map fun j => if z6u (z1P d m n S) S.length j < c + 1 then zeH d m n S j else ByteArray.empty) := by
  have hcl : (z6H d m n S).length <= S.length := z7E _ _
  refine z0L (s := ((0 : Int), (List.range S.length).map fun j => if z6u (z1P d m n S) S.length j < c then zeH d m n S j else ByteArray.empty)) S.length (fun k => ((k : Int), (List.range S.length).map fun j => if z6u (z1P d m n S) S.length j < c ∨ (z6u (z1P d m n S) S.length j = c /\ j < k) then zeH d m n S j else ByteArray.empty)) ?_ (by simp only [LFm]; omega) (fun k hk => ?_) ?_
  · refine Prod.ext rfl (List.map_congr_left fun j hj => ?_)
    simp
  · simp only [z4D]
    rw [if_pos (by rw [z0d]; omega), znh, z2V hk, Option.bind_some, z1b (by omega)]
    by_cases h : z6u (z1P d m n S) S.length k = c
    · have hw : z5N (z0Y d m n (S.getD ((z6H d m n S).getD c 0) 0)) (S.getD k 0) = zeH d m n S k := by unfold zeH z6r; rw [h]
      rw [if_pos (by omega), zeG, z2V hk, Option.bind_some, hw, z2V hk, Option.bind_some, Int.toNat_natCast]
      refine congrArg z0e (Prod.ext rfl ?_)
      apply List.ext_getElem (by simp)
      intro j h1 h2
      simp only [List.getElem_set, List.getElem_map, List.getElem_range]
      by_cases e : k = j
      · subst e; rw [if_pos rfl, if_pos (.inr ⟨h, by omega⟩)]
      · rw [if_neg e]
        congr 1
        refine propext ⟨fun hh => hh.imp id fun hh => ⟨hh.1, by omega⟩, fun hh => hh.imp id fun hh => ⟨hh.1, by omega⟩⟩
    · rw [if_neg (by omega)]
      refine congrArg z0e (Prod.ext rfl (List.map_congr_left fun j hj => ?_))
      congr 1
      refine propext ⟨fun hh => hh.imp id fun hh => ⟨hh.1, by omega⟩, fun hh => hh.imp id fun hh => ⟨hh.1, ?_⟩⟩
      have : j ≠ k := fun e => h (e ▸ hh.1)
      omega
  · simp only [z4D]
    rw [if_neg (by rw [z0d]; omega), z1b (by omega)]
    congr 3
    refine List.map_congr_left fun j hj => ?_
    have hj := List.mem_range.1 hj
    congr 1
    refine propext ⟨fun hh => ?_, fun hh => ?_⟩
    · rcases hh with hh | hh <;> omega
    · by_cases e : z6u (z1P d m n S) S.length j = c
      · exact .inr ⟨e, hj⟩
      · exact .inl (by omega)
theorem zvj {d : DFA} {m n : Nat} (hd : DfaOk d m n) (hn : n <= 7) : z7B d = some (z4x d m n (z6m d m n), 0) := by
  have h128 : 2 ^ n <= 128 := Nat.pow_le_pow_right (n := 2) (by omega) hn
  have hS := zdL hd
  have hSl := z1x hS.nd hS.lt
  have he := z7I hd hS
  unfold z7B
  rw [zgv (zs3 hd (by omega)), zrD hd (by omega), Option.bind_some, if_pos rfl, zq2 hd hn, Option.bind_some]
  generalize z6m d m n = S at hS hSl he
  have hcl : (z6H d m n S).length <= S.length := z7E _ _
  rw [if_neg (by rw [z0d]; omega), zkc hd (by omega) hS, Option.bind_some, zkj hd (by omega) hS, Option.bind_some]
  simp only
  rw [zk2 hd hn hS, Option.bind_some, z0d, z0q _ (by unfold z1g; omega), z0q _ (by unfold z1g; omega), Int.toNat_natCast]
  have f1 : List.replicate S.length ([] : List Int) = z2a S.length (fun i => toI (zae S i)) [] 0 := (z9U _ _ _).symm
  have f2 : List.replicate S.length (ByteArray.empty : ByteArray) = z2a S.length (zn2 d m n S) ByteArray.empty 0 := (z9U _ _ _).symm
  rw [f1, f2]
  refine z0L (s := ((0 : Int), z2a S.length (fun i => toI (zae S i)) [] 0, z2a S.length (zn2 d m n S) ByteArray.empty 0)) S.length (fun k => ((k : Int), z2a S.length (fun i => toI (zae S i)) [] k, z2a S.length (zn2 d m n S) ByteArray.empty k)) rfl (by simp only [LFm]; omega) (fun k hk => ?_) ?_
  · obtain ⟨c1, c2⟩ := z9d he hk
    have c1 : z6u (z1P d m n S) S.length k < (z6H d m n S).length := c1
    have hf : (z6H d m n S).getD (z6u (z1P d m n S) S.length k) 0 < S.length := zha c1
    simp only [z5y]
    rw [if_pos (by rw [z0d]; omega), znC hn hS hk, Option.bind_some, z7G hk, Option.bind_some, show dgm d m n S = ⟨toI S, zqP d m S, zoI d m n S⟩ from rfl, zbN hd (by omega) hS _ hk, Option.bind_some, znh, z2V hk, Option.bind_some, z2c c1, Option.bind_some, show (zcJ S (z0Y d m n (S.getD k 0)), zeG S (z0Y d m n (S.getD k 0))).2 = zeG S (z0Y d m n (S.getD k 0)) from rfl, zeG, z2V hf, Option.bind_some, z7G hk, Option.bind_some, z1b (by omega), Int.toNat_natCast]
    have e1 := z5D (f := fun i => toI (zae S i)) (z := []) hk
    have e2 := z5D (f := zn2 d m n S) (z := ByteArray.empty) hk
    have e3 : z5N (z0Y d m n (S.getD k 0)) (S.getD ((z6H d m n S).getD (z6u (z1P d m n S) S.length k) 0) 0) = zn2 d m n S k := rfl
    rw [e1, e3, e2]
  · simp only [z5y]
    rw [if_neg (by rw [z0d]; omega), z0d, z9T, z9T, Int.toNat_natCast]
    congr 1
    have f3 : List.replicate S.length (ByteArray.empty : ByteArray) = (List.range S.length).map fun j => if z6u (z1P d m n S) S.length j < 0 then zeH d m n S j else ByteArray.empty := by
      apply List.ext_getElem (by simp); intro i h1 h2; simp
    rw [f3]
    refine z0L (s := ((0 : Int), (List.range S.length).map fun j => if z6u (z1P d m n S) S.length j < 0 then zeH d m n S j else ByteArray.empty)) (z6H d m n S).length (fun c => ((c : Int), (List.range S.length).map fun j => if z6u (z1P d m n S) S.length j < c then zeH d m n S j else ByteArray.empty)) rfl (by simp only [LFm]; omega) (fun c hc => ?_) ?_
    · have hf := zha hc
      simp only [z5x]
      rw [if_pos (by rw [z0d]; omega), z2c hc, Option.bind_some, show dgm d m n S = ⟨toI S, zqP d m S, zoI d m n S⟩ from rfl, zbN hd (by omega) hS _ hf, Option.bind_some, zgt hd hS (by omega) hc]
    · simp only [z5x]
      rw [if_neg (by rw [z0d]; omega)]
      have : ((List.range S.length).map fun j => if z6u (z1P d m n S) S.length j < (z6H d m n S).length then zeH d m n S j else ByteArray.empty) = (List.range S.length).map (zeH d m n S) := List.map_congr_left fun j hj => if_pos (z9d he (List.mem_range.1 hj)).1
      rw [this]; rfl
end
section
open Go
set_option maxRecDepth 100000
theorem z7h (s : Nat) : szN s = z4k (fun q => s.testBit q) 7 := by
  simp only [szN, z4k, List.range, List.range.loop, List.countP_cons, List.countP_nil]
  omega
theorem zxQ {s : Nat} (h : s < 128) {q : Nat} (hq : s.testBit q = true) : q < 7 := by
  rcases Nat.lt_or_ge q 7 with h' | h'
  · exact h'
  · have : s.testBit q = false := Nat.testBit_lt_two_pow (Nat.lt_of_lt_of_le h (Nat.pow_le_pow_right (n := 2) (by omega) h'))
    rw [this] at hq; cases hq
theorem zll {a b : Nat} (h : z6c a b) : szN a <= szN b := by
  rw [z7h, z7h]; exact ziO fun q _ hq => z1K.1 h q hq
theorem zpy {a b : Nat} (hb : b < 128) (h : z6c a b) (hne : a ≠ b) : szN a < szN b := by
  have : ∃ q, b.testBit q = true /\ a.testBit q = false := by
    refine Classical.byContradiction fun hn => hne (z7o h (z1K.2 fun q hq => ?_))
    cases ha : a.testBit q with
    | true => rfl
    | false => exact absurd ⟨q, hq, ha⟩ hn
  obtain ⟨q, h1, h2⟩ := this
  rw [z7h, z7h]
  exact zgb (fun q _ hq => z1K.1 h q hq) (zxQ hb h1) h2 h1
theorem zpz {a b : Nat} (hb : b < 128) (h : z6c a b) (he : szN b <= szN a) : a = b := by
  refine Classical.byContradiction fun hne => ?_
  have := zpy hb h hne
  omega
theorem zlk {x p : Nat} (hx : x < 128) (hp : p < 7) : szN (x ||| 2 ^ p) <= szN x + 1 := by
  revert p; revert x; decide +kernel
theorem zsN {x y : Nat} (hx : x < 128) (hy : y < 128) : szN (x ||| y) <= szN x + szN y := by
  rw [z7h, z7h, z7h]
  have : ∀ k, z4k (fun q => (x ||| y).testBit q) k <= z4k (fun q => x.testBit q) k + z4k (fun q => y.testBit q) k := by
    intro k
    induction k with
    | zero => simp [z4k]
    | succ k ih =>
      simp only [z4k, Nat.testBit_or]
      simp only [Nat.testBit_or] at ih
      have : ∀ a b : Bool, (if (a || b) = true then 1 else 0) <= (if a = true then 1 else 0) + (if b = true then 1 else 0) := by decide
      have := this (x.testBit k) (y.testBit k)
      omega
  exact this 7
theorem zt6 {d : DFA} {m n : Nat} (hd : DfaOk d m n) {x y a : Nat} (ha : a < m) : mvN d (x ||| y) a = mvN d x a ||| mvN d y a := by
  apply Nat.eq_of_testBit_eq
  intro p
  rw [Bool.eq_iff_iff, Nat.testBit_or, Bool.or_eq_true, z7a hd ha, z7a hd ha, z7a hd ha]
  constructor
  · rintro ⟨i, h1, h2, h3⟩
    rw [Nat.testBit_or, Bool.or_eq_true] at h2
    exact h2.imp (fun h => ⟨i, h1, h, h3⟩) fun h => ⟨i, h1, h, h3⟩
  · rintro (⟨i, h1, h2, h3⟩ | ⟨i, h1, h2, h3⟩)
    · exact ⟨i, h1, by rw [Nat.testBit_or, h2]; rfl, h3⟩
    · exact ⟨i, h1, by rw [Nat.testBit_or, h2, Bool.or_true], h3⟩
abbrev zq0 (m : Nat) (w : List UInt8) : Prop := ∀ c ∈ w, 97 <= c.toNat /\ c.toNat < 97 + m
theorem zgY {m : Nat} {c : UInt8} {w : List UInt8} (h : zq0 m (c :: w)) : zq0 m w /\ c.toNat - 97 < m := ⟨fun c' hc' => h c' (List.mem_cons_of_mem _ hc'), by have := h c (List.mem_cons_self ..); omega⟩
theorem zlH {d : DFA} {m n : Nat} (hd : DfaOk d m n) : ∀ {w : List UInt8} {x y : Nat}, zq0 m w -> z4m d (x ||| y) w = z4m d x w ||| z4m d y w
  | [], x, y, _ => rfl
  | c :: w, x, y, hw => by
    obtain ⟨h1, h2⟩ := zgY hw
    simp only [z4m]
    rw [zt6 hd h2, zlH hd h1]
theorem zt5 {d : DFA} {m n : Nat} (hd : DfaOk d m n) (hn : n <= 7) {s a : Nat} (hs : s < 2 ^ n) (ha : a < m) : szN (mvN d s a) <= szN s := by
  have h128 : 2 ^ n <= 128 := Nat.pow_le_pow_right (n := 2) (by omega) hn
  have key : ∀ q, q <= n -> szN (zie d.next s a q) <= z4k (fun q => s.testBit q) q := by
    intro q
    induction q with
    | zero => intro _; exact (by decide : szN 0 <= 0)
    | succ q ih =>
      intro hq
      have hlt := zdX hd (s := s) ha q (by omega)
      obtain ⟨h1, h2, e, h3, h4⟩ := zbR hd (q := q) (by omega) ha
      simp only [zie, z4k]
      by_cases hb : s.testBit q = true
      · rw [if_pos hb, if_pos hb]
        have := zlk (x := zie d.next s a q) (p := ((d.next.getD q []).getD a 0).toNat) (by omega) (by rw [e]; omega)
        have := ih (by omega)
        omega
      · rw [if_neg hb, if_neg hb]
        have := ih (by omega)
        omega
  have h1 := key n (Nat.le_refl _)
  have h2 : z4k (fun q => s.testBit q) n <= szN s := by
    rw [z7h]
    have : ∀ j, z4k (fun q => s.testBit q) n <= z4k (fun q => s.testBit q) (n + j) := by
      intro j
      induction j with
      | zero => exact Nat.le_refl _
      | succ j ih => rw [← Nat.add_assoc]; simp only [z4k]; omega
    have := this (7 - n)
    rwa [show n + (7 - n) = 7 by omega] at this
  unfold mvN
  rw [hd.nl]
  omega
theorem zbQ {d : DFA} {m n : Nat} (hd : DfaOk d m n) (hn : n <= 7) : ∀ {w : List UInt8} {s : Nat}, s < 2 ^ n -> zq0 m w -> szN (z4m d s w) <= szN s
  | [], s, _, _ => Nat.le_refl _
  | c :: w, s, hs, hw => by
    obtain ⟨h1, h2⟩ := zgY hw
    simp only [z4m]
    exact Nat.le_trans (zbQ hd hn (zbZ hd h2) h1) (zt5 hd hn hs h2)
theorem zrx {d : DFA} {m n : Nat} (hd : DfaOk d m n) {s a : Nat} (hs : s < 2 ^ n) (h0 : s ≠ 0) (ha : a < m) : mvN d s a ≠ 0 := by
  obtain ⟨q, hq⟩ : ∃ q, s.testBit q = true := Nat.exists_testBit_of_ne_zero h0
  have hqn : q < n := by
    rcases Nat.lt_or_ge q n with h' | h'
    · exact h'
    · have : s.testBit q = false := Nat.testBit_lt_two_pow (Nat.lt_of_lt_of_le hs (Nat.pow_le_pow_right (n := 2) (by omega) h'))
      rw [this] at hq; cases hq
  intro h
  have := (z7a hd ha (s := s) ((d.next.getD q []).getD a 0).toNat).2 ⟨q, hqn, hq, rfl⟩
  rw [h, Nat.zero_testBit] at this
  cases this
theorem znM {d : DFA} {m n : Nat} (hd : DfaOk d m n) {x : Nat} (hx : x ∈ z6m d m n) : x ≠ 0 := by
  have hp := Nat.two_pow_pos n
  have h2n : 2 <= 2 ^ n := by have := Nat.pow_le_pow_right (n := 2) (by omega) hd.n1; omega
  have hf : 2 ^ n - 1 < 2 ^ n := by omega
  have hi := z5Q hd hf
  obtain ⟨_, h2, _⟩ := z6N hi.nd n
  have hpm := zai (z8w (z0Y d m n (2 ^ n - 1)).1 n)
  rcases (h2 x).1 (hpm.mem_iff.1 hx) with h | ⟨i, _, rfl⟩
  · obtain ⟨i, hil, rfl⟩ := List.getElem_of_mem h
    obtain ⟨_, o2, o3⟩ := hi.ok i hil
    rw [List.getD, List.getD, List.getElem?_eq_getElem hil, Option.getD_some] at o3
    rw [← o3]
    have : ∀ {w : List UInt8} {s : Nat}, s < 2 ^ n -> s ≠ 0 -> zq0 m w -> z4m d s w ≠ 0 := by
      intro w
      induction w with
      | nil => intro s _ h0 _; exact h0
      | cons c w ih =>
        intro s hs h0 hw
        obtain ⟨q1, q2⟩ := zgY hw
        exact ih (zbZ hd q2) (zrx hd hs h0 q2) q1
    exact this hf (by omega) o2
  · exact Nat.ne_of_gt (Nat.two_pow_pos i)
theorem z6q {S : List Nat} {i j : Nat} : j ∈ z7m S i ↔ j < S.length /\ j ≠ i /\ z6c (S.getD j 0) (S.getD i 0) := by
  unfold z7m zoo z6c
  rw [List.mem_filter, List.mem_range]
  simp
theorem zdI {S : List Nat} {i j : Nat} : zjk S i j = true ↔ ∀ k, k ∈ z7m S i -> k ≠ j -> ¬ z6c (S.getD j 0) (S.getD k 0) := by
  unfold zjk z6c
  rw [List.all_eq_true]
  constructor
  · intro h k hk hne hs
    have := h k hk
    simp only [Bool.or_eq_true, decide_eq_true_eq, Bool.not_eq_true', decide_eq_false_iff_not] at this
    exact this.elim hne fun hh => hh hs
  · intro h k hk
    simp only [Bool.or_eq_true, decide_eq_true_eq, Bool.not_eq_true', decide_eq_false_iff_not]
    by_cases e : k = j
    · exact .inl e
    · exact .inr (h k hk e)
theorem zdH {S : List Nat} {i j : Nat} (hz : szN (S.getD i 0) ≠ 1) : j ∈ zae S i ↔ j ∈ z7m S i /\ zjk S i j = true := by
  unfold zae
  rw [if_neg hz, List.mem_filter]
theorem zbK {S : List Nat} {i j : Nat} (h : j ∈ zae S i) : j ∈ z7m S i /\ zjk S i j = true /\ szN (S.getD i 0) ≠ 1 := by
  by_cases hz : szN (S.getD i 0) = 1
  · unfold zae at h; rw [if_pos hz] at h; simp at h
  · exact ⟨((zdH hz).1 h).1, ((zdH hz).1 h).2, hz⟩
theorem zlf (S : List Nat) (i : Nat) : (zae S i).Nodup := by
  unfold zae
  split
  · simp
  · exact List.Pairwise.filter _ (List.Pairwise.filter _ List.nodup_range)
theorem zqa {d : DFA} {m n : Nat} (hn : n <= 7) {S : List Nat} (hS : SetsP d m n S) {i : Nat} (hi : i < S.length) (hz : szN (S.getD i 0) ≠ 1) : ∀ f j, 8 - szN (S.getD j 0) <= f -> j ∈ z7m S i -> ∃ t, t ∈ zae S i /\ z6c (S.getD j 0) (S.getD t 0) := by
  have h128 : 2 ^ n <= 128 := Nat.pow_le_pow_right (n := 2) (by omega) hn
  have h8 : ∀ s, szN s <= 7 := fun s => by rw [z7h]; exact ziP _ _
  intro f
  induction f with
  | zero => intro j hf _; have := h8 (S.getD j 0); omega
  | succ f ih =>
    intro j hf hj
    by_cases hp : zjk S i j = true
    · exact ⟨j, (zdH hz).2 ⟨hj, hp⟩, zb4 _⟩
    · have : ∃ k, k ∈ z7m S i /\ k ≠ j /\ z6c (S.getD j 0) (S.getD k 0) := by
        refine Classical.byContradiction fun hn' => hp (zdI.2 fun k hk hne hs => hn' ⟨k, hk, hne, hs⟩)
      obtain ⟨k, hk, hne, hs⟩ := this
      have hkl := (z6q.1 hk).1
      have hjl := (z6q.1 hj).1
      have hlt := zpy (a := S.getD j 0) (b := S.getD k 0) (by have := hS.lt _ (z0r hkl); omega) hs fun e => hne (z7e hS.nd hkl hjl e.symm)
      obtain ⟨t, h1, h2⟩ := ih k (by omega) hk
      exact ⟨t, h1, zfh hs h2⟩
theorem zlh {d : DFA} {m n : Nat} (hd : DfaOk d m n) (hn : n <= 7) {S : List Nat} (hS : SetsP d m n S) {i : Nat} (hi : i < S.length) (hz : szN (S.getD i 0) ≠ 1) {q : Nat} (hq : (S.getD i 0).testBit q = true) : ∃ t, t ∈ zae S i /\ (S.getD t 0).testBit q = true := by
  have h128 : 2 ^ n <= 128 := Nat.pow_le_pow_right (n := 2) (by omega) hn
  have hil := hS.lt _ (z0r hi)
  have hqn : q < n := by
    rcases Nat.lt_or_ge q n with h' | h'
    · exact h'
    · have : (S.getD i 0).testBit q = false := Nat.testBit_lt_two_pow (Nat.lt_of_lt_of_le hil (Nat.pow_le_pow_right (n := 2) (by omega) h'))
      rw [this] at hq; cases hq
  have h1 := hS.one q hqn
  have hg := z3C h1
  have hsz : szN (2 ^ q) = 1 := by
    have : ∀ q, q < 7 -> szN (2 ^ q) = 1 := by decide +kernel
    exact this q (by omega)
  have hinn : S.idxOf (2 ^ q) ∈ z7m S i := z6q.2 ⟨z6g h1, fun e => by rw [← e, hg] at hz; exact hz hsz, by
    rw [hg]
    refine z1K.2 fun p hp => ?_
    rw [Nat.testBit_two_pow, decide_eq_true_iff] at hp
    rw [← hp]; exact hq⟩
  obtain ⟨t, h2, h3⟩ := zqa hn hS hi hz _ _ (Nat.le_refl _) hinn
  refine ⟨t, h2, z1K.1 h3 q ?_⟩
  rw [hg, Nat.testBit_two_pow]; simp
theorem zlg {d : DFA} {m n : Nat} (hn : n <= 7) {S : List Nat} (hS : SetsP d m n S) {i k : Nat} (hi : i < S.length) (h : k ∈ zae S i) : i < k /\ k < S.length /\ z6c (S.getD k 0) (S.getD i 0) /\ S.getD k 0 ≠ S.getD i 0 := by
  have h128 : 2 ^ n <= 128 := Nat.pow_le_pow_right (n := 2) (by omega) hn
  obtain ⟨h1, _, _⟩ := zbK h
  obtain ⟨hk, hne, hs⟩ := z6q.1 h1
  have hx : S.getD k 0 ≠ S.getD i 0 := fun e => hne (z7e hS.nd hk hi e)
  refine ⟨?_, hk, hs, hx⟩
  have hlt := zpy (by have := hS.lt _ (z0r hi); omega) hs hx
  rcases Nat.lt_trichotomy i k with h' | h' | h'
  · exact h'
  · exact absurd h'.symm hne
  · have := List.pairwise_iff_getElem.1 hS.srt k i hk hi h'
    rw [zhq] at this
    rw [List.getD, List.getD, List.getElem?_eq_getElem hk, List.getElem?_eq_getElem hi, Option.getD_some, Option.getD_some] at hlt
    omega
end
section
open Go
set_option maxRecDepth 100000
theorem znE {A K : Nat} (h : z6c A K) : szN A + szN (K ^^^ A) = szN K := by
  rw [z7h, z7h, z7h]
  have hb := z1K.1 h
  have : ∀ k, z4k (fun q => A.testBit q) k + z4k (fun q => (K ^^^ A).testBit q) k = z4k (fun q => K.testBit q) k := by
    intro k
    induction k with
    | zero => simp [z4k]
    | succ k ih =>
      have h1 := hb k
      simp only [z4k]
      have h2 : (K ^^^ A).testBit k = (K.testBit k ^^ A.testBit k) := Nat.testBit_xor ..
      have h3 : ∀ a b c : Bool, (a = true -> b = true) -> c = (b ^^ a) -> (if a = true then 1 else 0) + (if c = true then 1 else 0) = (if b = true then 1 else 0) := by decide
      have := h3 _ _ _ h1 h2
      omega
  exact this 7
theorem zoY {A K : Nat} (h : z6c A K) : A ||| (K ^^^ A) = K := by
  apply Nat.eq_of_testBit_eq
  intro q
  have h1 := z1K.1 h q
  rw [Nat.testBit_or, Nat.testBit_xor]
  revert h1
  cases A.testBit q <;> cases K.testBit q <;> simp
theorem zln {A K : Nat} (h : z6c A K) : A <= K := by
  unfold z6c at h; rw [← h]; exact Nat.and_le_right
theorem znH (A B : Nat) : z6c A (A ||| B) := z1K.2 fun q hq => by rw [Nat.testBit_or, hq]; rfl
theorem zhW (A B : Nat) : z6c B (A ||| B) := z1K.2 fun q hq => by rw [Nat.testBit_or, hq, Bool.or_true]
theorem zfH {A B : Nat} (h : z6c A B) : A ||| B = B := z7o (z1K.2 fun q hq => by
  rw [Nat.testBit_or, Bool.or_eq_true] at hq
  exact hq.elim (z1K.1 h q) id) (zhW A B)
theorem zr5 {A B K : Nat} (h1 : z6c A K) (h2 : z6c B K) : z6c (A ||| B) K := z1K.2 fun q hq => by
  rw [Nat.testBit_or, Bool.or_eq_true] at hq
  exact hq.elim (z1K.1 h1 q) (z1K.1 h2 q)
structure Lead (d : DFA) (m n K I : Nat) (w : List UInt8) : Prop where
  hw : zq0 m w
  hK : K < 2 ^ n
  hI : I < 2 ^ n
  run : z4m d K w = I
  sz : szN I = szN K
theorem zh2 {d : DFA} {m n : Nat} (hd : DfaOk d m n) (hn : n <= 7) {K I : Nat} {w : List UInt8} (h : Lead d m n K I w) {A : Nat} (hA : z6c A K) : szN (z4m d A w) = szN A := by
  have h128 : 2 ^ n <= 128 := Nat.pow_le_pow_right (n := 2) (by omega) hn
  have hAK := zln hA
  have hK := h.hK
  have hB : z6c (K ^^^ A) K := by
    have := zoY hA
    rw [← this]; rw [this]; rw [← this]
    exact (by rw [this]; exact (by
      refine z1K.2 fun q hq => ?_
      rw [Nat.testBit_xor] at hq
      have h1 := z1K.1 hA q
      revert hq h1
      cases A.testBit q <;> cases K.testBit q <;> simp))
  have hBl := zln hB
  have e1 := zlH hd (x := A) (y := K ^^^ A) h.hw
  rw [zoY hA, h.run] at e1
  have l1 := zdP hd (s := A) (w := w) (by omega) h.hw
  have l2 := zdP hd (s := K ^^^ A) (w := w) (by omega) h.hw
  have s1 := zsN (x := z4m d A w) (y := z4m d (K ^^^ A) w) (by omega) (by omega)
  rw [← e1, h.sz] at s1
  have s2 := zbQ hd hn (s := K ^^^ A) (by omega) h.hw
  have s3 := zbQ hd hn (s := A) (by omega) h.hw
  have s4 := znE hA
  omega
theorem ze6 {d : DFA} {m n : Nat} (hd : DfaOk d m n) (hn : n <= 7) {K I : Nat} {w : List UInt8} (h : Lead d m n K I w) {A B : Nat} (hA : z6c A K) (hB : z6c B K) (hs : z6c (z4m d A w) (z4m d B w)) : z6c A B := by
  have h128 : 2 ^ n <= 128 := Nat.pow_le_pow_right (n := 2) (by omega) hn
  have hK := h.hK
  have hAB := zr5 hA hB
  have hl := zln hAB
  have e1 := zh2 hd hn h hAB
  rw [zlH hd h.hw, zfH hs, zh2 hd hn h hB] at e1
  have := zpz (a := B) (b := A ||| B) (by omega) (zhW A B) (by omega)
  rw [this]
  exact znH A B
theorem zik {d : DFA} {m n : Nat} (hd : DfaOk d m n) (hn : n <= 7) {K I : Nat} {w : List UInt8} (h : Lead d m n K I w) {A B : Nat} (hA : z6c A K) (hB : z6c B K) (he : z4m d A w = z4m d B w) : A = B :=
  z7o (ze6 hd hn h hA hB (by rw [he]; exact zb4 _)) (ze6 hd hn h hB hA (by rw [he]; exact zb4 _))
theorem znF {α β : Type} {l : List α} {r : List β} {f : α -> β} (hl : (l.map f).Nodup) (hs : ∀ x ∈ l.map f, x ∈ r) (hle : r.length <= l.length) {u : β} (hu : u ∈ r) : u ∈ l.map f := by
  refine Classical.byContradiction fun hn => ?_
  have := zap (l := u :: l.map f) (r := r) (List.nodup_cons.2 ⟨hn, hl⟩) fun x hx => by
    rcases List.mem_cons.1 hx with rfl | hx
    · exact hu
    · exact hs x hx
  rw [List.length_cons, List.length_map] at this
  omega
theorem z7v {α β : Type} {l : List α} {f : α -> β} (hl : l.Nodup) (hf : ∀ x ∈ l, ∀ y ∈ l, f x = f y -> x = y) : (l.map f).Nodup := by
  induction l with
  | nil => simp
  | cons a l ih =>
    rw [List.nodup_cons] at hl
    rw [List.map_cons, List.nodup_cons]
    refine ⟨fun h => ?_, ih hl.2 fun x hx y hy => hf x (List.mem_cons_of_mem _ hx) y (List.mem_cons_of_mem _ hy)⟩
    obtain ⟨x, hx, he⟩ := List.mem_map.1 h
    have := hf x (List.mem_cons_of_mem _ hx) a (List.mem_cons_self ..) he
    exact hl.1 (this ▸ hx)
section
variable {d : DFA} {m n : Nat} {S : List Nat} (hd : DfaOk d m n) (hn : n <= 7) (hS : SetsP d m n S)
include hd hn hS
theorem zmi {k i : Nat} (hk : k < S.length) (hi : i < S.length) {w : List UInt8} (h : Lead d m n (S.getD k 0) (S.getD i 0) w) :
    (∀ j ∈ z7m S k, S.idxOf (z4m d (S.getD j 0) w) ∈ z7m S i /\ S.getD (S.idxOf (z4m d (S.getD j 0) w)) 0 = z4m d (S.getD j 0) w) /\ ((z7m S k).map fun j => S.idxOf (z4m d (S.getD j 0) w)).Nodup := by
  have h128 : 2 ^ n <= 128 := Nat.pow_le_pow_right (n := 2) (by omega) hn
  have hmem : ∀ j, j < S.length -> z4m d (S.getD j 0) w ∈ S := fun j hj => zi3 hS h.hw (z0r hj)
  refine ⟨fun j hj => ?_, z7v (List.Pairwise.filter _ List.nodup_range) fun x hx y hy e => ?_⟩
  · obtain ⟨h1, h2, h3⟩ := z6q.1 hj
    have hg := z3C (hmem j h1)
    refine ⟨z6q.2 ⟨z6g (hmem j h1), fun e => ?_, ?_⟩, hg⟩
    · rw [e] at hg
      have s1 := zh2 hd hn h h3
      rw [← hg, h.sz] at s1
      have := zpz (a := S.getD j 0) (b := S.getD k 0) (by have := h.hK; omega) h3 (by omega)
      exact h2 (z7e hS.nd h1 hk this)
    · rw [hg, ← h.run]
      exact zdO hd h.hw h3
  · obtain ⟨h1, h2, h3⟩ := z6q.1 hx
    obtain ⟨k1, k2, k3⟩ := z6q.1 hy
    have e2 : z4m d (S.getD x 0) w = z4m d (S.getD y 0) w := by
      rw [← z3C (hmem x h1), ← z3C (hmem y k1)]
      exact congrArg (fun q => S.getD q 0) e
    exact z7e hS.nd h1 k1 (zik hd hn h h3 k3 e2)
theorem zqb {k i : Nat} (hk : k < S.length) (hi : i < S.length) {w : List UInt8} (h : Lead d m n (S.getD k 0) (S.getD i 0) w) : (z7m S k).length <= (z7m S i).length := by
  obtain ⟨h1, h2⟩ := zmi hd hn hS hk hi h
  have := zap h2 (r := z7m S i) fun x hx => by
    obtain ⟨j, hj, rfl⟩ := List.mem_map.1 hx
    exact (h1 j hj).1
  simpa using this
theorem zpw {k i : Nat} (hk : k < S.length) (hi : i < S.length) {w v : List UInt8} (h : Lead d m n (S.getD k 0) (S.getD i 0) w) (h' : Lead d m n (S.getD i 0) (S.getD k 0) v) {t : Nat} (ht : t ∈ zae S k) : S.idxOf (z4m d (S.getD t 0) w) ∈ zae S i := by
  obtain ⟨h1, h2⟩ := zmi hd hn hS hk hi h
  obtain ⟨t1, t2, t3⟩ := zbK ht
  have hz : szN (S.getD i 0) ≠ 1 := by rw [h.sz]; exact t3
  refine (zdH hz).2 ⟨(h1 t t1).1, zdI.2 fun u hu hne hs => ?_⟩
  have hsur := znF (l := z7m S k) (r := z7m S i) h2 (fun x hx => by
    obtain ⟨j, hj, rfl⟩ := List.mem_map.1 hx
    exact (h1 j hj).1) (zqb hd hn hS hi hk h') hu
  obtain ⟨j, hj, rfl⟩ := List.mem_map.1 hsur
  rw [(h1 t t1).2, (h1 j hj).2] at hs
  have hsub := ze6 hd hn h (z6q.1 t1).2.2 (z6q.1 hj).2.2 hs
  exact zdI.1 t2 j hj (fun e => hne (by rw [e])) hsub
theorem ziH {k i : Nat} (hk : k < S.length) (hi : i < S.length) (he : z1P d m n S i k = true) : szN (S.getD i 0) = szN (S.getD k 0) /\ S.getD i 0 ∈ (z0Y d m n (S.getD k 0)).1 := by
  have h128 : 2 ^ n <= 128 := Nat.pow_le_pow_right (n := 2) (by omega) hn
  simp only [z1P, Bool.and_eq_true] at he
  obtain ⟨w, w1, w2⟩ := (z4e hd hS hk).1 he.1
  obtain ⟨v, v1, v2⟩ := (z4e hd hS hi).1 he.2
  have hkl := hS.lt _ (z0r hk)
  have hil := hS.lt _ (z0r hi)
  have a1 := zll w2
  have a2 := zbQ hd hn hkl w1
  have a3 := zll v2
  have a4 := zbQ hd hn hil v1
  refine ⟨by omega, ?_⟩
  have hrl := zdP hd hkl w1
  have := zpz (by omega) w2 (by omega)
  rw [this]
  exact zbT hd hkl w1 (zak hd hkl)
omit hn hS in
theorem zeI {s x : Nat} (hs : s < 2 ^ n) (hx : x ∈ (z0Y d m n s).1) : zq0 m (z5N (z0Y d m n s) x).data.toList /\ (z5N (z0Y d m n s) x).size <= 2 ^ n /\ z4m d s (z5N (z0Y d m n s) x).data.toList = x := by
  have hi := z5Q hd hs
  have hl := z1x hi.nd hi.lt
  have hlt := z6g hx
  obtain ⟨o1, o2, o3⟩ := hi.ok _ hlt
  unfold z5N
  exact ⟨o2, by omega, by rw [o3, z3C hx]⟩
end
end
section
open Go
set_option maxRecDepth 100000
end
section
open Go
set_option maxRecDepth 100000
theorem zcl {N : Nat} {e : Nat -> Nat -> Bool} (he : EqvN N e) {i : Nat} (hi : i < N) :
    (z6u e N i < (z0O e i).length /\ (z0O e i).getD (z6u e N i) 0 = (z0O e N).getD (z6u e N i) 0 /\ z0O e (i + 1) = z0O e i) ∨
    (z6u e N i = (z0O e i).length /\ (z0O e N).getD (z6u e N i) 0 = i /\ z0O e (i + 1) = z0O e i ++ [i]) := by
  have hc := zpf he hi
  by_cases h : (z0O e i).any (e i) = true
  · left
    obtain ⟨x, hx, hp⟩ := List.any_eq_true.1 h
    have hlt : z6u e N i < (z0O e i).length := by rw [← hc]; exact List.findIdx_lt_length_of_exists ⟨x, hx, hp⟩
    refine ⟨hlt, ?_, by rw [z0O, if_pos h]⟩
    obtain ⟨R, hR⟩ := zat e (i := i) N (by omega)
    rw [hR, List.getD, List.getD, List.getElem?_append_left hlt]
  · right
    have hlt : z6u e N i = (z0O e i).length := by
      rw [← hc]
      exact List.findIdx_eq_length.2 fun x hx => by
        cases hh : e i x with
        | false => rfl
        | true => exact absurd (List.any_eq_true.2 ⟨x, hx, hh⟩) h
    refine ⟨hlt, ?_, by rw [z0O, if_neg h]⟩
    obtain ⟨R, hR⟩ := zat e (i := i + 1) N (by omega)
    rw [hR, z0O, if_neg h, hlt, List.getD, List.append_assoc, List.getElem?_append_right (Nat.le_refl _), Nat.sub_self]
    rfl
section
variable {d : DFA} {m n : Nat} {S : List Nat} (hd : DfaOk d m n) (hn : n <= 7) (hS : SetsP d m n S)
include hd hn hS
theorem zmv {i : Nat} (hi : i < S.length) : z6r d m n S i <= i := by
  have _u := hn
  rcases zcl (z7I hd hS) hi with ⟨h1, h2, _⟩ | ⟨h1, h2, _⟩
  · have := zaK (z1P d m n S) i _ (z0r h1)
    rw [h2] at this
    exact Nat.le_of_lt this
  · exact Nat.le_of_eq h2
theorem zmw {i : Nat} (hi : i < S.length) : z1P d m n S i (z6r d m n S i) = true := by
  have _u := hn
  exact (z9d (z7I hd hS) hi).2
end
end
section
open Go
set_option maxRecDepth 100000
theorem z8j {d : DFA} {m n K I J : Nat} {u v : List UInt8} (h1 : Lead d m n K I u) (h2 : Lead d m n I J v) : Lead d m n K J (u ++ v) where
  hw c hc := (List.mem_append.1 hc).elim (h1.hw c) (h2.hw c)
  hK := h1.hK
  hI := h2.hI
  run := by rw [z5P, h1.run, h2.run]
  sz := h2.sz.trans h1.sz
def z1O (S : List Nat) (k : Nat) : List Nat := (zae S k).map fun t => S.getD t 0
def z2R (d : DFA) (w : List UInt8) (T : List Nat) : List Nat := T.map fun t => T.idxOf (z4m d t w)
theorem z9B (d : DFA) (w : List UInt8) (T : List Nat) : (z2R d w T).length = T.length := by simp [z2R]
def clN (d : DFA) (m n : Nat) (S : List Nat) (i : Nat) : Nat := z6u (z1P d m n S) S.length i
def zng (d : DFA) (S : List Nat) (i a : Nat) : Nat := S.idxOf (mvN d (S.getD i 0) a)
def hwN (d : DFA) (m n : Nat) (S : List Nat) (i a : Nat) : ByteArray := zeH d m n S i ++ zoi a ++ zn2 d m n S (zng d S i a)
section
variable {d : DFA} {m n : Nat} {S : List Nat} (hd : DfaOk d m n) (hn : n <= 7) (hS : SetsP d m n S)
include hd hn hS
theorem z6B {k : Nat} (hk : k < S.length) : (z1O S k).Nodup /\ ∀ t ∈ z1O S k, t ∈ S /\ z6c t (S.getD k 0) /\ t < 2 ^ n := by
  have _u := hd
  have hin : ∀ x ∈ zae S k, x < S.length := fun x hx => zfW (zbK hx).1
  refine ⟨z7v (zlf S k) fun x hx y hy e => z7e hS.nd (hin x hx) (hin y hy) e, fun t ht => ?_⟩
  obtain ⟨x, hx, rfl⟩ := List.mem_map.1 ht
  obtain ⟨h1, h2, h3, _⟩ := zlg hn hS hk hx
  exact ⟨z0r h2, h3, hS.lt _ (z0r h2)⟩
theorem zgC {k : Nat} (hk : k < S.length) {w : List UInt8} (h : Lead d m n (S.getD k 0) (S.getD k 0) w) : ∀ t ∈ z1O S k, z4m d t w ∈ z1O S k := fun t ht => by
  obtain ⟨x, hx, rfl⟩ := List.mem_map.1 ht
  have hm := zpw hd hn hS hk hk h h hx
  have hr := zi3 hS h.hw (z0r (zfW (zbK hx).1) : S.getD x 0 ∈ S)
  exact List.mem_map.2 ⟨_, hm, z3C hr⟩
theorem z8f {k : Nat} (hk : k < S.length) {w : List UInt8} (h : Lead d m n (S.getD k 0) (S.getD k 0) w) : (z2R d w (z1O S k)).Nodup /\ (∀ p ∈ z2R d w (z1O S k), p < (z1O S k).length) /\ ∀ i, i < (z1O S k).length -> (z1O S k).getD ((z2R d w (z1O S k)).getD i 0) 0 = z4m d ((z1O S k).getD i 0) w := by
  obtain ⟨hnd, hf⟩ := z6B hd hn hS hk
  have hr := zgC hd hn hS hk h
  refine ⟨z7v hnd fun x hx y hy e => ?_, fun p hp => ?_, fun i hi => ?_⟩
  · have e2 : z4m d x w = z4m d y w := by
      rw [← z3C (hr x hx), ← z3C (hr y hy), e]
    exact zik hd hn h (hf x hx).2.1 (hf y hy).2.1 e2
  · obtain ⟨x, hx, rfl⟩ := List.mem_map.1 hp
    exact z6g (hr x hx)
  · have e : (z2R d w (z1O S k)).getD i 0 = (z1O S k).idxOf (z4m d ((z1O S k).getD i 0) w) := by
      simp [z2R, List.getD, hi]
    rw [e, z3C (hr _ (z0r hi))]
theorem zhy {i : Nat} (hi : i < S.length) : Lead d m n (S.getD (z6r d m n S i) 0) (S.getD i 0) (zeH d m n S i).data.toList /\ (zeH d m n S i).size <= 2 ^ n := by
  have hk : z6r d m n S i < S.length := by have := zmv hd hn hS hi; omega
  obtain ⟨h1, h2⟩ := ziH hd hn hS hk hi (zmw hd hn hS hi)
  have hlk := hS.lt _ (z0r hk)
  obtain ⟨w1, w2, w3⟩ := zeI hd hlk h2
  exact ⟨⟨w1, hlk, hS.lt _ (z0r hi), w3, h1⟩, w2⟩
theorem ziY {i : Nat} (hi : i < S.length) : Lead d m n (S.getD i 0) (S.getD (z6r d m n S i) 0) (zn2 d m n S i).data.toList /\ (zn2 d m n S i).size <= 2 ^ n := by
  have hk : z6r d m n S i < S.length := by have := zmv hd hn hS hi; omega
  have he := zmw hd hn hS hi
  have he' : z1P d m n S (z6r d m n S i) i = true := by
    simp only [z1P, Bool.and_eq_true] at he ⊢; exact he.symm
  obtain ⟨h1, h2⟩ := ziH hd hn hS hi hk he'
  have hli := hS.lt _ (z0r hi)
  obtain ⟨w1, w2, w3⟩ := zeI hd hli h2
  exact ⟨⟨w1, hli, hS.lt _ (z0r hk), w3, h1⟩, w2⟩
theorem zpa {i a : Nat} (hi : i < S.length) (ha : a < m) : zng d S i a < S.length /\ S.getD (zng d S i a) 0 = mvN d (S.getD i 0) a := by
  have _u := hd
  have _v := hn
  have := hS.cl _ (z0r hi) a ha
  exact ⟨z6g this, z3C this⟩
theorem zs5 {i : Nat} (hi : i < S.length) : clN d m n S i < (z6H d m n S).length /\ (z6H d m n S).getD (clN d m n S i) 0 = z6r d m n S i := by
  have _u := hn
  exact ⟨(z9d (z7I hd hS) hi).1, rfl⟩
theorem zh6 {i a : Nat} (hi : i < S.length) (ha : a < m) (hc : clN d m n S (zng d S i a) = clN d m n S i) : Lead d m n (S.getD (z6r d m n S i) 0) (S.getD (z6r d m n S i) 0) (hwN d m n S i a).data.toList /\ (hwN d m n S i a).size <= 2 * 2 ^ n + 1 := by
  obtain ⟨j1, j2⟩ := zpa hd hn hS hi ha
  obtain ⟨l1, s1⟩ := zhy hd hn hS hi
  obtain ⟨l2, s2⟩ := ziY hd hn hS j1
  have hf : z6r d m n S (zng d S i a) = z6r d m n S i := by
    unfold z6r; unfold clN at hc; rw [hc]
  rw [hf] at l2
  have h26 : (UInt8.ofNat (97 + a)).toNat = 97 + a := zb9 (by have := hd.m6; omega)
  have l3 : Lead d m n (S.getD i 0) (S.getD (zng d S i a) 0) (zoi a).data.toList := by
    refine ⟨fun c hc => ?_, l1.hI, hS.lt _ (z0r j1), ?_, ?_⟩
    · rw [z6D, List.mem_singleton] at hc
      subst hc; omega
    · rw [z6D, j2, z4m, z4m, h26, Nat.add_sub_cancel_left]
    · have := l1.sz; have := l2.sz; omega
  have l4 := z8j (z8j l1 l3) l2
  refine ⟨?_, ?_⟩
  · unfold hwN; rw [z9X, z9X]; exact l4
  · unfold hwN; rw [zbi, zbi, z5U]; omega
end
abbrev HS := List ByteArray × List (List Nat)
def zcH (d : DFA) (m n : Nat) (S : List Nat) (T : List Nat) (i : Nat) (st : HS) (a : Nat) : HS :=
  if clN d m n S (zng d S i a) = clN d m n S i then
    (if z2R d (hwN d m n S i a).data.toList T = List.range T.length ∨ z2R d (hwN d m n S i a).data.toList T ∈ st.2 then st else (st.1 ++ [hwN d m n S i a], st.2 ++ [z2R d (hwN d m n S i a).data.toList T]))
  else st
def zgo (d : DFA) (m n : Nat) (S : List Nat) (T : List Nat) (i : Nat) (st : HS) (a : Nat) : HS := (List.range a).foldl (zcH d m n S T i) st
def zeA (d : DFA) (m n : Nat) (S : List Nat) (T : List Nat) (c k : Nat) : HS := (List.range k).foldl (fun st i => if clN d m n S i = c then zgo d m n S T i st m else st) ([], [])
theorem zdQ (d : DFA) (m n : Nat) (S T : List Nat) (i : Nat) (st : HS) (a : Nat) : zgo d m n S T i st (a + 1) = zcH d m n S T i (zgo d m n S T i st a) a := by
  unfold zgo; rw [List.range_succ, List.foldl_append]; rfl
theorem zj3 (d : DFA) (m n : Nat) (S T : List Nat) (c k : Nat) : zeA d m n S T c (k + 1) = if clN d m n S k = c then zgo d m n S T k (zeA d m n S T c k) m else zeA d m n S T c k := by
  unfold zeA; rw [List.range_succ, List.foldl_append]; rfl
def z1I (d : DFA) (m n : Nat) (S : List Nat) (c : Nat) : Nat := (z6H d m n S).getD c 0
structure HInv (d : DFA) (m n : Nat) (S : List Nat) (c : Nat) (B : Nat) (st : HS) : Prop where
  len : st.1.length = st.2.length
  bd : st.1.length <= B
  ok : ∀ j, j < st.1.length -> ∃ w : ByteArray, st.1.getD j ByteArray.empty = w /\ Lead d m n (S.getD (z1I d m n S c) 0) (S.getD (z1I d m n S c) 0) w.data.toList /\ w.size <= 2 * 2 ^ n + 1 /\ st.2.getD j [] = z2R d w.data.toList (z1O S (z1I d m n S c))
section
variable {d : DFA} {m n : Nat} {S : List Nat} (hd : DfaOk d m n) (hn : n <= 7) (hS : SetsP d m n S)
include hd hn hS
theorem zpB {c i a B : Nat} {st : HS} (h : HInv d m n S c B st) (hi : i < S.length) (ha : a < m) (hc : clN d m n S i = c) : HInv d m n S c (B + 1) (zcH d m n S (z1O S (z1I d m n S c)) i st a) := by
  have h1 : HInv d m n S c (B + 1) st := ⟨h.len, by have := h.bd; omega, h.ok⟩
  unfold zcH
  split
  · rename_i hj
    split
    · exact h1
    · obtain ⟨l1, l2⟩ := zh6 hd hn hS hi ha hj
      have hf : z1I d m n S c = z6r d m n S i := by unfold z1I; rw [← hc]; exact (zs5 hd hn hS hi).2
      rw [← hf] at l1
      refine ⟨by simp [h.len], by have := h.bd; simp; omega, fun j hj => ?_⟩
      rw [List.length_append, List.length_singleton] at hj
      rcases Nat.lt_or_ge j st.1.length with h3 | h3
      · rw [z5B _ h3, z5B _ (by rw [← h.len]; exact h3)]
        exact h.ok j h3
      · have e : j = st.1.length := by omega
        rw [z7D e, z7D (by rw [← h.len]; exact e)]
        exact ⟨_, rfl, l1, l2, rfl⟩
  · exact h1
theorem zi5 {c i B : Nat} {st : HS} (h : HInv d m n S c B st) (hi : i < S.length) (hc : clN d m n S i = c) : ∀ a, a <= m -> HInv d m n S c (B + a) (zgo d m n S (z1O S (z1I d m n S c)) i st a)
  | 0, _ => h
  | a + 1, ha => by
    rw [zdQ]
    exact zpB hd hn hS (zi5 h hi hc a (by omega)) hi (by omega) hc
theorem zn9 {c : Nat} : ∀ k, k <= S.length -> HInv d m n S c (k * m) (zeA d m n S (z1O S (z1I d m n S c)) c k)
  | 0, _ => ⟨rfl, by simp [zeA], fun j hj => by simp [zeA] at hj⟩
  | k + 1, hk => by
    have ih := zn9 (c := c) k (by omega)
    rw [zj3]
    have e : (k + 1) * m = k * m + m := by rw [Nat.add_mul]; omega
    split
    · rename_i hc
      rw [e]; exact zi5 hd hn hS ih (by omega) hc m (Nat.le_refl _)
    · exact ⟨ih.len, by have := ih.bd; omega, ih.ok⟩
end
end
section
open Go
noncomputable section
set_option maxRecDepth 100000
set_option maxHeartbeats 6000000
end
end
section
open Go
set_option maxRecDepth 100000
theorem z9O {κ ν : Type} [DecidableEq κ] (k q : κ) (v : ν) : ∀ m : List (κ × ν), z9P q (z9u k v m) = if k = q then some v else z9P q m
  | [] => rfl
  | (a, u) :: r => by
    simp only [z9u]
    by_cases h : a = k
    · subst h
      rw [if_pos rfl]
      simp only [z9P]
      by_cases h2 : a = q
      · rw [if_pos h2, if_pos h2]
      · rw [if_neg h2, if_neg h2, if_neg h2]
    · rw [if_neg h]
      simp only [z9P, z9O k q v r]
      by_cases h2 : a = q
      · rw [if_pos h2, if_pos h2, if_neg (fun e => h (h2.trans e.symm))]
      · rw [if_neg h2, if_neg h2]
def zec (S : List Nat) : Nat -> List (Int × Int)
  | 0 => []
  | k + 1 => z9u ((S.getD k 0 : Nat) : Int) (k : Int) (zec S k)
theorem zeb {S : List Nat} (hS : S.Nodup) {j : Nat} : ∀ k, k <= S.length -> j < k -> z9P ((S.getD j 0 : Nat) : Int) (zec S k) = some (j : Int)
  | k + 1, hk, hj => by
    simp only [zec]
    rw [z9O]
    by_cases e : j = k
    · subst e; rw [if_pos rfl]
    · rw [if_neg (fun h => e (z7e hS (by omega) (by omega) (by omega))), zeb hS k (by omega) (by omega)]
theorem zlS {d : DFA} {w : List UInt8} {T : List Nat} {k : Nat} (h : k < T.length) : (z2R d w T).getD k 0 = T.idxOf (z4m d (T.getD k 0) w) := by
  simp [z2R, List.getD, h]
theorem z7n {l : List Nat} {k : Nat} (h : k < l.length) : l.take (k + 1) = l.take k ++ [l.getD k 0] := by
  rw [List.take_succ_eq_append_getElem h, List.getD, List.getElem?_eq_getElem h, Option.getD_some]
section
variable {d : DFA} {m n : Nat} {S : List Nat} (hd : DfaOk d m n) (hn : n <= 7) (hS : SetsP d m n S)
include hd hn hS
theorem z3x {c : Nat} (hc : c < (z6H d m n S).length) : clN d m n S (z1I d m n S c) = c /\ z1I d m n S c < S.length := by
  have _u := hn
  have he := z7I hd hS
  have hk : z1I d m n S c < S.length := zha hc
  obtain ⟨h1, h2⟩ := z9d he hk
  refine ⟨zh9 he (z9R he _ (Nat.le_refl _)) (fun f hf => zaK _ _ f hf) hk h1 hc h2 (he.refl _ hk), hk⟩
end
end
section
open Go
set_option maxRecDepth 100000
def leH (H : Nat -> Nat) (a b : Nat) : Prop := H b < H a ∨ (H a = H b /\ a <= b)
abbrev zvE (H : Nat -> Nat) (l : List Nat) : Prop := l.Pairwise (leH H)
end
section
open Go
set_option maxRecDepth 100000
def hL (N : Nat) (h : Nat -> Nat) : List Int := (List.range N).map fun i => ((h i : Nat) : Int)
structure RndH (N : Nat) (b : Nat -> Nat -> Bool) (z : Nat -> Bool) (h0 : Nat -> Nat) (ch : Bool) (h : Nat -> Nat) : Prop where
  lo : ∀ i, i < N -> h0 i <= h i
  hi : ∀ i, i < N -> h i <= zqf N b z i
  no : ch = false -> ∀ i, i < N -> h i = h0 i
  yes : ch = true -> ∃ i, i < N /\ h0 i < h i
section
variable {d : DFA} {m n : Nat} {S : List Nat} (hd : DfaOk d m n) (hn : n <= 7) (hS : SetsP d m n S) (hpos : ∀ x ∈ S, x ≠ 0)
include hd hn hS hpos
end
end
section
open Go
set_option maxRecDepth 100000
section
variable {d : DFA} {m n : Nat} {S : List Nat} (hd : DfaOk d m n) (hn : n <= 7) (hS : SetsP d m n S) (hpos : ∀ x ∈ S, x ≠ 0)
include hd hn hS hpos
end
end
section
open Go
set_option maxRecDepth 100000
def hC (d : DFA) (m n : Nat) (S : List Nat) (c : Nat) : Nat := z7C d m n S (z1I d m n S c)
def zi9 (d : DFA) (m n : Nat) (S : List Nat) (k : Nat) : List Nat := (List.range (z0O (z1P d m n S) k).length).filter fun c => decide (0 < hC d m n S c)
def zyA (d : DFA) (m n : Nat) (S : List Nat) : Prop := ∀ i, i < S.length -> z7C d m n S i = z7C d m n S (z6r d m n S i)
section
variable {d : DFA} {m n : Nat} {S : List Nat} (hd : DfaOk d m n) (hn : n <= 7) (hS : SetsP d m n S) (hH : zyA d m n S)
include hd hn hS hH
end
end
section
open Go
set_option maxRecDepth 100000
def za1 (d : DFA) (m n : Nat) (S : List Nat) (c : Nat) : Hol := ⟨((S.getD (z1I d m n S c) 0 : Nat) : Int), toI (z1O S (z1I d m n S c)), (zeA d m n S (z1O S (z1I d m n S c)) c S.length).1, (zeA d m n S (z1O S (z1I d m n S c)) c S.length).2.map toI⟩
theorem zjx {N k : Nat} (h : k < N) : (List.range N).getD k 0 = k := by simp [List.getD, h]
theorem zle {S : List Nat} {k : Nat} : (z1O S k).length = (zae S k).length := by simp [z1O]
section
variable {d : DFA} {m n : Nat} {S : List Nat} (hd : DfaOk d m n) (hn : n <= 7) (hS : SetsP d m n S)
include hd hn hS
theorem zpv {k : Nat} (hk : k < S.length) : (z1O S k).length <= 128 := by
  have h128 : 2 ^ n <= 128 := Nat.pow_le_pow_right (n := 2) (by omega) hn
  obtain ⟨h1, h2⟩ := z6B hd hn hS hk
  have := z1x h1 fun t ht => (h2 t ht).2.2
  omega
end
end
section
open Go
set_option maxRecDepth 100000
theorem zis {d : DFA} {m n : Nat} {S : List Nat} {c B : Nat} {st : HS} (h : HInv d m n S c B st) : ∀ y ∈ st.2, y.length = (z1O S (z1I d m n S c)).length := fun y hy => by
  obtain ⟨j, hj, rfl⟩ := List.getElem_of_mem hy
  obtain ⟨w, _, _, _, e⟩ := h.ok j (by rw [h.len]; exact hj)
  rw [List.getD, List.getElem?_eq_getElem hj, Option.getD_some] at e
  rw [e, z9B]
theorem z9M {d : DFA} {m n : Nat} {S : List Nat} {c B : Nat} {st : HS} (h : HInv d m n S c B st) {j : Nat} (hj : j < st.1.length) : Lead d m n (S.getD (z1I d m n S c) 0) (S.getD (z1I d m n S c) 0) (st.1.getD j ByteArray.empty).data.toList /\ (st.1.getD j ByteArray.empty).size <= 2 * 2 ^ n + 1 /\ st.2.getD j [] = z2R d (st.1.getD j ByteArray.empty).data.toList (z1O S (z1I d m n S c)) := by
  obtain ⟨w, e1, e2, e3, e4⟩ := h.ok j hj
  rw [e1]; exact ⟨e2, e3, e4⟩
section
variable {d : DFA} {m n : Nat} {S : List Nat} (hd : DfaOk d m n) (hn : n <= 7) (hS : SetsP d m n S)
include hd hn hS
end
end
section
open Go
set_option maxRecDepth 100000
def z9h (d : DFA) (m n : Nat) (S : List Nat) (c k : Nat) : List Nat := (List.range k).filter fun j => decide (clN d m n S j = c)
def zc1 (d : DFA) (m n : Nat) (S : List Nat) (k : Nat) : List (List Int) := (List.range (z0O (z1P d m n S) k).length).map fun c => toI (z9h d m n S c k)
theorem zc2 (d : DFA) (m n : Nat) (S : List Nat) (c k : Nat) : z9h d m n S c (k + 1) = if clN d m n S k = c then z9h d m n S c k ++ [k] else z9h d m n S c k := by
  unfold z9h
  rw [List.range_succ, List.filter_append, List.filter_cons, List.filter_nil]
  by_cases h : clN d m n S k = c
  · rw [if_pos h, if_pos (by simpa using h)]
  · rw [if_neg h, if_neg (by simpa using h), List.append_nil]
section
variable {d : DFA} {m n : Nat} {S : List Nat} (hd : DfaOk d m n) (hn : n <= 7) (hS : SetsP d m n S)
include hd hn hS
theorem zun {i : Nat} (hi : i < S.length) {j : Nat} (hj : j < i) : clN d m n S j < (z0O (z1P d m n S) i).length := by
  have _u := hn
  have he := z7I hd hS
  obtain ⟨R, hR⟩ := zat (z1P d m n S) (i := j + 1) i (by omega)
  have hl : (z0O (z1P d m n S) i).length = (z0O (z1P d m n S) (j + 1)).length + R.length := by rw [hR, List.length_append]
  rcases zcl he (show j < S.length by omega) with ⟨h1, _, h3⟩ | ⟨h1, _, h3⟩
  · rw [h3] at hl
    unfold clN; omega
  · rw [h3, List.length_append, List.length_singleton] at hl
    unfold clN; omega
theorem zoa {i : Nat} (hi : i < S.length) : z9h d m n S (z0O (z1P d m n S) i).length i = [] := by
  unfold z9h
  refine List.filter_eq_nil_iff.2 fun j hj => ?_
  have := zun hd hn hS hi (List.mem_range.1 hj)
  simp only [decide_eq_true_eq]
  omega
theorem zo9 {i : Nat} (hi : i < S.length) (hSl : S.length <= 1000) : z2M (z4x d m n S) ((i : Int), zc1 d m n S i) = z0e (((i + 1 : Nat) : Int), zc1 d m n S (i + 1)) := by
  have he := z7I hd hS
  have l2 : (z4x d m n S).class_.length = S.length := by simp [z4x, znh]
  have hcat : atI (z4x d m n S).class_ (i : Int) = some ((clN d m n S i : Nat) : Int) := z2V hi
  have hml : (zc1 d m n S i).length = (z0O (z1P d m n S) i).length := by simp [zc1]
  have hfl := z7E (z1P d m n S) i
  have hcl : ∀ c, (toI (z9h d m n S c i)).length <= i := fun c => by
    rw [z0d]; unfold z9h
    exact Nat.le_trans (List.length_filter_le _ _) (by rw [List.length_range]; omega)
  simp only [z2M]
  rw [l2, if_pos (by omega), hcat, Option.bind_some]
  rcases zcl he hi with ⟨h1, _, h3⟩ | ⟨h1, _, h3⟩
  · have h1' : clN d m n S i < (z0O (z1P d m n S) i).length := h1
    have hc := hcl (clN d m n S i)
    have hat : atI (zc1 d m n S i) ((clN d m n S i : Nat) : Int) = some (toI (z9h d m n S (clN d m n S i) i)) := z2V h1'
    rw [if_neg (by omega), hat, Option.bind_some, z0q _ (by unfold z1s; omega), z1b (by omega), Int.toNat_natCast]
    congr 2
    refine List.ext_getElem (by simp [zc1, h3]) fun c c1 c2 => ?_
    have hc' : c < (z0O (z1P d m n S) i).length := by simpa [zc1] using c1
    rw [List.getElem_set]
    simp only [zc1, List.getElem_map, List.getElem_range]
    rw [zc2]
    by_cases e : clN d m n S i = c
    · rw [if_pos e, if_pos e, z4Z, e]
    · rw [if_neg e, if_neg e]
  · have h1' : clN d m n S i = (z0O (z1P d m n S) i).length := h1
    have hat : atI (zc1 d m n S i ++ [[]]) ((clN d m n S i : Nat) : Int) = some [] := at0 (zc1 d m n S i) [] [] (by omega)
    rw [if_pos (by omega), z0q _ (by unfold z1s; omega), hat, Option.bind_some, z0q _ (by unfold z1s; simp), z1b (by omega), Int.toNat_natCast, List.nil_append, zpL (zc1 d m n S i) [] _ [] (by omega)]
    congr 2
    have hlen : (z0O (z1P d m n S) (i + 1)).length = (z0O (z1P d m n S) i).length + 1 := by rw [h3, List.length_append, List.length_singleton]
    show zc1 d m n S i ++ [[((i : Nat) : Int)]] = zc1 d m n S (i + 1)
    unfold zc1
    rw [hlen, List.range_succ, List.map_append, List.map_cons, List.map_nil]
    congr 1
    · refine List.map_congr_left fun c hc => ?_
      have := List.mem_range.1 hc
      rw [zc2, if_neg (by omega)]
    · rw [zc2, if_pos h1', zoa hd hn hS hi, List.nil_append]; rfl
theorem zob {c : Nat} (hc : c < (z6H d m n S).length) : ∃ R, z9h d m n S c S.length = z1I d m n S c :: R := by
  obtain ⟨h1, h2⟩ := z3x hd hn hS hc
  have hh : (z9h d m n S c S.length).head? = some (z1I d m n S c) := by
    unfold z9h
    rw [List.head?_filter, List.find?_range_eq_some]
    refine ⟨by simpa using h1, List.mem_range.2 h2, fun j hj => ?_⟩
    simp only [Bool.not_eq_true', decide_eq_false_iff_not]
    intro e
    have := zmv hd hn hS (i := j) (by omega)
    have e3 : z1I d m n S c = z6r d m n S j := by unfold z1I; rw [← e]; rfl
    omega
  cases h : z9h d m n S c S.length with
  | nil => rw [h] at hh; cases hh
  | cons x R =>
    rw [h] at hh
    exact ⟨R, by rw [Option.some.inj hh]⟩
theorem zig {c : Nat} (hc : c < (z6H d m n S).length) : atI (zc1 d m n S S.length) (c : Int) = some (toI (z9h d m n S c S.length)) /\ atI (toI (z9h d m n S c S.length)) 0 = some ((z1I d m n S c : Nat) : Int) := by
  obtain ⟨R, hR⟩ := zob hd hn hS hc
  refine ⟨z2V hc, ?_⟩
  rw [hR]
  exact at0 [] _ _ (i := 0) rfl
theorem zhm (hSl : S.length <= 1000) : ∃ O, z3E (z4x d m n S) = some (toI O, zc1 d m n S S.length) /\ zvE (hC d m n S) O /\ O.Perm (zi9 d m n S S.length) := by
  have he := z7I hd hS
  have l2 : (z4x d m n S).class_.length = S.length := by simp [z4x, znh]
  have hhat : ∀ i, i < S.length -> atI (z4x d m n S).height (i : Int) = some ((z7C d m n S i : Nat) : Int) := fun i hi => z2V hi
  have hml : (zc1 d m n S S.length).length = (z6H d m n S).length := by simp [zc1, z6H]
  have hfl : (z6H d m n S).length <= S.length := z7E (z1P d m n S) S.length
  have hko : ∀ c, c < (z6H d m n S).length -> zq6 (zc1 d m n S S.length) (z4x d m n S).height (c : Int) = some ((hC d m n S c : Nat) : Int) := fun c hc => by
    obtain ⟨m1, m2⟩ := zig hd hn hS hc
    unfold zq6
    rw [m1, Option.bind_some, m2, Option.bind_some, hhat _ (z3x hd hn hS hc).2]; rfl
  have hout : ∀ c ∈ zi9 d m n S S.length, c < (z6H d m n S).length := fun c hc => List.mem_range.1 (List.mem_filter.1 hc).1
  have hol : (zi9 d m n S S.length).length <= S.length := by
    unfold zi9
    exact Nat.le_trans (List.length_filter_le _ _) (by rw [List.length_range]; exact hfl)
  have hasc : (toI (zi9 d m n S S.length)).Pairwise (· < ·) := by
    unfold toI zi9
    exact List.Pairwise.map _ (fun a b (h : a < b) => by omega) (List.Pairwise.filter _ List.pairwise_lt_range)
  obtain ⟨Z, e, z1, z2⟩ := zls (K := zqS (z4x d m n S).sets (z4x d m n S).class_ (z4x d m n S).height (z4x d m n S).tiles (z4x d m n S).words (z4x d m n S).back (zc1 d m n S S.length)) (l := toI (zi9 d m n S S.length))
    (fun x hx => by
      obtain ⟨c, hc, rfl⟩ := List.mem_map.1 hx
      have := hout c hc
      exact ⟨by omega, by omega, by rw [hko c this]; rfl⟩) hasc (by rw [z0d]; omega)
  have hZ : ∃ O, Z = toI O /\ O.Perm (zi9 d m n S S.length) := by
    refine ⟨Z.map Int.toNat, ?_, ?_⟩
    · unfold toI
      rw [List.map_map]
      refine (List.map_id' Z).symm.trans (List.map_congr_left fun x hx => ?_)
      obtain ⟨c, hc, rfl⟩ := List.mem_map.1 (z2.mem_iff.1 hx)
      simp
    · have := z2.map Int.toNat
      refine this.trans ?_
      unfold toI
      rw [List.map_map]
      have : (Int.toNat ∘ fun x : Nat => (x : Int)) = id := by funext x; simp
      rw [this, List.map_id]
  obtain ⟨O, rfl, hO⟩ := hZ
  refine ⟨O, ?_, ?_, hO⟩
  · unfold z3E
    refine z0L (s := ((0 : Int), ([] : List (List Int)))) S.length (fun k => ((k : Int), zc1 d m n S k)) rfl (by simp only [LFm]; omega) (fun i hi => zo9 hd hn hS hi hSl) ?_
    simp only [z2M]
    rw [l2, if_neg (by omega)]
    congr 1
    refine z0L (s := ((0 : Int), ([] : List Int))) (z6H d m n S).length (fun k => ((k : Int), toI ((List.range k).filter fun c => decide (0 < hC d m n S c)))) rfl (by simp only [LFm]; omega) (fun c hc => ?_) ?_
    · obtain ⟨m1, m2⟩ := zig hd hn hS hc
      have hq : (toI ((List.range c).filter fun c => decide (0 < hC d m n S c))).length <= c := by
        rw [z0d]
        exact Nat.le_trans (List.length_filter_le _ _) (by rw [List.length_range]; omega)
      simp only [z3p]
      rw [hml, if_pos (by omega), m1, Option.bind_some, m2, Option.bind_some, hhat _ (z3x hd hn hS hc).2, Option.bind_some, z1b (by omega), List.range_succ, List.filter_append, List.filter_cons, List.filter_nil]
      by_cases h : 0 < hC d m n S c
      · have h' : 0 < z7C d m n S (z1I d m n S c) := h
        rw [if_pos (by omega), z0q _ (by unfold z1s; omega), if_pos (by simpa using h), z4Z]
      · have h' : ¬ 0 < z7C d m n S (z1I d m n S c) := h
        rw [if_neg (by omega), if_neg (by simpa using h), List.append_nil]
    · simp only [z3p]
      rw [hml, if_neg (by omega), zlq]
      have e' : toI ((List.range (z6H d m n S).length).filter fun c => decide (0 < hC d m n S c)) = toI (zi9 d m n S S.length) := rfl
      rw [e', e, Option.bind_some]
  · have z1' : (O.map fun x : Nat => (x : Int)).Pairwise _ := z1
    rw [List.pairwise_map] at z1'
    refine List.Pairwise.imp_of_mem (fun {x y} hx hy h => ?_) z1'
    have ox := hout x (hO.mem_iff.1 hx)
    have oy := hout y (hO.mem_iff.1 hy)
    have h3 : (x : Int) - (zq6 (zc1 d m n S S.length) (z4x d m n S).height (x : Int)).getD 0 * 1048576 <= (y : Int) - (zq6 (zc1 d m n S S.length) (z4x d m n S).height (y : Int)).getD 0 * 1048576 := h
    rw [hko x ox, hko y oy, Option.getD_some, Option.getD_some] at h3
    unfold leH
    omega
end
end
section
open Go
noncomputable section
set_option maxRecDepth 100000
set_option maxHeartbeats 6000000
abbrev z3B (a0 : DFA) (a1 : ByteArray) (w79 : Int) (w80 : List Int) : Int × List Int -> Option ((Int × List Int) ⊕ ((Int × List Int) ⊕ List Int))
  | (w103, w104) =>
  if w103 < (w80.length : Int) then
    (atI w104 w103).bind fun v110 =>
    (atI a0.next v110).bind fun v111 =>
    (zkn a1 w79).bind fun v112 =>
    (atI v111 (IntKind.u8.wrap (v112 - 97))).bind fun v113 =>
    z0e (IntKind.i64.wrap (w103 + 1), (w104.set w103.toNat v113))
  else
    z0l <|
    z0e (IntKind.i64.wrap (w79 + 1), w104)
instance {a0 : DFA} {a1 : ByteArray} {w79 : Int} {w80 : List Int} : Hd (z3B a0 a1 w79 w80) := ⟨fun (w103, w104) => ([(31, xI w103)], [(5, .os 1 w104.length (w104.map fun x0 => .sc (.int .i64 x0)))])⟩
abbrev z3I (a0 : DFA) (a1 : ByteArray) : Int × List Int -> Option ((Int × List Int) ⊕ List Int)
  | (w79, w80) =>
  if w79 < (a1.size : Int) then
    z0m (z3B a0 a1 w79 w80) LFm (0, w80)
  else
    z0l <|
    some w80
instance {a0 : DFA} {a1 : ByteArray} : Hd (z3I a0 a1) := ⟨fun (w79, w80) => ([(26, xI w79)], [(5, .os 1 w80.length (w80.map fun x0 => .sc (.int .i64 x0)))])⟩
abbrev z3J (a0 : DFA) (a1 : ByteArray) : Int × List Int -> Option ((Int × List Int) ⊕ List Int)
  | (w58, w59) =>
  if w58 < (a0.final.length : Int) then
    (atI w59 w58).bind fun v61 =>
    z0e (IntKind.i64.wrap (w58 + 1), (w59.set w58.toNat w58))
  else
    z0l <|
    z0m (z3I a0 a1) LFm (0, w59)
instance {a0 : DFA} {a1 : ByteArray} : Hd (z3J a0 a1) := ⟨fun (w58, w59) => ([(16, xI w58)], [(5, .os 1 w59.length (w59.map fun x0 => .sc (.int .i64 x0)))])⟩
def z3w (a0 : DFA) (a1 : ByteArray) : Option (List Int) :=
  chk (z1g 8 (a0.final.length : Int)) <|
  z0m (z3J a0 a1) LFm (0, List.replicate (a0.final.length : Int).toNat (0 : Int))
instance holonomy_action_ok {a0 : DFA} {a1 : ByteArray} : Ok (z3w a0 a1) (fun r => L 61 [.agg [.sc (.int .i64 a0.letters), .sc (.int .i64 a0.start), .sl a0.final.length (a0.final.map fun x0 => .sc (.bool x0)), .sl a0.next.length (a0.next.map fun x0 => .sl x0.length (x0.map fun x1 => .sc (.int .i64 x1)))], .sc (.string a1)] = some (.os 1 r.length (r.map fun x0 => .sc (.int .i64 x0)), [.dead, .dead])) := ⟨fun r h => by have h := z4u h; unfold z3w at h; exact z4X zuE zwo zy6⟩
abbrev z4b (a0 : List Int) (a1 : Int) : Int × Int -> Option ((Int × Int) ⊕ Int)
  | (w7, w8) =>
  if w8 < (a0.length : Int) then
    (atI a0 w8).bind fun v10 =>
    chk (¬ w8 < 0) <|
    if (z2b .i64 (z0f .i64 a1 w8) 1) = 1 then
      chk (¬ v10 < 0) <|
      z0e (orI .i64 w7 (zjq .i64 1 v10), IntKind.i64.wrap (w8 + 1))
    else
      z0e (w7, IntKind.i64.wrap (w8 + 1))
  else
    z0l <|
    some w7
instance {a0 : List Int} {a1 : Int} : Hd (z4b a0 a1) := ⟨fun (w7, w8) => ([(5, xI w7), (10, xI w8)], [])⟩
def z2F (a0 : List Int) (a1 : Int) : Option (Int) :=
  z0m (z4b a0 a1) LFm (0, 0)
instance holonomy_apply_ok {a0 : List Int} {a1 : Int} : Ok (z2F a0 a1) (fun r => L 60 [.sl a0.length (a0.map fun x0 => .sc (.int .i64 x0)), .sc (.int .i64 a1)] = some (.sc (.int .i64 r), [.dead, .dead])) := ⟨fun r h => by have h := z4u h; unfold z2F at h; exact z4X zuF zwp zy7⟩
abbrev z3a (a0 : List Int) : Int -> Option (Int ⊕ Bool)
  | w6 =>
  if w6 < (a0.length : Int) then
    (atI a0 w6).bind fun v8 =>
    if w6 = v8 then
      z0e (IntKind.i64.wrap (w6 + 1))
    else
      z0l <|
      some false
  else
    z0l <|
    some true
instance {a0 : List Int} : Hd (z3a a0) := ⟨fun w6 => ([(7, xI w6)], [])⟩
def z3b (a0 : List Int) : Option (Bool) :=
  z0m (z3a a0) LFm 0
instance holonomy_identical_ok {a0 : List Int} : Ok (z3b a0) (fun r => L 63 [.sl a0.length (a0.map fun x0 => .sc (.int .i64 x0))] = some (.sc (.bool r), [.dead])) := ⟨fun r h => by have h := z4u h; unfold z3b at h; exact z4X zuC zwm zy4⟩
abbrev z4o (a0 : List Int) : Int × List Int -> Option ((Int × List Int) ⊕ ByteArray)
  | (w7, w8) =>
  if w7 < (a0.length : Int) then
    (atI a0 w7).bind fun v10 =>
    chk (¬ 8 < 0) <|
    chk (z1s 1 (w8.length + 2)) <|
    z0e (IntKind.i64.wrap (w7 + 1), w8 ++ [IntKind.u8.wrap (z0f .i64 v10 8), IntKind.u8.wrap v10])
  else
    z0l <|
    some (z1J w8)
instance {a0 : List Int} : Hd (z4o a0) := ⟨fun (w7, w8) => ([(12, xI w7)], [(3, .os 1 w8.length (w8.map fun x0 => .sc (.int .u8 x0)))])⟩
def z4a (a0 : List Int) : Option (ByteArray) :=
  chk (z1g 1 (IntKind.i64.wrap (2 * (a0.length : Int)))) <|
  z0m (z4o a0) LFm (0, [])
instance holonomy_text_ok {a0 : List Int} : Ok (z4a a0) (fun r => L 64 [.sl a0.length (a0.map fun x0 => .sc (.int .i64 x0))] = some (.sc (.string r), [.dead])) := ⟨fun r h => by have h := z4u h; unfold z4a at h; exact z4X zuB zwl zy3⟩
abbrev z2D (a0 : List Int) (a1 : List Int) (w18 : List (Int × Int)) : Int × List Int -> Option ((Int × List Int) ⊕ List Int)
  | (w23, w24) =>
  if w23 < (a1.length : Int) then
    (atI a1 w23).bind fun v28 =>
    (z2F a0 v28).bind fun v29 =>
    (atI w24 w23).bind fun v30 =>
    z0e (IntKind.i64.wrap (w23 + 1), (w24.set w23.toNat ((z9P v29 w18).getD 0)))
  else
    z0l <|
    some w24
instance {a0 : List Int} {a1 : List Int} {w18 : List (Int × Int)} : Hd (z2D a0 a1 w18) := ⟨fun (w23, w24) => ([(30, xI w23)], [(8, .os 1 w24.length (w24.map fun x0 => .sc (.int .i64 x0)))])⟩
abbrev z2E (a0 : List Int) (a1 : List Int) : Int × (List (Int × Int)) -> Option ((Int × (List (Int × Int))) ⊕ List Int)
  | (w17, w18) =>
  if w17 < (a1.length : Int) then
    (atI a1 w17).bind fun v20 =>
    z0e (IntKind.i64.wrap (w17 + 1), z9u v20 w17 w18)
  else
    z0l <|
    chk (z1g 8 (a1.length : Int)) <|
    z0m (z2D a0 a1 w18) LFm (0, List.replicate (a1.length : Int).toNat (0 : Int))
instance {a0 : List Int} {a1 : List Int} : Hd (z2E a0 a1) := ⟨fun (w17, w18) => ([(16, xI w17)], [(5, .mp (some .i64) (w18.map fun x0 => (.int .i64 x0.1, .int .i64 x0.2)))])⟩
def z2z (a0 : List Int) (a1 : List Int) : Option (List Int) :=
  z0m (z2E a0 a1) LFm (0, ([] : List (Int × Int)))
instance holonomy_permutation_ok {a0 : List Int} {a1 : List Int} : Ok (z2z a0 a1) (fun r => L 62 [.sl a0.length (a0.map fun x0 => .sc (.int .i64 x0)), .sl a1.length (a1.map fun x0 => .sc (.int .i64 x0))] = some (.os 1 r.length (r.map fun x0 => .sc (.int .i64 x0)), [.dead, .dead])) := ⟨fun r h => by have h := z4u h; unfold z2z at h; exact z4X zuD zwn zy5⟩
end
end
section
open Go
set_option maxRecDepth 100000
def zdZ {α : Type} (N : Nat) (f g : Nat -> α) (k : Nat) : List α := (List.range N).map fun i => if i < k then f i else g i
theorem zpY {α : Type} {N : Nat} {f g : Nat -> α} {k : Nat} : (zdZ N f g k).length = N := by simp [zdZ]
theorem zgU {α : Type} {N : Nat} {f g : Nat -> α} : zdZ N f g 0 = (List.range N).map g := by simp [zdZ]
theorem zgT {α : Type} {N : Nat} {f g : Nat -> α} : zdZ N f g N = (List.range N).map f := List.map_congr_left fun i hi => by rw [if_pos (List.mem_range.1 hi)]
theorem zc0 {α : Type} {N : Nat} {f g : Nat -> α} {k : Nat} (h : k < N) : atI (zdZ N f g k) (k : Int) = some (g k) := by
  rw [z0Q (by rw [zpY]; exact h)]; simp [zdZ]
theorem z8W {α : Type} {N : Nat} {f g : Nat -> α} {k : Nat} (h : k < N) : (zdZ N f g k).set k (f k) = zdZ N f g (k + 1) := by
  refine List.ext_getElem (by simp [zdZ]) fun i h1 h2 => ?_
  have hi : i < N := by simpa [zdZ] using h2
  rw [List.getElem_set]
  simp only [zdZ, List.getElem_map, List.getElem_range]
  by_cases e : k = i
  · subst e; rw [if_pos rfl, if_pos (Nat.lt_succ_self k)]
  · rw [if_neg e]
    by_cases h3 : i < k
    · rw [if_pos h3, if_pos (by omega)]
    · rw [if_neg h3, if_neg (by omega)]
abbrev zgZ (m : Nat) (w : List UInt8) : Prop := ∀ c ∈ w, 97 <= c.toNat /\ c.toNat < 97 + m
theorem z8Y {m : Nat} {c : UInt8} {w : List UInt8} (h : zgZ m (c :: w)) : zgZ m w /\ c.toNat - 97 < m := ⟨fun c' hc' => h c' (List.mem_cons_of_mem _ hc'), by have := h c (List.mem_cons_self ..); omega⟩
def nxN (d : DFA) (q a : Nat) : Nat := ((d.next.getD q []).getD a 0).toNat
def zcD (d : DFA) : Nat -> List UInt8 -> Nat
  | q, [] => q
  | q, c :: w => zcD d (nxN d q (c.toNat - 97)) w
theorem zdj (d : DFA) : ∀ (q : Nat) (u v : List UInt8), zcD d q (u ++ v) = zcD d (zcD d q u) v
  | q, [], v => rfl
  | q, c :: u, v => by simp only [List.cons_append, zcD, zdj]
theorem zpU {d : DFA} {m n : Nat} (hd : DfaOk d m n) {q a : Nat} (hq : q < n) (ha : a < m) : ∃ r, atI d.next (q : Int) = some r /\ atI r (a : Int) = some ((nxN d q a : Nat) : Int) /\ nxN d q a < n := by
  obtain ⟨h1, h2, h3, h4, h5⟩ := zbR hd hq ha
  refine ⟨d.next[q], z0Q h1, ?_, ?_⟩
  · rw [z0Q h2]; unfold nxN; rw [h3]; congr 1; omega
  · unfold nxN; rw [h3]; omega
theorem zj4 {d : DFA} {m n : Nat} (hd : DfaOk d m n) : ∀ {w : List UInt8} {q : Nat}, q < n -> zgZ m w -> zcD d q w < n
  | [], q, hq, _ => hq
  | c :: w, q, hq, hw => by
    obtain ⟨_, _, _, h⟩ := zpU hd hq (z8Y hw).2
    exact zj4 (w := w) (q := nxN d q (c.toNat - 97)) hd h (z8Y hw).1
theorem zpk {s n p : Nat} (hs : s < 2 ^ n) (h : s.testBit p = true) : p < n := by
  rcases Nat.lt_or_ge p n with h1 | h1
  · exact h1
  · have := Nat.testBit_lt_two_pow (Nat.lt_of_lt_of_le hs (Nat.pow_le_pow_right (n := 2) (by omega) h1))
    rw [this] at h; cases h
theorem zbP {d : DFA} {m n : Nat} (hd : DfaOk d m n) : ∀ {w : List UInt8} {s p : Nat}, zgZ m w -> s < 2 ^ n -> ((z4m d s w).testBit p = true ↔ ∃ i, i < n /\ s.testBit i = true /\ zcD d i w = p)
  | [], s, p, _, hs => by
    refine ⟨fun h => ⟨p, zpk hs h, h, rfl⟩, ?_⟩
    rintro ⟨i, _, h, rfl⟩; exact h
  | c :: w, s, p, hw, hs => by
    have ha := (z8Y hw).2
    rw [z4m, zbP hd (z8Y hw).1 (zbZ hd ha)]
    constructor
    · rintro ⟨j, h1, h2, h3⟩
      obtain ⟨i, i1, i2, i3⟩ := (z7a hd ha j).1 h2
      exact ⟨i, i1, i2, by rw [zcD, nxN, i3]; exact h3⟩
    · rintro ⟨i, h1, h2, h3⟩
      obtain ⟨_, _, _, h⟩ := zpU hd h1 ha
      exact ⟨_, h, (z7a hd ha _).2 ⟨i, h1, h2, rfl⟩, h3⟩
def zcR (d : DFA) (n : Nat) (w : List UInt8) : List Nat := (List.range n).map fun q => zcD d q w
theorem zvi (d : DFA) (n : Nat) (w : List UInt8) : toI (zcR d n w) = (List.range n).map fun q => ((zcD d q w : Nat) : Int) := by simp [toI, zcR]
theorem zgm {d : DFA} {m n : Nat} (hd : DfaOk d m n) (hn : n <= 12) {w : ByteArray} (hw : zgZ m w.data.toList) (hs : w.size < 2 ^ 40) : z3w d w = some (toI (zcR d n w.data.toList)) := by
  have hl : w.data.toList.length = w.size := by rw [Array.length_toList]; rfl
  have hm := hd.m6
  unfold z3w
  rw [hd.fin, z0q _ (by unfold z1g; omega), Int.toNat_natCast]
  refine z0L (s := ((0 : Int), List.replicate n (0 : Int))) n (fun k => ((k : Int), zdZ n (fun q => (q : Int)) (fun _ => 0) k)) (by rw [zgU]; congr 1; exact (List.ext_getElem (by simp) fun i h1 h2 => by simp)) (by simp only [LFm]; omega) (fun k hk => ?_) ?_
  · simp only [z3J]
    rw [hd.fin, if_pos (by omega), zc0 hk, Option.bind_some, z1b (by omega), Int.toNat_natCast, z8W hk]
  · simp only [z3J]
    rw [hd.fin, if_neg (by omega), zgT]
    congr 1
    refine z0L (s := ((0 : Int), (List.range n).map fun q : Nat => (q : Int))) w.size (fun k => ((k : Int), toI (zcR d n (w.data.toList.take k)))) (by rw [zvi]; rfl) (by simp only [LFm]; omega) (fun k hk => ?_) ?_
    · have hk' : k < w.data.toList.length := by omega
      have hc := hw _ (List.getElem_mem hk')
      have hb : w[k] = w.data.toList[k] := by rw [zmV hk, List.getD, List.getElem?_eq_getElem hk', Option.getD_some]
      have ht : zgZ m (w.data.toList.take k) := fun c hc => hw c (List.mem_of_mem_take hc)
      simp only [z3I]
      rw [if_pos (by omega)]
      have hst : ∀ q, zcD d q (w.data.toList.take (k + 1)) = nxN d (zcD d q (w.data.toList.take k)) (w.data.toList[k].toNat - 97) := fun q => by
        rw [zli hk', zdj]; rfl
      refine z0L (s := ((0 : Int), toI (zcR d n (w.data.toList.take k)))) n (fun q => ((q : Int), zdZ n (fun q => ((zcD d q (w.data.toList.take (k + 1)) : Nat) : Int)) (fun q => ((zcD d q (w.data.toList.take k) : Nat) : Int)) q)) (by rw [zgU, zvi]; rfl) (by simp only [LFm]; omega) (fun q hq => ?_) ?_
      · obtain ⟨r, r1, r2, r3⟩ := zpU hd (zj4 hd hq ht) (a := w.data.toList[k].toNat - 97) (by omega)
        have h256 : w[k].toNat < 256 := w[k].toNat_lt
        have wl : IntKind.u8.wrap ((w.data.toList[k].toNat : Int) - 97) = ((w.data.toList[k].toNat - 97 : Nat) : Int) := by
          rw [IntKind.wrap_u8]; rw [hb] at h256; omega
        simp only [z3B]
        rw [if_pos (by rw [z0d]; simp [zcR]; omega), zc0 hq, Option.bind_some, r1, Option.bind_some, zmW hk, Option.bind_some, hb, wl, r2, Option.bind_some, z1b (by omega), Int.toNat_natCast, ← hst, z8W hq]
      · simp only [z3B]
        rw [if_neg (by rw [z0d]; simp [zcR]), zgT, z1b (by omega), zvi]
    · simp only [z3I]
      rw [if_neg (by omega), ← hl, List.take_length]
def zku (F : List Nat) (s : Nat) : Nat -> Nat
  | 0 => 0
  | k + 1 => if s.testBit k = true then zku F s k ||| 2 ^ F.getD k 0 else zku F s k
theorem zj1 {F : List Nat} {s p : Nat} : ∀ k, (zku F s k).testBit p = true ↔ ∃ i, i < k /\ s.testBit i = true /\ F.getD i 0 = p
  | 0 => by simp [zku]
  | k + 1 => by
    have ih := zj1 (F := F) (s := s) (p := p) k
    unfold zku
    by_cases hb : s.testBit k = true
    · rw [if_pos hb, Nat.testBit_or, Bool.or_eq_true, ih, Nat.testBit_two_pow]
      constructor
      · rintro (⟨i, h1, h2, h3⟩ | h)
        · exact ⟨i, by omega, h2, h3⟩
        · exact ⟨k, by omega, hb, by simpa using h⟩
      · rintro ⟨i, h1, h2, h3⟩
        by_cases e : i = k
        · subst e; right; simpa using h3
        · left; exact ⟨i, by omega, h2, h3⟩
    · rw [if_neg hb, ih]
      constructor
      · rintro ⟨i, h1, h2, h3⟩; exact ⟨i, by omega, h2, h3⟩
      · rintro ⟨i, h1, h2, h3⟩
        by_cases e : i = k
        · subst e; exact absurd h2 hb
        · exact ⟨i, by omega, h2, h3⟩
theorem zhr {F : List Nat} {s n : Nat} (hF : ∀ x ∈ F, x < n) : ∀ k, k <= F.length -> zku F s k < 2 ^ n
  | 0, _ => Nat.two_pow_pos n
  | k + 1, hk => by
    unfold zku
    split
    · exact zpR (zhr hF k (by omega)) (Nat.pow_lt_pow_right (by omega) (hF _ (z0r (by omega))))
    · exact zhr hF k (by omega)
theorem zoL {F : List Nat} {s n : Nat} (hn : n <= 12) (hF : ∀ x ∈ F, x < n) (hl : F.length <= 60) (hs : s < 2 ^ 62) : z2F (toI F) (s : Int) = some ((zku F s F.length : Nat) : Int) := by
  unfold z2F
  have h62 : ∀ k, k <= F.length -> zku F s k < 2 ^ 62 := fun k hk => Nat.lt_of_lt_of_le (zhr hF k hk) (Nat.pow_le_pow_right (by omega) (by omega))
  refine z0L (s := ((0 : Int), (0 : Int))) F.length (fun k => (((zku F s k : Nat) : Int), (k : Int))) rfl (by simp only [LFm]; omega) (fun k hk => ?_) ?_
  · have hx := hF _ (z0r hk)
    simp only [z4b]
    rw [if_pos (by rw [z0d]; omega), z2c hk, Option.bind_some, z0q _ (by omega), z1b (by omega)]
    have hb := zhp (a := s) (q := k) hs (by omega)
    by_cases h : s.testBit k = true
    · rw [if_pos (hb.2 h), z0q _ (by omega), z8d (by omega), zlV (h62 k (by omega)) (Nat.pow_lt_pow_right (by omega) (by omega))]
      simp only [zku]; rw [if_pos h]
    · rw [if_neg (fun e => h (hb.1 e))]
      simp only [zku]; rw [if_neg h]
  · simp only [z4b]
    rw [if_neg (by rw [z0d]; omega)]
theorem zgj {d : DFA} {m n : Nat} (hd : DfaOk d m n) (hn : n <= 12) {w : List UInt8} (hw : zgZ m w) {s : Nat} (hs : s < 2 ^ n) : z2F (toI (zcR d n w)) (s : Int) = some ((z4m d s w : Nat) : Int) := by
  have hF : ∀ x ∈ zcR d n w, x < n := fun x hx => by
    obtain ⟨q, hq, rfl⟩ := List.mem_map.1 hx
    exact zj4 hd (List.mem_range.1 hq) hw
  have hl : (zcR d n w).length = n := by simp [zcR]
  rw [zoL hn hF (by omega) (Nat.lt_of_lt_of_le hs (Nat.pow_le_pow_right (by omega) (by omega)))]
  congr 2
  refine Nat.eq_of_testBit_eq fun p => ?_
  rw [Bool.eq_iff_iff, zj1, zbP hd hw hs, hl]
  refine exists_congr fun i => and_congr_right fun hi => and_congr_right fun _ => ?_
  simp [zcR, List.getD, hi]
end
section
open Go
set_option maxRecDepth 100000
theorem zcK {d : DFA} {m n : Nat} (hd : DfaOk d m n) (hn : n <= 12) {T : List Nat} (hT : T.Nodup) (hl : T.length <= 1000) (hlt : ∀ t ∈ T, t < 2 ^ n) {w : List UInt8} (hw : zgZ m w) (hr : ∀ t ∈ T, z4m d t w ∈ T) : z2z (toI (zcR d n w)) (toI T) = some (toI (z2R d w T)) := by
  unfold z2z
  refine z0L (s := ((0 : Int), ([] : List (Int × Int)))) T.length (fun k => ((k : Int), zec T k)) rfl (by simp only [LFm]; omega) (fun k hk => ?_) ?_
  · simp only [z2E]
    rw [if_pos (by rw [z0d]; omega), z2c hk, Option.bind_some, z1b (by omega)]
    rfl
  · simp only [z2E]
    rw [if_neg (by rw [z0d]; omega), z0d, z0q _ (by unfold z1g; omega), Int.toNat_natCast]
    congr 1
    have e0 : toI (z2R d w T) = (List.range T.length).map fun k => ((T.idxOf (z4m d (T.getD k 0) w) : Nat) : Int) := by
      refine List.ext_getElem (by simp [toI, z2R]) fun i h1 h2 => ?_
      have hi : i < T.length := by simpa [toI, z2R] using h1
      simp [toI, z2R, List.getD, hi]
    rw [e0]
    refine z0L (s := ((0 : Int), List.replicate T.length (0 : Int))) T.length (fun k => ((k : Int), zdZ T.length (fun k => ((T.idxOf (z4m d (T.getD k 0) w) : Nat) : Int)) (fun _ => 0) k)) (by rw [zgU]; congr 1; exact (List.ext_getElem (by simp) fun i h1 h2 => by simp)) (by simp only [LFm]; omega) (fun k hk => ?_) ?_
    · have hm := hr _ (z0r hk)
      have hg := zeb hT T.length (Nat.le_refl _) (z6g hm)
      rw [z3C hm] at hg
      simp only [z2D]
      rw [if_pos (by rw [z0d]; omega), z2c hk, Option.bind_some, zgj hd hn hw (hlt _ (z0r hk)), Option.bind_some, zc0 hk, Option.bind_some, z1b (by omega), Int.toNat_natCast, hg, Option.getD_some, z8W (f := fun k => ((T.idxOf (z4m d (T.getD k 0) w) : Nat) : Int)) hk]
    · simp only [z2D]
      rw [if_neg (by rw [z0d]; omega), zgT]
theorem zfX {p : List Nat} (hl : p.length <= 100000) : z3b (toI p) = some (decide (p = List.range p.length)) := by
  unfold z3b
  rw [z5T (s := (0 : Int)) p.length (fun k => (k : Int)) (fun k => !decide (p.getD k 0 = k)) (fun _ => some false) (x := some true) rfl (by simp only [LFm]; omega) ?_ ?_]
  · rw [z9S]
    simp only [Bool.not_not]
    have : ((List.range p.length).all fun k => decide (p.getD k 0 = k)) = decide (p = List.range p.length) := by
      rw [Bool.eq_iff_iff, decide_eq_true_eq, List.all_eq_true]
      constructor
      · intro h
        refine List.ext_getElem (by simp) fun i h1 h2 => ?_
        have := h i (List.mem_range.2 h1)
        rw [decide_eq_true_eq, List.getD, List.getElem?_eq_getElem h1, Option.getD_some] at this
        rw [this, List.getElem_range]
      · intro h k hk
        have hk := List.mem_range.1 hk
        rw [decide_eq_true_eq]
        rw [h, zjx hk]
    rw [this]
    cases decide (p = List.range p.length) <;> rfl
  · intro k hk
    simp only [z3a]
    rw [if_pos (by rw [z0d]; omega), z2c hk, Option.bind_some, z1b (by omega)]
    by_cases h : p.getD k 0 = k
    · rw [if_pos (by omega), decide_eq_true h, if_neg (by simp)]
    · rw [if_neg (by omega), decide_eq_false h, if_pos (by simp)]
  · simp only [z3a]
    rw [if_neg (by rw [z0d]; omega)]
def zdm (p : List Nat) : List Int := p.flatMap fun k => [((k / 256 : Nat) : Int), ((k % 256 : Nat) : Int)]
theorem zpx {p : List Nat} (hl : p.length <= 100000) (hp : ∀ k ∈ p, k < 65536) : z4a (toI p) = some (z1J (zdm p)) := by
  have hlen : ∀ q : List Nat, (zdm q).length = 2 * q.length := fun q => by
    unfold zdm; rw [ziB (m := 2) (fun _ => rfl)]; omega
  unfold z4a
  rw [z0d, z1Z (by omega) (by omega), z0q _ (by unfold z1g; omega)]
  refine z0L (s := ((0 : Int), ([] : List Int))) p.length (fun k => ((k : Int), zdm (p.take k))) rfl (by simp only [LFm]; omega) (fun k hk => ?_) ?_
  · have h1 := hp _ (z0r hk)
    have h2 := hlen (p.take k)
    rw [List.length_take] at h2
    have e1 : IntKind.u8.wrap (z0f .i64 ((p.getD k 0 : Nat) : Int) 8) = ((p.getD k 0 / 256 : Nat) : Int) := by
      have := zhZ (a := p.getD k 0) (q := 8) (by omega)
      rw [show ((8 : Nat) : Int) = 8 from rfl] at this
      rw [this, Nat.shiftRight_eq_div_pow, IntKind.wrap_u8]; omega
    have e2 : IntKind.u8.wrap ((p.getD k 0 : Nat) : Int) = ((p.getD k 0 % 256 : Nat) : Int) := by rw [IntKind.wrap_u8]; omega
    simp only [z4o]
    rw [if_pos (by rw [z0d]; omega), z2c hk, Option.bind_some, z0q _ (by omega), z0q _ (by unfold z1s; omega), z1b (by omega), e1, e2, z7n hk]
    unfold zdm
    rw [List.flatMap_append]
    rfl
  · simp only [z4o]
    rw [if_neg (by rw [z0d]; omega), List.take_length]
theorem zpr : ∀ {p q : List Nat}, (∀ k ∈ p, k < 65536) -> (∀ k ∈ q, k < 65536) -> p.length = q.length -> z1J (zdm p) = z1J (zdm q) -> p = q := by
  have key : ∀ {p q : List Nat}, (∀ k ∈ p, k < 65536) -> (∀ k ∈ q, k < 65536) -> p.length = q.length -> (zdm p).map (fun z : Int => UInt8.ofNat z.toNat) = (zdm q).map (fun z : Int => UInt8.ofNat z.toNat) -> p = q := by
    intro p
    induction p with
    | nil => intro q _ _ hl _; exact (List.eq_nil_of_length_eq_zero hl.symm).symm
    | cons a p ih =>
      intro q hp hq hl h
      cases q with
      | nil => cases hl
      | cons b q =>
        simp only [zdm, List.flatMap_cons, List.cons_append, List.nil_append, List.map_cons, List.cons.injEq] at h
        obtain ⟨h1, h2, h3⟩ := h
        have ha := hp a (List.mem_cons_self ..)
        have hb := hq b (List.mem_cons_self ..)
        have g1 := congrArg UInt8.toNat h1
        have g2 := congrArg UInt8.toNat h2
        simp only [Int.toNat_natCast, UInt8.toNat_ofNat'] at g1 g2
        have : a = b := by omega
        subst this
        rw [ih (fun k hk => hp k (List.mem_cons_of_mem _ hk)) (fun k hk => hq k (List.mem_cons_of_mem _ hk)) (by simpa using hl) h3]
  intro p q hp hq hl h
  refine key hp hq hl ?_
  have := congrArg ByteArray.data h
  simpa [z1J] using this
end
section
open Go
noncomputable section
set_option maxRecDepth 100000
set_option maxHeartbeats 6000000
abbrev z1N (a0 : DFA) (a1 : Imgs) (a2 : List (Int × Int)) (v139 : Int) (w145 : List Int) (w191 : Int) (v236 : Int) (v140 : Int) : Int × List ByteArray × List (List Int) × (List (ByteArray × Bool)) -> Option ((Int × List ByteArray × List (List Int) × (List (ByteArray × Bool))) ⊕ ((Int × List ByteArray × List (List Int) × (List (ByteArray × Bool))) ⊕ (Hol × Int)))
  | (w249, w250, w251, w252) =>
  if w249 < a0.letters then
    (atI a1.sets v236).bind fun v265 =>
    (z3w a0 ⟨#[UInt8.ofNat (IntKind.u8.wrap (IntKind.i64.wrap (97 + w249))).toNat]⟩).bind fun v266 =>
    (z2F v266 v265).bind fun v267 =>
    (atI a1.class_ ((z9P v267 a2).getD 0)).bind fun v268 =>
    (atI a1.class_ v139).bind fun v269 =>
    if v268 = v269 then
      (atI a1.words v236).bind fun v270 =>
      chk (z7l v270 ⟨#[UInt8.ofNat (IntKind.u8.wrap (IntKind.i64.wrap (97 + w249))).toNat]⟩) <|
      (atI a1.back ((z9P v267 a2).getD 0)).bind fun v271 =>
      chk (z7l (v270 ++ ⟨#[UInt8.ofNat (IntKind.u8.wrap (IntKind.i64.wrap (97 + w249))).toNat]⟩) v271) <|
      (z3w a0 ((v270 ++ ⟨#[UInt8.ofNat (IntKind.u8.wrap (IntKind.i64.wrap (97 + w249))).toNat]⟩) ++ v271)).bind fun v272 =>
      (z2z v272 w145).bind fun v273 =>
      (z3b v273).bind fun v274 =>
      if v274 = true then
        z0e (IntKind.i64.wrap (w249 + 1), w250, w251, w252)
      else
        (z4a v273).bind fun v275 =>
        if ((z9P v275 w252).getD false) = true then
          z0e (IntKind.i64.wrap (w249 + 1), w250, w251, w252)
        else
          if 2048 < ((v270.size : Int) + 1 + (v271.size : Int)) then
            z0l <|
            z0l <|
            some ((⟨0, [], [], []⟩ : Hol), 3)
          else
            (z4a v273).bind fun v276 =>
            chk (z1s 16 (w250.length + 1)) <|
            chk (z1s 24 (w251.length + 1)) <|
            z0e (IntKind.i64.wrap (w249 + 1), w250 ++ [(v270 ++ ⟨#[UInt8.ofNat (IntKind.u8.wrap (IntKind.i64.wrap (97 + w249))).toNat]⟩) ++ v271], w251 ++ [v273], z9u v276 true w252)
    else
      z0e (IntKind.i64.wrap (w249 + 1), w250, w251, w252)
  else
    z0l <|
    z0e (IntKind.i64.wrap (w191 + 1), w250, w251, w252)
instance {a0 : DFA} {a1 : Imgs} {a2 : List (Int × Int)} {v139 : Int} {w145 : List Int} {w191 : Int} {v236 : Int} {v140 : Int} : Hd (z1N a0 a1 a2 v139 w145 w191 v236 v140) := ⟨fun (w249, w250, w251, w252) => ([(61, xI w249)], [(11, .vr [.sc (.int .i64 v140), .os 1 w145.length (w145.map fun x0 => .sc (.int .i64 x0)), .os 1 w250.length (w250.map fun x0 => .sc (.string x0)), .os 1 w251.length (w251.map fun x0 => .os 1 x0.length (x0.map fun x1 => .sc (.int .i64 x1)))]), (14, .mp none (w252.map fun x0 => (.string x0.1, .bool x0.2)))])⟩
abbrev z3o (a0 : DFA) (a1 : Imgs) (a2 : List (Int × Int)) (a3 : List Int) (v139 : Int) (v140 : Int) (w145 : List Int) : Int × List ByteArray × List (List Int) × (List (ByteArray × Bool)) -> Option ((Int × List ByteArray × List (List Int) × (List (ByteArray × Bool))) ⊕ (Hol × Int))
  | (w191, w192, w193, w194) =>
  if w191 < (a3.length : Int) then
    (atI a3 w191).bind fun v236 =>
    z0m (z1N a0 a1 a2 v139 w145 w191 v236 v140) LFm (0, w192, w193, w194)
  else
    z0l <|
    some ((⟨v140, w145, w192, w193⟩ : Hol), 0)
instance {a0 : DFA} {a1 : Imgs} {a2 : List (Int × Int)} {a3 : List Int} {v139 : Int} {v140 : Int} {w145 : List Int} : Hd (z3o a0 a1 a2 a3 v139 v140 w145) := ⟨fun (w191, w192, w193, w194) => ([(55, xI w191)], [(11, .vr [.sc (.int .i64 v140), .os 1 w145.length (w145.map fun x0 => .sc (.int .i64 x0)), .os 1 w192.length (w192.map fun x0 => .sc (.string x0)), .os 1 w193.length (w193.map fun x0 => .os 1 x0.length (x0.map fun x1 => .sc (.int .i64 x1)))]), (14, .mp none (w194.map fun x0 => (.string x0.1, .bool x0.2)))])⟩
abbrev z3A (a0 : DFA) (a1 : Imgs) (a2 : List (Int × Int)) (a3 : List Int) (v139 : Int) (v140 : Int) (v141 : List Int) : Int × List Int -> Option ((Int × List Int) ⊕ (Hol × Int))
  | (w144, w145) =>
  if w144 < (v141.length : Int) then
    (atI v141 w144).bind fun v148 =>
    (atI a1.sets v148).bind fun v149 =>
    chk (z1s 8 (w145.length + 1)) <|
    z0e (IntKind.i64.wrap (w144 + 1), w145 ++ [v149])
  else
    z0l <|
    z0m (z3o a0 a1 a2 a3 v139 v140 w145) LFm (0, [], [], ([] : List (ByteArray × Bool)))
instance {a0 : DFA} {a1 : Imgs} {a2 : List (Int × Int)} {a3 : List Int} {v139 : Int} {v140 : Int} {v141 : List Int} : Hd (z3A a0 a1 a2 a3 v139 v140 v141) := ⟨fun (w144, w145) => ([(37, xI w144)], [(11, .vr [.sc (.int .i64 v140), .os 1 w145.length (w145.map fun x0 => .sc (.int .i64 x0)), .os 1 0 [], .os 1 0 []])])⟩
def z3D (a0 : DFA) (a1 : Imgs) (a2 : List (Int × Int)) (a3 : List Int) : Option (Hol × Int) :=
  (atI a3 0).bind fun v139 =>
  (atI a1.sets v139).bind fun v140 =>
  (atI a1.tiles v139).bind fun v141 =>
  z0m (z3A a0 a1 a2 a3 v139 v140 v141) LFm (0, [])
instance holonomy_ofClass_ok {a0 : DFA} {a1 : Imgs} {a2 : List (Int × Int)} {a3 : List Int} : Ok (z3D a0 a1 a2 a3) (fun r => L 31 [.agg [.sc (.int .i64 a0.letters), .sc (.int .i64 a0.start), .sl a0.final.length (a0.final.map fun x0 => .sc (.bool x0)), .sl a0.next.length (a0.next.map fun x0 => .sl x0.length (x0.map fun x1 => .sc (.int .i64 x1)))], .agg [.sl a1.sets.length (a1.sets.map fun x0 => .sc (.int .i64 x0)), .sl a1.class_.length (a1.class_.map fun x0 => .sc (.int .i64 x0)), .sl a1.height.length (a1.height.map fun x0 => .sc (.int .i64 x0)), .sl a1.tiles.length (a1.tiles.map fun x0 => .sl x0.length (x0.map fun x1 => .sc (.int .i64 x1))), .sl a1.words.length (a1.words.map fun x0 => .sc (.string x0)), .sl a1.back.length (a1.back.map fun x0 => .sc (.string x0))], .mr (some .i64) (a2.map fun x0 => (.int .i64 x0.1, .int .i64 x0.2)), .sl a3.length (a3.map fun x0 => .sc (.int .i64 x0))] = some (.tup [.agg [.sc (.int .i64 r.1.set), .sl r.1.tiles.length (r.1.tiles.map fun x0 => .sc (.int .i64 x0)), .sl r.1.words.length (r.1.words.map fun x0 => .sc (.string x0)), .sl r.1.perms.length (r.1.perms.map fun x0 => .sl x0.length (x0.map fun x1 => .sc (.int .i64 x1)))], .sc (.int .i64 r.2)], [.dead, .dead, .dead, .dead])) := ⟨fun r h => by have h := z4u h; unfold z3D at h; exact zht zuV zwF zyn⟩
end
end
section
open Go
noncomputable section
set_option maxRecDepth 100000
set_option maxHeartbeats 6000000
abbrev z4E (a0 : DFA) (v19 : Imgs × Int) (w22 : List (Int × Int)) (v25 : List Int × List (List Int)) : Int × List Hol -> Option ((Int × List Hol) ⊕ (List Hol × Int))
  | (w29, w30) =>
  if w29 < (v25.1.length : Int) then
    (atI v25.1 w29).bind fun v34 =>
    (atI v25.2 v34).bind fun v35 =>
    (z3D a0 v19.1 w22 v35).bind fun v36 =>
    if v36.2 = 0 then
      chk (z1s 80 (w30.length + 1)) <|
      z0e (IntKind.i64.wrap (w29 + 1), w30 ++ [v36.1])
    else
      z0l <|
      some ([], v36.2)
  else
    z0l <|
    some (w30, 0)
instance {a0 : DFA} {v19 : Imgs × Int} {w22 : List (Int × Int)} {v25 : List Int × List (List Int)} : Hd (z4E a0 v19 w22 v25) := ⟨fun (w29, w30) => ([(50, xI w29)], [(11, .os 4 w30.length (w30.flatMap fun x0 => [.sc (.int .i64 x0.set), .sl x0.tiles.length (x0.tiles.map fun x1 => .sc (.int .i64 x1)), .sl x0.words.length (x0.words.map fun x1 => .sc (.string x1)), .sl x0.perms.length (x0.perms.map fun x1 => .sl x1.length (x1.map fun x2 => .sc (.int .i64 x2)))]))])⟩
abbrev z5f (a0 : DFA) (v19 : Imgs × Int) : Int × (List (Int × Int)) -> Option ((Int × (List (Int × Int))) ⊕ (List Hol × Int))
  | (w21, w22) =>
  if w21 < (v19.1.sets.length : Int) then
    (atI v19.1.sets w21).bind fun v24 =>
    z0e (IntKind.i64.wrap (w21 + 1), z9u v24 w21 w22)
  else
    z0l <|
    (z3E v19.1).bind fun v25 =>
    chk (z1g 80 (v25.1.length : Int)) <|
    z0m (z4E a0 v19 w22 v25) LFm (0, [])
instance {a0 : DFA} {v19 : Imgs × Int} : Hd (z5f a0 v19) := ⟨fun (w21, w22) => ([(31, xI w21)], [(6, .mp (some .i64) (w22.map fun x0 => (.int .i64 x0.1, .int .i64 x0.2)))])⟩
def z5X (a0 : DFA) : Option (List Hol × Int) :=
  (z7B a0).bind fun v19 =>
  if v19.2 = 0 then
    z0m (z5f a0 v19) LFm (0, ([] : List (Int × Int)))
  else
    some ([], v19.2)
instance holonomy_Of_ok {a0 : DFA} : Ok (z5X a0) (fun r => L 15 [.agg [.sc (.int .i64 a0.letters), .sc (.int .i64 a0.start), .sl a0.final.length (a0.final.map fun x0 => .sc (.bool x0)), .sl a0.next.length (a0.next.map fun x0 => .sl x0.length (x0.map fun x1 => .sc (.int .i64 x1)))]] = some (.tup [.sl r.1.length (r.1.flatMap fun x0 => [.sc (.int .i64 x0.set), .sl x0.tiles.length (x0.tiles.map fun x1 => .sc (.int .i64 x1)), .sl x0.words.length (x0.words.map fun x1 => .sc (.string x1)), .sl x0.perms.length (x0.perms.map fun x1 => .sl x1.length (x1.map fun x2 => .sc (.int .i64 x2)))]), .sc (.int .i64 r.2)], [.dead])) := ⟨fun r h => by have h := z4u h; unfold z5X at h; exact zht zv5 zwO zyw⟩
end
end
section
open Go
set_option maxRecDepth 100000
def zaN : List (List Nat) -> List (ByteArray × Bool) := List.foldl (fun mp q => z9u (z1J (zdm q)) true mp) []
theorem zlF (Q : List (List Nat)) (p : List Nat) : zaN (Q ++ [p]) = z9u (z1J (zdm p)) true (zaN Q) := by
  unfold zaN; rw [List.foldl_append]; rfl
theorem znP {L : Nat} {p : List Nat} (hp : p.length = L) (hb : ∀ k ∈ p, k < 65536) : ∀ {Q : List (List Nat)}, (∀ q ∈ Q, q.length = L /\ ∀ k ∈ q, k < 65536) -> (((z9P (z1J (zdm p)) (zaN Q)).getD false) = true ↔ p ∈ Q) := by
  have key : ∀ (Q : List (List Nat)) (mp : List (ByteArray × Bool)), (∀ q ∈ Q, q.length = L /\ ∀ k ∈ q, k < 65536) -> (((z9P (z1J (zdm p)) (Q.foldl (fun mp q => z9u (z1J (zdm q)) true mp) mp)).getD false) = true ↔ (p ∈ Q ∨ ((z9P (z1J (zdm p)) mp).getD false) = true)) := by
    intro Q
    induction Q with
    | nil => intro mp _; simp
    | cons q Q ih =>
      intro mp hQ
      rw [List.foldl_cons, ih _ (fun x hx => hQ x (List.mem_cons_of_mem _ hx)), z9O, List.mem_cons]
      have hq := hQ q (List.mem_cons_self ..)
      by_cases e : q = p
      · subst e
        rw [if_pos rfl]; simp
      · have : ¬ z1J (zdm q) = z1J (zdm p) := fun h => e (zpr hq.2 hb (by rw [hq.1, hp]) h)
        rw [if_neg this]
        constructor
        · rintro (h | h)
          · exact .inl (.inr h)
          · exact .inr h
        · rintro ((h | h) | h)
          · exact absurd h.symm e
          · exact .inl h
          · exact .inr h
  intro Q hQ
  have := key Q [] hQ
  rw [show zaN Q = Q.foldl (fun mp q => z9u (z1J (zdm q)) true mp) [] from rfl, this]
  simp [z9P]
def zoh (d : DFA) (m n : Nat) (S T : List Nat) (l : List Nat) : HS := l.foldl (fun st i => zgo d m n S T i st m) ([], [])
theorem zq1 (d : DFA) (m n : Nat) (S T : List Nat) (c k : Nat) : zoh d m n S T (z9h d m n S c k) = zeA d m n S T c k := by
  unfold zoh z9h zeA
  rw [List.foldl_filter]
  congr 1
  funext st i
  by_cases h : clN d m n S i = c
  · rw [if_pos (by simpa using h), if_pos h]
  · rw [if_neg (by simpa using h), if_neg h]
theorem zog (d : DFA) (m n : Nat) (S T l : List Nat) (i : Nat) : zoh d m n S T (l ++ [i]) = zgo d m n S T i (zoh d m n S T l) m := by
  unfold zoh; rw [List.foldl_append]; rfl
section
variable {d : DFA} {m n : Nat} {S : List Nat} (hd : DfaOk d m n) (hn : n <= 7) (hS : SetsP d m n S)
include hd hn hS
theorem zm6 {c k i : Nat} (h : i ∈ z9h d m n S c k) : i < k /\ clN d m n S i = c := by
  have _u := hd
  have _v := hn
  have _w := hS
  unfold z9h at h
  rw [List.mem_filter, List.mem_range, decide_eq_true_eq] at h
  exact h
theorem zrG {c : Nat} : ∀ {l : List Nat}, (∀ i ∈ l, i < S.length /\ clN d m n S i = c) -> HInv d m n S c (l.length * m) (zoh d m n S (z1O S (z1I d m n S c)) l) := by
  have key : ∀ (l : List Nat) (st : HS) (B : Nat), HInv d m n S c B st -> (∀ i ∈ l, i < S.length /\ clN d m n S i = c) -> HInv d m n S c (B + l.length * m) (l.foldl (fun st i => zgo d m n S (z1O S (z1I d m n S c)) i st m) st) := by
    intro l
    induction l with
    | nil => intro st B h _; simpa using h
    | cons i l ih =>
      intro st B h hl
      have hi := hl i (List.mem_cons_self ..)
      have := ih _ _ (zi5 hd hn hS h hi.1 hi.2 m (Nat.le_refl _)) (fun j hj => hl j (List.mem_cons_of_mem _ hj))
      rw [List.foldl_cons]
      have e : B + (i :: l).length * m = B + m + l.length * m := by rw [List.length_cons, Nat.add_mul]; omega
      rw [e]; exact this
  intro l hl
  have := key l ([], []) 0 ⟨rfl, by simp, fun j hj => by simp at hj⟩ hl
  rw [Nat.zero_add] at this
  exact this
theorem zqc {c B : Nat} {st : HS} (hc : c < (z6H d m n S).length) (h : HInv d m n S c B st) : ∀ q ∈ st.2, q.length = (z1O S (z1I d m n S c)).length /\ ∀ k ∈ q, k < 65536 := fun q hq => by
  have hk := (z3x hd hn hS hc).2
  have htl := zpv hd hn hS hk
  refine ⟨zis h q hq, fun k hkq => ?_⟩
  obtain ⟨j, hj, rfl⟩ := List.getElem_of_mem hq
  obtain ⟨l1, l2, l3⟩ := z9M h (j := j) (by rw [h.len]; exact hj)
  rw [List.getD, List.getElem?_eq_getElem hj, Option.getD_some] at l3
  rw [l3] at hkq
  have := (z8f hd hn hS hk l1).2.1 k hkq
  omega
theorem zh0 {c i a : Nat} {st : HS} {B : Nat} {w : Int} (hB : B <= 10000) (h : HInv d m n S c B st) (hi : i < S.length) (ha : a < m) (hc : clN d m n S i = c) (hcl : c < (z6H d m n S).length) (z : Int) :
    z1N d (z4x d m n S) (zec S S.length) ((z1I d m n S c : Nat) : Int) (toI (z1O S (z1I d m n S c))) w (i : Int) z ((a : Int), st.1, st.2.map toI, zaN st.2) = z0e (((a + 1 : Nat) : Int), (zcH d m n S (z1O S (z1I d m n S c)) i st a).1, (zcH d m n S (z1O S (z1I d m n S c)) i st a).2.map toI, zaN (zcH d m n S (z1O S (z1I d m n S c)) i st a).2) := by
  have h128 : 2 ^ n <= 128 := Nat.pow_le_pow_right (n := 2) (by omega) hn
  have hm := hd.m6
  obtain ⟨j1, j2⟩ := zpa hd hn hS hi ha
  obtain ⟨f1, hk⟩ := z3x hd hn hS hcl
  have hsat : atI (z4x d m n S).sets (i : Int) = some ((S.getD i 0 : Nat) : Int) := z2c hi
  have hcat : ∀ i, i < S.length -> atI (z4x d m n S).class_ (i : Int) = some ((clN d m n S i : Nat) : Int) := fun i hi => z2V hi
  have hwat : atI (z4x d m n S).words (i : Int) = some (zeH d m n S i) := z2V hi
  have hbat : ∀ i, i < S.length -> atI (z4x d m n S).back (i : Int) = some (zn2 d m n S i) := fun i hi => z2V hi
  have hix : (z9P ((mvN d (S.getD i 0) a : Nat) : Int) (zec S S.length)).getD 0 = ((zng d S i a : Nat) : Int) := by
    rw [← j2, zeb hS.nd _ (Nat.le_refl _) j1]; rfl
  have h26 : (UInt8.ofNat (97 + a)).toNat = 97 + a := zb9 (by omega)
  have hlw : zgZ m (zoi a).data.toList := fun c hc => by
    rw [z6D, List.mem_singleton] at hc
    subst hc; omega
  have hap : z2F (toI (zcR d n (zoi a).data.toList)) ((S.getD i 0 : Nat) : Int) = some ((mvN d (S.getD i 0) a : Nat) : Int) := by
    rw [zgj hd (by omega) hlw (hS.lt _ (z0r hi)), z6D, z4m, z4m, h26, Nat.add_sub_cancel_left]
  simp only [z1N]
  rw [hd.lt, if_pos (by omega), hsat, Option.bind_some, zh1 (by omega), zgm hd (by omega) hlw (by rw [z5U]; omega), Option.bind_some, hap, Option.bind_some, hix, hcat _ j1, Option.bind_some, hcat _ hk, Option.bind_some, f1]
  unfold zcH
  by_cases hj : clN d m n S (zng d S i a) = clN d m n S i
  · obtain ⟨l1, l2⟩ := zh6 hd hn hS hi ha hj
    have hf : z1I d m n S c = z6r d m n S i := by unfold z1I; rw [← hc]; rfl
    rw [← hf] at l1
    obtain ⟨_, w1⟩ := zhy hd hn hS hi
    obtain ⟨_, w2⟩ := ziY hd hn hS j1
    have htl := zpv hd hn hS hk
    obtain ⟨t1, t2⟩ := z6B hd hn hS hk
    have hwd : (zeH d m n S i ++ zoi a ++ zn2 d m n S (zng d S i a)) = hwN d m n S i a := rfl
    have hbd := h.bd
    have hln := h.len
    have hpl := z9B d (hwN d m n S i a).data.toList (z1O S (z1I d m n S c))
    have hpf := (z8f hd hn hS hk l1).2.1
    have hp6 : ∀ k ∈ z2R d (hwN d m n S i a).data.toList (z1O S (z1I d m n S c)), k < 65536 := fun k hk' => by have := hpf k hk'; omega
    have hsg := znP hpl hp6 (zqc hd hn hS hcl h)
    rw [if_pos (by omega), hwat, Option.bind_some, z0q _ (by unfold z7l; rw [z5U]; omega), hbat _ j1, Option.bind_some, z0q _ (by unfold z7l; rw [zbi, z5U]; omega), hwd,
      zgm hd (by omega) l1.hw (by omega), Option.bind_some, zcK hd (by omega) t1 (by omega) (fun t ht => (t2 t ht).2.2) l1.hw (zgC hd hn hS hk l1), Option.bind_some, zfX (by omega), Option.bind_some, hpl, if_pos hj, z1b (by omega)]
    by_cases hid : z2R d (hwN d m n S i a).data.toList (z1O S (z1I d m n S c)) = List.range (z1O S (z1I d m n S c)).length
    · rw [if_pos (by simpa using hid), if_pos (.inl hid)]
    · rw [if_neg (by simpa using hid), zpx (by omega) hp6, Option.bind_some]
      by_cases hin : z2R d (hwN d m n S i a).data.toList (z1O S (z1I d m n S c)) ∈ st.2
      · rw [if_pos (hsg.2 hin), if_pos (.inr hin)]
      · rw [if_neg (fun e => hin (hsg.1 e)), if_neg (by omega), Option.bind_some, z0q _ (by unfold z1s; omega), z0q _ (by unfold z1s; rw [List.length_map]; omega), if_neg (fun e => e.elim hid hin)]
        simp only [zlF, List.map_append, List.map_cons, List.map_nil]
  · rw [if_neg (by omega), if_neg hj, z1b (by omega)]
theorem zk1 {c i : Nat} {st : HS} {B : Nat} {w : Nat} (hB : B <= 9000) (h : HInv d m n S c B st) (hi : i < S.length) (hc : clN d m n S i = c) (hcl : c < (z6H d m n S).length) (hw : w < 1000) (z : Int) :
    z0m (z1N d (z4x d m n S) (zec S S.length) ((z1I d m n S c : Nat) : Int) (toI (z1O S (z1I d m n S c))) (w : Int) (i : Int) z) LFm (0, st.1, st.2.map toI, zaN st.2) = z0e (((w + 1 : Nat) : Int), (zgo d m n S (z1O S (z1I d m n S c)) i st m).1, (zgo d m n S (z1O S (z1I d m n S c)) i st m).2.map toI, zaN (zgo d m n S (z1O S (z1I d m n S c)) i st m).2) := by
  have hm := hd.m6
  refine z0L (s := ((0 : Int), st.1, st.2.map toI, zaN st.2)) m (fun a => ((a : Int), (zgo d m n S (z1O S (z1I d m n S c)) i st a).1, (zgo d m n S (z1O S (z1I d m n S c)) i st a).2.map toI, zaN (zgo d m n S (z1O S (z1I d m n S c)) i st a).2)) rfl (by simp only [LFm]; omega) (fun a ha => ?_) ?_
  · rw [zh0 hd hn hS (B := B + a) (by omega) (zi5 hd hn hS h hi hc a (by omega)) hi ha hc hcl, zdQ]
  · simp only [z1N]
    rw [hd.lt, if_neg (by omega), z1b (by omega)]
theorem zjF {c : Nat} (hcl : c < (z6H d m n S).length) (hSl : S.length <= 128) : z3D d (z4x d m n S) (zec S S.length) (toI (z9h d m n S c S.length)) = some (za1 d m n S c, 0) := by
  have hm := hd.m6
  obtain ⟨f1, hk⟩ := z3x hd hn hS hcl
  obtain ⟨_, m2⟩ := zig hd hn hS hcl
  have hta : atI (z4x d m n S).tiles ((z1I d m n S c : Nat) : Int) = some (toI (zae S (z1I d m n S c))) := z2V hk
  have hsat : atI (z4x d m n S).sets ((z1I d m n S c : Nat) : Int) = some ((S.getD (z1I d m n S c) 0 : Nat) : Int) := z2c hk
  have htl := zpv hd hn hS hk
  have hl := zle (S := S) (k := z1I d m n S c)
  have hmf : ∀ i ∈ z9h d m n S c S.length, i < S.length /\ clN d m n S i = c := fun i hi => zm6 hd hn hS hi
  have hml : (z9h d m n S c S.length).length <= 128 := by
    unfold z9h
    exact Nat.le_trans (List.length_filter_le _ _) (by rw [List.length_range]; exact hSl)
  unfold z3D
  rw [m2, Option.bind_some, hsat, Option.bind_some, hta, Option.bind_some]
  refine z0L (s := ((0 : Int), ([] : List Int))) (zae S (z1I d m n S c)).length (fun q => ((q : Int), toI ((z1O S (z1I d m n S c)).take q))) rfl (by simp only [LFm]; omega) (fun q hq => ?_) ?_
  · have hx : (zae S (z1I d m n S c)).getD q 0 < S.length := zfW (zbK (z0r hq)).1
    have e : (z1O S (z1I d m n S c)).getD q 0 = S.getD ((zae S (z1I d m n S c)).getD q 0) 0 := by simp [z1O, List.getD, hq]
    have hsat : atI (z4x d m n S).sets (((zae S (z1I d m n S c)).getD q 0 : Nat) : Int) = some ((S.getD ((zae S (z1I d m n S c)).getD q 0) 0 : Nat) : Int) := z2c hx
    simp only [z3A]
    rw [if_pos (by rw [z0d]; omega), z2c hq, Option.bind_some, hsat, Option.bind_some, z0q _ (by unfold z1s; rw [z0d, List.length_take]; omega), z1b (by omega), z7n (by omega), z4Z, e]
  · simp only [z3A]
    rw [if_neg (by rw [z0d]; omega), ← hl, List.take_length]
    congr 1
    refine z0L (s := ((0 : Int), ([] : List ByteArray), ([] : List (List Int)), ([] : List (ByteArray × Bool)))) (z9h d m n S c S.length).length (fun k => ((k : Int), (zoh d m n S (z1O S (z1I d m n S c)) ((z9h d m n S c S.length).take k)).1, (zoh d m n S (z1O S (z1I d m n S c)) ((z9h d m n S c S.length).take k)).2.map toI, zaN (zoh d m n S (z1O S (z1I d m n S c)) ((z9h d m n S c S.length).take k)).2)) rfl (by simp only [LFm]; omega) (fun k hk' => ?_) ?_
    · have hmem := hmf _ (z0r hk')
      have hI := zrG hd hn hS (c := c) (l := (z9h d m n S c S.length).take k) (fun i hi => hmf i (List.mem_of_mem_take hi))
      have hB : ((z9h d m n S c S.length).take k).length * m <= 128 * 6 := Nat.mul_le_mul (by rw [List.length_take]; omega) hm
      simp only [z3o]
      rw [if_pos (by rw [z0d]; omega), z2c hk', Option.bind_some, zk1 hd hn hS (by omega) hI hmem.1 hmem.2 hcl (by omega), z7n hk', zog]
    · simp only [z3o]
      rw [if_neg (by rw [z0d]; omega), List.take_length, zq1]
      rfl
end
theorem zrO {d : DFA} {m n : Nat} (hd : DfaOk d m n) (hn : n <= 7) : ∃ O, z5X d = some (O.map (za1 d m n (z6m d m n)), 0) /\ zvE (hC d m n (z6m d m n)) O /\ O.Perm (zi9 d m n (z6m d m n) (z6m d m n).length) := by
  have h128 : 2 ^ n <= 128 := Nat.pow_le_pow_right (n := 2) (by omega) hn
  have hS := zdL hd
  have hSl := z1x hS.nd hS.lt
  unfold z5X
  rw [zvj hd hn, Option.bind_some, if_pos rfl]
  generalize z6m d m n = S at *
  obtain ⟨O, e, o1, o2⟩ := zhm hd hn hS (by omega)
  refine ⟨O, ?_, o1, o2⟩
  have hOc : ∀ c ∈ O, c < (z6H d m n S).length := fun c hc => by
    have := o2.mem_iff.1 hc
    unfold zi9 at this
    exact List.mem_range.1 (List.mem_filter.1 this).1
  have hOl : O.length <= 128 := by
    rw [o2.length_eq]; unfold zi9
    refine Nat.le_trans (List.length_filter_le _ _) ?_
    rw [List.length_range]
    have := z7E (z1P d m n S) S.length
    omega
  have hsl : (z4x d m n S).sets.length = S.length := z0d _
  refine z0L (s := ((0 : Int), ([] : List (Int × Int)))) S.length (fun k => ((k : Int), zec S k)) rfl (by simp only [LFm]; omega) (fun k hk => ?_) ?_
  · have hsat : atI (z4x d m n S).sets (k : Int) = some ((S.getD k 0 : Nat) : Int) := z2c hk
    simp only [z5f]
    rw [hsl, if_pos (by omega), hsat, Option.bind_some, z1b (by omega)]
    rfl
  · simp only [z5f]
    rw [hsl, if_neg (by omega), e, Option.bind_some, z0q _ (by unfold z1g; rw [z0d]; omega)]
    congr 1
    refine z0L (s := ((0 : Int), ([] : List Hol))) O.length (fun t => ((t : Int), (O.take t).map (za1 d m n S))) rfl (by simp only [LFm]; omega) (fun t ht => ?_) ?_
    · have hc := hOc _ (z0r ht)
      have hma := (zig hd hn hS hc).1
      simp only [z4E]
      rw [if_pos (by rw [z0d]; omega), z2c ht, Option.bind_some, hma, Option.bind_some, zjF hd hn hS hc (by omega), Option.bind_some, if_pos rfl, z0q _ (by unfold z1s; rw [List.length_map, List.length_take]; omega), z1b (by omega), z7n ht, List.map_append, List.map_cons, List.map_nil]
    · simp only [z4E]
      rw [if_neg (by rw [z0d]; omega), List.take_length]
end
section
open Go
noncomputable section
set_option maxRecDepth 100000
set_option maxHeartbeats 6000000
abbrev z2w (a1 : Int) (w42 : Int) (v53 : List Int) : Int × List Bool -> Option ((Int × List Bool) ⊕ (Int ⊕ Bool))
  | (w55, w56) =>
  if w55 < (v53.length : Int) then
    (atI v53 w55).bind fun v60 =>
    if v60 < 0 then
      z0l <|
      z0l <|
      some false
    else
      if a1 <= v60 then
        z0l <|
        z0l <|
        some false
      else
        (atI w56 v60).bind fun v61 =>
        if v61 = true then
          z0l <|
          z0l <|
          some false
        else
          z0e (IntKind.i64.wrap (w55 + 1), (w56.set v60.toNat true))
  else
    z0l <|
    z0e (IntKind.i64.wrap (w42 + 1))
instance {a1 : Int} {w42 : Int} {v53 : List Int} : Hd (z2w a1 w42 v53) := ⟨fun (w55, w56) => ([(24, xI w55)], [(7, .os 1 w56.length (w56.map fun x0 => .sc (.bool x0)))])⟩
abbrev z1H (a0 : List (List Int)) (a1 : Int) : Int -> Option (Int ⊕ Bool)
  | w42 =>
  if w42 < (a0.length : Int) then
    (atI a0 w42).bind fun v53 =>
    if (v53.length : Int) = a1 then
      chk (z1g 1 a1) <|
      z0m (z2w a1 w42 v53) LFm (0, List.replicate a1.toNat (false : Bool))
    else
      z0l <|
      some false
  else
    z0l <|
    some true
instance {a0 : List (List Int)} {a1 : Int} : Hd (z1H a0 a1) := ⟨fun w42 => ([(12, xI w42)], [])⟩
def z2o (a0 : List (List Int)) (a1 : Int) : Option (Bool) :=
  z0m (z1H a0 a1) LFm 0
instance holonomy_permutations_ok {a0 : List (List Int)} {a1 : Int} : Ok (z2o a0 a1) (fun r => L 21 [.sl a0.length (a0.map fun x0 => .sl x0.length (x0.map fun x1 => .sc (.int .i64 x1))), .sc (.int .i64 a1)] = some (.sc (.bool r), [.dead, .dead])) := ⟨fun r h => by have h := z4u h; unfold z2o at h; exact z4X zv2 zwL zyt⟩
abbrev z4Y (a0 : List Int) : Int -> Option (Int ⊕ Bool)
  | w6 =>
  if w6 < (a0.length : Int) then
    (atI a0 w6).bind fun v8 =>
    if v8 < 0 then
      z0l <|
      some false
    else
      if (a0.length : Int) <= v8 then
        z0l <|
        some false
      else
        z0e (IntKind.i64.wrap (w6 + 1))
  else
    z0l <|
    some true
instance {a0 : List Int} : Hd (z4Y a0) := ⟨fun w6 => ([(15, xI w6)], [])⟩
def z4M (a0 : List Int) : Option (Bool) :=
  if (a0.length : Int) < 1 then
    some false
  else
    if 32 < (a0.length : Int) then
      some false
    else
      z0m (z4Y a0) LFm 0
instance trans_Valid_ok {a0 : List Int} : Ok (z4M a0) (fun r => L 83 [.sl a0.length (a0.map fun x0 => .sc (.int .i64 x0))] = some (.sc (.bool r), [.dead])) := ⟨fun r h => by have h := z4u h; unfold z4M at h; exact z4X zus zwc zxU⟩
abbrev z1Q (a0 : List Int) : Int -> Option (Int ⊕ List Int)
  | w10 =>
  if w10 < (a0.length : Int) then
    (atI a0 w10).bind fun v13 =>
    (atI a0 (IntKind.i64.wrap (w10 - 1))).bind fun v14 =>
    if v13 = v14 then
      none
    else
      z0e (IntKind.i64.wrap (w10 + 1))
  else
    z0l <|
    some a0
instance {a0 : List Int} : Hd (z1Q a0) := ⟨fun w10 => ([(3, xI w10)], [])⟩
def z1L (a0 : List Int) : Option (List Int) :=
  if (a0.length : Int) < 2 then
    some a0
  else
    z0m (z1Q a0) LFm 1
instance slices_Compact_Lint_int_ok {a0 : List Int} : Ok (z1L a0) (fun r => L 118 [.sl a0.length (a0.map fun x0 => .sc (.int .i64 x0))] = some (.sl r.length (r.map fun x0 => .sc (.int .i64 x0)), [.dead])) := ⟨fun r h => by have h := z4u h; unfold z1L at h; exact z4X zsa zte zvf⟩
def z6R (a0 : List Int) : Option (List Int) :=
  (z4M a0).bind fun v5 =>
  if v5 = true then
    (zcU a0).bind fun v6 =>
    (zcT v6).bind fun v7 =>
    (z1L v7).bind fun v8 =>
    some v8
  else
    some []
instance trans_Image_ok {a0 : List Int} : Ok (z6R a0) (fun r => L 100 [.sl a0.length (a0.map fun x0 => .sc (.int .i64 x0))] = some (.sl r.length (r.map fun x0 => .sc (.int .i64 x0)), [.dead])) := ⟨fun r h => by have h := z4u h; unfold z6R at h; exact zht zsc ztg zvh⟩
def z7R (a0 : List Int) : Option (Int) :=
  (z6R a0).bind fun v2 =>
  some (v2.length : Int)
instance trans_Rank_ok {a0 : List Int} : Ok (z7R a0) (fun r => L 84 [.sl a0.length (a0.map fun x0 => .sc (.int .i64 x0))] = some (.sc (.int .i64 r), [.dead])) := ⟨fun r h => by have h := z4u h; unfold z7R at h; exact z4X zur zwb zxT⟩
def z2J (a0 : List Int) : Option (Bool) :=
  (z4M a0).bind fun v3 =>
  if v3 = true then
    (z7R a0).bind fun v4 =>
    some (decide (v4 = (a0.length : Int)))
  else
    some false
instance trans_IsPermutation_ok {a0 : List Int} : Ok (z2J a0) (fun r => L 67 [.sl a0.length (a0.map fun x0 => .sc (.int .i64 x0))] = some (.sc (.bool r), [.dead])) := ⟨fun r h => by have h := z4u h; unfold z2J at h; exact z4X zuz zwj zy1⟩
abbrev z3c (a0 : List (List Int)) (a1 : Int) : Int -> Option (Int ⊕ Bool)
  | w10 =>
  if w10 < (a0.length : Int) then
    (atI a0 w10).bind fun v13 =>
    if (v13.length : Int) = a1 then
      (z2J v13).bind fun v14 =>
      if v14 = true then
        z0e (IntKind.i64.wrap (w10 + 1))
      else
        z0l <|
        some false
    else
      z0l <|
      some false
  else
    z0l <|
    some true
instance {a0 : List (List Int)} {a1 : Int} : Hd (z3c a0 a1) := ⟨fun w10 => ([(9, xI w10)], [])⟩
def z3d (a0 : List (List Int)) (a1 : Int) : Option (Bool) :=
  z0m (z3c a0 a1) LFm 0
instance group_permutations_ok {a0 : List (List Int)} {a1 : Int} : Ok (z3d a0 a1) (fun r => L 37 [.sl a0.length (a0.map fun x0 => .sl x0.length (x0.map fun x1 => .sc (.int .i64 x1))), .sc (.int .i64 a1)] = some (.sc (.bool r), [.dead, .dead])) := ⟨fun r h => by have h := z4u h; unfold z3d at h; exact z4X zuS zwC zyk⟩
abbrev z3T (a0 : Int) : Int × List Int -> Option ((Int × List Int) ⊕ List Int)
  | (w5, w6) =>
  if w5 < a0 then
    (atI w6 w5).bind fun v8 =>
    z0e (IntKind.i64.wrap (w5 + 1), (w6.set w5.toNat w5))
  else
    z0l <|
    some w6
instance {a0 : Int} : Hd (z3T a0) := ⟨fun (w5, w6) => ([(15, xI w5)], [(3, .os 1 w6.length (w6.map fun x0 => .sc (.int .i64 x0)))])⟩
def z4h (a0 : Int) : Option (List Int) :=
  if a0 < 1 then
    some []
  else
    if 32 < a0 then
      some []
    else
      chk (z1g 8 a0) <|
      z0m (z3T a0) LFm (0, List.replicate a0.toNat (0 : Int))
instance trans_Identity_ok {a0 : Int} : Ok (z4h a0) (fun r => L 38 [.sc (.int .i64 a0)] = some (.os 1 r.length (r.map fun x0 => .sc (.int .i64 x0)), [.dead])) := ⟨fun r h => by have h := z4u h; unfold z4h at h; exact z4X zuR zwB zyj⟩
abbrev z5z (a0 : List Int) : Int × List Int -> Option ((Int × List Int) ⊕ ByteArray)
  | (w9, w10) =>
  if w9 < (a0.length : Int) then
    (atI a0 w9).bind fun v13 =>
    (atI w10 w9).bind fun v14 =>
    z0e (IntKind.i64.wrap (w9 + 1), (w10.set w9.toNat (IntKind.u8.wrap v13)))
  else
    z0l <|
    some (z1J w10)
instance {a0 : List Int} : Hd (z5z a0) := ⟨fun (w9, w10) => ([(11, xI w9)], [(3, .os 1 w10.length (w10.map fun x0 => .sc (.int .u8 x0)))])⟩
def z4S (a0 : List Int) : Option (ByteArray) :=
  chk (z1g 1 (a0.length : Int)) <|
  z0m (z5z a0) LFm (0, List.replicate (a0.length : Int).toNat (0 : Int))
instance group_text_ok {a0 : List Int} : Ok (z4S a0) (fun r => L 39 [.sl a0.length (a0.map fun x0 => .sc (.int .i64 x0))] = some (.sc (.string r), [.dead])) := ⟨fun r h => by have h := z4u h; unfold z4S at h; exact z4X zuQ zwA zyi⟩
abbrev z4p (a0 : List Int) (a1 : List Int) : Int × List Int -> Option ((Int × List Int) ⊕ List Int)
  | (w13, w14) =>
  if w13 < (a0.length : Int) then
    (atI a0 w13).bind fun v18 =>
    (atI a1 v18).bind fun v19 =>
    (atI w14 w13).bind fun v20 =>
    z0e (IntKind.i64.wrap (w13 + 1), (w14.set w13.toNat v19))
  else
    z0l <|
    some w14
instance {a0 : List Int} {a1 : List Int} : Hd (z4p a0 a1) := ⟨fun (w13, w14) => ([(13, xI w13)], [(5, .os 1 w14.length (w14.map fun x0 => .sc (.int .i64 x0)))])⟩
def z4c (a0 : List Int) (a1 : List Int) : Option (List Int) :=
  chk (z1g 8 (a0.length : Int)) <|
  z0m (z4p a0 a1) LFm (0, List.replicate (a0.length : Int).toNat (0 : Int))
instance group_compose_ok {a0 : List Int} {a1 : List Int} : Ok (z4c a0 a1) (fun r => L 40 [.sl a0.length (a0.map fun x0 => .sc (.int .i64 x0)), .sl a1.length (a1.map fun x0 => .sc (.int .i64 x0))] = some (.os 1 r.length (r.map fun x0 => .sc (.int .i64 x0)), [.dead, .dead])) := ⟨fun r h => by have h := z4u h; unfold z4c at h; exact z4X zuP zwz zyh⟩
end
end
section
open Go
set_option maxRecDepth 100000
def zc4 (N : Nat) (X : List Int) : List Bool := (List.range N).map fun x : Nat => decide ((x : Int) ∈ X)
theorem zoe {N : Nat} {X : List Int} : (zc4 N X).length = N := by simp [zc4]
theorem zrE {N : Nat} : zc4 N [] = List.replicate N false := by
  unfold zc4; exact List.ext_getElem (by simp) fun i h1 h2 => by simp
theorem zpZ {N v : Nat} {X : List Int} (h : v < N) : atI (zc4 N X) (v : Int) = some (decide ((v : Int) ∈ X)) := by
  rw [z0Q (by rw [zoe]; exact h)]; simp [zc4]
theorem zoc {N v : Nat} {X : List Int} (h : v < N) : (zc4 N X).set v true = zc4 N (X ++ [(v : Int)]) := by
  refine List.ext_getElem (by simp [zc4]) fun i h1 h2 => ?_
  rw [List.getElem_set]
  simp only [zc4, List.getElem_map, List.getElem_range, List.mem_append, List.mem_singleton]
  by_cases e : v = i
  · subst e; simp
  · rw [if_neg e]
    exact decide_eq_decide.2 ⟨fun h => .inl h, fun h => h.elim id fun h => absurd h (by omega)⟩
theorem znD {l : List Int} {k : Nat} (h : k < l.length) : l.take (k + 1) = l.take k ++ [l[k]] := by rw [List.take_succ_eq_append_getElem h]
theorem zd7 {l : List Int} : l.Nodup ↔ ∀ k (h : k < l.length), l[k] ∉ l.take k := by
  rw [List.nodup_iff_pairwise_ne, List.pairwise_iff_getElem]
  constructor
  · intro h k hk hm
    obtain ⟨i, hi, e⟩ := List.getElem_of_mem hm
    rw [List.length_take] at hi
    rw [List.getElem_take] at e
    exact h i k (by omega) hk (by omega) e
  · intro h i j hi hj hij e
    refine h j hj ?_
    have : i < (l.take j).length := by rw [List.length_take]; omega
    have h2 := List.getElem_mem this
    rw [List.getElem_take, e] at h2
    exact h2
def zbV (N : Nat) (p : List Int) : Bool := decide (p.length = N) && (p.all (fun x => decide (0 <= x /\ x < (N : Int))) && decide p.Nodup)
theorem zdW {N : Nat} {p : List Int} : zbV N p = true ↔ p.length = N /\ (∀ x ∈ p, 0 <= x /\ x < (N : Int)) /\ p.Nodup := by
  simp [zbV]
def zqW (N : Nat) (p : List Int) (k : Nat) : Bool := !decide (0 <= p.getD k 0 /\ p.getD k 0 < (N : Int)) || decide (p.getD k 0 ∈ p.take k)
theorem zqB {N : Nat} {p : List Int} (hl : p.length = N) : ((List.range N).all fun k => !zqW N p k) = zbV N p := by
  rw [Bool.eq_iff_iff, zdW, List.all_eq_true]
  have hg : ∀ k (h : k < p.length), p.getD k 0 = p[k] := fun k h => by rw [List.getD, List.getElem?_eq_getElem h, Option.getD_some]
  constructor
  · intro h
    refine ⟨hl, fun x hx => ?_, zd7.2 fun k hk => ?_⟩
    · obtain ⟨k, hk, rfl⟩ := List.getElem_of_mem hx
      have := h k (List.mem_range.2 (by omega))
      simp only [zqW, hg k hk] at this
      simp at this
      exact this.1
    · have := h k (List.mem_range.2 (by omega))
      simp only [zqW, hg k hk] at this
      simp at this
      exact this.2
  · rintro ⟨_, h1, h2⟩ k hk
    have hk := List.mem_range.1 hk
    have a := h1 _ (List.getElem_mem (show k < p.length by omega))
    have b := zd7.1 h2 k (by omega)
    simp only [zqW, hg k (by omega)]
    simp [a, b]
theorem zo1 {Q : List (List Int)} {N : Nat} (hN : N <= 1000) (hQ : Q.length < 4611686018427387904) : z2o Q (N : Int) = some (Q.all (zbV N)) := by
  unfold z2o
  rw [zc6 (b := z1H Q (N : Int)) (l := Q) [] (zbV N) (A := some false) (B := some true) hQ ?_ ?_]
  · cases Q.all (zbV N) <;> rfl
  · intro k hk
    have hg : Q.getD k [] = Q[k] := by rw [List.getD, List.getElem?_eq_getElem hk, Option.getD_some]
    simp only [z1H]
    rw [if_pos (by omega), z0Q hk, Option.bind_some, hg]
    generalize Q[k] = p
    by_cases hl : p.length = N
    · rw [if_pos (by omega), z0q _ (by unfold z1g; omega), Int.toNat_natCast, ← zqB hl,
        z5T (s := ((0 : Int), List.replicate N false)) N (fun t => ((t : Int), zc4 N (p.take t))) (zqW N p) (fun _ => z0l (some false)) (x := z0e ((k + 1 : Nat) : Int)) (by rw [List.take_zero, zrE]; rfl) (by simp only [LFm]; omega) ?_ ?_]
      · rw [z9S]
      · intro t ht
        have ht' : t < p.length := by omega
        have hgt : p.getD t 0 = p[t] := by rw [List.getD, List.getElem?_eq_getElem ht', Option.getD_some]
        simp only [z2w, zqW, hgt]
        rw [if_pos (by omega), z0Q ht', Option.bind_some, znD ht']
        generalize p[t] = v
        by_cases c1 : v < 0
        · rw [if_pos c1, if_pos (by simp; omega)]
        · rw [if_neg c1]
          by_cases c2 : (N : Int) <= v
          · rw [if_pos c2, if_pos (by simp; omega)]
          · obtain ⟨u, rfl⟩ := Int.eq_ofNat_of_zero_le (show 0 <= v by omega)
            rw [if_neg c2, zpZ (by omega), Option.bind_some]
            by_cases c3 : (u : Int) ∈ p.take t
            · rw [if_pos (by simpa using c3), if_pos (by simp [c3])]
            · rw [if_neg (by simpa using c3), if_neg (by simp [c3]; omega), z1b (by omega), Int.toNat_natCast, zoc (by omega)]
      · simp only [z2w]
        rw [if_neg (by omega), z1b (by omega)]
    · have : zbV N p = false := by unfold zbV; rw [decide_eq_false hl]; rfl
      rw [if_neg (by omega), this, if_neg (by simp)]
  · simp only [z1H]
    rw [if_neg (by omega)]
end
section
open Go
set_option maxRecDepth 100000
def zoW (n : Nat) (s : Int) : Bool := decide (0 <= s /\ s < ((2 ^ n : Nat) : Int))
theorem zi1 {n : Nat} {s : Int} : zoW n s = true ↔ 0 <= s /\ s.toNat < 2 ^ n := by
  unfold zoW; rw [decide_eq_true_eq]; omega
def zq5 (d : DFA) (h : Hol) (k : Nat) : Bool := decide (((z4m d h.set.toNat (h.words.getD k ByteArray.empty).data.toList : Nat) : Int) = h.set) && (List.range h.tiles.length).all fun i => decide (((z4m d (h.tiles.getD i 0).toNat (h.words.getD k ByteArray.empty).data.toList : Nat) : Int) = h.tiles.getD ((h.perms.getD k []).getD i 0).toNat 0)
def zuo (d : DFA) (m n : Nat) (h : Hol) : Bool := zoW n h.set && (decide (h.words.length = h.perms.length) && (decide (1 <= h.tiles.length /\ h.tiles.length <= 32) && (h.tiles.all (zoW n) && ((List.range h.words.length).all fun k => decide (znn m (h.words.getD k ByteArray.empty)) && (zbV h.tiles.length (h.perms.getD k []) && zq5 d h k)))))
section
variable {d : DFA} {m n : Nat} (hd : DfaOk d m n) (hn : n <= 12) {h : Hol} (hs : zoW n h.set = true) (hT : h.tiles.all (zoW n) = true) (hl : h.tiles.length <= 32)
include hd hn hs hT hl
end
end
section
open Go
set_option maxRecDepth 100000
theorem zmQ {d : DFA} {m n : Nat} {h : Hol} : zuo d m n h = true ↔ zoW n h.set = true /\ h.words.length = h.perms.length /\ (1 <= h.tiles.length /\ h.tiles.length <= 32) /\ h.tiles.all (zoW n) = true /\ ∀ k, k < h.words.length -> znn m (h.words.getD k ByteArray.empty) /\ zbV h.tiles.length (h.perms.getD k []) = true /\ zq5 d h k = true := by
  unfold zuo
  simp only [Bool.and_eq_true, decide_eq_true_eq, List.all_eq_true, List.mem_range]
section
variable {d : DFA} {m n : Nat} (hd : DfaOk d m n) (hn : n <= 12) {h : Hol} (hw : h.words.length < 2 ^ 61) (hp : h.perms.length < 2 ^ 61)
include hd hn hw hp
end
end
section
open Go
set_option maxRecDepth 100000
def zso (a : Nat) : ByteArray := ⟨#[UInt8.ofNat (IntKind.u8.wrap (IntKind.i64.wrap (97 + (a : Int)))).toNat]⟩
def zjt (W : List ByteArray) (w : ByteArray) : Nat -> Option (List Int)
  | 0 => some []
  | a + 1 => match zjt W w a with
    | none => none
    | some row => if z7l w (zso a) then (match z0m (z2P W (a : Int) row) LFm (w ++ zso a, -1) with
      | some (.inl (x, r)) => if x = ((a + 1 : Nat) : Int) then some r else none
      | _ => none) else none
def zqT (m L : Nat) : Bool := match z4P m L with
  | none => false
  | some W => decide (1 <= W.length) && decide (W.length <= 7) && W.all fun w => match zjt W w m with
    | none => false
    | some r => decide (r.length = m) && r.all fun x => decide (0 <= x /\ x < (W.length : Int))
theorem zqy : zqT 1 1 = true /\ zqT 1 2 = true /\ zqT 2 1 = true /\ zqT 2 2 = true := ⟨by kernel_rfl, by kernel_rfl, by kernel_rfl, by kernel_rfl⟩
theorem zsf {m : Nat} {W : List ByteArray} {i : Int} {fs : List Bool} {rs : List (List Int)} {w : ByteArray} {v : Int × Tape} {r : List Int} (hm : m <= 6) (h : zjt W w m = some r) :
    z0m (z2l (m : Int) W i fs rs w v) LFm (0, []) = chk (z1s 24 (rs.length + 1)) (z0e (IntKind.i64.wrap (i + 1), v.2.l, v.2.at_, fs ++ [decide (v.1 = 1)], rs ++ [r])) := by
  have key : ∀ a, a <= m -> ∃ r', zjt W w a = some r' := by
    have : ∀ j a, a + j = m -> ∃ r', zjt W w a = some r' := by
      intro j
      induction j with
      | zero => intro a ha; obtain rfl : a = m := by omega
                exact ⟨r, h⟩
      | succ j ih =>
        intro a ha
        obtain ⟨r', hr'⟩ := ih (a + 1) (by omega)
        rw [zjt] at hr'
        split at hr'
        · cases hr'
        · rename_i row hrow; exact ⟨row, hrow⟩
    intro a ha
    exact this (m - a) a (by omega)
  refine z0L (s := ((0 : Int), ([] : List Int))) m (fun a => ((a : Int), (zjt W w a).getD [])) rfl (by simp only [LFm]; omega) (fun a ha => ?_) ?_
  · obtain ⟨r1, h1⟩ := key a (by omega)
    obtain ⟨r2, h2⟩ := key (a + 1) (by omega)
    rw [h1, h2, Option.getD_some, Option.getD_some]
    rw [zjt, h1] at h2
    simp only [z2l]
    rw [if_pos (by omega)]
    dsimp only at h2
    split at h2
    case isFalse => cases h2
    rename_i hc
    change chk (z7l w (zso a)) (z0m (z2P W (a : Int) r1) LFm (w ++ zso a, -1)) = _
    rw [z0q _ hc]
    split at h2
    · rename_i x q hq
      split at h2
      · rename_i hx
        cases h2
        rw [← hx]
        exact hq
      · cases h2
    · cases h2
  · simp only [z2l]
    rw [if_neg (by omega), h, Option.getD_some]
end
section
open Go
set_option maxRecDepth 100000
def defT : List (List Int) := [[1, 2], [3, 4], [5, 6], [3, 4], [5, 6], [3, 4], [5, 6]]
theorem zwR (l s : Int) (f : List Bool) : (z6m ⟨l, s, f, defT⟩ 2 7).length = 10 := by kernel_rfl
def zqK (m L : Nat) : Bool := match z4P m L with
  | none => true
  | some W => decide (W.length <= 4) || (decide (W.length = 7) && decide (m = 2) && decide ((W.map fun w => zjt W w m) = defT.map some))
theorem zr3 : zqK 1 1 = true /\ zqK 1 2 = true /\ zqK 2 1 = true /\ zqK 2 2 = true := ⟨by kernel_rfl, by kernel_rfl, by kernel_rfl, by kernel_rfl⟩
theorem zlj (m L : Nat) : match z4P m L with
  | none => True
  | some W => 1 <= m /\ m <= 2 -> 1 <= L /\ L <= 2 -> W.length <= 4 ∨ (W.length = 7 /\ m = 2 /\ (W.map fun w => zjt W w m) = defT.map some) := by
  cases hW : z4P m L with
  | none => trivial
  | some W =>
    intro hm hL
    have h : zqK m L = true := by
      obtain ⟨c1, c2, c3, c4⟩ := zr3
      rcases (by omega : (m = 1 /\ L = 1) ∨ (m = 1 /\ L = 2) ∨ (m = 2 /\ L = 1) ∨ (m = 2 /\ L = 2)) with ⟨rfl, rfl⟩ | ⟨rfl, rfl⟩ | ⟨rfl, rfl⟩ | ⟨rfl, rfl⟩
      · exact c1
      · exact c2
      · exact c3
      · exact c4
    unfold zqK at h
    rw [hW] at h
    simpa [and_assoc] using h
theorem zhX {d : DFA} {m n : Nat} (hd : DfaOk d m n) (hn : n <= 5) : (z6m d m n).length <= 32 := by
  have hS := zdL hd
  have := z1x hS.nd hS.lt
  have h32 : 2 ^ n <= 32 := Nat.pow_le_pow_right (n := 2) (by omega) hn
  omega
theorem zg9 {t : Tape} (ht : TapeOk t) (m : Nat) (hm : 1 <= m /\ m <= 2) : ∃ d t' n, z2X t m = some (d, t') /\ DfaOk d m n /\ n <= 7 /\ TapeOk t' /\ (n <= 4 ∨ (n = 7 /\ m = 2 /\ d.next = defT)) := by
  unfold z2X
  obtain ⟨v, t1, e1, v0, v1, ht1⟩ := z5m ht 2 (by omega) (by omega)
  simp only [e1, Option.bind_some]
  obtain ⟨k, rfl⟩ := Int.eq_ofNat_of_zero_le v0
  have hw : IntKind.i64.wrap (1 + (k : Int)) = ((k + 1 : Nat) : Int) := by rw [z1Z (by omega) (by omega)]; omega
  rw [hw]
  have hchk : zqT m (k + 1) = true := by
    obtain ⟨c1, c2, c3, c4⟩ := zqy
    rcases (by omega : (m = 1 /\ k = 0) ∨ (m = 1 /\ k = 1) ∨ (m = 2 /\ k = 0) ∨ (m = 2 /\ k = 1)) with ⟨rfl, rfl⟩ | ⟨rfl, rfl⟩ | ⟨rfl, rfl⟩ | ⟨rfl, rfl⟩
    · exact c1
    · exact c2
    · exact c3
    · exact c4
  have hsmall := zlj m (k + 1)
  have htab : m = 2 /\ k = 1 ∨ ¬ (m = 2 /\ k = 1) := Decidable.em _
  unfold zqT at hchk
  split at hchk
  · cases hchk
  rename_i W hW
  simp only [Bool.and_eq_true, decide_eq_true_eq, List.all_eq_true] at hchk
  obtain ⟨⟨hW1, hW7⟩, hrow⟩ := hchk
  rw [hW, Option.bind_some]
  have hfin : ∀ nx : List (List Int), nx.map some = (W.map fun w => zjt W w m) -> W.length <= 4 ∨ (W.length = 7 /\ m = 2 /\ nx = defT) := fun nx hnx => by
    rw [hW] at hsmall
    rcases hsmall hm (by omega) with h | ⟨h1, h2, h3⟩
    · exact .inl h
    · refine .inr ⟨h1, h2, ?_⟩
      rw [h3] at hnx
      have := congrArg (fun l => l.map (fun o : Option (List Int) => o.getD [])) hnx
      simpa [Function.comp_def] using this
  refine Exists.elim (z1E (b := z2W (m : Int) W) (fun z => 0 <= z.1 /\ z.1 <= W.length /\ TapeOk ⟨z.2.1, z.2.2.1⟩ /\ (z.2.2.2.1.length : Int) = z.1 /\ (z.2.2.2.2.length : Int) = z.1 /\ (∀ r ∈ z.2.2.2.2, z6O m W.length r) /\ z.2.2.2.2.map some = (W.take z.1.toNat).map fun w => zjt W w m) (fun z => W.length + 1 - z.1.toNat)
    (fun r => DfaOk r.1 m W.length /\ TapeOk r.2 /\ r.1.next.map some = W.map fun w => zjt W w m) ?_ LFm (0, t1.l, t1.at_, [], []) ⟨by simp, by simp, ht1, by simp, by simp, by simp, by simp⟩ (by simp only [LFm]; omega)) fun r h => ⟨r.1, r.2, W.length, h.1, h.2.1, hW7, h.2.2.1, hfin r.1.next h.2.2.2⟩
  rintro ⟨i, tl, ta, fs, rs⟩ ⟨i0, i1, i2, i3, i4, i5, i6⟩
  simp only at i0 i1 i2 i3 i4 i5 i6 ⊢
  obtain ⟨i, rfl⟩ := Int.eq_ofNat_of_zero_le i0
  simp only [z2W]
  by_cases hi : (i : Int) < (W.length : Int)
  · left
    have hi' : i < W.length := by omega
    rw [if_pos hi, z0Q hi', Option.bind_some]
    obtain ⟨u, t3, e3, u0, u1, ht3⟩ := z5m i2 2 (by omega) (by omega)
    rw [e3, Option.bind_some, z0q _ (by unfold z1s; omega)]
    have hr := hrow _ (List.getElem_mem hi')
    split at hr
    · cases hr
    rename_i r hr0
    simp only [Bool.and_eq_true, decide_eq_true_eq, List.all_eq_true] at hr
    rw [zsf (by omega) hr0, z0q _ (by unfold z1s; omega), z1Z (by omega) (by omega)]
    refine ⟨_, rfl, ⟨by simp only; omega, by simp only; omega, ht3, by simp only [List.length_append, List.length_singleton]; omega, by simp only [List.length_append, List.length_singleton]; omega, fun y hy => ?_, ?_⟩, by simp only; omega⟩
    rotate_left
    · rw [Int.toNat_natCast] at i6
      have e : ((i : Int) + 1).toNat = i + 1 := by omega
      rw [e, List.map_append, i6, List.take_succ_eq_append_getElem hi', List.map_append, List.map_cons, List.map_nil, List.map_cons, List.map_nil, hr0]
    rcases z9C.1 hy with h | rfl
    · exact i5 y h
    · exact ⟨hr.1, fun x hx => hr.2 x hx⟩
  · right
    rw [if_neg hi]
    exact ⟨_, rfl, ⟨rfl, by omega, by omega, by omega, by simp only; omega, by simp only; omega, by simp only; omega, by simp only; omega, i5⟩, i2, by rw [i6, show (i : Int).toNat = W.length by omega, List.take_length]⟩
theorem zqE {t : Tape} (ht : TapeOk t) (m : Nat) (hm : 1 <= m /\ m <= 2) : ∃ d t' n, z4B t m 4 = some (d, t') /\ DfaOk d m n /\ n <= 7 /\ TapeOk t' /\ (z6m d m n).length <= 32 /\ (n <= 4 ∨ (n = 7 /\ m = 2 /\ d.next = defT)) := by
  unfold z4B
  obtain ⟨v, t1, e1, v0, v1, ht1⟩ := z5m ht 6 (by omega) (by omega)
  simp only [e1, Option.bind_some]
  split
  · obtain ⟨d, t', n, e, h1, h2, h3⟩ := zjE ht1 m 4 (by omega) (by omega)
    exact ⟨d, t', n, by have e' : z2H t1 (m : Int) 4 = some (d, t') := e; rw [e', Option.bind_some], h1, by omega, h3, zhX h1 (by omega), .inl (by omega)⟩
  · split
    · have : (if (4 : Int) < 4 then (4 : Int) else 4) = ((4 : Nat) : Int) := by split <;> rfl
      rw [this]
      obtain ⟨d, t', n, e, h1, h2, h3⟩ := zo0 ht1 m 4 (by omega) (by omega)
      exact ⟨d, t', n, by rw [e, Option.bind_some], h1, by omega, h3, zhX h1 (by omega), .inl (by omega)⟩
    · split
      · obtain ⟨d, t', n, e, h1, h2, h3, h4⟩ := zg9 ht1 m hm
        refine ⟨d, t', n, by rw [e, Option.bind_some], h1, h2, h3, ?_, h4⟩
        rcases h4 with h4 | ⟨rfl, rfl, h4⟩
        · exact zhX h1 (by omega)
        · obtain ⟨l, s, f, nx⟩ := d
          simp only at h4
          subst h4
          rw [zwR]; omega
      · obtain ⟨d, t', n, e, h1, h2, h3⟩ := zpc ht1 m 4 (by omega) (by omega)
        exact ⟨d, t', n, by have e' : z3z t1 (m : Int) 4 = some (d, t') := e; rw [e', Option.bind_some], h1, by omega, h3, zhX h1 (by omega), .inl (by omega)⟩
end
section
open Go
set_option maxRecDepth 100000
structure HolOk (m n : Nat) (h : Hol) : Prop where
  t1 : 1 <= h.tiles.length
  t2 : h.tiles.length <= 32
  wp : h.words.length = h.perms.length
  wl : h.words.length <= 1000
  wb : ∀ w ∈ h.words, w.size <= 257
  pl : ∀ p ∈ h.perms, p.length = h.tiles.length
section
variable {d : DFA} {m n : Nat} {S : List Nat} (hd : DfaOk d m n) (hn : n <= 7) (hS : SetsP d m n S)
include hd hn hS
theorem zfY {c : Nat} (hc : c < (z6H d m n S).length) (hz : szN (S.getD (z1I d m n S c) 0) ≠ 1) (hpos : ∀ x ∈ S, x ≠ 0) (h32 : S.length <= 32) : HolOk m n (za1 d m n S c) /\ zuo d m n (za1 d m n S c) = true := by
  have h128 : 2 ^ n <= 128 := Nat.pow_le_pow_right (n := 2) (by omega) hn
  have h6 := hd.m6
  have hk := (z3x hd hn hS hc).2
  have hI := zn9 hd hn hS (c := c) S.length (Nat.le_refl _)
  obtain ⟨t1, t2⟩ := z6B hd hn hS hk
  have tl32 : (z1O S (z1I d m n S c)).length <= S.length := zap t1 fun t ht => (t2 t ht).1
  have hkl := hS.lt _ (z0r hk)
  have tpos : 1 <= (z1O S (z1I d m n S c)).length := by
    have hne := hpos _ (z0r hk)
    obtain ⟨q, hq⟩ : ∃ q, (S.getD (z1I d m n S c) 0).testBit q = true := by
      refine Classical.byContradiction fun h => hne (Nat.eq_of_testBit_eq fun q => ?_)
      rw [Nat.zero_testBit]
      cases hh : (S.getD (z1I d m n S c) 0).testBit q with
      | false => rfl
      | true => exact absurd ⟨q, hh⟩ h
    obtain ⟨t, ht, _⟩ := zlh hd hn hS hk hz hq
    have := List.length_pos_of_mem ht
    rw [zle]; omega
  have hB : S.length * m <= 32 * 6 := Nat.mul_le_mul h32 h6
  have hbd := hI.bd
  have hln := hI.len
  have htI : (toI (z1O S (z1I d m n S c))).length = (z1O S (z1I d m n S c)).length := z0d _
  refine ⟨⟨by simp only [za1]; omega, by simp only [za1]; omega, by simp only [za1, List.length_map]; omega, by simp only [za1]; omega, fun w hw => ?_, fun p hp => ?_⟩, zmQ.2 ⟨?_, by simp only [za1, List.length_map]; omega, by simp only [za1]; omega, ?_, fun j hj => ?_⟩⟩
  · simp only [za1] at hw
    obtain ⟨j, hj, rfl⟩ := List.getElem_of_mem hw
    obtain ⟨_, e, _⟩ := z9M hI hj
    rw [List.getD, List.getElem?_eq_getElem hj, Option.getD_some] at e
    omega
  · simp only [za1] at hp ⊢
    obtain ⟨y, hy, rfl⟩ := List.mem_map.1 hp
    rw [z0d, z0d, zis hI y hy]
  · simp only [za1]; exact zi1.2 ⟨by omega, by rw [Int.toNat_natCast]; exact hkl⟩
  · simp only [za1]
    refine List.all_eq_true.2 fun x hx => ?_
    obtain ⟨t, ht, rfl⟩ := List.mem_map.1 hx
    exact zi1.2 ⟨by omega, by rw [Int.toNat_natCast]; exact (t2 t ht).2.2⟩
  · simp only [za1] at hj ⊢
    obtain ⟨l1, l2, l3⟩ := z9M hI hj
    have hj2 : j < (zeA d m n S (z1O S (z1I d m n S c)) c S.length).2.length := by omega
    have ep : ((zeA d m n S (z1O S (z1I d m n S c)) c S.length).2.map toI).getD j [] = toI ((zeA d m n S (z1O S (z1I d m n S c)) c S.length).2.getD j []) := by
      simp [List.getD, hj2]
    rw [l3] at ep
    obtain ⟨p1, p2, p3⟩ := z8f hd hn hS hk l1
    generalize hw : (zeA d m n S (z1O S (z1I d m n S c)) c S.length).1.getD j ByteArray.empty = w at *
    refine ⟨⟨by omega, l1.hw⟩, ?_, ?_⟩
    · rw [ep, htI]
      refine zdW.2 ⟨by rw [z0d, z9B], fun x hx => ?_, ?_⟩
      · obtain ⟨y, hy, rfl⟩ := List.mem_map.1 hx
        have := p2 y hy
        omega
      · exact List.Pairwise.map _ (fun a b (hab : a ≠ b) => by intro e; exact hab (by omega)) p1
    · unfold zq5
      simp only [za1]
      rw [hw, ep, htI, Bool.and_eq_true, decide_eq_true_eq, Int.toNat_natCast]
      refine ⟨by rw [l1.run], List.all_eq_true.2 fun i hi => ?_⟩
      have hi := List.mem_range.1 hi
      have hpi : i < (z2R d w.data.toList (z1O S (z1I d m n S c))).length := by rw [z9B]; exact hi
      have g1 : (toI (z1O S (z1I d m n S c))).getD i 0 = (((z1O S (z1I d m n S c)).getD i 0 : Nat) : Int) := by simp [toI, List.getD, hi]
      have g2 : (toI (z2R d w.data.toList (z1O S (z1I d m n S c)))).getD i 0 = (((z2R d w.data.toList (z1O S (z1I d m n S c))).getD i 0 : Nat) : Int) := by simp [toI, List.getD, hpi]
      have hlt := p2 _ (z0r hpi)
      have g3 : (toI (z1O S (z1I d m n S c))).getD ((z2R d w.data.toList (z1O S (z1I d m n S c))).getD i 0) 0 = (((z1O S (z1I d m n S c)).getD ((z2R d w.data.toList (z1O S (z1I d m n S c))).getD i 0) 0 : Nat) : Int) := by
        generalize (z2R d w.data.toList (z1O S (z1I d m n S c))).getD i 0 = q at *
        simp [toI, List.getD, hlt]
      rw [g1, g2, Int.toNat_natCast, Int.toNat_natCast, g3, p3 i hi, decide_eq_true_eq]
end
end
section
open Go
noncomputable section
set_option maxRecDepth 100000
set_option maxHeartbeats 6000000
abbrev z5t (a0 : List Int) (a1 : List Int) : Int -> Option (Int ⊕ Bool)
  | w10 =>
  if w10 < (a0.length : Int) then
    (atI a0 w10).bind fun v13 =>
    (atI a1 w10).bind fun v14 =>
    if v13 = v14 then
      z0e (IntKind.i64.wrap (w10 + 1))
    else
      z0l <|
      some false
  else
    z0l <|
    some true
instance {a0 : List Int} {a1 : List Int} : Hd (z5t a0 a1) := ⟨fun w10 => ([(13, xI w10)], [])⟩
def z5F (a0 : List Int) (a1 : List Int) : Option (Bool) :=
  if (a0.length : Int) = (a1.length : Int) then
    z0m (z5t a0 a1) LFm 0
  else
    some false
instance ref03_Same_ok {a0 : List Int} {a1 : List Int} : Ok (z5F a0 a1) (fun r => L 17 [.sl a0.length (a0.map fun x0 => .sc (.int .i64 x0)), .sl a1.length (a1.map fun x0 => .sc (.int .i64 x0))] = some (.sc (.bool r), [.dead, .dead])) := ⟨fun r h => by have h := z4u h; unfold z5F at h; exact z4X zv3 zwM zyu⟩
abbrev z3e (w225 : List (List Int)) (v276 : List Int) (w293 : Int) : Int × List (List Int) × (List (ByteArray × Bool)) -> Option ((Int × List (List Int) × (List (ByteArray × Bool))) ⊕ ((Int × List (List Int) × (List (ByteArray × Bool))) ⊕ ((Int × List (List Int) × (List (ByteArray × Bool)) × List (List Int)) ⊕ (List (List Int) × Int))))
  | (w315, w316, w317) =>
  if w315 < ((w225.length : Int) + 1) then
    (atI (w225 ++ [v276]) w315).bind fun v322 =>
    (atI w316 w293).bind fun v323 =>
    (z4c v323 v322).bind fun v324 =>
    (z4S v324).bind fun v325 =>
    if ((z9P v325 w317).getD false) = true then
      z0e (IntKind.i64.wrap (w315 + 1), w316, w317)
    else
      chk (z1s 24 (w316.length + 1)) <|
      z0e (IntKind.i64.wrap (w315 + 1), w316 ++ [v324], z9u v325 true w317)
  else
    z0l <|
    if 2000 < (w316.length : Int) then
      z0l <|
      z0l <|
      some ([], 3)
    else
      z0e (IntKind.i64.wrap (w293 + 1), w316, w317)
instance {w225 : List (List Int)} {v276 : List Int} {w293 : Int} : Hd (z3e w225 v276 w293) := ⟨fun (w315, w316, w317) => ([(57, xI w315)], [(6, .os 1 w316.length (w316.map fun x0 => .sl x0.length (x0.map fun x1 => .sc (.int .i64 x1)))), (7, .mp none (w317.map fun x0 => (.string x0.1, .bool x0.2)))])⟩
abbrev z3f (w222 : Int) (w225 : List (List Int)) (v276 : List Int) : Int × List (List Int) × (List (ByteArray × Bool)) -> Option ((Int × List (List Int) × (List (ByteArray × Bool))) ⊕ ((Int × List (List Int) × (List (ByteArray × Bool)) × List (List Int)) ⊕ (List (List Int) × Int)))
  | (w293, w294, w295) =>
  if w293 < (w294.length : Int) then
    z0m (z3e w225 v276 w293) LFm (0, w294, w295)
  else
    z0l <|
    z0e (IntKind.i64.wrap (w222 + 1), w294, w295, w225 ++ [v276])
instance {w222 : Int} {w225 : List (List Int)} {v276 : List Int} : Hd (z3f w222 w225 v276) := ⟨fun (w293, w294, w295) => ([(11, xI w293)], [(6, .os 1 w294.length (w294.map fun x0 => .sl x0.length (x0.map fun x1 => .sc (.int .i64 x1)))), (7, .mp none (w295.map fun x0 => (.string x0.1, .bool x0.2)))])⟩
abbrev z3K (a0 : List (List Int)) : Int × List (List Int) × (List (ByteArray × Bool)) × List (List Int) -> Option ((Int × List (List Int) × (List (ByteArray × Bool)) × List (List Int)) ⊕ (List (List Int) × Int))
  | (w222, w223, w224, w225) =>
  if w222 < (a0.length : Int) then
    (atI a0 w222).bind fun v276 =>
    (z4S v276).bind fun v277 =>
    if ((z9P v277 w224).getD false) = true then
      z0e (IntKind.i64.wrap (w222 + 1), w223, w224, w225)
    else
      chk (z1s 24 (w225.length + 1)) <|
      z0m (z3f w222 w225 v276) LFm (0, w223, w224)
  else
    z0l <|
    (zj8 w223).bind fun v326 =>
    some (v326, 0)
instance {a0 : List (List Int)} : Hd (z3K a0) := ⟨fun (w222, w223, w224, w225) => ([(37, xI w222)], [(6, .os 1 w223.length (w223.map fun x0 => .sl x0.length (x0.map fun x1 => .sc (.int .i64 x1)))), (7, .mp none (w224.map fun x0 => (.string x0.1, .bool x0.2))), (8, .os 1 w225.length (w225.map fun x0 => .sl x0.length (x0.map fun x1 => .sc (.int .i64 x1))))])⟩
def z3F (a0 : List (List Int)) : Option (List (List Int) × Int) :=
  if (a0.length : Int) = 0 then
    some ([], 1)
  else
    (atI a0 0).bind fun v164 =>
    (z3d a0 (v164.length : Int)).bind fun v165 =>
    if v165 = true then
      (z4h (v164.length : Int)).bind fun v166 =>
      (z4S v166).bind fun v167 =>
      z0m (z3K a0) LFm (0, [v166], z9u v167 true ([] : List (ByteArray × Bool)), [])
    else
      some ([], 4)
instance group_Generate_ok {a0 : List (List Int)} : Ok (z3F a0) (fun r => L 22 [.sl a0.length (a0.map fun x0 => .sl x0.length (x0.map fun x1 => .sc (.int .i64 x1)))] = some (.tup [.sl r.1.length (r.1.map fun x0 => .sl x0.length (x0.map fun x1 => .sc (.int .i64 x1))), .sc (.int .i64 r.2)], [.dead])) := ⟨fun r h => by have h := z4u h; unfold z3F at h; exact zht zv1 zwK zys⟩
abbrev z2B (a0 : Hol) : Int × List Int -> Option ((Int × List Int) ⊕ (List (List Int) × Int))
  | (w8, w9) =>
  if w8 < (a0.tiles.length : Int) then
    (atI w9 w8).bind fun v11 =>
    z0e (IntKind.i64.wrap (w8 + 1), (w9.set w8.toNat w8))
  else
    z0l <|
    if (a0.perms.length : Int) = 0 then
      some ([w9], 0)
    else
      (z3F a0.perms).bind fun v12 =>
      some (v12.1, v12.2)
instance {a0 : Hol} : Hd (z2B a0) := ⟨fun (w8, w9) => ([(27, xI w8)], [(5, .os 1 w9.length (w9.map fun x0 => .sc (.int .i64 x0)))])⟩
def z2I (a0 : Hol) : Option (List (List Int) × Int) :=
  if (a0.tiles.length : Int) < 1 then
    some ([], 4)
  else
    if 32 < (a0.tiles.length : Int) then
      some ([], 4)
    else
      (z2o a0.perms (a0.tiles.length : Int)).bind fun v7 =>
      if v7 = true then
        chk (z1g 8 (a0.tiles.length : Int)) <|
        z0m (z2B a0) LFm (0, List.replicate (a0.tiles.length : Int).toNat (0 : Int))
      else
        some ([], 4)
instance holonomy_Elements_ok {a0 : Hol} : Ok (z2I a0) (fun r => L 9 [.agg [.sc (.int .i64 a0.set), .sl a0.tiles.length (a0.tiles.map fun x0 => .sc (.int .i64 x0)), .sl a0.words.length (a0.words.map fun x0 => .sc (.string x0)), .sl a0.perms.length (a0.perms.map fun x0 => .sl x0.length (x0.map fun x1 => .sc (.int .i64 x1)))]] = some (.tup [.sl r.1.length (r.1.map fun x0 => .sl x0.length (x0.map fun x1 => .sc (.int .i64 x1))), .sc (.int .i64 r.2)], [.dead])) := ⟨fun r h => by have h := z4u h; unfold z2I at h; exact zht zwX fn9 bd9⟩
end
end
section
open Go Go.RowKit Go.Sort
set_option maxRecDepth 100000
set_option maxHeartbeats 4000000
theorem z7L : ∀ x y : List Int, z7g y x = -z7g x y
  | [], [] => by simp [z7g]
  | [], _ :: _ => by simp [z7g]
  | _ :: _, [] => by simp [z7g]
  | a :: x, b :: y => by
    have ih := z7L x y
    simp only [z7g]
    by_cases h1 : a < b
    · have h2 : ¬ b < a := by omega
      simp only [if_neg h2, if_pos h1]; omega
    · by_cases h2 : b < a
      · simp only [if_pos h2, if_neg h1]
      · simp only [if_neg h2, if_neg h1]; exact ih
theorem z8o : ∀ x y z : List Int, z7g x y <= 0 -> z7g y z <= 0 -> z7g x z <= 0 /\ (z7g x z = 0 -> z7g x y = 0 /\ z7g y z = 0)
  | [], [], z, _, h2 => ⟨h2, fun e => ⟨by simp [z7g], e⟩⟩
  | [], b :: y, [], _, h2 => by simp [z7g] at h2
  | [], b :: y, c :: z, _, _ => by simp [z7g]
  | a :: x, [], _, h1, _ => by simp [z7g] at h1
  | a :: x, b :: y, [], _, h2 => by simp [z7g] at h2
  | a :: x, b :: y, c :: z, h1, h2 => by
    have ih := z8o x y z
    simp only [z7g] at h1 h2 ⊢
    by_cases h3 : a < b
    · by_cases h4 : b < c
      · rw [if_pos (show a < c by omega)]; exact ⟨by omega, fun e => by omega⟩
      · rw [if_neg h4] at h2
        by_cases h5 : c < b
        · rw [if_pos h5] at h2; omega
        · rw [if_pos (show a < c by omega)]; exact ⟨by omega, fun e => by omega⟩
    · rw [if_neg h3] at h1
      by_cases h4 : b < a
      · rw [if_pos h4] at h1; omega
      · rw [if_neg h4] at h1
        have hab : a = b := by omega
        subst hab
        by_cases h5 : a < c
        · simp only [if_pos h5]; exact ⟨by omega, fun e => by omega⟩
        · simp only [if_neg h5] at h2
          by_cases h6 : c < a
          · simp only [if_pos h6] at h2; omega
          · simp only [if_neg h6] at h2
            simp only [if_neg h5, if_neg h6, if_neg h3, if_neg h4]
            exact ih h1 h2
theorem zca (x : List Int) : ∀ l : List (List Int), (zq9 x l).Perm (x :: l)
  | [] => .refl _
  | y :: l => by
    unfold zq9
    split
    · exact .refl _
    · exact ((zca x l).cons y).trans (.swap x y l)
theorem z8c : ∀ l : List (List Int), (zah l).Perm l
  | [] => .refl _
  | x :: l => (zca x (zah l)).trans ((z8c l).cons x)
abbrev zqG (l : List (List Int)) : Prop := l.Pairwise fun a b => z7g a b <= 0
theorem zc9 (x : List Int) : ∀ l : List (List Int), zqG l -> zqG (zq9 x l)
  | [], _ => by simp [zq9]
  | y :: l, h => by
    unfold zq9
    rw [zqG, List.pairwise_cons] at h
    split
    · rename_i hxy
      refine List.pairwise_cons.2 ⟨fun z hz => ?_, List.pairwise_cons.2 h⟩
      rcases List.mem_cons.1 hz with rfl | hz
      · exact hxy
      · exact (z8o _ _ _ hxy (h.1 z hz)).1
    · rename_i hxy
      refine List.pairwise_cons.2 ⟨fun z hz => ?_, zc9 x l h.2⟩
      rcases List.mem_cons.1 ((zca x l).mem_iff.1 hz) with rfl | hz
      · rw [z7L]; omega
      · exact h.1 z hz
theorem zaE : ∀ l : List (List Int), zqG (zah l)
  | [] => by simp [zah]
  | x :: l => zc9 x _ (zaE l)
theorem znK {l r : List (List Int)} (h : l.Perm r) (h1 : zqG l) (h2 : zqG r) : l = r := by
  refine List.Perm.eq_of_pairwise (le := fun a b => z7g a b <= 0) (fun a b _ _ h3 h4 => ?_) h1 h2 h
  rw [z7L] at h4
  exact (zct a b).1 (by omega)
def zkq (B : Nat) (K : Nat -> z0a) (b : Nat) : z0a := if B <= b then [0] else K b
def rwN (n j : Nat) : Nat := if j < n then j else 0
def cfR (rows : List (List Int)) (i j : Nat) : Int := z7g (rows.getD (rwN rows.length i) []) (rows.getD (rwN rows.length j) [])
theorem zvI (rows : List (List Int)) : SWO (ltOf (cfR rows)) where
  irrefl x := by
    unfold ltOf cfR
    rw [(zct _ _).2 rfl]; simp
  trans x y z h1 h2 := by
    unfold ltOf cfR at *
    simp only [decide_eq_true_eq] at *
    obtain ⟨a, b⟩ := z8o _ _ _ (Int.le_of_lt h1) (Int.le_of_lt h2)
    rcases Int.lt_or_eq_of_le a with h | h
    · exact h
    · have := (b h).1; omega
  ntrans x y z h1 h2 := by
    unfold ltOf cfR at *
    simp only [decide_eq_false_iff_not] at *
    rw [z7L] at h1 h2 ⊢
    have := (z8o _ _ _ (show z7g (rows.getD (rwN rows.length z) []) (rows.getD (rwN rows.length y) []) <= 0 by omega) (show z7g (rows.getD (rwN rows.length y) []) (rows.getD (rwN rows.length x) []) <= 0 by omega)).1
    omega
theorem zgF {rows : List (List Int)} {d' : Array Nat} (hp : PermIn 0 (List.range rows.length).toArray.size (List.range rows.length).toArray d') (hs : SortedIn (ltOf (cfR rows)) 0 (List.range rows.length).toArray.size d') : d'.size = rows.length /\ (∀ x ∈ d'.toList, x < rows.length) /\ d'.toList.map (fun j => rows.getD j []) = zah rows := by
  obtain ⟨h1, _, h3⟩ := hp
  have hsz : d'.size = rows.length := by simpa using h1
  have hp2 : d'.toList.Perm (List.range rows.length) := by
    have : (d'.extract 0 (List.range rows.length).toArray.size).toList = d'.toList := by
      rw [← h1]; simp
    rw [this] at h3
    simp at h3
    exact h3
  have hlt : ∀ x ∈ d'.toList, x < rows.length := fun x hx => List.mem_range.1 (hp2.mem_iff.1 hx)
  have e1 : (List.range rows.length).map (fun j => rows.getD j []) = rows := by
    refine List.ext_getElem (by simp) fun i h1 h2 => ?_
    simp [List.getD, h2]
  refine ⟨hsz, hlt, znK ?_ ?_ (zaE rows)⟩
  · have := hp2.map (fun j => rows.getD j [])
    rw [e1] at this
    exact this.trans (z8c rows).symm
  · rw [zqG, List.pairwise_iff_getElem]
    intro i j hi hj hij
    simp only [List.length_map, Array.length_toList] at hi hj
    have := hs i j (by omega) hij (by simp; omega)
    rw [getElem!_pos d' i hi, getElem!_pos d' j hj] at this
    unfold ltOf cfR rwN at this
    simp only [decide_eq_false_iff_not] at this
    have l1 := hlt d'[i] (by simp)
    have l2 := hlt d'[j] (by simp)
    rw [if_pos l1, if_pos l2, z7L] at this
    simp only [List.getElem_map, Array.getElem_toList]
    omega
theorem z9N {α : Type} [Inhabited α] {enc : α -> Value} {w : World} {g n : Nat} {os : Array Obj} {cur : Array Value} {e : TypeId} {fr : Nat × Nat} (d : Array α) (hb : w.heap[g]? = some (.cells cur e fr)) : (sortWorld enc w g 0 n d os).heap[g]? = some (.cells (putCells enc 0 d cur) e fr) := by
  unfold sortWorld
  rw [heap_grow_old _ _ (by rw [size_putRow]; exact z1r hb)]
  simp [putRow, mapBlock, Sort.ahead, Array.getElem?_modify, hb, onCells]
theorem z5Y {α : Type} [Inhabited α] {enc : α -> Value} {w : World} {g n : Nat} {os : Array Obj} (d : Array α) {b : Nat} (hb : b < w.heap.size) (hne : b ≠ g) : (sortWorld enc w g 0 n d os).heap[b]? = w.heap[b]? := by
  unfold sortWorld
  rw [heap_grow_old _ _ (by rw [size_putRow]; exact hb)]
  simp [putRow, mapBlock, Sort.ahead, Array.getElem?_modify, Ne.symm hne]
theorem z7p {α : Type} [Inhabited α] {enc : α -> Value} {w : World} {g n : Nat} {os : Array Obj} (d : Array α) : w.heap.size <= (sortWorld enc w g 0 n d os).heap.size := by
  unfold sortWorld
  rw [size_grow, size_putRow]
  show w.heap.size <= w.heap.size + _
  omega
theorem zdR {w w' : World} {K K' : Nat -> z0a} {c c' : z0a} {v : Value} {x : List Int} (h : TRep w K c v (zgn x)) (hk : ∀ b, b < w.heap.size -> K b = [] -> K' b = [] /\ w'.heap[b]? = w.heap[b]?) (hs : w.heap.size <= w'.heap.size) : TRep w' K' c' v (zgn x) /\ IntsAt w' v x := by
  unfold zgn at *
  generalize hT : T.sl x.length (x.map fun z => T.sc (.int .i64 z)) = t at h
  cases h with
  | emp c a cap hc =>
    injection hT with e1 e2
    have : x = [] := List.eq_nil_of_length_eq_zero e1
    subst this
    exact ⟨.emp c' a cap hc, a, cap, rfl, by simp, hc, fun j hj => by simp at hj⟩
  | fro c g o n cap cs F hK hg hn hc hF hh =>
    injection hT with e1 e2
    subst e1 e2
    obtain ⟨k1, k2⟩ := hk g hg hK
    have hcell : ∀ j, j < x.length -> w'.cell? ⟨g, o + j, none⟩ = some (F j) := fun j hj => by
      rw [z1k k2]; exact hF j (by simpa using hj)
    have hv : ∀ j (hj : j < x.length), F j = .int .i64 (x.getD j 0) := fun j hj => by
      have := hh j (.sc (.int .i64 x[j])) (by simp [hj])
      rw [this.sc_eq, List.getD, List.getElem?_eq_getElem hj, Option.getD_some]
    refine ⟨.fro c' g o _ cap _ F k1 (by omega) hn hc (fun j hj => hcell j (by simpa using hj)) (fun j t ht => ?_), some ⟨g, o, none⟩, cap, rfl, hn, hc, fun j hj => ⟨g, o, rfl, by rw [hcell j hj, hv j hj]⟩⟩
    have := hh j t ht
    simp only [List.getElem?_map, Option.map_eq_some_iff] at ht
    obtain ⟨z, hz, rfl⟩ := ht
    rw [this.sc_eq]
    exact .sc _ _ rfl
  | _ => cases hT
theorem znU {w : World} {K : Nat -> z0a} {c : z0a} {v : Value} {x : List Int} (h : TRep w K c v (zgn x)) : v.oneCell' = true := by
  unfold zgn at h
  generalize hT : T.sl x.length (x.map fun z => T.sc (.int .i64 z)) = t at h
  cases h with
  | emp => rfl
  | fro => rfl
  | _ => cases hT
theorem zgr {I : World -> (Nat -> z0a) -> Prop} {args : List T} {r : T} {outs : List T} (h : znk 42 args = some (r, outs)) : CallOk Tryz.prog I 41 args r outs := by
  unfold znk at h
  split at h
  case h_2 => cases h
  rename_i n cs f fs gs
  split at h
  case isFalse => cases h
  rename_i hfg
  obtain ⟨rfl, hfs, hgs⟩ := hfg
  simp only [Array.isEmpty_iff] at hfs hgs
  subst hfs hgs
  split at h
  case h_2 => cases h
  rename_i xs hxs
  split at h
  case isFalse => cases h
  rename_i hn
  subst hn
  unfold zj8 at h
  split at h
  case isFalse => cases h
  rename_i hc
  obtain ⟨hne, hlen⟩ := hc
  obtain ⟨rfl, rfl⟩ : T.tup [] = r /\ [T.os 1 (zah xs).length ((zah xs).map zgn), .dead] = outs := by simpa using h
  have hcs := zfu hxs
  subst hcs
  clear h hxs
  refine ⟨fun vals w => ?_, fun w K vals hs ha hI => ?_⟩
  · have hb : ∃ c, Tryz.f41.body = some c := ⟨_, rfl⟩
    obtain ⟨c, hb⟩ := hb
    have hname : Tryz.f41.name ≠ "runtime.NumGoroutine" := by decide
    simp [callFunc, program, Sem.run, Tryz.func41, hname, hb]
  · obtain ⟨v, u, rfl⟩ : ∃ v u, vals = #[v, u] := by
      obtain ⟨l⟩ := vals
      match l, hs with
      | [v, u], _ => exact ⟨v, u, rfl⟩
    have hv : TRep w K (col 0) v (.os 1 xs.length (xs.map zgn)) := ha 0 _ rfl
    have hu : TRep w K [] u (.sc (.func (.func 42) #[] #[])) := ha 1 _ rfl
    rw [hu.sc_eq]
    clear hu ha
    have hl0 : 0 < xs.length := List.length_pos_iff.2 hne
    generalize hT : T.os 1 xs.length (xs.map zgn) = t at hv
    cases hv with
    | nil => injection hT with _ e _; omega
    | own c g n cap size cs arr e fz F hfz hc0 hK hg hsz hl hz hn hcap hF hh =>
      injection hT with e1 e2 e3
      subst e1 e2 e3
      have hrow : ∀ j, j < xs.length -> TRep w K (col 0 ++ [j]) (F j) (zgn (xs.getD j [])) := fun j hj => by
        have := hh j (zgn xs[j]) (by simp [hj])
        rwa [List.getD, List.getElem?_eq_getElem hj, Option.getD_some]
      have hcell : ∀ j, j < xs.length -> arr[j]? = some (F j) := fun j hj => hF j (by simpa using hj)
      let enc : Nat -> Value := fun j => F (rwN xs.length j)
      have hdg : ∀ j, j < xs.length -> (List.range xs.length).toArray[j]! = j := fun j hj => by
        rw [getElem!_pos _ j (by simpa using hj)]; simp
      have hH : Holds enc w g 0 (List.range xs.length).toArray := fun j hj => by
        have hj' : j < xs.length := by simpa using hj
        constructor
        · rw [Nat.zero_add, z3g hg, hcell j hj', hdg j hj']
          show some (F j) = some (F (rwN xs.length j))
          rw [rwN, if_pos hj']
        · unfold World.frozen?
          rw [Nat.zero_add]
          simp only [hg]
          have := hfz j (by omega)
          obtain ⟨lo, hi⟩ := fz
          simp only at this ⊢
          simp only [Bool.and_eq_false_iff, decide_eq_false_iff_not]
          omega
      have eg : ∀ args w, (callFunc 42 args).run Tryz.prog w = .ok (.enter 42 args) w := enters_of Tryz.func42 (by kernel_rfl) rfl
      have hlay : ∀ (d : Array Nat) (m : Nat) (os : Array Obj) (b : Nat), b < w.heap.size -> K b = [] -> K b = [] /\ (sortWorld enc w g 0 m d os).heap[b]? = w.heap[b]? := fun d m os b hb hk => ⟨hk, z5Y d hb (by rintro rfl; rw [hK] at hk; simp [col] at hk)⟩
      have hrw : ∀ j, rwN xs.length j < xs.length := fun j => by unfold rwN; split <;> omega
      have hcmp : CmpLays1 Tryz.prog 42 #[] enc (cfR xs) g 0 (List.range xs.length).toArray.size w := fun m os dk _ x y => by
        refine (zdK (enc x) (enc y) _ _ _ (zdR (c' := []) (hrow _ (hrw x)) (hlay dk m os) (z7p dk)).2 (zdR (c' := []) (hrow _ (hrw y)) (hlay dk m os) (z7p dk)).2).mono ?_
        rintro e' w' ⟨he, hw⟩
        exact ⟨he, 0, #[], by rw [← hw, grow_empty]; rfl⟩
      have hcon := Tryz.slices_SortFunc_f41 enc (fun j => znU (hrow _ (hrw j))) (cfR xs) (zvI xs) 42 #[] g 0 cap (List.range xs.length).toArray w eg hcmp hH (z1r hg) (by simpa using hlen)
      have hsize : (List.range xs.length).toArray.size = xs.length := by simp
      rw [hsize] at hcon
      refine hcon.mono fun e' w' ⟨he, d', m, os, hp, hso, hw⟩ => ?_
      subst hw
      obtain ⟨hd, hdl, hsort⟩ := zgF (by rw [hsize]; exact hp) (by rw [hsize]; exact hso)
      have hys : (zah xs).length = xs.length := (z8c xs).length_eq
      refine ⟨.tuple #[], zkq w.heap.size K, he, ?_, fun i t hi hio => ?_, rfl, rfl, rfl, z7p d', fun b hb hcb => ⟨by unfold zkq; rw [if_neg (by omega)], z5Y d' hb ?_⟩, ?_⟩
      · exact .tup _ #[] [] (fun _ => undef) rfl (fun j hj => by simp at hj) (fun j t ht => by simp at ht)
      · match i, hi with
        | 0, hi =>
          refine ⟨_, rfl, ?_⟩
          show TRep _ _ (col 0) (.slice (some ⟨g, 0, none⟩) xs.length cap) _
          rw [← hys]
          refine .own (col 0) g _ cap 1 _ (putCells enc 0 d' arr) e fz (fun j => F (d'.toList.getD j 0)) (fun i hi => hfz i (by simpa [putCells] using hi)) (by simp [col]) (by unfold zkq; rw [if_neg (by have := z1r hg; omega)]; exact hK) (z9N d' hg) (by simpa [putCells] using hsz) (by simp) (by omega) (by omega) hcap (fun j hj => ?_) (fun j t ht => ?_)
          · have hj' : j < xs.length := by simpa [hys] using hj
            have hja : j < arr.size := (Array.getElem?_eq_some_iff.1 (hcell j hj')).1
            have hjd : j < d'.size := by omega
            have hjl := hdl d'[j] (by simp)
            simp only [putCells, Array.getElem?_mapIdx, hcell j hj', Option.map_some]
            rw [if_pos (by omega), Nat.sub_zero, getElem!_pos d' j hjd]
            show some (F (rwN xs.length d'[j])) = some (F (d'.toList.getD j 0))
            rw [rwN, if_pos hjl]
            simp [List.getD, hjd]
          · simp only [List.getElem?_map, Option.map_eq_some_iff] at ht
            obtain ⟨x, hx', rfl⟩ := ht
            have hjs : j < (zah xs).length := (List.getElem?_eq_some_iff.1 hx').1
            have hjd : j < d'.toList.length := by rw [Array.length_toList]; omega
            have hjl := hdl d'.toList[j] (List.getElem_mem hjd)
            have ex : x = xs.getD d'.toList[j] [] := by
              have h1 : (d'.toList.map fun j => xs.getD j [])[j]? = some x := by rw [hsort]; exact hx'
              rw [List.getElem?_map, List.getElem?_eq_getElem hjd, Option.map_some] at h1
              exact (Option.some.inj h1).symm
            have e2 : d'.toList.getD j 0 = d'.toList[j] := by rw [List.getD, List.getElem?_eq_getElem hjd, Option.getD_some]
            rw [e2, ex]
            exact (zdR (hrow _ hjl) (fun b hb hk => ⟨by unfold zkq; rw [if_neg (by omega)]; exact hk, (hlay d' m os b hb hk).2⟩) (z7p d')).1
        | 1, hi => cases hi; cases hio
      · rintro rfl
        rw [hK] at hcb
        simp [col] at hcb
      · intro b arr0 e0 fz0 hb0
        by_cases hbg : b = g
        · subst hbg
          rw [hg] at hb0
          cases hb0
          exact ⟨_, _, _, z9N d' hg, by simp [putCells]⟩
        · exact ⟨_, _, _, (z5Y d' (z1r hb0) hbg).trans hb0, rfl⟩
    | _ => cases hT
theorem zeE {I : World -> (Nat -> z0a) -> Prop} {args : List T} {r : T} {outs : List T} (h : zhw args = some (r, outs)) : CallOk Tryz.prog I 117 args r outs := by
  unfold zhw at h
  split at h
  case h_2 => cases h
  rename_i n cs
  split at h
  case h_2 => cases h
  rename_i xs hxs
  split at h
  case isFalse => cases h
  rename_i hn
  subst hn
  unfold zcT at h
  split at h
  case isFalse => cases h
  rename_i hc
  obtain ⟨hne, hlen⟩ := hc
  have hcs := z7z hxs
  subst hcs
  clear hxs
  have hys : (xs.mergeSort fun x y => decide (x <= y)).length = xs.length := List.length_mergeSort xs
  simp only [Option.map_some, Option.some.injEq, Prod.mk.injEq] at h
  generalize hgen : (xs.mergeSort fun x y => decide (x <= y)) = ys at h hys
  obtain ⟨rfl, rfl⟩ := h
  refine ⟨fun vals w => ?_, fun w K vals hs ha hI => ?_⟩
  · have hb : ∃ c, Tryz.f117.body = some c := ⟨_, rfl⟩
    obtain ⟨c, hb⟩ := hb
    have hname : Tryz.f117.name ≠ "runtime.NumGoroutine" := by decide
    simp [callFunc, program, Sem.run, Tryz.func117, hname, hb]
  · obtain ⟨v, rfl⟩ : ∃ v, vals = #[v] := by
      obtain ⟨l⟩ := vals
      match l, hs with
      | [v], _ => exact ⟨v, rfl⟩
    have hv : TRep w K (col 0) v (.os 1 xs.length (xs.map fun x => .sc (.int .i64 x))) := ha 0 _ rfl
    clear ha
    have hl0 : 0 < xs.length := List.length_pos_iff.2 hne
    generalize hT : T.os 1 xs.length (xs.map fun x => T.sc (.int .i64 x)) = t at hv
    cases hv with
    | nil => injection hT with _ e _; omega
    | own c g n cap size cs arr e fz F hfz hc0 hK hg hsz hl hz hn hcap hF hh =>
      injection hT with e1 e2 e3
      subst e1 e2 e3
      have hcell : ∀ j (hj : j < xs.length), arr[j]? = some (.int .i64 xs[j]) := fun j hj => by
        rw [hF j (by simpa using hj)]
        have := hh j (.sc (.int .i64 xs[j])) (by simp [hj])
        rw [this.sc_eq]
      have hH : Holds (Value.int .i64) w g 0 xs.toArray := fun j hj => by
        have hj' : j < xs.length := by simpa using hj
        constructor
        · rw [Nat.zero_add, z3g hg, hcell j hj', getElem!_pos _ j hj]; simp
        · unfold World.frozen?
          rw [Nat.zero_add]
          simp only [hg]
          have := hfz j (by omega)
          obtain ⟨lo, hi⟩ := fz
          simp only at this ⊢
          simp only [Bool.and_eq_false_iff, decide_eq_false_iff_not]
          omega
      have hcon := Tryz.slices_Sort_int g 0 cap xs w hH (z1r hg) hlen
      refine hcon.mono fun e' w' ⟨he, m, os, hw⟩ => ?_
      rw [hgen] at hw
      have hw' : w' = sortWorld (Value.int .i64) w g 0 m ys.toArray os := hw
      clear hw
      subst hw'
      refine ⟨.tuple #[], zkq w.heap.size K, he, ?_, fun i t hi hio => ?_, rfl, rfl, rfl, z7p _, fun b hb hcb => ⟨by unfold zkq; rw [if_neg (by omega)], z5Y _ hb ?_⟩, ?_⟩
      · exact .tup _ #[] [] (fun _ => undef) rfl (fun j hj => by simp at hj) (fun j t ht => by simp at ht)
      · match i, hi with
        | 0, hi =>
          refine ⟨_, rfl, ?_⟩
          show TRep _ _ (col 0) (.slice (some ⟨g, 0, none⟩) xs.length cap) _
          rw [← hys]
          refine .own (col 0) g _ cap 1 _ (putCells (Value.int .i64) 0 ys.toArray arr) e fz (fun j => .int .i64 (ys.getD j 0)) (fun i hi => hfz i (by simpa [putCells] using hi)) (by simp [col]) (by unfold zkq; rw [if_neg (by have := z1r hg; omega)]; exact hK) (z9N _ hg) (by simpa [putCells] using hsz) (by simp) (by omega) (by omega) hcap (fun j hj => ?_) (fun j t ht => ?_)
          · have hj' : j < xs.length := by simpa [hys] using hj
            have hjd : j < ys.toArray.size := by simp; omega
            simp only [putCells, Array.getElem?_mapIdx, hcell j hj', Option.map_some]
            rw [if_pos (by omega), Nat.sub_zero, getElem!_pos _ j hjd]
            have hjy : j < ys.length := by omega
            simp [List.getD, hjy]
          · simp only [List.getElem?_map, Option.map_eq_some_iff] at ht
            obtain ⟨x, hx', rfl⟩ := ht
            simp only [List.getD, hx']
            exact .sc _ _ rfl
      · rintro rfl
        rw [hK] at hcb
        simp [col] at hcb
      · intro b arr0 e0 fz0 hb0
        by_cases hbg : b = g
        · subst hbg
          rw [hg] at hb0
          cases hb0
          exact ⟨_, _, _, z9N _ hg, by simp [putCells]⟩
        · exact ⟨_, _, _, (z5Y _ (z1r hb0) hbg).trans hb0, rfl⟩
    | _ => cases hT
theorem zqx {w w' : World} {K : Nat -> z0a} (h : Below w.heap.size w w') : Step w K w' (zkq w.heap.size K) :=
  ⟨h.os, h.tape, h.output, h.size, fun b hb _ => ⟨by unfold zkq; rw [if_neg (by omega)], h.block b hb⟩, .olds fun b hb => h.block b hb⟩
theorem zs4 {w : World} {K : Nat -> z0a} {B : Nat} {e : TypeId} {v : Value} {n : Nat} {xs : List Int} (hn : xs.length = n) (h : w.ownsRow B e 1 v n (xs.map (Value.int .i64))) : TRep w (zkq B K) [0] v (.os 1 xs.length (xs.map fun x => .sc (.int .i64 x))) := by
  obtain ⟨h1, h2⟩ := h
  subst hn
  rcases h2 with ⟨rfl, h0⟩ | ⟨g, cap, cur, rfl, hb, hg, hc1, hc2, hs, ht⟩
  · have : xs = [] := List.eq_nil_of_length_eq_zero h0
    subst this
    exact .nil _ _
  · refine .own [0] g xs.length cap 1 _ cur e (0, 0) (fun j => .int .i64 (xs.getD j 0)) (fun i _ => by simp) (by simp) (by unfold zkq; rw [if_pos hb]) hg hs (by simp) (by omega) hc1 hc2 (fun j hj => ?_) (fun j t ht => ?_)
    · have hj' : j < xs.length := by simpa using hj
      have h3 : (cur.toList.take (xs.length * 1))[j]? = (xs.map (Value.int .i64))[j]? := by rw [ht]
      rw [List.getElem?_take_of_lt (by omega), List.getElem?_map, List.getElem?_eq_getElem hj'] at h3
      simp only [Option.map_some, Array.getElem?_toList] at h3
      rw [h3, List.getD, List.getElem?_eq_getElem hj']
      rfl
    · simp only [List.getElem?_map, Option.map_eq_some_iff] at ht
      obtain ⟨x, hx, rfl⟩ := ht
      simp only [List.getD, hx]
      exact .sc _ _ rfl
theorem zeF {I : World -> (Nat -> z0a) -> Prop} {args : List T} {r : T} {outs : List T} (h : zhx args = some (r, outs)) : CallOk Tryz.prog I 116 args r outs := by
  unfold zhx at h
  split at h
  case h_2 => cases h
  rename_i n cs
  split at h
  case h_2 => cases h
  rename_i xs hxs
  split at h
  case isFalse => cases h
  rename_i hn
  subst hn
  unfold zcU at h
  split at h
  case isFalse => cases h
  rename_i hb
  have hcs := z7z hxs
  subst hcs
  clear hxs
  simp only [Option.map_some, Option.some.injEq, Prod.mk.injEq] at h
  obtain ⟨rfl, rfl⟩ := h
  refine ⟨fun vals w => ?_, fun w K vals hs ha hI => ?_⟩
  · have hb : ∃ c, Tryz.f116.body = some c := ⟨_, rfl⟩
    obtain ⟨c, hb⟩ := hb
    have hname : Tryz.f116.name ≠ "runtime.NumGoroutine" := by decide
    simp [callFunc, program, Sem.run, Tryz.func116, hname, hb]
  · obtain ⟨v, rfl⟩ : ∃ v, vals = #[v] := by
      obtain ⟨l⟩ := vals
      match l, hs with
      | [v], _ => exact ⟨v, rfl⟩
    have hv : TRep w K [] v (.sl xs.length (xs.map fun x => .sc (.int .i64 x))) := ha 0 _ rfl
    have fin : ∀ e w', (∃ v', e = Ending.returned v' /\ w'.ownsRow w.heap.size 3 1 v' xs.length (xs.map (Value.int .i64)) /\ Below w.heap.size w w') -> ∃ v' K', e = Ending.returned v' /\ TRep w' K' [0] v' (.os 1 xs.length (xs.map fun x => .sc (.int .i64 x))) /\ (∀ i t, [T.sl xs.length (xs.map fun x => T.sc (.int .i64 x))][i]? = some t -> z5u t = true -> ∃ t', [T.dead][i]? = some t' /\ TRep w' K' (col i) (#[v].getD i undef) t') /\ Step w K w' K' := by
      rintro e w' ⟨v', he, ho, hbl⟩
      refine ⟨v', zkq w.heap.size K, he, zs4 rfl ho, fun i t hi hio => ?_, zqx hbl⟩
      match i, hi with
      | 0, hi => cases hi; cases hio
    generalize hT : T.sl xs.length (xs.map fun x => T.sc (.int .i64 x)) = t at hv
    cases hv with
    | emp c a cap hcap =>
      have : xs = [] := by
        have : xs.length = 0 := by injection hT
        exact List.eq_nil_of_length_eq_zero this
      subst this
      cases a with
      | none => exact (Tryz.slices_Clone_int_nil 0 cap w).mono fun e w' ⟨he, hw⟩ => fin e w' ⟨_, he, ⟨by simp, .inl ⟨rfl, rfl⟩⟩, hw ▸ Below.refl _ _⟩
      | some a => exact (Tryz.slices_Clone_int_zero a cap w).mono fun e w' ⟨v', he, ho, _, hb⟩ => fin e w' ⟨v', he, ho, hb⟩
    | fro c g o n cap cs F hK hg hn hcap hF hh =>
      injection hT with e1 e2
      subst e1
      subst e2
      refine (Tryz.slices_Clone_int g o xs.length cap xs w (Nat.le_refl _) hb (fun j hj => ?_)).mono fun e w' ⟨v', he, ho, _, hbl⟩ => fin e w' ⟨v', he, ?_, hbl⟩
      · have h1 := hF j (by simpa using hj)
        rw [h1]
        have h2 := hh j (.sc (.int .i64 (xs.getD j 0))) (by simp [List.getD, hj])
        rw [h2.sc_eq]
      · rw [List.take_of_length_le (Nat.le_refl _)] at ho
        exact ho
    | _ => cases hT
end
end Go.Proofs.YtodliknibbafeaaGreat

/- Proved here: a part of the proof of the law at hand, in one text: no condition. -/
import Derived.Test.YtodliknibbafeaaMHO2
import Derived.Test.YtodliknibbafeaaProg
import Derived.KernelRfl
import Derived.WalkKit
import Derived.Below
set_option linter.unusedVariables false
set_option linter.unusedSimpArgs false
namespace Go.Proofs.Ytodliknibbafeaa
section
open Go
set_option maxRecDepth 100000
structure SrtC where
  cmp : Int -> Int -> Option Int
  key : Int -> Int
  ok : Int -> Prop
  law : ∀ x y, ok x -> ok y -> y < x -> ∃ c, cmp x y = some c /\ (c < 0 ↔ key x < key y)
noncomputable section
abbrev zhX (a1 : Int) (a3_0_0 : SrtC) (w95 : Int) : Int × List Int -> Option ((Int × List Int) ⊕ ((Int × List Int) ⊕ List Int))
  | (w127, w128) =>
  if a1 < w127 then
    (atI w128 w127).bind fun v136 =>
    (atI w128 (IntKind.i64.wrap (w127 - 1))).bind fun v137 =>
    (a3_0_0.cmp v136 v137).bind fun v138 =>
    if v138 < 0 then
      (atI (w128.set w127.toNat v137) (IntKind.i64.wrap (w127 - 1))).bind fun v142 =>
      z0e (IntKind.i64.wrap (w127 - 1), ((w128.set w127.toNat v137).set (IntKind.i64.wrap (w127 - 1)).toNat v136))
    else
      z0k <|
      z0e (IntKind.i64.wrap (w95 + 1), w128)
  else
    z0k <|
    z0e (IntKind.i64.wrap (w95 + 1), w128)
abbrev zhY (a1 : Int) (a2 : Int) (a3_0_0 : SrtC) : Int × List Int -> Option ((Int × List Int) ⊕ List Int)
  | (w95, w96) =>
  if w95 < a2 then
    z0j (zhX a1 a3_0_0 w95) LFm (w95, w96)
  else
    z0k <|
    some w96
def zxy (a0 : List Int) (a1 : Int) (a2 : Int) (a3_0_0 : SrtC) : Option (List Int) :=
  z0j (zhY a1 a2 a3_0_0) LFm (IntKind.i64.wrap (a1 + 1), a0)
abbrev zmn (a1 : Int) (a2 : Int) (a3 : Int) : Int × List Int -> Option ((Int × List Int) ⊕ List Int)
  | (w19, w20) =>
  if w19 < a3 then
    (atI w20 (IntKind.i64.wrap (a2 + w19))).bind fun v25 =>
    (atI w20 (IntKind.i64.wrap (a1 + w19))).bind fun v26 =>
    (atI (w20.set (IntKind.i64.wrap (a1 + w19)).toNat v25) (IntKind.i64.wrap (a2 + w19))).bind fun v28 =>
    z0e (IntKind.i64.wrap (w19 + 1), ((w20.set (IntKind.i64.wrap (a1 + w19)).toNat v25).set (IntKind.i64.wrap (a2 + w19)).toNat v26))
  else
    z0k <|
    some w20
def zx5 (a0 : List Int) (a1 : Int) (a2 : Int) (a3 : Int) (a4_0_0 : SrtC) : Option (List Int) :=
  z0j (zmn a1 a2 a3) LFm (0, a0)
abbrev zsb (a2 : Int) (a4_0_0 : SrtC) : Int × Int × List Int -> Option ((Int × Int × List Int) ⊕ List Int)
  | (w13, w15, w14) =>
  if w13 = w15 then
    z0k <|
    (zx5 w14 (IntKind.i64.wrap (a2 - w13)) a2 w13 a4_0_0).bind fun v18 =>
    some v18
  else
    if w15 < w13 then
      (zx5 w14 (IntKind.i64.wrap (a2 - w13)) a2 w15 a4_0_0).bind fun v19 =>
      z0e (IntKind.i64.wrap (w13 - w15), w15, v19)
    else
      (zx5 w14 (IntKind.i64.wrap (a2 - w13)) (IntKind.i64.wrap ((IntKind.i64.wrap (a2 + w15)) - w13)) w13 a4_0_0).bind fun v20 =>
      z0e (w13, IntKind.i64.wrap (w15 - w13), v20)
def zxx (a0 : List Int) (a1 : Int) (a2 : Int) (a3 : Int) (a4_0_0 : SrtC) : Option (List Int) :=
  z0j (zsb a2 a4_0_0) LFm (IntKind.i64.wrap (a2 - a1), IntKind.i64.wrap (a3 - a2), a0)
abbrev zhV (w102 : Int) : Int × List Int -> Option ((Int × List Int) ⊕ List Int)
  | (w114, w115) =>
  if w114 < (IntKind.i64.wrap (w102 - 1)) then
    (atI w115 (IntKind.i64.wrap (w114 + 1))).bind fun v120 =>
    (atI w115 w114).bind fun v121 =>
    (atI (w115.set w114.toNat v120) (IntKind.i64.wrap (w114 + 1))).bind fun v123 =>
    z0e (IntKind.i64.wrap (w114 + 1), ((w115.set w114.toNat v120).set (IntKind.i64.wrap (w114 + 1)).toNat v121))
  else
    z0k <|
    some w115
abbrev zhW (a0 : List Int) (a1 : Int) (a4_0_0 : SrtC) : Int × Int -> Option ((Int × Int) ⊕ List Int)
  | (w102, w103) =>
  if w102 < w103 then
    chk (¬ 1 < 0) <|
    (atI a0 (IntKind.i64.wrap (z0l .u64 (IntKind.u64.wrap (IntKind.i64.wrap (w102 + w103))) 1))).bind fun v107 =>
    (atI a0 a1).bind fun v108 =>
    (a4_0_0.cmp v107 v108).bind fun v109 =>
    if v109 < 0 then
      z0e (IntKind.i64.wrap ((IntKind.i64.wrap (z0l .u64 (IntKind.u64.wrap (IntKind.i64.wrap (w102 + w103))) 1)) + 1), w103)
    else
      z0e (w102, IntKind.i64.wrap (z0l .u64 (IntKind.u64.wrap (IntKind.i64.wrap (w102 + w103))) 1))
  else
    z0k <|
    z0j (zhV w102) LFm (a1, a0)
abbrev zdj (w128 : Int) : Int × List Int -> Option ((Int × List Int) ⊕ List Int)
  | (w139, w140) =>
  if w128 < w139 then
    (atI w140 (IntKind.i64.wrap (w139 - 1))).bind fun v145 =>
    (atI w140 w139).bind fun v146 =>
    (atI (w140.set w139.toNat v145) (IntKind.i64.wrap (w139 - 1))).bind fun v148 =>
    z0e (IntKind.i64.wrap (w139 - 1), ((w140.set w139.toNat v145).set (IntKind.i64.wrap (w139 - 1)).toNat v146))
  else
    z0k <|
    some w140
abbrev zdk (a0 : List Int) (a2 : Int) (a4_0_0 : SrtC) : Int × Int -> Option ((Int × Int) ⊕ List Int)
  | (w128, w127) =>
  if w128 < w127 then
    chk (¬ 1 < 0) <|
    (atI a0 a2).bind fun v132 =>
    (atI a0 (IntKind.i64.wrap (z0l .u64 (IntKind.u64.wrap (IntKind.i64.wrap (w128 + w127))) 1))).bind fun v133 =>
    (a4_0_0.cmp v132 v133).bind fun v134 =>
    if v134 < 0 then
      z0e (w128, IntKind.i64.wrap (z0l .u64 (IntKind.u64.wrap (IntKind.i64.wrap (w128 + w127))) 1))
    else
      z0e (IntKind.i64.wrap ((IntKind.i64.wrap (z0l .u64 (IntKind.u64.wrap (IntKind.i64.wrap (w128 + w127))) 1)) + 1), w127)
  else
    z0k <|
    z0j (zdj w128) LFm (a2, a0)
abbrev z9N (a0 : List Int) (a1 : Int) (a2 : Int) (a3 : Int) (a4_0_0 : SrtC) (rf : List Int -> Int -> Int -> Int -> SrtC -> Option (List Int)) : Int × Int -> Option ((Int × Int) ⊕ List Int)
  | (w153, w152) =>
  if w153 < w152 then
    chk (¬ 1 < 0) <|
    (atI a0 (IntKind.i64.wrap ((IntKind.i64.wrap ((IntKind.i64.wrap ((IntKind.i64.wrap (z0l .u64 (IntKind.u64.wrap (IntKind.i64.wrap (a1 + a3))) 1)) + a2)) - 1)) - (IntKind.i64.wrap (z0l .u64 (IntKind.u64.wrap (IntKind.i64.wrap (w153 + w152))) 1))))).bind fun v157 =>
    (atI a0 (IntKind.i64.wrap (z0l .u64 (IntKind.u64.wrap (IntKind.i64.wrap (w153 + w152))) 1))).bind fun v158 =>
    (a4_0_0.cmp v157 v158).bind fun v159 =>
    if v159 < 0 then
      z0e (w153, IntKind.i64.wrap (z0l .u64 (IntKind.u64.wrap (IntKind.i64.wrap (w153 + w152))) 1))
    else
      z0e (IntKind.i64.wrap ((IntKind.i64.wrap (z0l .u64 (IntKind.u64.wrap (IntKind.i64.wrap (w153 + w152))) 1)) + 1), w152)
  else
    z0k <|
    if w153 < a2 then
      if a2 < (IntKind.i64.wrap ((IntKind.i64.wrap ((IntKind.i64.wrap (z0l .u64 (IntKind.u64.wrap (IntKind.i64.wrap (a1 + a3))) 1)) + a2)) - w153)) then
        (zxx a0 w153 a2 (IntKind.i64.wrap ((IntKind.i64.wrap ((IntKind.i64.wrap (z0l .u64 (IntKind.u64.wrap (IntKind.i64.wrap (a1 + a3))) 1)) + a2)) - w153)) a4_0_0).bind fun v160 =>
        if a1 < w153 then
          if w153 < (IntKind.i64.wrap (z0l .u64 (IntKind.u64.wrap (IntKind.i64.wrap (a1 + a3))) 1)) then
            (rf v160 a1 w153 (IntKind.i64.wrap (z0l .u64 (IntKind.u64.wrap (IntKind.i64.wrap (a1 + a3))) 1)) a4_0_0).bind fun v161 =>
            if (IntKind.i64.wrap (z0l .u64 (IntKind.u64.wrap (IntKind.i64.wrap (a1 + a3))) 1)) < (IntKind.i64.wrap ((IntKind.i64.wrap ((IntKind.i64.wrap (z0l .u64 (IntKind.u64.wrap (IntKind.i64.wrap (a1 + a3))) 1)) + a2)) - w153)) then
              if (IntKind.i64.wrap ((IntKind.i64.wrap ((IntKind.i64.wrap (z0l .u64 (IntKind.u64.wrap (IntKind.i64.wrap (a1 + a3))) 1)) + a2)) - w153)) < a3 then
                (rf v161 (IntKind.i64.wrap (z0l .u64 (IntKind.u64.wrap (IntKind.i64.wrap (a1 + a3))) 1)) (IntKind.i64.wrap ((IntKind.i64.wrap ((IntKind.i64.wrap (z0l .u64 (IntKind.u64.wrap (IntKind.i64.wrap (a1 + a3))) 1)) + a2)) - w153)) a3 a4_0_0).bind fun v162 =>
                some v162
              else
                some v161
            else
              some v161
          else
            if (IntKind.i64.wrap (z0l .u64 (IntKind.u64.wrap (IntKind.i64.wrap (a1 + a3))) 1)) < (IntKind.i64.wrap ((IntKind.i64.wrap ((IntKind.i64.wrap (z0l .u64 (IntKind.u64.wrap (IntKind.i64.wrap (a1 + a3))) 1)) + a2)) - w153)) then
              if (IntKind.i64.wrap ((IntKind.i64.wrap ((IntKind.i64.wrap (z0l .u64 (IntKind.u64.wrap (IntKind.i64.wrap (a1 + a3))) 1)) + a2)) - w153)) < a3 then
                (rf v160 (IntKind.i64.wrap (z0l .u64 (IntKind.u64.wrap (IntKind.i64.wrap (a1 + a3))) 1)) (IntKind.i64.wrap ((IntKind.i64.wrap ((IntKind.i64.wrap (z0l .u64 (IntKind.u64.wrap (IntKind.i64.wrap (a1 + a3))) 1)) + a2)) - w153)) a3 a4_0_0).bind fun v163 =>
                some v163
              else
                some v160
            else
              some v160
        else
          if (IntKind.i64.wrap (z0l .u64 (IntKind.u64.wrap (IntKind.i64.wrap (a1 + a3))) 1)) < (IntKind.i64.wrap ((IntKind.i64.wrap ((IntKind.i64.wrap (z0l .u64 (IntKind.u64.wrap (IntKind.i64.wrap (a1 + a3))) 1)) + a2)) - w153)) then
            if (IntKind.i64.wrap ((IntKind.i64.wrap ((IntKind.i64.wrap (z0l .u64 (IntKind.u64.wrap (IntKind.i64.wrap (a1 + a3))) 1)) + a2)) - w153)) < a3 then
              (rf v160 (IntKind.i64.wrap (z0l .u64 (IntKind.u64.wrap (IntKind.i64.wrap (a1 + a3))) 1)) (IntKind.i64.wrap ((IntKind.i64.wrap ((IntKind.i64.wrap (z0l .u64 (IntKind.u64.wrap (IntKind.i64.wrap (a1 + a3))) 1)) + a2)) - w153)) a3 a4_0_0).bind fun v164 =>
              some v164
            else
              some v160
          else
            some v160
      else
        if a1 < w153 then
          if w153 < (IntKind.i64.wrap (z0l .u64 (IntKind.u64.wrap (IntKind.i64.wrap (a1 + a3))) 1)) then
            (rf a0 a1 w153 (IntKind.i64.wrap (z0l .u64 (IntKind.u64.wrap (IntKind.i64.wrap (a1 + a3))) 1)) a4_0_0).bind fun v165 =>
            if (IntKind.i64.wrap (z0l .u64 (IntKind.u64.wrap (IntKind.i64.wrap (a1 + a3))) 1)) < (IntKind.i64.wrap ((IntKind.i64.wrap ((IntKind.i64.wrap (z0l .u64 (IntKind.u64.wrap (IntKind.i64.wrap (a1 + a3))) 1)) + a2)) - w153)) then
              if (IntKind.i64.wrap ((IntKind.i64.wrap ((IntKind.i64.wrap (z0l .u64 (IntKind.u64.wrap (IntKind.i64.wrap (a1 + a3))) 1)) + a2)) - w153)) < a3 then
                (rf v165 (IntKind.i64.wrap (z0l .u64 (IntKind.u64.wrap (IntKind.i64.wrap (a1 + a3))) 1)) (IntKind.i64.wrap ((IntKind.i64.wrap ((IntKind.i64.wrap (z0l .u64 (IntKind.u64.wrap (IntKind.i64.wrap (a1 + a3))) 1)) + a2)) - w153)) a3 a4_0_0).bind fun v166 =>
                some v166
              else
                some v165
            else
              some v165
          else
            if (IntKind.i64.wrap (z0l .u64 (IntKind.u64.wrap (IntKind.i64.wrap (a1 + a3))) 1)) < (IntKind.i64.wrap ((IntKind.i64.wrap ((IntKind.i64.wrap (z0l .u64 (IntKind.u64.wrap (IntKind.i64.wrap (a1 + a3))) 1)) + a2)) - w153)) then
              if (IntKind.i64.wrap ((IntKind.i64.wrap ((IntKind.i64.wrap (z0l .u64 (IntKind.u64.wrap (IntKind.i64.wrap (a1 + a3))) 1)) + a2)) - w153)) < a3 then
                (rf a0 (IntKind.i64.wrap (z0l .u64 (IntKind.u64.wrap (IntKind.i64.wrap (a1 + a3))) 1)) (IntKind.i64.wrap ((IntKind.i64.wrap ((IntKind.i64.wrap (z0l .u64 (IntKind.u64.wrap (IntKind.i64.wrap (a1 + a3))) 1)) + a2)) - w153)) a3 a4_0_0).bind fun v167 =>
                some v167
              else
                some a0
            else
              some a0
        else
          if (IntKind.i64.wrap (z0l .u64 (IntKind.u64.wrap (IntKind.i64.wrap (a1 + a3))) 1)) < (IntKind.i64.wrap ((IntKind.i64.wrap ((IntKind.i64.wrap (z0l .u64 (IntKind.u64.wrap (IntKind.i64.wrap (a1 + a3))) 1)) + a2)) - w153)) then
            if (IntKind.i64.wrap ((IntKind.i64.wrap ((IntKind.i64.wrap (z0l .u64 (IntKind.u64.wrap (IntKind.i64.wrap (a1 + a3))) 1)) + a2)) - w153)) < a3 then
              (rf a0 (IntKind.i64.wrap (z0l .u64 (IntKind.u64.wrap (IntKind.i64.wrap (a1 + a3))) 1)) (IntKind.i64.wrap ((IntKind.i64.wrap ((IntKind.i64.wrap (z0l .u64 (IntKind.u64.wrap (IntKind.i64.wrap (a1 + a3))) 1)) + a2)) - w153)) a3 a4_0_0).bind fun v168 =>
              some v168
            else
              some a0
          else
            some a0
    else
      if a1 < w153 then
        if w153 < (IntKind.i64.wrap (z0l .u64 (IntKind.u64.wrap (IntKind.i64.wrap (a1 + a3))) 1)) then
          (rf a0 a1 w153 (IntKind.i64.wrap (z0l .u64 (IntKind.u64.wrap (IntKind.i64.wrap (a1 + a3))) 1)) a4_0_0).bind fun v169 =>
          if (IntKind.i64.wrap (z0l .u64 (IntKind.u64.wrap (IntKind.i64.wrap (a1 + a3))) 1)) < (IntKind.i64.wrap ((IntKind.i64.wrap ((IntKind.i64.wrap (z0l .u64 (IntKind.u64.wrap (IntKind.i64.wrap (a1 + a3))) 1)) + a2)) - w153)) then
            if (IntKind.i64.wrap ((IntKind.i64.wrap ((IntKind.i64.wrap (z0l .u64 (IntKind.u64.wrap (IntKind.i64.wrap (a1 + a3))) 1)) + a2)) - w153)) < a3 then
              (rf v169 (IntKind.i64.wrap (z0l .u64 (IntKind.u64.wrap (IntKind.i64.wrap (a1 + a3))) 1)) (IntKind.i64.wrap ((IntKind.i64.wrap ((IntKind.i64.wrap (z0l .u64 (IntKind.u64.wrap (IntKind.i64.wrap (a1 + a3))) 1)) + a2)) - w153)) a3 a4_0_0).bind fun v170 =>
              some v170
            else
              some v169
          else
            some v169
        else
          if (IntKind.i64.wrap (z0l .u64 (IntKind.u64.wrap (IntKind.i64.wrap (a1 + a3))) 1)) < (IntKind.i64.wrap ((IntKind.i64.wrap ((IntKind.i64.wrap (z0l .u64 (IntKind.u64.wrap (IntKind.i64.wrap (a1 + a3))) 1)) + a2)) - w153)) then
            if (IntKind.i64.wrap ((IntKind.i64.wrap ((IntKind.i64.wrap (z0l .u64 (IntKind.u64.wrap (IntKind.i64.wrap (a1 + a3))) 1)) + a2)) - w153)) < a3 then
              (rf a0 (IntKind.i64.wrap (z0l .u64 (IntKind.u64.wrap (IntKind.i64.wrap (a1 + a3))) 1)) (IntKind.i64.wrap ((IntKind.i64.wrap ((IntKind.i64.wrap (z0l .u64 (IntKind.u64.wrap (IntKind.i64.wrap (a1 + a3))) 1)) + a2)) - w153)) a3 a4_0_0).bind fun v171 =>
              some v171
            else
              some a0
          else
            some a0
      else
        if (IntKind.i64.wrap (z0l .u64 (IntKind.u64.wrap (IntKind.i64.wrap (a1 + a3))) 1)) < (IntKind.i64.wrap ((IntKind.i64.wrap ((IntKind.i64.wrap (z0l .u64 (IntKind.u64.wrap (IntKind.i64.wrap (a1 + a3))) 1)) + a2)) - w153)) then
          if (IntKind.i64.wrap ((IntKind.i64.wrap ((IntKind.i64.wrap (z0l .u64 (IntKind.u64.wrap (IntKind.i64.wrap (a1 + a3))) 1)) + a2)) - w153)) < a3 then
            (rf a0 (IntKind.i64.wrap (z0l .u64 (IntKind.u64.wrap (IntKind.i64.wrap (a1 + a3))) 1)) (IntKind.i64.wrap ((IntKind.i64.wrap ((IntKind.i64.wrap (z0l .u64 (IntKind.u64.wrap (IntKind.i64.wrap (a1 + a3))) 1)) + a2)) - w153)) a3 a4_0_0).bind fun v172 =>
            some v172
          else
            some a0
        else
          some a0
def zsa (rf : List Int -> Int -> Int -> Int -> SrtC -> Option (List Int)) (a0 : List Int) (a1 : Int) (a2 : Int) (a3 : Int) (a4_0_0 : SrtC) : Option (List Int) :=
  if (IntKind.i64.wrap (a2 - a1)) = 1 then
    z0j (zhW a0 a1 a4_0_0) LFm (a2, a3)
  else
    if (IntKind.i64.wrap (a3 - a2)) = 1 then
      z0j (zdk a0 a2 a4_0_0) LFm (a1, a2)
    else
      chk (¬ 1 < 0) <|
      if (IntKind.i64.wrap (z0l .u64 (IntKind.u64.wrap (IntKind.i64.wrap (a1 + a3))) 1)) < a2 then
        z0j (z9N a0 a1 a2 a3 a4_0_0 rf) LFm (IntKind.i64.wrap ((IntKind.i64.wrap ((IntKind.i64.wrap (z0l .u64 (IntKind.u64.wrap (IntKind.i64.wrap (a1 + a3))) 1)) + a2)) - a3), IntKind.i64.wrap (z0l .u64 (IntKind.u64.wrap (IntKind.i64.wrap (a1 + a3))) 1))
      else
        z0j (z9N a0 a1 a2 a3 a4_0_0 rf) LFm (a1, a2)
def zuv : Nat -> List Int -> Int -> Int -> Int -> SrtC -> Option (List Int)
  | 0 => fun _ _ _ _ _ => none
  | k + 1 => zsa (zuv k)
abbrev zcJ (a1 : Int) (a2_0_0 : SrtC) (w45 : Int) : Int × Int × List Int -> Option ((Int × Int × List Int) ⊕ ((Int × List Int) ⊕ List Int))
  | (w55, w56, w57) =>
  if w56 <= a1 then
    (zuv 5000 w57 w55 (IntKind.i64.wrap (w55 + w45)) w56 a2_0_0).bind fun v59 =>
    z0e (w56, IntKind.i64.wrap (w56 + (IntKind.i64.wrap (2 * w45))), v59)
  else
    z0k <|
    if (IntKind.i64.wrap (w55 + w45)) < a1 then
      (zuv 5000 w57 w55 (IntKind.i64.wrap (w55 + w45)) a1 a2_0_0).bind fun v60 =>
      z0e (IntKind.i64.wrap (w45 * 2), v60)
    else
      z0e (IntKind.i64.wrap (w45 * 2), w57)
abbrev zfb (a1 : Int) (a2_0_0 : SrtC) : Int × List Int -> Option ((Int × List Int) ⊕ List Int)
  | (w45, w46) =>
  if w45 < a1 then
    z0j (zcJ a1 a2_0_0 w45) LFm (0, IntKind.i64.wrap (2 * w45), w46)
  else
    z0k <|
    some w46
abbrev zfc (a1 : Int) (a2_0_0 : SrtC) : Int × Int × List Int -> Option ((Int × Int × List Int) ⊕ List Int)
  | (w32, w33, w34) =>
  if w33 <= a1 then
    (zxy w34 w32 w33 a2_0_0).bind fun v36 =>
    z0e (w33, IntKind.i64.wrap (w33 + 20), v36)
  else
    z0k <|
    (zxy w34 w32 a1 a2_0_0).bind fun v37 =>
    z0j (zfb a1 a2_0_0) LFm (20, v37)
def zAt (a0 : List Int) (a1 : Int) (a2_0_0 : SrtC) : Option (List Int) :=
  z0j (zfc a1 a2_0_0) LFm (0, 20, a0)
def zxw (a0 : List Int) (a1_0_0 : SrtC) : Option (List Int) :=
  (zAt a0 (a0.length : Int) a1_0_0).bind fun v2 =>
  some v2
end
end
section
open Go
set_option maxRecDepth 100000
theorem zwQ (i j : Nat) (h : i + j < 4611686018427387904) : IntKind.i64.wrap (z0l .u64 (IntKind.u64.wrap (IntKind.i64.wrap ((i : Int) + j))) 1) = (((i + j) / 2 : Nat) : Int) := by
  have e1 : IntKind.u64.wrap (IntKind.i64.wrap ((i : Int) + j)) = (((i + j : Nat)) : Int) := by
    rw [z1Z (by omega) (by omega), IntKind.wrap_u64]; omega
  have e2 : z0l .u64 (((i + j : Nat)) : Int) 1 = (((i + j) / 2 : Nat) : Int) := by
    unfold z0l
    have : min ((1 : Int).toNat) IntKind.u64.bits = 1 := by decide
    rw [this, Int.fdiv_eq_ediv_of_nonneg _ (by decide)]
    omega
  rw [e1, e2, z1Z (by omega) (by omega)]
theorem at0 {α : Type} (A : List α) (x : α) (B : List α) {i : Nat} (h : i = A.length) : atI (A ++ x :: B) (i : Int) = some x := by
  subst h
  rw [z1s (by simp)]; simp
theorem at1 {α : Type} (A : List α) (x y : α) (B : List α) {i : Nat} (h : i = A.length + 1) : atI (A ++ x :: y :: B) (i : Int) = some y := by
  have : A ++ x :: y :: B = (A ++ [x]) ++ y :: B := by simp
  rw [this]
  exact at0 _ _ _ (by simpa using h)
theorem zsR {α : Type} (A : List α) (x z : α) (B : List α) {i : Nat} (h : i = A.length) : (A ++ x :: B).set i z = A ++ z :: B := by
  subst h; simp
theorem zuk {α : Type} (A : List α) (x y z : α) (B : List α) {i : Nat} (h : i = A.length + 1) : (A ++ x :: y :: B).set i z = A ++ x :: z :: B := by
  have : A ++ x :: y :: B = (A ++ [x]) ++ y :: B := by simp
  rw [this, zsR _ _ _ _ (by simpa using h)]; simp
abbrev kvC (K : SrtC) (x : Int) : Int := K.key x
abbrev okS (K : SrtC) (x : Int) : Prop := K.ok x
abbrev zil (K : SrtC) (l : List Int) : Prop := ∀ x ∈ l, okS K x
abbrev z9g (K : SrtC) (l : List Int) : Prop := l.Pairwise fun x y => kvC K x <= kvC K y
abbrev Bef (U V : List Int) : Prop := ∀ x ∈ U, ∀ y ∈ V, x < y
theorem zxE {K : SrtC} {x y : Int} (hx : okS K x) (hy : okS K y) (h : y < x) : ∃ c, K.cmp x y = some c /\ (c < 0 ↔ kvC K x < kvC K y) := K.law x y hx hy h
theorem z9J {V : List Int} {t : Nat} (h : t < V.length) : V.getD t 0 ∈ V := by
  rw [List.getD, List.getElem?_eq_getElem h, Option.getD_some]; exact List.getElem_mem h
theorem zvr {K : SrtC} {P S R : List Int} {x : Int} (hv : zil K (S ++ [x])) (hs : z9g K S) (hb : ∀ y ∈ S, y < x) (hl : P.length + S.length < 2 ^ 40) {w : Nat} (hw : w = P.length + S.length) :
    ∃ S', z0j (zhX (P.length : Int) K (w : Int)) LFm ((w : Int), P ++ S ++ x :: R) = some (.inl (((w + 1 : Nat) : Int), P ++ S' ++ R)) /\ z9g K S' /\ S'.Perm (S ++ [x]) := by
  refine Exists.elim (z1y (b := zhX (P.length : Int) K (w : Int)) (fun z => ∃ S1 S2, S1 ++ S2 = S /\ z = (((P.length + S1.length : Nat) : Int), P ++ S1 ++ x :: (S2 ++ R)) /\ ∀ y ∈ S2, kvC K x < kvC K y) (fun z => z.1.toNat)
    (fun r => ∃ S', r = .inl (((w + 1 : Nat) : Int), P ++ S' ++ R) /\ z9g K S' /\ S'.Perm (S ++ [x])) ?_ LFm ((w : Int), P ++ S ++ x :: R) ⟨S, [], by simp, by rw [hw]; simp, by simp⟩ (by simp only [LFm]; omega)) fun r h => by
      obtain ⟨h1, S', rfl, h2, h3⟩ := h
      exact ⟨S', h1, h2, h3⟩
  rintro z ⟨S1, S2, rfl, rfl, h2⟩
  have hlen : S1.length + S2.length < 2 ^ 40 := by rw [List.length_append] at hl; omega
  have fin : (∀ y ∈ S1, kvC K y <= kvC K x) -> z9g K (S1 ++ x :: S2) /\ (S1 ++ x :: S2).Perm (S1 ++ S2 ++ [x]) := fun hle => by
    refine ⟨?_, ?_⟩
    · rw [z9g, List.pairwise_append] at hs ⊢
      refine ⟨hs.1, List.pairwise_cons.2 ⟨fun y hy => by have := h2 y hy; omega, hs.2.1⟩, fun a ha b hb => ?_⟩
      rcases List.mem_cons.1 hb with rfl | hb
      · exact hle a ha
      · exact hs.2.2 a ha b hb
    · rw [List.append_assoc]
      exact List.Perm.append_left _ (List.perm_append_singleton x S2).symm
  simp only [zhX]
  rcases List.eq_nil_or_concat S1 with rfl | ⟨S0, y, rfl⟩
  · right
    rw [if_neg (by simp)]
    obtain ⟨f1, f2⟩ := fin (fun y hy => by simp at hy)
    refine ⟨_, rfl, x :: S2, ?_, by simpa using f1, by simpa using f2⟩
    have : IntKind.i64.wrap ((w : Int) + 1) = ((w + 1 : Nat) : Int) := by rw [z1Z (by omega) (by omega)]; omega
    rw [this]; simp
  · simp only [List.concat_eq_append] at *
    have hy : okS K y := hv y (by simp)
    have hx : okS K x := hv x (by simp)
    have e1 : P ++ (S0 ++ [y]) ++ x :: (S2 ++ R) = (P ++ S0) ++ y :: x :: (S2 ++ R) := by simp
    have hn : (P.length + (S0 ++ [y]).length : Nat) = (P ++ S0).length + 1 := by simp; omega
    have hj : IntKind.i64.wrap ((((P ++ S0).length + 1 : Nat) : Int) - 1) = (((P ++ S0).length : Nat) : Int) := by
      rw [z1Z (by simp at hlen ⊢; omega) (by simp at hlen ⊢; simp at hl; omega)]; omega
    rw [e1, hn, if_pos (by simp; omega), at1 _ _ _ _ rfl, Option.bind_some, hj, at0 _ _ _ rfl, Option.bind_some]
    obtain ⟨c, hc, hc2⟩ := zxE hx hy (hb y (by simp))
    rw [hc, Option.bind_some]
    by_cases hlt : c < 0
    · left
      rw [if_pos hlt, Int.toNat_natCast, zuk _ _ _ _ _ rfl, at0 _ _ _ rfl, Option.bind_some, Int.toNat_natCast, zsR _ _ _ _ rfl]
      refine ⟨_, rfl, ⟨S0, y :: S2, by simp, ?_, fun z hz => ?_⟩, by simp only; omega⟩
      · simp
      · rcases List.mem_cons.1 hz with rfl | hz
        · exact hc2.1 hlt
        · exact h2 z hz
    · right
      rw [if_neg hlt]
      have hyx : kvC K y <= kvC K x := by have := (not_congr hc2).1 hlt; omega
      obtain ⟨f1, f2⟩ := fin (fun z hz => by
        rcases List.mem_append.1 hz with hz | hz
        · rw [z9g, List.pairwise_append, List.pairwise_append] at hs
          have := hs.1.2.2 z hz y (by simp)
          omega
        · obtain rfl := List.mem_singleton.1 hz; exact hyx)
      refine ⟨_, rfl, S0 ++ [y] ++ x :: S2, ?_, f1, f2⟩
      have : IntKind.i64.wrap ((w : Int) + 1) = ((w + 1 : Nat) : Int) := by rw [z1Z (by omega) (by omega)]; omega
      rw [this]; simp
theorem znr {K : SrtC} {P X R : List Int} (hv : zil K X) (hX : X.Pairwise (· < ·)) (hl : P.length + X.length < 2 ^ 40) {a b : Nat} (ha : a = P.length) (hb : b = P.length + X.length) :
    ∃ S, zxy (P ++ X ++ R) (a : Int) (b : Int) K = some (P ++ S ++ R) /\ z9g K S /\ S.Perm X := by
  subst ha hb
  unfold zxy
  rw [z0T (by omega)]
  cases X with
  | nil =>
    refine ⟨[], ?_, by simp, .refl _⟩
    rw [show LFm = (LFm - 1) + 1 from rfl, z0j]
    simp only [zhY]
    rw [if_neg (by simp; omega)]
    rfl
  | cons x X =>
    refine Exists.elim (z1y (b := zhY (P.length : Int) ((P.length + (x :: X).length : Nat) : Int) K) (fun z => ∃ S U T, S ≠ [] /\ z = (((P.length + S.length : Nat) : Int), P ++ S ++ (U ++ R)) /\ z9g K S /\ T ++ U = x :: X /\ S.Perm T) (fun z => P.length + (x :: X).length + 1 - z.1.toNat)
      (fun r => ∃ S, r = P ++ S ++ R /\ z9g K S /\ S.Perm (x :: X)) ?_ LFm ((P.length + 1 : Nat), P ++ x :: X ++ R) ⟨[x], X, [x], by simp, by simp, by simp, rfl, .refl _⟩ (by simp only [LFm]; omega)) fun r h => by
        obtain ⟨h1, S, rfl, h2, h3⟩ := h
        exact ⟨S, h1, h2, h3⟩
    rintro z ⟨S, U, T, h0, rfl, h1, hT, hST⟩
    have h2 : (S ++ U).Perm (x :: X) := by rw [← hT]; exact hST.append_right U
    have hlen := h2.length_eq
    rw [List.length_append] at hlen
    simp only [zhY]
    cases U with
    | nil =>
      right
      rw [if_neg (by simp at hlen ⊢; omega)]
      exact ⟨_, rfl, S, by simp, h1, by simpa using h2⟩
    | cons u U =>
      left
      rw [if_pos (by simp at hlen ⊢; omega)]
      have hvS : zil K (S ++ [u]) := fun y hy => hv y (h2.mem_iff.1 (by
        rcases List.mem_append.1 hy with hy | hy
        · exact List.mem_append.2 (.inl hy)
        · obtain rfl := List.mem_singleton.1 hy; simp))
      have hbu : ∀ y ∈ S, y < u := fun y hy => by
        have hp : (T ++ u :: U).Pairwise (· < ·) := by rw [hT]; exact hX
        exact (List.pairwise_append.1 hp).2.2 y (hST.mem_iff.1 hy) u (List.mem_cons_self ..)
      obtain ⟨S', e, s1, s2⟩ := zvr (P := P) (S := S) (R := U ++ R) (x := u) hvS h1 hbu (by simp at hlen hl ⊢; omega) rfl
      have e' : P ++ S ++ (u :: U ++ R) = P ++ S ++ u :: (U ++ R) := rfl
      rw [e', e]
      have hS' := s2.length_eq
      simp at hS'
      refine ⟨_, rfl, ⟨S', U, T ++ [u], fun h => by rw [h] at hS'; simp at hS', ?_, s1, by rw [List.append_assoc]; exact hT, s2.trans (hST.append_right [u])⟩, ?_⟩
      · simp only [hS']
        congr 1
      · have := congrArg List.length hT
        simp at this hlen ⊢; omega
theorem zt0 {P V R : List Int} {x : Int} (hl : P.length + V.length < 2 ^ 40) {w : Nat} (hw : w = P.length + V.length + 1) :
    z0j (zhV (w : Int)) LFm ((P.length : Int), P ++ x :: (V ++ R)) = some (P ++ V ++ x :: R) := by
  refine z0t (s := ((P.length : Int), P ++ x :: (V ++ R))) V.length (fun k => (((P.length + k : Nat) : Int), (P ++ V.take k) ++ x :: (V.drop k ++ R))) (by simp) (by simp only [LFm]; omega) (fun k hk => ?_) ?_
  · have hlk : P.length + k = (P ++ V.take k).length := by rw [List.length_append, List.length_take]; omega
    simp only [zhV]
    rw [z1Z (x := (w : Int) - 1) (by omega) (by omega), if_pos (by omega)]
    have hj : IntKind.i64.wrap (((P.length + k : Nat) : Int) + 1) = ((P.length + k + 1 : Nat) : Int) := by rw [z1Z (by omega) (by omega)]; omega
    rw [hj, List.drop_eq_getElem_cons hk, List.cons_append, hlk, at1 _ _ _ _ rfl, Option.bind_some, at0 _ _ _ rfl, Option.bind_some, Int.toNat_natCast, zsR _ _ _ _ rfl, at1 _ _ _ _ rfl, Option.bind_some, Int.toNat_natCast, zuk _ _ _ _ _ rfl]
    rw [List.take_succ_eq_append_getElem hk]
    have e2 : P.length + (k + 1) = (P ++ V.take k).length + 1 := by omega
    rw [e2]
    simp only [List.append_assoc, List.cons_append, List.nil_append]
  · simp only [zhV]
    rw [z1Z (x := (w : Int) - 1) (by omega) (by omega), if_neg (by omega)]
    simp
theorem zqh {P V R : List Int} {x : Int} (hl : P.length + V.length < 2 ^ 40) :
    z0j (zdj (P.length : Int)) LFm (((P.length + V.length : Nat) : Int), P ++ V ++ x :: R) = some (P ++ x :: (V ++ R)) := by
  refine z0t (s := (((P.length + V.length : Nat) : Int), P ++ V ++ x :: R)) V.length (fun k => (((P.length + (V.length - k) : Nat) : Int), (P ++ V.take (V.length - k)) ++ x :: (V.drop (V.length - k) ++ R))) (by simp) (by simp only [LFm]; omega) (fun k hk => ?_) ?_
  · obtain ⟨j, hj⟩ : ∃ j, V.length - k = j + 1 := ⟨V.length - k - 1, by omega⟩
    have hjl : j < V.length := by omega
    have e3 : V.length - (k + 1) = j := by omega
    have hlk : P.length + j = (P ++ V.take j).length := by rw [List.length_append, List.length_take]; omega
    rw [hj, e3]
    simp only [zdj]
    rw [if_pos (by omega)]
    have hw : IntKind.i64.wrap (((P.length + (j + 1) : Nat) : Int) - 1) = ((P.length + j : Nat) : Int) := by rw [z1Z (by omega) (by omega)]; omega
    have e1 : (P ++ V.take (j + 1)) ++ x :: (V.drop (j + 1) ++ R) = (P ++ V.take j) ++ V[j] :: x :: (V.drop (j + 1) ++ R) := by
      rw [List.take_succ_eq_append_getElem hjl]; simp only [List.append_assoc, List.cons_append, List.nil_append]
    have e2 : P.length + (j + 1) = (P ++ V.take j).length + 1 := by omega
    rw [hw, e1, hlk, e2, at0 _ _ _ rfl, Option.bind_some, at1 _ _ _ _ rfl, Option.bind_some, Int.toNat_natCast, zuk _ _ _ _ _ rfl, at0 _ _ _ rfl, Option.bind_some, Int.toNat_natCast, zsR _ _ _ _ rfl, List.drop_eq_getElem_cons hjl]
    rfl
  · simp only [zdj]
    rw [if_neg (by omega)]
    simp
end
section
open Go
set_option maxRecDepth 100000
theorem zct {P X M Y R : List Int} (K : SrtC) (hxy : X.length = Y.length) (hl : P.length + X.length + M.length + Y.length < 2 ^ 40) {a b n : Nat} (ha : a = P.length) (hb : b = P.length + X.length + M.length) (hn : n = X.length) :
    zx5 (P ++ (X ++ (M ++ (Y ++ R)))) (a : Int) (b : Int) (n : Int) K = some (P ++ (Y ++ (M ++ (X ++ R)))) := by
  subst ha hb hn
  unfold zx5
  refine z0t (s := ((0 : Int), P ++ (X ++ (M ++ (Y ++ R))))) X.length (fun k => ((k : Int), P ++ (Y.take k ++ (X.drop k ++ (M ++ (X.take k ++ (Y.drop k ++ R))))))) (by simp) (by simp only [LFm]; omega) (fun k hk => ?_) ?_
  · have hk' : k < Y.length := by omega
    simp only [zmn]
    have e1 : IntKind.i64.wrap ((((P.length + X.length + M.length : Nat)) : Int) + (k : Int)) = ((P.length + X.length + M.length + k : Nat) : Int) := by rw [z1Z (by omega) (by omega)]; omega
    have e2 : IntKind.i64.wrap ((P.length : Int) + (k : Int)) = ((P.length + k : Nat) : Int) := by rw [z1Z (by omega) (by omega)]; omega
    rw [if_pos (by omega), e1, e2, z0T (by omega), List.drop_eq_getElem_cons hk, List.drop_eq_getElem_cons hk']
    have f1 : P ++ (Y.take k ++ (X[k] :: X.drop (k + 1) ++ (M ++ (X.take k ++ (Y[k] :: Y.drop (k + 1) ++ R))))) = (P ++ Y.take k) ++ X[k] :: (X.drop (k + 1) ++ (M ++ (X.take k ++ Y[k] :: (Y.drop (k + 1) ++ R)))) := by simp only [List.append_assoc, List.cons_append]
    have l1 : P.length + k = (P ++ Y.take k).length := by rw [List.length_append, List.length_take]; omega
    have g : ∀ z : Int, (P ++ Y.take k) ++ z :: (X.drop (k + 1) ++ (M ++ (X.take k ++ Y[k] :: (Y.drop (k + 1) ++ R)))) = ((P ++ Y.take k) ++ z :: (X.drop (k + 1) ++ (M ++ X.take k))) ++ Y[k] :: (Y.drop (k + 1) ++ R) := fun z => by simp only [List.append_assoc, List.cons_append]
    have l2 : ∀ z : Int, P.length + X.length + M.length + k = ((P ++ Y.take k) ++ z :: (X.drop (k + 1) ++ (M ++ X.take k))).length := fun z => by
      simp only [List.length_append, List.length_cons, List.length_take, List.length_drop]; omega
    rw [f1, l1]
    conv => lhs; rw [show (P ++ List.take k Y ++ X[k] :: (List.drop (k + 1) X ++ (M ++ (List.take k X ++ Y[k] :: (List.drop (k + 1) Y ++ R))))) = _ from g X[k]]
    rw [at0 _ _ _ (l2 X[k]), Option.bind_some, ← g, at0 _ _ _ rfl, Option.bind_some, Int.toNat_natCast, zsR _ _ _ _ rfl, g, at0 _ _ _ (l2 Y[k]), Option.bind_some, Int.toNat_natCast, zsR _ _ _ _ (l2 Y[k])]
    rw [List.take_succ_eq_append_getElem hk, List.take_succ_eq_append_getElem hk']
    simp only [List.append_assoc, List.cons_append, List.nil_append]
  · simp only [zmn]
    rw [if_neg (by omega)]
    have e3 : Y.take X.length = Y := List.take_of_length_le (by omega)
    have e4 : Y.drop X.length = [] := List.drop_of_length_le (by omega)
    simp [e3, e4]
theorem rotate {P U V R : List Int} (K : SrtC) (hU : U ≠ []) (hV : V ≠ []) (hl : P.length + U.length + V.length < 2 ^ 40) {a m b : Nat} (ha : a = P.length) (hm : m = P.length + U.length) (hb : b = P.length + U.length + V.length) :
    zxx (P ++ (U ++ (V ++ R))) (a : Int) (m : Int) (b : Int) K = some (P ++ (V ++ (U ++ R))) := by
  subst ha hm hb
  unfold zxx
  have e1 : IntKind.i64.wrap (((P.length + U.length : Nat) : Int) - (P.length : Int)) = (U.length : Int) := by rw [z1Z (by omega) (by omega)]; omega
  have e2 : IntKind.i64.wrap (((P.length + U.length + V.length : Nat) : Int) - ((P.length + U.length : Nat) : Int)) = (V.length : Int) := by rw [z1Z (by omega) (by omega)]; omega
  rw [e1, e2]
  refine zba (s := ((U.length : Int), (V.length : Int), P ++ (U ++ (V ++ R)))) (fun z => ∃ (A X Y B : List Int), X ≠ [] /\ Y ≠ [] /\ A.length + X.length = P.length + U.length /\ A.length + X.length + Y.length <= P.length + U.length + V.length /\ z = ((X.length : Int), (Y.length : Int), A ++ (X ++ (Y ++ B))) /\ A ++ (Y ++ (X ++ B)) = P ++ (V ++ (U ++ R))) (fun z => z.1.toNat + z.2.1.toNat) ⟨P, U, V, R, hU, hV, rfl, by omega, rfl, rfl⟩ (by simp only [LFm]; omega) ?_
  rintro z ⟨A, X, Y, B, hX, hY, hm, hb, rfl, hfin⟩
  have x0 := List.length_pos_iff.2 hX
  have y0 := List.length_pos_iff.2 hY
  have hmi : IntKind.i64.wrap (((P.length + U.length : Nat) : Int) - (X.length : Int)) = (A.length : Int) := by rw [z1Z (by omega) (by omega)]; omega
  simp only [zsb]
  by_cases h1 : (X.length : Int) = (Y.length : Int)
  · right
    rw [if_pos h1, hmi]
    have := zct (P := A) (X := X) (M := []) (Y := Y) (R := B) K (by omega) (by simp; omega) rfl (b := P.length + U.length) (by simp; omega) rfl
    rw [List.nil_append, List.nil_append] at this
    rw [this, Option.bind_some, hfin]
  · left
    rw [if_neg h1]
    by_cases h2 : (Y.length : Int) < (X.length : Int)
    · rw [if_pos h2, hmi]
      have hx1 : (X.take Y.length).length = Y.length := by rw [List.length_take]; omega
      have := zct (P := A) (X := X.take Y.length) (M := X.drop Y.length) (Y := Y) (R := B) K hx1 (by simp only [List.length_take, List.length_drop]; omega) rfl (b := P.length + U.length) (by simp only [List.length_take, List.length_drop]; omega) (n := Y.length) hx1.symm
      have e : A ++ (X.take Y.length ++ (X.drop Y.length ++ (Y ++ B))) = A ++ (X ++ (Y ++ B)) := by
        rw [← List.append_assoc (X.take Y.length), List.take_append_drop]
      rw [e] at this
      rw [this, Option.bind_some]
      have hw : IntKind.i64.wrap ((X.length : Int) - (Y.length : Int)) = ((X.drop Y.length).length : Int) := by rw [z1Z (by omega) (by omega), List.length_drop]; omega
      refine ⟨_, rfl, ⟨A ++ Y, X.drop Y.length, X.take Y.length, B, ?_, ?_, ?_, ?_, ?_, ?_⟩, ?_⟩
      · intro h; have := congrArg List.length h; simp at this; omega
      · intro h; rw [h] at hx1; simp at hx1; omega
      · rw [List.length_append, List.length_drop]; omega
      · rw [List.length_append, List.length_drop, hx1]; omega
      · rw [hw, hx1]; simp only [List.append_assoc]
      · rw [← hfin, List.append_assoc, ← List.append_assoc (X.take Y.length), List.take_append_drop]
      · simp only [hw, List.length_drop, Int.toNat_natCast]; omega
    · rw [if_neg h2, hmi]
      have hlt : X.length < Y.length := by omega
      have hb1 : IntKind.i64.wrap (IntKind.i64.wrap (((P.length + U.length : Nat) : Int) + (Y.length : Int)) - (X.length : Int)) = ((P.length + U.length + Y.length - X.length : Nat) : Int) := by
        rw [z1Z (x := ((P.length + U.length : Nat) : Int) + (Y.length : Int)) (by omega) (by omega), z1Z (by omega) (by omega)]; omega
      have hy1 : (Y.drop (Y.length - X.length)).length = X.length := by rw [List.length_drop]; omega
      have := zct (P := A) (X := X) (M := Y.take (Y.length - X.length)) (Y := Y.drop (Y.length - X.length)) (R := B) K hy1.symm (by simp only [List.length_take, List.length_drop]; omega) rfl (b := P.length + U.length + Y.length - X.length) (by simp only [List.length_take]; omega) rfl
      have e : A ++ (X ++ (Y.take (Y.length - X.length) ++ (Y.drop (Y.length - X.length) ++ B))) = A ++ (X ++ (Y ++ B)) := by
        rw [← List.append_assoc (Y.take (Y.length - X.length)), List.take_append_drop]
      rw [e] at this
      rw [hb1, this, Option.bind_some]
      have hw : IntKind.i64.wrap ((Y.length : Int) - (X.length : Int)) = ((Y.take (Y.length - X.length)).length : Int) := by rw [z1Z (by omega) (by omega), List.length_take]; omega
      refine ⟨_, rfl, ⟨A, Y.drop (Y.length - X.length), Y.take (Y.length - X.length), X ++ B, ?_, ?_, ?_, ?_, ?_, ?_⟩, ?_⟩
      · intro h; rw [h] at hy1; simp at hy1; omega
      · intro h; have := congrArg List.length h; simp at this; omega
      · rw [hy1]; exact hm
      · rw [hy1, List.length_take]; omega
      · rw [hw, hy1]
      · rw [← hfin, ← List.append_assoc (Y.take (Y.length - X.length)), List.take_append_drop]
      · simp only [hw, List.length_take, Int.toNat_natCast]; omega
theorem zs5 {ρ : Type} {b : Int × Int -> Option ((Int × Int) ⊕ ρ)} {p : Nat -> Bool} {lo hi : Nat} {Post : ρ -> Prop} (hlh : lo <= hi) (h40 : hi < 2 ^ 40) (hmono : ∀ i j, lo <= i -> i < j -> j < hi -> p j = true -> p i = true)
    (step : ∀ i j : Nat, lo <= i -> i < j -> j <= hi -> b ((i : Int), (j : Int)) = if p ((i + j) / 2) = true then z0e ((((i + j) / 2 + 1 : Nat) : Int), (j : Int)) else z0e ((i : Int), (((i + j) / 2 : Nat) : Int)))
    (last : ∀ s, lo <= s -> s <= hi -> (∀ k, lo <= k -> k < s -> p k = true) -> (∀ k, s <= k -> k < hi -> p k = false) -> ∃ r, b ((s : Int), (s : Int)) = some (.inr r) /\ Post r) :
    ∃ r, z0j b LFm ((lo : Int), (hi : Int)) = some r /\ Post r := by
  refine z1y (fun z => ∃ i j : Nat, lo <= i /\ i <= j /\ j <= hi /\ z = ((i : Int), (j : Int)) /\ (∀ k, lo <= k -> k < i -> p k = true) /\ (∀ k, j <= k -> k < hi -> p k = false)) (fun z => (z.2 - z.1).toNat) Post ?_ LFm _ ⟨lo, hi, by omega, hlh, by omega, rfl, fun k h1 h2 => by omega, fun k h1 h2 => by omega⟩ (by simp only [LFm]; omega)
  rintro z ⟨i, j, h1, h2, h3, rfl, h4, h5⟩
  by_cases hij : i < j
  · left
    rw [step i j h1 hij h3]
    by_cases hp : p ((i + j) / 2) = true
    · rw [if_pos hp]
      refine ⟨_, rfl, ⟨(i + j) / 2 + 1, j, by omega, by omega, h3, rfl, fun k k1 k2 => ?_, h5⟩, by simp only; omega⟩
      by_cases e : k = (i + j) / 2
      · rw [e]; exact hp
      · exact hmono k ((i + j) / 2) k1 (by omega) (by omega) hp
    · rw [if_neg hp]
      refine ⟨_, rfl, ⟨i, (i + j) / 2, h1, by omega, by omega, rfl, h4, fun k k1 k2 => ?_⟩, by simp only; omega⟩
      by_cases e : k = (i + j) / 2
      · rw [e]; simpa using hp
      · cases hk : p k with
        | false => rfl
        | true => exact absurd (hmono ((i + j) / 2) k (by omega) (by omega) k2 hk) hp
  · right
    obtain rfl : i = j := by omega
    exact last i h1 h3 h4 h5
end
section
open Go
set_option maxRecDepth 100000
theorem atM {A V B : List Int} {t i : Nat} (h : t < V.length) (hi : i = A.length + t) : atI (A ++ (V ++ B)) (i : Int) = some (V.getD t 0) := by
  subst hi
  rw [z1s (by simp; omega)]
  congr 1
  rw [List.getElem_append_right (by omega)]
  have : A.length + t - A.length = t := by omega
  simp only [this]
  rw [List.getElem_append_left h, List.getD, List.getElem?_eq_getElem h, Option.getD_some]
theorem zxv {K : SrtC} {V : List Int} (hv : zil K V) {t : Nat} (h : t < V.length) : okS K (V.getD t 0) := by
  rw [List.getD, List.getElem?_eq_getElem h, Option.getD_some]; exact hv _ (List.getElem_mem h)
theorem z6s {K : SrtC} {V : List Int} (hs : z9g K V) {i j : Nat} (hij : i <= j) (hj : j < V.length) : kvC K (V.getD i 0) <= kvC K (V.getD j 0) := by
  rw [List.getD, List.getD, List.getElem?_eq_getElem hj, List.getElem?_eq_getElem (show i < V.length by omega), Option.getD_some, Option.getD_some]
  by_cases e : i = j
  · subst e; omega
  · exact List.pairwise_iff_getElem.1 hs i j (by omega) hj (by omega)
theorem z4V {V : List Int} {k : Nat} {x : Int} (h : x ∈ V.take k) : ∃ i, i < k /\ i < V.length /\ x = V.getD i 0 := by
  obtain ⟨i, hi, rfl⟩ := List.getElem_of_mem h
  have hi' : i < k /\ i < V.length := by rw [List.length_take] at hi; omega
  refine ⟨i, hi'.1, hi'.2, ?_⟩
  rw [List.getElem_take, List.getD, List.getElem?_eq_getElem hi'.2, Option.getD_some]
theorem z4W {V : List Int} {k : Nat} {x : Int} (h : x ∈ V.drop k) : ∃ i, k <= i /\ i < V.length /\ x = V.getD i 0 := by
  obtain ⟨i, hi, rfl⟩ := List.getElem_of_mem h
  have hi' : k + i < V.length := by rw [List.length_drop] at hi; omega
  refine ⟨k + i, by omega, hi', ?_⟩
  rw [List.getElem_drop, List.getD, List.getElem?_eq_getElem hi', Option.getD_some]
theorem zr8 {K : SrtC} {V1 V2 : List Int} {x : Int} (hs : z9g K (V1 ++ V2)) (h1 : ∀ y ∈ V1, kvC K y <= kvC K x) (h2 : ∀ y ∈ V2, kvC K x <= kvC K y) : z9g K (V1 ++ x :: V2) := by
  rw [z9g, List.pairwise_append] at hs ⊢
  refine ⟨hs.1, List.pairwise_cons.2 ⟨h2, hs.2.1⟩, fun a ha b hb => ?_⟩
  rcases List.mem_cons.1 hb with rfl | hb
  · exact h1 a ha
  · exact hs.2.2 a ha b hb
def tl3 (rf : List Int -> Int -> Int -> Int -> SrtC -> Option (List Int)) (K : SrtC) (M E b : Int) (v : List Int) : Option (List Int) :=
  if M < E then (if E < b then (rf v M E b K).bind fun r => some r else some v) else some v
def tl2 (rf : List Int -> Int -> Int -> Int -> SrtC -> Option (List Int)) (K : SrtC) (a s M E b : Int) (v : List Int) : Option (List Int) :=
  if a < s then (if s < M then (rf v a s M K).bind fun r => tl3 rf K M E b r else tl3 rf K M E b v) else tl3 rf K M E b v
def tl1 (rf : List Int -> Int -> Int -> Int -> SrtC -> Option (List Int)) (K : SrtC) (a m s M E b : Int) (v : List Int) : Option (List Int) :=
  if s < m then (if m < E then (zxx v s m E K).bind fun r => tl2 rf K a s M E b r else tl2 rf K a s M E b v) else tl2 rf K a s M E b v
def zig (rf : List Int -> Int -> Int -> Int -> SrtC -> Option (List Int)) (K : SrtC) (N : Nat) : Prop :=
  ∀ {P U V R : List Int} {a m b : Nat}, U ≠ [] -> V ≠ [] -> zil K (U ++ V) -> z9g K U -> z9g K V -> Bef U V -> P.length + U.length + V.length < 2 ^ 40 -> U.length + V.length <= N -> a = P.length -> m = P.length + U.length -> b = P.length + U.length + V.length ->
    ∃ W, rf (P ++ (U ++ (V ++ R))) (a : Int) (m : Int) (b : Int) K = some (P ++ (W ++ R)) /\ z9g K W /\ W.Perm (U ++ V)
theorem zkc {rf : List Int -> Int -> Int -> Int -> SrtC -> Option (List Int)} {K : SrtC} {N : Nat} (hrf : zig rf K N) {P U V R : List Int} {a m b : Nat} (hv : zil K (U ++ V)) (hsU : z9g K U) (hsV : z9g K V) (hBf : Bef U V) (hl : P.length + U.length + V.length < 2 ^ 40) (hN : U.length + V.length <= N) (ha : a = P.length) (hm : m = P.length + U.length) (hb : b = P.length + U.length + V.length)
    (f : List Int -> Option (List Int)) :
    ∃ W, (if (a : Int) < (m : Int) then (if (m : Int) < (b : Int) then (rf (P ++ (U ++ (V ++ R))) (a : Int) (m : Int) (b : Int) K).bind f else f (P ++ (U ++ (V ++ R)))) else f (P ++ (U ++ (V ++ R)))) = f (P ++ (W ++ R)) /\ z9g K W /\ W.Perm (U ++ V) := by
  by_cases h1 : U = []
  · subst h1
    rw [if_neg (by simp at hm; omega)]
    exact ⟨V, by simp, hsV, .refl _⟩
  · have h1' := List.length_pos_iff.2 h1
    rw [if_pos (by omega)]
    by_cases h2 : V = []
    · subst h2
      rw [if_neg (by simp at hb; omega)]
      exact ⟨U, by simp, hsU, by simp⟩
    · have h2' := List.length_pos_iff.2 h2
      rw [if_pos (by omega)]
      obtain ⟨W, e, w1, w2⟩ := hrf h1 h2 hv hsU hsV hBf hl hN ha hm hb (R := R)
      exact ⟨W, by rw [e, Option.bind_some], w1, w2⟩
theorem zwi {rf : List Int -> Int -> Int -> Int -> SrtC -> Option (List Int)} {K : SrtC} {N : Nat} (hrf : zig rf K N) {P U1 U2 V1 V2 R : List Int} {a m b s M E : Nat} (hv : zil K (U1 ++ U2 ++ (V1 ++ V2))) (hsU : z9g K (U1 ++ U2)) (hsV : z9g K (V1 ++ V2)) (hBf : Bef (U1 ++ U2) (V1 ++ V2)) (hl : P.length + U1.length + U2.length + V1.length + V2.length < 2 ^ 40)
    (h1 : U1.length + V1.length <= N) (h2 : U2.length + V2.length <= N) (ha : a = P.length) (hs : s = a + U1.length) (hm : m = s + U2.length) (hE : E = m + V1.length) (hb : b = E + V2.length) (hM : M = s + V1.length)
    (c1 : ∀ x ∈ U1, ∀ y ∈ V2, kvC K x <= kvC K y) (c2 : ∀ x ∈ V1, ∀ y ∈ U2, kvC K x <= kvC K y) :
    ∃ W, tl1 rf K (a : Int) (m : Int) (s : Int) (M : Int) (E : Int) (b : Int) (P ++ (U1 ++ U2 ++ (V1 ++ V2 ++ R))) = some (P ++ (W ++ R)) /\ z9g K W /\ W.Perm (U1 ++ U2 ++ (V1 ++ V2)) := by
  have e0 : tl1 rf K (a : Int) (m : Int) (s : Int) (M : Int) (E : Int) (b : Int) (P ++ (U1 ++ U2 ++ (V1 ++ V2 ++ R))) = tl2 rf K (a : Int) (s : Int) (M : Int) (E : Int) (b : Int) (P ++ (U1 ++ (V1 ++ (U2 ++ (V2 ++ R))))) := by
    unfold tl1
    by_cases hu : U2 = []
    · subst hu
      rw [if_neg (by simp at hm; omega)]; simp
    · have hu' := List.length_pos_iff.2 hu
      rw [if_pos (by omega)]
      by_cases hw : V1 = []
      · subst hw
        rw [if_neg (by simp at hE; omega)]; simp
      · have hw' := List.length_pos_iff.2 hw
        rw [if_pos (by omega)]
        have := rotate (P := P ++ U1) (U := U2) (V := V1) (R := V2 ++ R) K hu hw (by simp; omega) (a := s) (m := m) (b := E) (by simp; omega) (by simp; omega) (by simp; omega)
        have e : P ++ U1 ++ (U2 ++ (V1 ++ (V2 ++ R))) = P ++ (U1 ++ U2 ++ (V1 ++ V2 ++ R)) := by simp only [List.append_assoc]
        rw [e] at this
        rw [this, Option.bind_some]
        simp only [List.append_assoc]
  rw [e0]
  have q1 := List.pairwise_append.1 hsU
  have q2 := List.pairwise_append.1 hsV
  have m1 : ∀ x ∈ U1 ++ V1, x ∈ U1 ++ U2 ++ (V1 ++ V2) := fun x hx => by
    simp only [List.mem_append] at *
    rcases hx with h | h
    · exact .inl (.inl h)
    · exact .inr (.inl h)
  have m2 : ∀ x ∈ U2 ++ V2, x ∈ U1 ++ U2 ++ (V1 ++ V2) := fun x hx => by
    simp only [List.mem_append] at *
    rcases hx with h | h
    · exact .inl (.inr h)
    · exact .inr (.inr h)
  obtain ⟨L, e1, l1, l2⟩ := zkc (R := U2 ++ (V2 ++ R)) hrf (P := P) (U := U1) (V := V1) (fun x hx => hv x (m1 x hx)) q1.1 q2.1 (fun x hx y hy => hBf x (List.mem_append.2 (.inl hx)) y (List.mem_append.2 (.inl hy))) (by omega) h1 ha (m := s) (by omega) (b := M) (by omega) (tl3 rf K (M : Int) (E : Int) (b : Int))
  have hL := l2.length_eq
  rw [List.length_append] at hL
  unfold tl2
  rw [e1]
  obtain ⟨Rw, e2, r1, r2⟩ := zkc (R := R) hrf (P := P ++ L) (U := U2) (V := V2) (fun x hx => hv x (m2 x hx)) q1.2.1 q2.2.1 (fun x hx y hy => hBf x (List.mem_append.2 (.inr hx)) y (List.mem_append.2 (.inr hy))) (by rw [List.length_append]; omega) h2 (a := M) (by rw [List.length_append]; omega) (m := E) (by rw [List.length_append]; omega) (b := b) (by rw [List.length_append]; omega) (fun r => some r)
  unfold tl3
  have e : P ++ (L ++ (U2 ++ (V2 ++ R))) = P ++ L ++ (U2 ++ (V2 ++ R)) := by simp only [List.append_assoc]
  rw [e, e2]
  refine ⟨L ++ Rw, by simp only [List.append_assoc], ?_, ?_⟩
  · refine List.pairwise_append.2 ⟨l1, r1, fun x hx y hy => ?_⟩
    have hx' := l2.mem_iff.1 hx
    have hy' := r2.mem_iff.1 hy
    rcases List.mem_append.1 hx' with hx' | hx' <;> rcases List.mem_append.1 hy' with hy' | hy'
    · exact q1.2.2 x hx' y hy'
    · exact c1 x hx' y hy'
    · exact c2 x hx' y hy'
    · exact q2.2.2 x hx' y hy'
  · refine (l2.append r2).trans ?_
    have : (U1 ++ V1 ++ (U2 ++ V2)).Perm (U1 ++ U2 ++ (V1 ++ V2)) := by
      simp only [List.append_assoc]
      refine List.Perm.append_left U1 ?_
      rw [← List.append_assoc, ← List.append_assoc]
      exact List.perm_append_comm.append_right V2
    exact this
theorem zjR {rf : List Int -> Int -> Int -> Int -> SrtC -> Option (List Int)} {K : SrtC} {N : Nat} (hrf : zig rf K N) {P U V R : List Int} (hv : zil K (U ++ V)) (hsU : z9g K U) (hsV : z9g K V) (hBf : Bef U V) (hl : P.length + U.length + V.length < 2 ^ 40) {a m b M lo hi : Nat} (ha : a = P.length) (hm : m = P.length + U.length) (hb : b = P.length + U.length + V.length)
    (hU2 : 2 <= U.length) (hV2 : 2 <= V.length) (hN : U.length + V.length <= N + 1) (hM : M = (a + b) / 2) (hlo : (lo = a /\ m <= M) ∨ (lo = M + m - b /\ M < m)) (hhi : (hi = m /\ m <= M) ∨ (hi = M /\ M < m)) :
    ∃ r, z0j (z9N (P ++ (U ++ (V ++ R))) (a : Int) (m : Int) (b : Int) K rf) LFm ((lo : Int), (hi : Int)) = some r /\ ∃ W, r = P ++ (W ++ R) /\ z9g K W /\ W.Perm (U ++ V) := by
  have hvU : zil K U := fun x hx => hv x (List.mem_append.2 (.inl hx))
  have hvV : zil K V := fun x hx => hv x (List.mem_append.2 (.inr hx))
  have cM : IntKind.i64.wrap (z0l .u64 (IntKind.u64.wrap (IntKind.i64.wrap ((a : Int) + b))) 1) = (M : Int) := by rw [zwQ _ _ (by omega), hM]
  have cN : IntKind.i64.wrap ((M : Int) + (m : Int)) = ((M + m : Nat) : Int) := by rw [z1Z (by omega) (by omega)]; omega
  have cP : IntKind.i64.wrap (((M + m : Nat) : Int) - 1) = ((M + m - 1 : Nat) : Int) := by rw [z1Z (by omega) (by omega)]; omega
  refine zs5 (p := fun c => decide (kvC K (U.getD (c - a) 0) <= kvC K (V.getD (M + m - 1 - c - m) 0))) (by omega) (by omega) (fun i j h1 h2 h3 hp => ?_) (fun i j h1 h2 h3 => ?_) (fun s h1 h2 h3 h4 => ?_)
  · simp only [decide_eq_true_eq] at hp ⊢
    have k1 := z6s hsU (i := i - a) (j := j - a) (by omega) (by omega)
    have k2 := z6s hsV (i := M + m - 1 - j - m) (j := M + m - 1 - i - m) (by omega) (by omega)
    omega
  · simp only [z9N]
    rw [if_pos (by omega), z0m _ (by omega), cM, zwQ i j (by omega), cN, cP]
    have hc : (i + j) / 2 < hi /\ lo <= (i + j) / 2 := by omega
    have w1 : IntKind.i64.wrap (((M + m - 1 : Nat) : Int) - (((i + j) / 2 : Nat) : Int)) = ((M + m - 1 - (i + j) / 2 : Nat) : Int) := by rw [z1Z (by omega) (by omega)]; omega
    have e1 : P ++ (U ++ (V ++ R)) = (P ++ U) ++ (V ++ R) := by simp only [List.append_assoc]
    have g1 : atI (P ++ (U ++ (V ++ R))) ((M + m - 1 - (i + j) / 2 : Nat) : Int) = some (V.getD (M + m - 1 - (i + j) / 2 - m) 0) := by
      rw [e1]; exact atM (by omega) (by rw [List.length_append]; omega)
    have g2 : atI (P ++ (U ++ (V ++ R))) (((i + j) / 2 : Nat) : Int) = some (U.getD ((i + j) / 2 - a) 0) := atM (by omega) (by omega)
    rw [w1, g1, Option.bind_some, g2, Option.bind_some]
    obtain ⟨c, hc1, hc2⟩ := zxE (zxv hvV (t := M + m - 1 - (i + j) / 2 - m) (by omega)) (zxv hvU (t := (i + j) / 2 - a) (by omega)) (hBf _ (z9J (by omega)) _ (z9J (by omega)))
    rw [hc1, Option.bind_some]
    simp only [decide_eq_true_eq]
    by_cases h : c < 0
    · have := hc2.1 h
      rw [if_pos h, if_neg (by omega)]
    · have := (not_congr hc2).1 h
      rw [if_neg h, if_pos (by omega), z0T (by omega)]
  · have wE : IntKind.i64.wrap (((M + m : Nat) : Int) - (s : Int)) = ((M + m - s : Nat) : Int) := by rw [z1Z (by omega) (by omega)]; omega
    have hx : (z9N (P ++ (U ++ (V ++ R))) (a : Int) (m : Int) (b : Int) K rf) ((s : Int), (s : Int)) = z0k (tl1 rf K (a : Int) (m : Int) (s : Int) (M : Int) ((M + m - s : Nat) : Int) (b : Int) (P ++ (U ++ (V ++ R)))) := by
      simp only [z9N]
      rw [if_neg (by omega), cM, cN, wE]
      rfl
    have hsa : a <= s /\ s <= m /\ s <= M := by omega
    have tU : U.take (s - a) ++ U.drop (s - a) = U := List.take_append_drop ..
    have tV : V.take (M - s) ++ V.drop (M - s) = V := List.take_append_drop ..
    have lU1 : (U.take (s - a)).length = s - a := by rw [List.length_take]; omega
    have lU2 : (U.drop (s - a)).length = m - s := by rw [List.length_drop]; omega
    have lV1 : (V.take (M - s)).length = M - s := by rw [List.length_take]; omega
    have lV2 : (V.drop (M - s)).length = b - (M + m - s) := by rw [List.length_drop]; omega
    have c1 : ∀ x ∈ U.take (s - a), ∀ y ∈ V.drop (M - s), kvC K x <= kvC K y := fun x hx y hy => by
      obtain ⟨i, i1, i2, rfl⟩ := z4V hx
      obtain ⟨j, j1, j2, rfl⟩ := z4W hy
      have hs1 : lo <= s - 1 /\ s - 1 < s := by omega
      have := h3 (s - 1) hs1.1 hs1.2
      simp only [decide_eq_true_eq] at this
      have k1 := z6s hsU (i := i) (j := s - 1 - a) (by omega) (by omega)
      have k2 := z6s hsV (i := M + m - 1 - (s - 1) - m) (j := j) (by omega) (by omega)
      omega
    have c2 : ∀ x ∈ V.take (M - s), ∀ y ∈ U.drop (s - a), kvC K x <= kvC K y := fun x hx y hy => by
      obtain ⟨i, i1, i2, rfl⟩ := z4V hx
      obtain ⟨j, j1, j2, rfl⟩ := z4W hy
      have hs1 : s <= s /\ s < hi := by omega
      have := h4 s hs1.1 hs1.2
      simp only [decide_eq_false_iff_not] at this
      have k1 := z6s hsU (i := s - a) (j := j) (by omega) (by omega)
      have k2 := z6s hsV (i := i) (j := M + m - 1 - s - m) (by omega) (by omega)
      omega
    obtain ⟨W, e, w1, w2⟩ := zwi (P := P) (U1 := U.take (s - a)) (U2 := U.drop (s - a)) (V1 := V.take (M - s)) (V2 := V.drop (M - s)) (R := R) hrf (a := a) (m := m) (b := b) (s := s) (M := M) (E := M + m - s) (by rw [tU, tV]; exact hv) (by rw [tU]; exact hsU) (by rw [tV]; exact hsV) (by rw [tU, tV]; exact hBf) (by omega) (by omega) (by omega) ha (by omega) (by omega) (by omega) (by omega) (by omega) c1 c2
    rw [tU, tV] at e w2
    rw [hx, e]
    exact ⟨_, rfl, W, rfl, w1, w2⟩
theorem zeG {K : SrtC} : ∀ (k : Nat) {P U V R : List Int} {a m b : Nat}, U ≠ [] -> V ≠ [] -> zil K (U ++ V) -> z9g K U -> z9g K V -> Bef U V -> P.length + U.length + V.length < 2 ^ 40 -> U.length + V.length <= k -> a = P.length -> m = P.length + U.length -> b = P.length + U.length + V.length ->
    ∃ W, zuv k (P ++ (U ++ (V ++ R))) (a : Int) (m : Int) (b : Int) K = some (P ++ (W ++ R)) /\ z9g K W /\ W.Perm (U ++ V)
  | 0, P, U, V, R, a, m, b, hU, _, _, _, _, _, _, hk, _, _, _ => by
    have := List.length_pos_iff.2 hU
    omega
  | k + 1, P, U, V, R, a, m, b, hU, hV, hv, hsU, hsV, hBf, hl, hk, ha, hm, hb => by
    have u0 := List.length_pos_iff.2 hU
    have v0 := List.length_pos_iff.2 hV
    have hvU : zil K U := fun x hx => hv x (List.mem_append.2 (.inl hx))
    have hvV : zil K V := fun x hx => hv x (List.mem_append.2 (.inr hx))
    have cU : IntKind.i64.wrap ((m : Int) - (a : Int)) = (U.length : Int) := by rw [z1Z (by omega) (by omega)]; omega
    have cV : IntKind.i64.wrap ((b : Int) - (m : Int)) = (V.length : Int) := by rw [z1Z (by omega) (by omega)]; omega
    show ∃ W, zsa (zuv k) (P ++ (U ++ (V ++ R))) (a : Int) (m : Int) (b : Int) K = _ /\ _
    unfold zsa
    rw [cU, cV]
    by_cases h1 : U.length = 1
    · obtain ⟨x, rfl⟩ := List.length_eq_one_iff.1 h1
      rw [if_pos (by simp)]
      have hx : okS K x := hvU x (by simp)
      have := zs5 (b := zhW (P ++ ([x] ++ (V ++ R))) (a : Int) K) (p := fun h => decide (kvC K (V.getD (h - m) 0) < kvC K x)) (lo := m) (hi := b) (Post := fun r => ∃ W, r = P ++ (W ++ R) /\ z9g K W /\ W.Perm ([x] ++ V)) (by omega) (by omega) (fun i j q1 q2 q3 hp => ?_) (fun i j q1 q2 q3 => ?_) (fun s q1 q2 q3 q4 => ?_)
      · obtain ⟨r, e, W, rfl, w1, w2⟩ := this
        exact ⟨W, e, w1, w2⟩
      · simp only [decide_eq_true_eq] at hp ⊢
        have k1 := z6s hsV (i := i - m) (j := j - m) (by omega) (by omega)
        omega
      · simp only [zhW]
        rw [if_pos (by omega), z0m _ (by omega), zwQ _ _ (by omega)]
        have e1 : P ++ ([x] ++ (V ++ R)) = (P ++ [x]) ++ (V ++ R) := by simp only [List.append_assoc]
        have g1 : atI (P ++ ([x] ++ (V ++ R))) (((i + j) / 2 : Nat) : Int) = some (V.getD ((i + j) / 2 - m) 0) := by
          rw [e1]; exact atM (by omega) (by rw [List.length_append]; simp at hm ⊢; omega)
        rw [g1, Option.bind_some, show P ++ ([x] ++ (V ++ R)) = P ++ x :: (V ++ R) from rfl, at0 _ _ _ ha, Option.bind_some]
        obtain ⟨c, hc1, hc2⟩ := zxE (zxv hvV (t := (i + j) / 2 - m) (by omega)) hx (hBf _ (by simp) _ (z9J (by omega)))
        rw [hc1, Option.bind_some]
        simp only [decide_eq_true_eq]
        by_cases h : c < 0
        · rw [if_pos h, if_pos (hc2.1 h), z0T (by omega)]
        · rw [if_neg h, if_neg ((not_congr hc2).1 h)]
      · simp only [zhW]
        rw [if_neg (by omega)]
        have lV1 : (V.take (s - m)).length = s - m := by rw [List.length_take]; omega
        simp only [List.length_singleton] at *
        have := zt0 (P := P) (V := V.take (s - m)) (R := V.drop (s - m) ++ R) (x := x) (by omega) (w := s) (by omega)
        rw [← List.append_assoc (V.take (s - m)), List.take_append_drop] at this
        rw [show P ++ ([x] ++ (V ++ R)) = P ++ x :: (V ++ R) from rfl, ha, this]
        refine ⟨_, rfl, V.take (s - m) ++ x :: V.drop (s - m), by simp only [List.append_assoc, List.cons_append], ?_, ?_⟩
        · refine zr8 (by rw [List.take_append_drop]; exact hsV) (fun y hy => ?_) (fun y hy => ?_)
          · obtain ⟨i, i1, i2, rfl⟩ := z4V hy
            have := q3 (m + i) (by omega) (by omega)
            simp only [decide_eq_true_eq, Nat.add_sub_cancel_left] at this
            omega
          · obtain ⟨i, i1, i2, rfl⟩ := z4W hy
            have := q4 (m + i) (by omega) (by omega)
            simp only [decide_eq_false_iff_not, Nat.add_sub_cancel_left] at this
            omega
        · refine List.perm_middle.trans ?_
          rw [List.take_append_drop]
          exact .refl _
    · rw [if_neg (by omega)]
      by_cases h2 : V.length = 1
      · obtain ⟨x, rfl⟩ := List.length_eq_one_iff.1 h2
        rw [if_pos (by simp)]
        have hx : okS K x := hvV x (by simp)
        have := zs5 (b := zdk (P ++ (U ++ ([x] ++ R))) (m : Int) K) (p := fun h => decide (kvC K (U.getD (h - a) 0) <= kvC K x)) (lo := a) (hi := m) (Post := fun r => ∃ W, r = P ++ (W ++ R) /\ z9g K W /\ W.Perm (U ++ [x])) (by omega) (by omega) (fun i j q1 q2 q3 hp => ?_) (fun i j q1 q2 q3 => ?_) (fun s q1 q2 q3 q4 => ?_)
        · obtain ⟨r, e, W, rfl, w1, w2⟩ := this
          exact ⟨W, e, w1, w2⟩
        · simp only [decide_eq_true_eq] at hp ⊢
          have k1 := z6s hsU (i := i - a) (j := j - a) (by omega) (by omega)
          omega
        · simp only [zdk]
          have e1 : P ++ (U ++ ([x] ++ R)) = (P ++ U) ++ x :: R := by simp only [List.append_assoc, List.cons_append, List.nil_append]
          have g1 : atI (P ++ (U ++ ([x] ++ R))) (((i + j) / 2 : Nat) : Int) = some (U.getD ((i + j) / 2 - a) 0) := atM (by omega) (by omega)
          have g2 : atI (P ++ (U ++ ([x] ++ R))) (m : Int) = some x := by rw [e1]; exact at0 _ _ _ (by rw [List.length_append]; omega)
          rw [if_pos (by omega), z0m _ (by omega), zwQ _ _ (by omega), g2, Option.bind_some, g1, Option.bind_some]
          obtain ⟨c, hc1, hc2⟩ := zxE hx (zxv hvU (t := (i + j) / 2 - a) (by omega)) (hBf _ (z9J (by omega)) _ (by simp))
          rw [hc1, Option.bind_some]
          simp only [decide_eq_true_eq]
          by_cases h : c < 0
          · have := hc2.1 h
            rw [if_pos h, if_neg (by omega)]
          · have := (not_congr hc2).1 h
            rw [if_neg h, if_pos (by omega), z0T (by omega)]
        · simp only [zdk]
          rw [if_neg (by omega)]
          have lU1 : (U.take (s - a)).length = s - a := by rw [List.length_take]; omega
          have lU2 : (U.drop (s - a)).length = m - s := by rw [List.length_drop]; omega
          simp only [List.length_singleton] at *
          have := zqh (P := P ++ U.take (s - a)) (V := U.drop (s - a)) (R := R) (x := x) (by rw [List.length_append]; omega)
          have e2 : (P ++ U.take (s - a)).length = s := by rw [List.length_append]; omega
          have e3 : (P ++ U.take (s - a)).length + (U.drop (s - a)).length = m := by rw [e2, lU2]; omega
          have e4 : P ++ U.take (s - a) ++ U.drop (s - a) ++ x :: R = P ++ (U ++ ([x] ++ R)) := by
            rw [List.append_assoc P, List.take_append_drop]; simp only [List.append_assoc, List.cons_append, List.nil_append]
          rw [e3, e4, e2] at this
          rw [this]
          refine ⟨_, rfl, U.take (s - a) ++ x :: U.drop (s - a), by simp only [List.append_assoc, List.cons_append], ?_, ?_⟩
          · refine zr8 (by rw [List.take_append_drop]; exact hsU) (fun y hy => ?_) (fun y hy => ?_)
            · obtain ⟨i, i1, i2, rfl⟩ := z4V hy
              have := q3 (a + i) (by omega) (by omega)
              simp only [decide_eq_true_eq, Nat.add_sub_cancel_left] at this
              omega
            · obtain ⟨i, i1, i2, rfl⟩ := z4W hy
              have := q4 (a + i) (by omega) (by omega)
              simp only [decide_eq_false_iff_not, Nat.add_sub_cancel_left] at this
              omega
          · refine List.perm_middle.trans ?_
            rw [List.take_append_drop]
            exact (List.perm_append_singleton x U).symm
      · rw [if_neg (by omega)]
        have hrf : zig (zuv k) K k := fun {P' U' V' R' a' m' b'} g1 g2 g3 g4 g5 g6 g7 g8 g9 g10 g11 => zeG k g1 g2 g3 g4 g5 g6 g7 g8 g9 g10 g11
        have cM : IntKind.i64.wrap (z0l .u64 (IntKind.u64.wrap (IntKind.i64.wrap ((a : Int) + b))) 1) = (((a + b) / 2 : Nat) : Int) := zwQ _ _ (by omega)
        have cN : IntKind.i64.wrap ((((a + b) / 2 : Nat) : Int) + (m : Int)) = (((a + b) / 2 + m : Nat) : Int) := by rw [z1Z (by omega) (by omega)]; omega
        rw [z0m _ (by omega), cM, cN]
        by_cases hMm : (a + b) / 2 < m
        · have cB : IntKind.i64.wrap ((((a + b) / 2 + m : Nat) : Int) - (b : Int)) = (((a + b) / 2 + m - b : Nat) : Int) := by rw [z1Z (by omega) (by omega)]; omega
          rw [if_pos (by omega), cB]
          obtain ⟨r, e, W, rfl, w1, w2⟩ := zjR (R := R) hrf hv hsU hsV hBf hl (M := (a + b) / 2) (lo := (a + b) / 2 + m - b) (hi := (a + b) / 2) ha hm hb (by omega) (by omega) (by omega) rfl (.inr ⟨rfl, hMm⟩) (.inr ⟨rfl, hMm⟩)
          exact ⟨W, e, w1, w2⟩
        · rw [if_neg (by omega)]
          obtain ⟨r, e, W, rfl, w1, w2⟩ := zjR (R := R) hrf hv hsU hsV hBf hl (M := (a + b) / 2) (lo := a) (hi := m) ha hm hb (by omega) (by omega) (by omega) rfl (.inl ⟨rfl, by omega⟩) (.inl ⟨rfl, by omega⟩)
          exact ⟨W, e, w1, w2⟩
end
section
open Go
set_option maxRecDepth 100000
def zik (K : SrtC) (B : Nat) (l : List Int) : Prop := (∀ i j, i < j -> j < l.length -> i / B = j / B -> kvC K (l.getD i 0) <= kvC K (l.getD j 0)) /\ ∀ i j, j < l.length -> i / B < j / B -> l.getD i 0 < l.getD j 0
theorem zwp {K : SrtC} {l : List Int} (h : ∀ i j, i < j -> j < l.length -> kvC K (l.getD i 0) <= kvC K (l.getD j 0)) : z9g K l := by
  refine List.pairwise_iff_getElem.2 fun i j hi hj hij => ?_
  have := h i j hij hj
  rwa [List.getD, List.getD, List.getElem?_eq_getElem hj, List.getElem?_eq_getElem hi, Option.getD_some, Option.getD_some] at this
theorem zfa {A X : List Int} {i : Nat} (h : i < A.length) : (A ++ X).getD i 0 = A.getD i 0 := by
  rw [List.getD, List.getD, List.getElem?_append_left h]
theorem zf9 {A X : List Int} {i : Nat} : (A ++ X).getD (A.length + i) 0 = X.getD i 0 := by
  rw [List.getD, List.getD, List.getElem?_append_right (by omega), Nat.add_sub_cancel_left]
theorem zi8 {K : SrtC} {A X : List Int} {B q : Nat} (hB : 0 < B) (hA : A.length = q * B) (h : zik K B (A ++ X)) : zik K B X := by
  have e : ∀ i, (A.length + i) / B = i / B + q := fun i => by rw [hA, Nat.add_comm, Nat.add_mul_div_right _ _ hB]
  refine ⟨fun i j hij hj hb => ?_, fun i j hj hb => ?_⟩
  · have := h.1 (A.length + i) (A.length + j) (by omega) (by rw [List.length_append]; omega) (by rw [e, e, hb])
    rwa [zf9, zf9] at this
  · have := h.2 (A.length + i) (A.length + j) (by rw [List.length_append]; omega) (by rw [e, e]; omega)
    rwa [zf9, zf9] at this
theorem zcR {K : SrtC} {U X : List Int} {B : Nat} (hU : U.length <= B) (h : zik K B (U ++ X)) : z9g K U := zwp fun i j hij hj => by
  have := h.1 i j hij (by rw [List.length_append]; omega) (by rw [Nat.div_eq_of_lt (by omega), Nat.div_eq_of_lt (by omega)])
  rwa [zfa (by omega), zfa hj] at this
theorem zi9 {K : SrtC} {X : List Int} {B : Nat} (hB : 0 < B) (h : zik K B X) : Bef (X.take B) (X.drop B) := fun x hx y hy => by
  obtain ⟨i, i1, i2, rfl⟩ := z4V hx
  obtain ⟨j, j1, j2, rfl⟩ := z4W hy
  have := Nat.div_pos j1 hB
  exact h.2 i j j2 (by rw [Nat.div_eq_of_lt i1]; exact this)
theorem zbn {K : SrtC} {D W : List Int} {B q : Nat} (hB : 0 < B) (hD : D.length = q * B) (h : zik K B D) (hW : z9g K W) (hl : W.length <= B) (hBf : Bef D W) : zik K B (D ++ W) := by
  have e : ∀ i, (D.length + i) / B = i / B + q := fun i => by rw [hD, Nat.add_comm, Nat.add_mul_div_right _ _ hB]
  refine ⟨fun i j hij hj hb => ?_, fun i j hj hb => ?_⟩
  · by_cases h1 : j < D.length
    · rw [zfa (by omega), zfa h1]
      exact h.1 i j hij h1 hb
    · have h2 : D.length <= i := by
        rcases Nat.lt_or_ge i D.length with h2 | h2
        · exfalso
          have a1 : i / B < q := by rw [Nat.div_lt_iff_lt_mul hB, ← hD]; exact h2
          have a2 : q <= j / B := by rw [Nat.le_div_iff_mul_le hB, ← hD]; omega
          omega
        · exact h2
      obtain ⟨i', rfl⟩ := Nat.exists_eq_add_of_le h2
      obtain ⟨j', rfl⟩ := Nat.exists_eq_add_of_le (show D.length <= j by omega)
      rw [zf9, zf9]
      exact z6s hW (by omega) (by rw [List.length_append] at hj; omega)
  · have hij : i < j := Nat.lt_of_not_le fun hji => by have := Nat.div_le_div_right (c := B) hji; omega
    rw [List.length_append] at hj
    by_cases h1 : j < D.length
    · rw [zfa (by omega), zfa h1]
      exact h.2 i j h1 hb
    · obtain ⟨j', rfl⟩ := Nat.exists_eq_add_of_le (show D.length <= j by omega)
      by_cases h2 : i < D.length
      · rw [zfa h2, zf9]
        exact hBf _ (z9J h2) _ (z9J (by omega))
      · obtain ⟨i', rfl⟩ := Nat.exists_eq_add_of_le (show D.length <= i by omega)
        rw [e, e, Nat.div_eq_of_lt (by omega), Nat.div_eq_of_lt (by omega)] at hb
        omega
theorem zsz (K : SrtC) (B : Nat) : zik K B [] := ⟨fun i j _ hj => by simp at hj, fun i j hj => by simp at hj⟩
theorem zu2 {K : SrtC} {l0 : List Int} (hv : zil K l0) (ha : l0.Pairwise (· < ·)) (hn : l0.length < 2 ^ 38) (Post : List Int -> Prop) (k : ∀ D, zik K 20 D -> D.Perm l0 -> ∃ r, z0j (zfb ((l0.length : Nat) : Int) K) LFm (20, D) = some r /\ Post r) :
    ∃ r, z0j (zfc ((l0.length : Nat) : Int) K) LFm (0, 20, l0) = some r /\ Post r := by
  refine z1y (fun z => ∃ (D X : List Int) (q : Nat), D.length = q * 20 /\ z = ((D.length : Int), ((D.length + 20 : Nat) : Int), D ++ X) /\ zik K 20 D /\ Bef D X /\ X.Pairwise (· < ·) /\ (D ++ X).Perm l0) (fun z => l0.length + 1 - z.1.toNat) Post ?_ LFm _ ⟨[], l0, 0, rfl, rfl, zsz K 20, (fun x hx => by simp at hx), ha, .refl _⟩ (by simp only [LFm]; omega)
  rintro z ⟨D, X, q, hq, rfl, hD, hBf, hXp, hp⟩
  have hlen := hp.length_eq
  rw [List.length_append] at hlen
  have hvX : zil K X := fun x hx => hv x (hp.mem_iff.1 (List.mem_append.2 (.inr hx)))
  simp only [zfc]
  by_cases h : D.length + 20 <= l0.length
  · left
    rw [if_pos (by omega)]
    have t1 : X.take 20 ++ X.drop 20 = X := List.take_append_drop ..
    have t2 : (X.take 20).length = 20 := by rw [List.length_take]; omega
    obtain ⟨S, e, s1, s2⟩ := znr (P := D) (X := X.take 20) (R := X.drop 20) (fun x hx => hvX x (List.mem_of_mem_take hx)) (hXp.sublist (List.take_sublist ..)) (by omega) (a := D.length) (b := D.length + 20) rfl (by omega)
    have hS := s2.length_eq
    rw [t2] at hS
    rw [List.append_assoc, t1] at e
    rw [e, Option.bind_some, z1Z (by omega) (by omega)]
    refine ⟨_, rfl, ⟨D ++ S, X.drop 20, q + 1, by rw [List.length_append]; omega, ?_, zbn (by omega) hq hD s1 (by omega) (fun x hx y hy => hBf x hx y (List.mem_of_mem_take (s2.mem_iff.1 hy))), ?_, hXp.sublist (List.drop_sublist ..), ?_⟩, by simp only; omega⟩
    · rw [List.length_append, hS]
      congr 2
    · intro x hx y hy
      rcases List.mem_append.1 hx with hx | hx
      · exact hBf x hx y (List.mem_of_mem_drop hy)
      · have hp2 : (X.take 20 ++ X.drop 20).Pairwise (· < ·) := by rw [t1]; exact hXp
        exact (List.pairwise_append.1 hp2).2.2 x (s2.mem_iff.1 hx) y hy
    · refine List.Perm.trans ?_ hp
      rw [List.append_assoc]
      refine List.Perm.append_left D ?_
      have := s2.append_right (X.drop 20)
      rwa [t1] at this
  · right
    rw [if_neg (by omega)]
    obtain ⟨S, e, s1, s2⟩ := znr (P := D) (X := X) (R := []) hvX hXp (by omega) (a := D.length) (b := l0.length) rfl (by omega)
    rw [List.append_nil, List.append_nil] at e
    rw [e, Option.bind_some]
    have hSl := s2.length_eq
    obtain ⟨r, e2, hr⟩ := k (D ++ S) (zbn (by omega) hq hD s1 (by omega) (fun x hx y hy => hBf x hx y (s2.mem_iff.1 hy))) ((s2.append_left D).trans hp)
    exact ⟨r, by rw [e2]; rfl, hr⟩
theorem zwS {K : SrtC} {l0 : List Int} (hv : zil K l0) (hn : l0.length <= 5000) {B : Nat} (hB0 : 0 < B) (hB : B < 5000) {l : List Int} (hb : zik K B l) (hp : l.Perm l0) :
    ∃ S, z0j (zcJ ((l0.length : Nat) : Int) K (B : Int)) LFm (0, ((2 * B : Nat) : Int), l) = some (.inl (((B * 2 : Nat) : Int), S)) /\ zik K (B * 2) S /\ S.Perm l0 := by
  refine Exists.elim (z1y (b := zcJ ((l0.length : Nat) : Int) K (B : Int)) (fun z => ∃ (D X : List Int) (q : Nat), D.length = q * (B * 2) /\ z = ((D.length : Int), ((D.length + 2 * B : Nat) : Int), D ++ X) /\ zik K (B * 2) D /\ zik K B X /\ Bef D X /\ (D ++ X).Perm l0) (fun z => l0.length + 1 - z.1.toNat)
    (fun r => ∃ S, r = .inl (((B * 2 : Nat) : Int), S) /\ zik K (B * 2) S /\ S.Perm l0) ?_ LFm (0, ((2 * B : Nat) : Int), l) ⟨[], l, 0, by simp, by simp, zsz K _, hb, (fun x hx => by simp at hx), hp⟩ (by simp only [LFm]; omega)) fun r h => by
      obtain ⟨h1, S, rfl, h2, h3⟩ := h
      exact ⟨S, h1, h2, h3⟩
  rintro z ⟨D, X, q, hq, rfl, hD, hX, hBf, hp2⟩
  have hlen := hp2.length_eq
  rw [List.length_append] at hlen
  have hvX : zil K X := fun x hx => hv x (hp2.mem_iff.1 (List.mem_append.2 (.inr hx)))
  have wB : IntKind.i64.wrap (2 * (B : Int)) = ((2 * B : Nat) : Int) := by rw [z1Z (by omega) (by omega)]; omega
  have wB2 : IntKind.i64.wrap ((B : Int) * 2) = ((B * 2 : Nat) : Int) := by rw [z1Z (by omega) (by omega)]; omega
  have wa : IntKind.i64.wrap ((D.length : Int) + (B : Int)) = ((D.length + B : Nat) : Int) := by rw [z1Z (by omega) (by omega)]; omega
  simp only [zcJ]
  rw [wa, wB, wB2]
  have t1 : X.take B ++ X.drop B = X := List.take_append_drop ..
  by_cases h : D.length + 2 * B <= l0.length
  · left
    rw [if_pos (by omega)]
    have t2 : (X.take B).length = B := by rw [List.length_take]; omega
    have hX2 : zik K B (X.drop B) := zi8 (A := X.take B) (q := 1) hB0 (by omega) (by rw [t1]; exact hX)
    have t3 : (X.drop B).take B ++ (X.drop B).drop B = X.drop B := List.take_append_drop ..
    have t4 : ((X.drop B).take B).length = B := by rw [List.length_take, List.length_drop]; omega
    obtain ⟨W, e, w1, w2⟩ := zeG (K := K) 5000 (P := D) (U := X.take B) (V := (X.drop B).take B) (R := (X.drop B).drop B) (a := D.length) (m := D.length + B) (b := D.length + 2 * B) (fun h => by rw [h] at t2; simp at t2; omega) (fun h => by rw [h] at t4; simp at t4; omega)
      (fun x hx => hvX x (by
        rcases List.mem_append.1 hx with hx | hx
        · exact List.mem_of_mem_take hx
        · exact List.mem_of_mem_drop (List.mem_of_mem_take hx)))
      (zcR (B := B) (X := X.drop B) (by omega) (by rw [t1]; exact hX)) (zcR (B := B) (X := (X.drop B).drop B) (by omega) (by rw [t3]; exact hX2)) (fun x hx y hy => zi9 hB0 hX x hx y (List.mem_of_mem_take hy)) (by omega) (by omega) rfl (by omega) (by omega)
    have hW := w2.length_eq
    rw [List.length_append, t2, t4] at hW
    rw [t3, t1] at e
    have hX3 : zik K B ((X.drop B).drop B) := zi8 (A := (X.drop B).take B) (q := 1) hB0 (by omega) (by rw [t3]; exact hX2)
    have hWX : ∀ y ∈ W, y ∈ X := fun y hy => by
      rcases List.mem_append.1 (w2.mem_iff.1 hy) with h | h
      · exact List.mem_of_mem_take h
      · exact List.mem_of_mem_drop (List.mem_of_mem_take h)
    have ws : IntKind.i64.wrap (((D.length + 2 * B : Nat) : Int) + ((2 * B : Nat) : Int)) = ((D.length + 2 * B + 2 * B : Nat) : Int) := by rw [z1Z (by omega) (by omega)]; omega
    rw [e, Option.bind_some, ws]
    refine ⟨_, rfl, ⟨D ++ W, (X.drop B).drop B, q + 1, ?_, ?_, zbn (by omega) hq hD w1 (by omega) (fun x hx y hy => hBf x hx y (hWX y hy)), hX3, ?_, ?_⟩, by simp only; omega⟩
    · rw [List.length_append, hW, Nat.add_mul, hq]; omega
    · rw [List.length_append, hW]
      refine Prod.ext ?_ (Prod.ext ?_ ?_)
      · simp only; omega
      · simp only; omega
      · simp only [List.append_assoc]
    · intro x hx y hy
      rcases List.mem_append.1 hx with hx | hx
      · exact hBf x hx y (List.mem_of_mem_drop (List.mem_of_mem_drop hy))
      · rcases List.mem_append.1 (w2.mem_iff.1 hx) with h | h
        · exact zi9 hB0 hX x h y (List.mem_of_mem_drop hy)
        · exact zi9 hB0 hX2 x h y hy
    · refine List.Perm.trans ?_ hp2
      rw [List.append_assoc]
      refine List.Perm.append_left D ?_
      have := w2.append_right ((X.drop B).drop B)
      rwa [List.append_assoc, t3, t1] at this
  · right
    rw [if_neg (by omega)]
    by_cases h2 : D.length + B < l0.length
    · have t2 : (X.take B).length = B := by rw [List.length_take]; omega
      have hX2 : zik K B (X.drop B) := zi8 (A := X.take B) (q := 1) hB0 (by omega) (by rw [t1]; exact hX)
      have t4 : (X.drop B).length = l0.length - D.length - B := by rw [List.length_drop]; omega
      obtain ⟨W, e, w1, w2⟩ := zeG (K := K) 5000 (P := D) (U := X.take B) (V := X.drop B) (R := []) (a := D.length) (m := D.length + B) (b := l0.length) (fun h => by rw [h] at t2; simp at t2; omega) (fun h => by rw [h] at t4; simp at t4; omega)
        (fun x hx => hvX x (by rw [t1] at hx; exact hx))
        (zcR (B := B) (X := X.drop B) (by omega) (by rw [t1]; exact hX)) (zcR (B := B) (X := []) (by omega) (by rw [List.append_nil]; exact hX2)) (zi9 hB0 hX) (by omega) (by omega) rfl (by omega) (by omega)
      rw [List.append_nil, List.append_nil, t1] at e
      rw [if_pos (by omega), e, Option.bind_some]
      have hWl := w2.length_eq
      rw [t1] at hWl
      refine ⟨_, rfl, D ++ W, rfl, zbn (by omega) hq hD w1 (by omega) (fun x hx y hy => hBf x hx y (by have := w2.mem_iff.1 hy; rwa [t1] at this)), ?_⟩
      have := w2.append_left D
      rw [t1] at this
      exact this.trans hp2
    · rw [if_neg (by omega)]
      refine ⟨_, rfl, D ++ X, rfl, ?_, hp2⟩
      exact zbn (by omega) hq hD (zcR (B := B) (X := []) (by omega) (by rw [List.append_nil]; exact hX)) (by omega) hBf
theorem zr7 {K : SrtC} {l : List Int} (hv : zil K l) (ha : l.Pairwise (· < ·)) (hn : l.length <= 5000) : ∃ S, zxw l K = some S /\ z9g K S /\ S.Perm l := by
  unfold zxw zAt
  obtain ⟨r, e, h⟩ := zu2 (Post := fun r => z9g K r /\ r.Perm l) hv ha (by omega) fun D hD hp => by
    refine z1y (fun z => ∃ (B : Nat) (S : List Int), 0 < B /\ B < 10000 /\ z = ((B : Int), S) /\ zik K B S /\ S.Perm l) (fun z => 10000 - z.1.toNat) _ ?_ LFm _ ⟨20, D, by omega, by omega, rfl, hD, hp⟩ (by simp only [LFm]; omega)
    rintro z ⟨B, S, hB0, hB1, rfl, hS, hp2⟩
    have hlen := hp2.length_eq
    simp only [zfb]
    by_cases h : B < l.length
    · left
      have wB : IntKind.i64.wrap (2 * (B : Int)) = ((2 * B : Nat) : Int) := by rw [z1Z (by omega) (by omega)]; omega
      obtain ⟨S', e, s1, s2⟩ := zwS hv hn hB0 (by omega) hS hp2
      rw [if_pos (by omega), wB, e]
      exact ⟨_, rfl, ⟨B * 2, S', by omega, by omega, rfl, s1, s2⟩, by simp only; omega⟩
    · right
      rw [if_neg (by omega)]
      exact ⟨_, rfl, zcR (B := B) (X := []) (by omega) (by rw [List.append_nil]; exact hS), hp2⟩
  exact ⟨r, by rw [e]; rfl, h⟩
end
section
structure Run {ρ : Type} (x : Option ρ) (K : ρ -> Prop) : Prop where
  out : ∃ v, x = some v /\ K v
structure RK {σ ρ : Type} (o : σ ⊕ ρ) (K : ρ -> Prop) (o' : σ ⊕ ρ) : Prop where
  eq : o' = o
  k : ∀ r, o' = .inr r -> K r
class Head {σ ρ : Type} (b : σ -> Option (σ ⊕ ρ)) where
  H : σ -> Fr
class Ok {ρ : Type} (x : Option ρ) (S : outParam (ρ -> Prop)) : Prop where
  ok : ∀ r, x = some r -> S r
section
variable {G : Prop} {ρ : Type} {K : ρ -> Prop}
theorem zwC {b n : Nat} {x : Option ρ} (k : n * b <= 140737488355328 -> n <= 4611686018427387904 -> Run x K -> G) (h : Run (chk (z1c b n) x) K) : G := by
  obtain ⟨v, e, hk⟩ := h
  obtain ⟨⟨a, c⟩, e⟩ := z6J e
  exact k a c ⟨v, e, hk⟩
theorem zwB {n : Nat} {x : Option ρ} (k : n <= 140737488355328 -> n <= 4611686018427387904 -> Run x K -> G) (h : Run (chk (z1c 1 n) x) K) : G := zwC (fun a b => k (by omega) b) h
theorem zAq {b l : Int} {x : Option ρ} (k : 0 <= l -> l <= 140737488355328 -> b * l <= 140737488355328 -> max l 0 = l -> Run x K -> G) (h : Run (chk (z1g b l) x) K) : G := by
  obtain ⟨v, e, hk⟩ := h
  obtain ⟨⟨a, c, d⟩, e⟩ := z6J e
  exact k a c d (by omega) ⟨v, e, hk⟩
theorem zxT {l : Int} {x : Option ρ} (k : 0 <= l -> l <= 140737488355328 -> max l 0 = l -> Run x K -> G) (h : Run (chk (z1g 1 l) x) K) : G := zAq (fun a b _ d => k a b d) h
theorem zxR {i : Int} {n : Nat} {x : Option ρ} (k : 0 <= i -> i < (n : Int) -> i.toNat < n -> i.toNat + 1 <= n -> Run x K -> G) (h : Run (chk (0 <= i /\ i < (n : Int)) x) K) : G := by
  obtain ⟨v, e, hk⟩ := h
  obtain ⟨⟨a, c⟩, e⟩ := z6J e
  exact k a c (by omega) (by omega) ⟨v, e, hk⟩
theorem zwy {i n : Int} {x : Option ρ} (k : 0 <= i -> i < n -> i.toNat < n.toNat -> i.toNat + 1 <= n.toNat -> Run x K -> G) (h : Run (chk (0 <= i /\ i < n) x) K) : G := by
  obtain ⟨v, e, hk⟩ := h
  obtain ⟨⟨a, c⟩, e⟩ := z6J e
  exact k a c (by omega) (by omega) ⟨v, e, hk⟩
theorem zxZ {p : Prop} [Decidable p] {x : Option ρ} (k : p -> Run x K -> G) (h : Run (chk p x) K) : G := by
  obtain ⟨v, e, hk⟩ := h
  obtain ⟨a, e⟩ := z6J e
  exact k a ⟨v, e, hk⟩
theorem zxS {α : Type} {xs : List α} {i : Nat} {f : α -> Option ρ} (k : ∀ v, i < xs.length -> i + 1 <= xs.length -> xs[i]? = some v -> (∀ hh : i < xs.length, xs[i]'hh = v) -> Run (f v) K -> G) (h : Run ((atI xs (i : Int)).bind f) K) : G := by
  obtain ⟨r, e, hk⟩ := h
  obtain ⟨v, ⟨a, b, c, d⟩, e⟩ := zvO e
  exact k v a b c d ⟨r, e, hk⟩
theorem zBe {α : Type} {xs : List α} {i : Int} {f : α -> Option ρ} (k : ∀ v, 0 <= i -> i < xs.length -> i.toNat + 1 <= xs.length -> xs[i.toNat]? = some v -> (∀ hh : i.toNat < xs.length, xs[i.toNat]'hh = v) -> Run (f v) K -> G) (h : Run ((atI xs i).bind f) K) : G := by
  obtain ⟨r, e, hk⟩ := h
  obtain ⟨v, ⟨a, b, c, d, d2⟩, e⟩ := z2k e
  exact k v a b c d d2 ⟨r, e, hk⟩
theorem zwE {s : ByteArray} {i : Int} {f : Int -> Option ρ} (k : ∀ v, 0 <= i -> i < s.size -> (∃ b, s[i.toNat]? = some b /\ v = (b.toNat : Int)) -> (∀ hh : i.toNat < s.size, ((s[i.toNat]'hh).toNat : Int) = v) -> Run (f v) K -> G) (h : Run ((zmF s i).bind f) K) : G := by
  obtain ⟨r, e, hk⟩ := h
  obtain ⟨v, e1, e2⟩ := z1a e
  obtain ⟨a, b, c, d1, d2, d3⟩ := zqq e1
  exact k v a b ⟨c, d1, d2⟩ d3 ⟨r, e2, hk⟩
theorem zv7 {α : Type} {xs : List α} {i : Int} {v : α} {f : α -> Option ρ} (hv : xs[i.toNat]? = some v) (hi : 0 <= i) (k : Run (f v) K -> G) (h : Run ((atI xs i).bind f) K) : G := by
  obtain ⟨r, e, hk⟩ := h
  unfold atI at e
  rw [if_pos hi, hv] at e
  exact k ⟨r, e, hk⟩
theorem zwA {α : Type} {xs : List α} {i : Nat} {v : α} {f : α -> Option ρ} (hv : xs[i]? = some v) (k : Run (f v) K -> G) (h : Run ((atI xs (i : Int)).bind f) K) : G := zv7 (i := (i : Int)) hv (Int.natCast_nonneg i) k h
theorem zBf {α : Type} {xs : List α} {v : α} {f : α -> Option ρ} (hv : xs[0]? = some v) (k : Run (f v) K -> G) (h : Run ((atI xs 0).bind f) K) : G := zv7 (i := 0) hv (Int.le_refl 0) k h
theorem zv5 {α : Type} {e : Option α} {v : α} {f : α -> Option ρ} (hv : e = some v) (k : Run (f v) K -> G) (h : Run (e.bind f) K) : G := by subst hv; exact k h
theorem zwD {α : Type} {e : Option α} {S : α -> Prop} [Ok e S] {f : α -> Option ρ} (k : ∀ v, e = some v -> S v -> Run (f v) K -> G) (h : Run (e.bind f) K) : G := by
  obtain ⟨r, e1, hk⟩ := h
  obtain ⟨v, e2, e3⟩ := z1a e1
  exact k v e2 (Ok.ok v e2) ⟨r, e3, hk⟩
theorem zBd {p : Prop} [Decidable p] {x y : Option ρ} (k : (p = True) -> Run x K -> G) (k2 : (p = False) -> Run y K -> G) (h : Run (if p then x else y) K) : G := by
  by_cases c : p
  · rw [if_pos c] at h; exact k (eq_true c) h
  · rw [if_neg c] at h; exact k2 (eq_false c) h
theorem p_0 {α : Type} {xs : List α} {f : α -> Option ρ} (k : ∀ v, 0 < xs.length -> xs ≠ [] -> xs[0]? = some v -> (∀ hh : 0 < xs.length, xs[0]'hh = v) -> Run (f v) K -> G) (h : Run ((atI xs 0).bind f) K) : G := by
  obtain ⟨r, e, hk⟩ := h
  obtain ⟨v, ⟨b, c, d, d2⟩, e⟩ := zvO (i := 0) e
  exact k v b (List.length_pos_iff.1 b) d d2 ⟨r, e, hk⟩
theorem zxU {α : Type} {xs : List α} {i : Nat} {f : α -> Option ρ} (k : ∀ v, (OfNat.ofNat i : Nat) < xs.length -> xs ≠ [] -> xs[(OfNat.ofNat i : Nat)]? = some v -> (∀ hh : (OfNat.ofNat i : Nat) < xs.length, xs[(OfNat.ofNat i : Nat)]'hh = v) -> Run (f v) K -> G) (h : Run ((atI xs (OfNat.ofNat i : Int)).bind f) K) : G := by
  obtain ⟨r, e, hk⟩ := h
  obtain ⟨v, ⟨b, c, d, d2⟩, e⟩ := zvO (i := i) e
  exact k v b (List.length_pos_iff.1 (Nat.lt_of_le_of_lt (Nat.zero_le _) b)) d d2 ⟨r, e, hk⟩
class IsS (α : Type) : Prop
theorem zy1 {α : Type} [IsS α] {xs : List α} {i : Int} {f : α -> Option ρ} (k : ∀ v, 0 <= i -> i < xs.length -> i.toNat + 1 <= xs.length -> xs[i.toNat]? = some v -> (∀ m, i.toNat * m + m <= xs.length * m) -> (∀ (g : α -> List T) (m : Nat), (∀ x, (g x).length = m) -> ((xs.flatMap g).drop (i.toNat * m)).take m = g v) ->
    (∀ (g : α -> List T) (m j : Nat), (∀ x, (g x).length = m) -> j < m -> (xs.flatMap g)[i.toNat * m + j]? = (g v)[j]?) -> (∀ (g : α -> List T) (m : Nat), (∀ x, (g x).length = m) -> 0 < m -> (xs.flatMap g)[i.toNat * m]? = (g v)[0]?) -> Run (f v) K -> G) (h : Run ((atI xs i).bind f) K) : G := by
  obtain ⟨r, e, hk⟩ := h
  obtain ⟨v, ⟨a, b, c, d, d2⟩, e⟩ := z2k e
  refine k v a b c d (fun m => ?_) (fun g m hg => (zfg hg d).2.1) (fun g m j hg hj => (zfg hg d).2.2.1 j hj) (fun g m hg hj => (zfg hg d).2.2.1 0 hj) ⟨r, e, hk⟩
  calc i.toNat * m + m = (i.toNat + 1) * m := by rw [Nat.add_mul, Nat.one_mul]
    _ <= _ := Nat.mul_le_mul_right _ c
theorem zy0 {α : Type} {l : List α} {j : Nat} {a : α} {i : Int} {f : α -> Option ρ} (k : ∀ v, 0 <= i -> i < l.length -> i.toNat + 1 <= l.length -> (∀ (g : α -> T) hh, ((l.map g).set j (g a))[i.toNat]'hh = g v) -> (∀ (g : α -> T), ((l.map g).set j (g a))[i.toNat]? = some (g v)) -> Run (f v) K -> G) (h : Run ((atI (l.set j a) i).bind f) K) : G := by
  obtain ⟨r, e, hk⟩ := h
  obtain ⟨v, ⟨x, b, c, d, d2⟩, e⟩ := z2k e
  rw [List.length_set] at b c
  have key : ∀ (g : α -> T), ((l.map g).set j (g a))[i.toNat]? = some (g v) := fun g => by rw [← List.map_set, List.getElem?_map, d]; rfl
  exact k v x b c (fun g hh => (List.getElem?_eq_some_iff.1 (key g)).2) key ⟨r, e, hk⟩
theorem ztq {α : Type} {xs : List α} {l u : Int} {f : List α -> Option ρ} (k : ∀ v : List α, 0 <= l -> l <= u -> u <= xs.length -> 0 <= u -> l <= (u.toNat : Int) -> l <= max u 0 -> (∀ g : α -> T, ((xs.map g).drop l.toNat).take (u.toNat - l.toNat) = v.map g) -> (∀ g : α -> T, T.sl (u.toNat - l.toNat) (v.map g) = T.sl v.length (v.map g)) -> Run (f v) K -> G) (h : Run ((z6d xs l u).bind f) K) : G := by
  obtain ⟨r, e, hk⟩ := h
  obtain ⟨v, e1, e2⟩ := z1a e
  obtain ⟨a, b, c, -⟩ := z4b e1
  obtain ⟨d, g⟩ := zb2 a b
  exact k v a b c d g (by omega) (fun g => zcD e1) (fun g => zcC e1 g) ⟨r, e2, hk⟩
theorem ztr {α : Type} [IsS α] {xs : List α} {l u : Int} {f : List α -> Option ρ} (k : ∀ v : List α, 0 <= l -> l <= u -> u <= xs.length -> 0 <= u -> l <= (u.toNat : Int) -> l <= max u 0 -> (∀ (g : α -> List T) (m : Nat), (∀ x, (g x).length = m) -> ((xs.flatMap g).drop (l.toNat * m)).take ((u.toNat - l.toNat) * m) = v.flatMap g) -> (∀ g : α -> List T, T.sl (u.toNat - l.toNat) (v.flatMap g) = T.sl v.length (v.flatMap g)) -> Run (f v) K -> G) (h : Run ((z6d xs l u).bind f) K) : G := by
  obtain ⟨r, e, hk⟩ := h
  obtain ⟨v, e1, e2⟩ := z1a e
  obtain ⟨a, b, c, -⟩ := z4b e1
  obtain ⟨d, g⟩ := zb2 a b
  exact k v a b c d g (by omega) (fun g m hg => zm3 hg e1) (fun g => zpG e1 g) ⟨r, e2, hk⟩
theorem ztp {s : ByteArray} {l u : Int} {f : ByteArray -> Option ρ} (k : ∀ v, 0 <= l -> l <= u -> u <= s.size -> 0 <= u -> l <= (u.toNat : Int) -> l <= max u 0 -> s.extract l.toNat u.toNat = v -> Run (f v) K -> G) (h : Run ((zn9 s l u).bind f) K) : G := by
  obtain ⟨r, e, hk⟩ := h
  obtain ⟨v, e1, e2⟩ := z1a e
  obtain ⟨a, b, c, d⟩ := zm1 e1
  obtain ⟨d1, g⟩ := zb2 a b
  exact k v a b c d1 g (by omega) d.symm ⟨r, e2, hk⟩
theorem zv6 {α β : Type} {e : Option (α ⊕ β)} {S : α ⊕ β -> Prop} [Ok e S] {f : α ⊕ β -> Option ρ} (k : ∀ v, S (.inl v) -> Run (f (.inl v)) K -> G) (k2 : ∀ v, S (.inr v) -> Run (f (.inr v)) K -> G) (h : Run (e.bind f) K) : G := by
  obtain ⟨r, e1, hk⟩ := h
  obtain ⟨v, e2, e3⟩ := z1a e1
  cases v with
  | inl v => exact k v (Ok.ok _ e2) ⟨r, e3, hk⟩
  | inr v => exact k2 v (Ok.ok _ e2) ⟨r, e3, hk⟩
theorem zxW {α : Type} {m : Option α} {x y : Option ρ} (k : m.isSome = true -> Run x K -> G) (k2 : m = none -> Run y K -> G) (h : Run (if m.isSome = true then x else y) K) : G := by
  cases m with
  | some v => exact k rfl (by simpa using h)
  | none => exact k2 rfl (by simpa using h)
theorem zxX {b : Bool} {x y : Option ρ} (k : b = true -> Run x K -> G) (k2 : b = false -> Run y K -> G) (h : Run (if b = true then x else y) K) : G := by
  cases b with
  | true => exact k rfl (by simpa using h)
  | false => exact k2 rfl (by simpa using h)
theorem zxY {α : Type} {xs : List α} {x y : Option ρ} (k : ((xs.length : Int) = 0) = True -> xs = [] -> Run x K -> G) (k2 : ((xs.length : Int) = 0) = False -> xs ≠ [] -> Run y K -> G) (h : Run (if (xs.length : Int) = 0 then x else y) K) : G := by
  by_cases c : (xs.length : Int) = 0
  · rw [if_pos c] at h; exact k (eq_true c) (List.eq_nil_of_length_eq_zero (by omega)) h
  · rw [if_neg c] at h; exact k2 (eq_false c) (fun e => c (by rw [e]; rfl)) h
theorem zxV {α : Type} {xs : List α} {x y : Option ρ} (k : ((0 : Int) < (xs.length : Int)) = True -> xs ≠ [] -> 0 < xs.length -> Run x K -> G) (k2 : ((0 : Int) < (xs.length : Int)) = False -> xs = [] -> Run y K -> G) (h : Run (if (0 : Int) < (xs.length : Int) then x else y) K) : G := by
  by_cases c : (0 : Int) < (xs.length : Int)
  · rw [if_pos c] at h; exact k (eq_true c) (fun e => by subst e; simp at c) (by omega) h
  · rw [if_neg c] at h; exact k2 (eq_false c) (List.eq_nil_of_length_eq_zero (by omega)) h
theorem zwx {v : ρ} (k : K v -> G) (h : Run (some v) K) : G := by
  obtain ⟨r, e, hk⟩ := h
  cases e; exact k hk
theorem zwz (h : Run none K) : G := by
  obtain ⟨r, e, hk⟩ := h
  cases e
theorem z4p {x : Option ρ} {r : ρ} (h : x = some r) : Run x (· = r) := ⟨r, h, rfl⟩
theorem zpE {α β : Type} {P : α × β -> Prop} (h : ∀ a, ∀ b, P (a, b)) : ∀ s : α × β, P s := fun s => h s.1 s.2
end
section
variable {P : Program} {C : z0q} {cf : Cfg} {LF : Nat} {c : Code} {fr : Fr} {Q : X -> Fr -> Prop} {σ ρ : Type} {K : ρ -> Prop} {o : σ ⊕ ρ} {H : σ -> Fr} {cn : Fr -> Fr}
theorem zBc {s : σ} (h : Run (z0e s : Option (σ ⊕ ρ)) (RK o K)) (e : cn fr = H s) : zaX H cn o Q .n fr := by
  obtain ⟨r, e1, e2⟩ := h
  have := z0w e1
  exact z0H (e2.eq.symm.trans this) e
theorem zBa {i : Nat} {x : Option ρ} (k : Run x K -> Q (.x i) fr) (h : Run (z0k x : Option (σ ⊕ ρ)) (RK o K)) : zaX H cn o Q (.x i) fr := by
  obtain ⟨r, e1, e2⟩ := h
  obtain ⟨v, e3, rfl⟩ := z0Z e1
  exact z1z (e2.eq.symm) (k ⟨v, e3, e2.k _ rfl⟩)
theorem zBb {x : Option ρ} (k : Run x K -> Q .r fr) (h : Run (z0k x : Option (σ ⊕ ρ)) (RK o K)) : zaX H cn o Q .r fr := by
  obtain ⟨r, e1, e2⟩ := h
  obtain ⟨v, e3, rfl⟩ := z0Z e1
  exact zth (e2.eq.symm) (k ⟨v, e3, e2.k _ rfl⟩)
end
def zwr {α : Type} (k : Nat) (v : α) : List (Nat × α) -> List (Nat × α)
  | [] => []
  | (j, u) :: r => if j = k then (j, v) :: r else (j, u) :: zwr k v r
def zvX {α : Type} : List (Nat × α) -> List (Nat × α) -> List (Nat × α)
  | [], l => l
  | (k, v) :: r, l => zvX r (zwr k v l)
def zuI (x : List (Nat × E) × List (Nat × T)) (fr : Fr) : Fr := { fr with tm := zvX x.1 fr.tm, ob := zvX x.2 fr.ob }
class Hd {σ ρ : Type} (b : σ -> Option (σ ⊕ ρ)) where
  H : σ -> List (Nat × E) × List (Nat × T)
section
variable {P : Program} {C : z0q} {cf : Cfg} {LF : Nat} {c : Code} {fr fr0 : Fr} {Q : X -> Fr -> Prop} {σ ρ : Type} {K : ρ -> Prop}
theorem zv0 {lv : List Nat} {body : σ -> Option (σ ⊕ ρ)} [hd : Hd body] {s0 : σ} (hk : zd6 c = 5) (hv : cf.live (za1 (lpC c)) = some lv) (h : Run (z0j body LF s0) K)
    (hf : za3 (some lv) fr = fr0) (h0 : fr0 = zuI (Hd.H body s0) fr0) (round : ∀ s, ∀ o, Run (body s) (RK o K) -> wpC P C cf LF (lpC c) (zuI (Hd.H body s) fr0) (zaX (fun s => zuI (Hd.H body s) fr0) (za3 (some lv)) o Q)) : wpC P C cf LF c fr Q := by
  obtain ⟨r, e, hk2⟩ := h
  exact z2l e (fun s => zuI (Hd.H body s) fr0) hk hv (hf.trans h0) fun s o h1 h2 => round s o ⟨o, h1, rfl, fun r' e' => by rw [h2 r' e']; exact hk2⟩
end
@[simp] theorem zt5 {α : Type} (c : Nat) : ∀ l : List α, (l.map fun _ => c).sum = l.length * c
  | [] => by simp
  | x :: l => by simp only [List.map_cons, List.sum_cons, zt5 c l, List.length_cons, Nat.add_mul]; omega
abbrev xI (x : Int) : E := .one (.t none (.sc (.int .i64 x)))
abbrev xB (x : Bool) : E := .one (.t none (.sc (.bool x)))
abbrev xS (x : ByteArray) : E := .one (.t none (.sc (.string x)))
theorem zB8 {a b : Fr} (h : z9S a b) : z9S a b := h
section
variable {P : Program} {C : z0q} {cf : Cfg} {LF : Nat} {c : Code} {fr : Fr}
theorem zAi {Q : X -> Fr -> Prop} {id i : Nat} (h : z7C id Q (.x i) fr) : z7C id Q (.x i) fr := h
theorem zxK {Q : X -> Fr -> Prop} (h : wpC P C cf LF c fr Q) : wpC P C cf LF c fr Q := h
theorem zyi {wio : FuncId -> Nat -> Bool} {M : List Nat} {ops : Array Oper} {l : List (Nat × Nat)} {Q : Fr -> Prop} (h : z8c P C wio M ops l fr Q) : z8c P C wio M ops l fr Q := h
theorem zxN {l : List Oper} {Q : Fr -> Prop} (h : ∃ fr2, z5h P l fr = some fr2 /\ Q fr2) : ∃ fr2, z5h P l fr = some fr2 /\ Q fr2 := h
theorem tpN {i : Nat} {t : SchT} {Q : Fr -> Prop} (e : t = .nil) (h : Q fr) : z5s P C cf c i t fr Q := by subst e; exact zeB h
theorem tpA {i : Nat} {t a b : SchT} {Q : Fr -> Prop} (e : t = .alt a b) (h : z5s P C cf c i a fr (fun x => z5s P C cf c i b fr (fun y => z9S x y) /\ Q x)) : z5s P C cf c i t fr Q := by subst e; exact zeD h
theorem tpO {i k m : Nat} {t rest : SchT} {o : Oper} {fr1 : Fr} {Q : Fr -> Prop} (e : t = .op k m rest) (ho : zk7 c k = some o) (hg : o.guard = none) (hs : z0b P C cf.wio (cf.wr i).isEmpty (cf.wr i).contains fr o m = some fr1) (h : z5s P C cf c i rest fr1 Q) : z5s P C cf c i t fr Q := by subst e; exact z3r ho hg hs h
theorem tpT {i k m : Nat} {t rest : SchT} {o : Oper} {g : Option (Option Nat × Bool)} {fr1 : Fr} {Q : Fr -> Prop} (e : t = .op k m rest) (ho : zk7 c k = some o) (hg : zvx c o = some g) (hv : zuu g fr = some true) (hs : z0b P C cf.wio (cf.wr i).isEmpty (cf.wr i).contains fr o m = some fr1) (h : z5s P C cf c i rest fr1 Q) : z5s P C cf c i t fr Q := by subst e; exact zxL ho hg hv hs h
theorem tpF {i k m : Nat} {t rest : SchT} {o : Oper} {g : Option (Option Nat × Bool)} {fr1 : Fr} {Q : Fr -> Prop} (e : t = .op k m rest) (ho : zk7 c k = some o) (hg : zvx c o = some g) (hv : zuu g fr = some false) (hs : nrmO? (putF fr o.dst (.one (.k undef))) = some fr1) (h : z5s P C cf c i rest fr1 Q) : z5s P C cf c i t fr Q := by subst e; exact zxM ho hg hv hs h
theorem zyk {i : Nat} {t : SchT} {Q : Fr -> Prop} (h : z5s P C cf c i t fr Q) : z5s P C cf c i t fr Q := h
end
theorem zqD {G : Prop} (g : G := by
  repeat' (first
    | with_reducible refine z0a ?_
    | with_reducible refine z1U ?_
    | with_reducible refine zeF ?_
    | with_reducible refine z0N ?_
    | ((with_reducible refine zAi ?_); first | refine z0C rfl ?_ | refine zfr rfl ?_)
    | with_reducible refine zu3 ?_
    | (revert h; with_reducible refine zBa fun h => ?_)
    | (revert h; with_reducible refine zBb fun h => ?_)
    | ((with_reducible refine zBc h ?_); simp [*, zuI, zvX, zwr, Hd.H]; done)
    | (revert h; first
      | with_reducible refine zwz
      | with_reducible refine zwB fun _ _ h => ?_
      | with_reducible refine zwC fun _ _ h => ?_
      | with_reducible refine zxT fun _ _ _ h => ?_
      | with_reducible refine zAq fun _ _ _ _ h => ?_
      | with_reducible refine zxR fun _ _ _ _ h => ?_
      | with_reducible refine zwy fun _ _ _ _ h => ?_
      | with_reducible refine zxZ fun _ h => ?_
      | with_reducible refine zv7 (by assumption) (by assumption) fun h => ?_
      | with_reducible refine zwA (by assumption) fun h => ?_
      | with_reducible refine zBf (by assumption) fun h => ?_
      | with_reducible refine zv5 (by assumption) fun h => ?_
      | with_reducible refine zy1 fun _ _ _ _ _ _ k k1 k2 h => ?_
      | with_reducible refine zy0 fun _ _ _ _ k k1 h => ?_
      | with_reducible refine p_0 fun _ _ _ _ _ h => ?_
      | with_reducible refine zxU fun _ _ _ _ _ h => ?_
      | with_reducible refine zxS fun _ _ _ _ _ h => ?_
      | with_reducible refine zBe fun _ _ _ _ _ _ h => ?_
      | with_reducible refine zwE fun _ _ _ _ _ h => ?_
      | ((with_reducible refine ztr fun _ _ _ _ _ _ _ k k2 h => ?_); try simp at k; try simp only [Int.reduceToNat, Int.toNat_natCast, Nat.sub_zero] at k2)
      | ((with_reducible refine ztq fun _ _ _ _ _ _ _ k k2 h => ?_); try simp at k; try simp only [Int.reduceToNat, Int.toNat_natCast, Nat.sub_zero] at k2)
      | ((with_reducible refine ztp fun _ _ _ _ _ _ _ k h => ?_); try simp only [Int.reduceToNat, Int.toNat_natCast] at k)
      | ((with_reducible refine zv6 (fun _ k h => ?_) fun _ k h => ?_) <;> (try simp at k))
      | ((with_reducible refine zwD fun _ _ k h => ?_); try simp at k))
    | ((with_reducible refine zxK ?_); first
      | refine zq rfl ?_
      | refine zb rfl ?_
      | refine zuZ rfl ?_
      | refine z1E rfl ?_
      | refine zv1 rfl ?_
      | refine z2O rfl ?_
      | refine zhE rfl ?_
      | refine zr rfl rfl rfl (by simp [*]; with_reducible rfl) ?_
      | refine z3N rfl rfl rfl rfl ?_
      | refine zeQ rfl rfl rfl rfl ?_
      | refine z3i rfl (by first | (simp [*]; done) | fail) ?_
      | refine z2V rfl (by first | (simp [*]; done) | fail) ?_
      | refine ztn rfl rfl (by simp [*]; rfl) ?_
      | (refine zv0 rfl rfl h (by simp [*]; rfl) (by first | (simp [*, zuI, zvX, zwr, Hd.H]; done) | fail) ?_; clear h; (repeat' refine zpE fun _ => ?_); intro _ _ h; simp only [zuI, zvX, zwr, Hd.H, Nat.reduceEqDiff, if_true, if_false]))
    | ((with_reducible refine zyi ?_); first
      | (refine z1P rfl rfl fun Q' hQ => ?_; simp [*]; refine hQ.out _ ?_; clear hQ; clear Q')
      | (refine z4U rfl rfl fun Q1 Q2 h1 h2 => ?_; simp [*, z8E]; (first | refine h1.out ?_ | refine h2.out ?_); clear h1 h2; clear Q1 Q2; intro Q' hQ; simp [*]; refine hQ.out _ ?_; clear hQ; clear Q')
      | (refine z1r rfl fun Q' hQ => ?_; simp [*]; refine hQ.out _ ?_; clear hQ; clear Q'))
    | ((with_reducible refine zyk ?_); first
      | refine tpN rfl ?_
      | refine tpA rfl ?_
      | refine tpO rfl rfl rfl (by simp [*, z0b, z0c]; rfl) ?_
      | refine tpT rfl rfl rfl (by first | (simp [*]; done) | fail) (by simp [*, z0b, z0c]; rfl) ?_
      | refine tpF rfl rfl rfl (by first | (simp [*]; done) | fail) (by simp [*]; rfl) ?_)
    | ((with_reducible refine zxN ?_); refine zeC rfl (by simp [*]; rfl) ?_)
    | ((with_reducible refine And.intro ?_ ?_); rotate_left)
    | ((with_reducible refine zB8 ?_); simp [*, z9S]; done)
    | (revert h; first
      | with_reducible refine zxW (fun _ h => ?_) fun _ h => ?_
      | with_reducible refine zxX (fun _ h => ?_) fun _ h => ?_
      | with_reducible refine zxY (fun _ _ h => ?_) fun _ _ h => ?_
      | with_reducible refine zxV (fun _ _ _ h => ?_) fun _ _ h => ?_
      | with_reducible refine zBd (fun _ h => ?_) fun _ h => ?_
      | ((with_reducible refine zwx fun h => ?_); cases h; simp [*]; done)))) : G := g
end
section
open Go
structure Tape where
  l : List Int
  at_ : Int
deriving Inhabited
structure DFA where
  letters : Int
  start : Int
  final : List Bool
  next : List (List Int)
deriving Inhabited
structure Imgs where
  sets : List Int
  class_ : List Int
  height : List Int
  tiles : List (List Int)
  words : List ByteArray
  back : List ByteArray
deriving Inhabited
structure Dgm where
  sets : List Int
  next : List (List Int)
  below : List (List Bool)
deriving Inhabited
structure Hol where
  set : Int
  tiles : List Int
  words : List ByteArray
  perms : List (List Int)
deriving Inhabited
instance : IsS Hol := ⟨⟩
end
section
attribute [simp] undef scB ext z2T z4N Function.comp_def zhl zkU zd7 zmg nav sub upd z4o z6S z2N zhx z1V zqk z6L zwT z7H za2 znO zqj onA kill z4f zh6 zfD z4P zaG zcH zvz z5a zkl zb1 ztF zau zcP setT moveT zpF zn8 plugL' zqd zpM z7B zwL zwK zun zx1 zx0 nrmO? plugL putR z9d explode cellsE z4y rdV scE zu5 zu4 zsA zq4 zpT zpX zpV zpU zq3 zrY zpS zhP zq2 zpW zpY zpZ zq0 zq1 zpx zpu zpv zpw zpy znG znH znI znJ zrf zrg zrh zri ztO zs9 zta ztb List.map_flatMap znb zk6 znT z4I zwZ unS zy6 zy7 znP opE zw5 zmx zpP zpH zsQ zBm z9L znt zsV zn3 zdl zxt za4 zrX ztX zvJ z8R z8W z9T z7F zd8 zsU ztv zo2 zxG zfE zrV z8V z9b z9R z4J z5t z6M zr4 zjK z9S zsE zic zAr zwq zrz zus zfx zid zvq ztB znU zxD zqp zxl opn zfA z6z zmX zvP zsJ zxH z3P zfM z8C zff clB ioF zxP zxo zbm z8S putF opF zmK z6o zuu zlZ z9W za1 onE ids zfJ zfI z8A zq9 za3 z5h z8B z6q z6h z7d zwt zrr zjN z9V zcY zwH zpI zk4 zmh zrA zxu zwG zkJ zwF zfK zkM zBj zBl zBi zBk zyj z9c z0c wrF zb3 noM zxI zxz zx7 zw4 zno zwu zhL zhH zkm zf0 zvu zdf zxF zst zb5 zaA zma zmu zhk zvC zvB Option.map_some zi2 zsg
end
section
open Go
def zmi : List T -> Option (List Int)
  | [] => some []
  | .sc (.int .i64 x) :: l => (zmi l).map (x :: ·)
  | _ => none
theorem zkp : ∀ xs : List Int, zmi (xs.map fun x => .sc (.int .i64 x)) = some xs
  | [] => rfl
  | x :: xs => by simp [zmi, zkp xs]
theorem zkq : ∀ {cs : List T} {xs : List Int}, zmi cs = some xs -> cs = xs.map fun x => .sc (.int .i64 x)
  | [], xs, h => by simp [zmi] at h; subst h; rfl
  | c :: cs, xs, h => by
    unfold zmi at h
    split at h
    · rename_i he; cases he
    · rename_i x l he
      cases he
      simp only [Option.map_eq_some_iff] at h
      obtain ⟨ys, hy, rfl⟩ := h
      simp [← zkq hy]
    · cases h
def szN (s : Nat) : Nat := (List.range 7).countP fun q => s.testBit q
def zqs (p r : Nat) : Bool := decide (szN r < szN p) || (decide (szN p = szN r) && decide (p <= r))
def leI (a b : Int) : Bool := zqs a.toNat b.toNat
def ztI (x : Int) : List Int -> List Int
  | [] => [x]
  | y :: l => if leI x y = true then x :: y :: l else y :: ztI x l
def zaW : List Int -> List Int
  | [] => []
  | x :: l => ztI x (zaW l)
def zkZ (xs : List Int) : Option (List Int) := if xs ≠ [] /\ xs.length < 4611686018427387904 /\ xs.all (fun x => decide (0 <= x /\ x < 128)) = true then some (zaW xs) else none
def zuE (fn : FuncId) (args : List T) : Option (T × List T) := match args with
  | [.os 1 n cs, .sc (.func (.func f) fs gs)] => if f = fn /\ fs.isEmpty /\ gs.isEmpty then (match zmi cs with | some xs => if xs.length = n then (zkZ xs).map fun ys => (.tup [], [.os 1 ys.length (ys.map fun x => .sc (.int .i64 x)), .dead]) else none | none => none) else none
  | _ => none
def xtC : z0q := fun f args => if f = 68 then zuE 69 args else none
end
section
open Go
set_option maxRecDepth 100000
@[simp] theorem ty3 : z2X Try.prog 3 = some ⟨.int .i64, 1, 8, (some [(.sc (.int .i64 0))])⟩ := by kernel_rfl
@[simp] theorem ty4 : z2X Try.prog 4 = some ⟨.bool, 1, 1, (some [(.sc (.bool false))])⟩ := by kernel_rfl
@[simp] theorem ty5 : z2X Try.prog 5 = some ⟨.int .u8, 1, 1, (some [(.sc (.int .u8 0))])⟩ := by kernel_rfl
@[simp] theorem ty9 : z2X Try.prog 9 = some ⟨.string, 1, 16, (some [(.sc (.string ByteArray.empty))])⟩ := by kernel_rfl
@[simp] theorem ty22 : z2X Try.prog 22 = some ⟨.slice 3, 1, 24, (some [(.os 1 0 [])])⟩ := by kernel_rfl
@[simp] theorem ty23 : z2X Try.prog 23 = some ⟨.pointer 48, 1, 8, (some [(.sc (.pointer none))])⟩ := by kernel_rfl
@[simp] theorem ty25 : z2X Try.prog 25 = some ⟨.slice 4, 1, 24, (some [(.os 1 0 [])])⟩ := by kernel_rfl
@[simp] theorem ty26 : z2X Try.prog 26 = some ⟨.slice 22, 1, 24, (some [(.os 1 0 [])])⟩ := by kernel_rfl
noncomputable def zBr : Array Field := match Try.prog.underlying 28 with | some (.struct fs) => fs | _ => #[]
@[simp] theorem ty28 : z2X Try.prog 28 = some ⟨.struct zBr, 4, 64, (some [(.sc (.int .i64 0)), (.sc (.int .i64 0)), (.os 1 0 []), (.os 1 0 [])])⟩ := by kernel_rfl
@[simp] theorem fi28_0 : z2S Try.prog 28 0 = some (0, 1, false) := by kernel_rfl
@[simp] theorem fi28_1 : z2S Try.prog 28 1 = some (1, 1, false) := by kernel_rfl
@[simp] theorem fi28_2 : z2S Try.prog 28 2 = some (2, 1, false) := by kernel_rfl
@[simp] theorem fi28_3 : z2S Try.prog 28 3 = some (3, 1, false) := by kernel_rfl
@[simp] theorem zB7 : zap Try.prog 28 = (some [(.sc (.int .i64 0)), (.sc (.int .i64 0)), (.os 1 0 []), (.os 1 0 [])]) := by kernel_rfl
@[simp] theorem bs28 (fr : Fr) (parts : List (Nat × Operand)) : za5 Try.prog fr 28 parts = match z9b fr (z2S Try.prog 28) ([(.sc (.int .i64 0)), (.sc (.int .i64 0)), (.os 1 0 []), (.os 1 0 [])].map (A.t none)) parts with | some xs => some (E.ag xs) | none => none := z5b zB7 fr parts
@[simp] theorem ty31 : z2X Try.prog 31 = some ⟨.slice 40, 1, 24, (some [(.os 4 0 [])])⟩ := by kernel_rfl
@[simp] theorem ty32 : z2X Try.prog 32 = some ⟨.int .i64, 1, 8, (some [(.sc (.int .i64 0))])⟩ := by kernel_rfl
@[simp] theorem ty38 : z2X Try.prog 38 = some ⟨.slice 9, 1, 24, (some [(.os 1 0 [])])⟩ := by kernel_rfl
noncomputable def zBq : Array Field := match Try.prog.underlying 40 with | some (.struct fs) => fs | _ => #[]
@[simp] theorem ty40 : z2X Try.prog 40 = some ⟨.struct zBq, 4, 80, (some [(.sc (.int .i64 0)), (.os 1 0 []), (.os 1 0 []), (.os 1 0 [])])⟩ := by kernel_rfl
@[simp] theorem fi40_0 : z2S Try.prog 40 0 = some (0, 1, false) := by kernel_rfl
@[simp] theorem fi40_1 : z2S Try.prog 40 1 = some (1, 1, false) := by kernel_rfl
@[simp] theorem fi40_2 : z2S Try.prog 40 2 = some (2, 1, false) := by kernel_rfl
@[simp] theorem fi40_3 : z2S Try.prog 40 3 = some (3, 1, false) := by kernel_rfl
@[simp] theorem zB6 : zap Try.prog 40 = (some [(.sc (.int .i64 0)), (.os 1 0 []), (.os 1 0 []), (.os 1 0 [])]) := by kernel_rfl
@[simp] theorem bs40 (fr : Fr) (parts : List (Nat × Operand)) : za5 Try.prog fr 40 parts = match z9b fr (z2S Try.prog 40) ([(.sc (.int .i64 0)), (.os 1 0 []), (.os 1 0 []), (.os 1 0 [])].map (A.t none)) parts with | some xs => some (E.ag xs) | none => none := z5b zB6 fr parts
noncomputable def zBp : Array Field := match Try.prog.underlying 48 with | some (.struct fs) => fs | _ => #[]
@[simp] theorem ty48 : z2X Try.prog 48 = some ⟨.struct zBp, 2, 32, (some [(.os 1 0 []), (.sc (.int .i64 0))])⟩ := by kernel_rfl
@[simp] theorem fi48_0 : z2S Try.prog 48 0 = some (0, 1, false) := by kernel_rfl
@[simp] theorem fi48_1 : z2S Try.prog 48 1 = some (1, 1, false) := by kernel_rfl
@[simp] theorem zB5 : zap Try.prog 48 = (some [(.os 1 0 []), (.sc (.int .i64 0))]) := by kernel_rfl
@[simp] theorem bs48 (fr : Fr) (parts : List (Nat × Operand)) : za5 Try.prog fr 48 parts = match z9b fr (z2S Try.prog 48) ([(.os 1 0 []), (.sc (.int .i64 0))].map (A.t none)) parts with | some xs => some (E.ag xs) | none => none := z5b zB5 fr parts
noncomputable def zBo : Array Field := match Try.prog.underlying 52 with | some (.struct fs) => fs | _ => #[]
@[simp] theorem ty52 : z2X Try.prog 52 = some ⟨.struct zBo, 6, 144, (some [(.os 1 0 []), (.os 1 0 []), (.os 1 0 []), (.os 1 0 []), (.os 1 0 []), (.os 1 0 [])])⟩ := by kernel_rfl
@[simp] theorem fi52_0 : z2S Try.prog 52 0 = some (0, 1, false) := by kernel_rfl
@[simp] theorem fi52_1 : z2S Try.prog 52 1 = some (1, 1, false) := by kernel_rfl
@[simp] theorem fi52_2 : z2S Try.prog 52 2 = some (2, 1, false) := by kernel_rfl
@[simp] theorem fi52_3 : z2S Try.prog 52 3 = some (3, 1, false) := by kernel_rfl
@[simp] theorem fi52_4 : z2S Try.prog 52 4 = some (4, 1, false) := by kernel_rfl
@[simp] theorem fi52_5 : z2S Try.prog 52 5 = some (5, 1, false) := by kernel_rfl
@[simp] theorem zB4 : zap Try.prog 52 = (some [(.os 1 0 []), (.os 1 0 []), (.os 1 0 []), (.os 1 0 []), (.os 1 0 []), (.os 1 0 [])]) := by kernel_rfl
@[simp] theorem bs52 (fr : Fr) (parts : List (Nat × Operand)) : za5 Try.prog fr 52 parts = match z9b fr (z2S Try.prog 52) ([(.os 1 0 []), (.os 1 0 []), (.os 1 0 []), (.os 1 0 []), (.os 1 0 []), (.os 1 0 [])].map (A.t none)) parts with | some xs => some (E.ag xs) | none => none := z5b zB4 fr parts
@[simp] theorem ty55 : z2X Try.prog 55 = some ⟨.map 3 3, 1, 8, (some [(.sc (.map none))])⟩ := by kernel_rfl
@[simp] theorem mt55 : zhG Try.prog 55 = some ((some .i64), 3) := by kernel_rfl
@[simp] theorem zv55 : zo7 Try.prog 3 = some (.int .i64 0) := by kernel_rfl
@[simp] theorem ty63 : z2X Try.prog 63 = some ⟨.slice 5, 1, 24, (some [(.os 1 0 [])])⟩ := by kernel_rfl
@[simp] theorem ty77 : z2X Try.prog 77 = some ⟨.slice 25, 1, 24, (some [(.os 1 0 [])])⟩ := by kernel_rfl
noncomputable def zBn : Array Field := match Try.prog.underlying 79 with | some (.struct fs) => fs | _ => #[]
@[simp] theorem ty79 : z2X Try.prog 79 = some ⟨.struct zBn, 3, 72, (some [(.os 1 0 []), (.os 1 0 []), (.os 1 0 [])])⟩ := by kernel_rfl
@[simp] theorem fi79_0 : z2S Try.prog 79 0 = some (0, 1, false) := by kernel_rfl
@[simp] theorem fi79_1 : z2S Try.prog 79 1 = some (1, 1, false) := by kernel_rfl
@[simp] theorem fi79_2 : z2S Try.prog 79 2 = some (2, 1, false) := by kernel_rfl
@[simp] theorem zB3 : zap Try.prog 79 = (some [(.os 1 0 []), (.os 1 0 []), (.os 1 0 [])]) := by kernel_rfl
@[simp] theorem bs79 (fr : Fr) (parts : List (Nat × Operand)) : za5 Try.prog fr 79 parts = match z9b fr (z2S Try.prog 79) ([(.os 1 0 []), (.os 1 0 []), (.os 1 0 [])].map (A.t none)) parts with | some xs => some (E.ag xs) | none => none := z5b zB3 fr parts
@[simp] theorem ty88 : z2X Try.prog 88 = some ⟨.map 9 4, 1, 8, (some [(.sc (.map none))])⟩ := by kernel_rfl
@[simp] theorem mt88 : zhG Try.prog 88 = some (none, 4) := by kernel_rfl
@[simp] theorem zv88 : zo7 Try.prog 4 = some (.bool false) := by kernel_rfl
@[simp] theorem ty92 : z2X Try.prog 92 = some ⟨.int .u64, 1, 8, (some [(.sc (.int .u64 0))])⟩ := by kernel_rfl
@[simp] theorem ty97 : z2X Try.prog 97 = some ⟨.map 3 4, 1, 8, (some [(.sc (.map none))])⟩ := by kernel_rfl
@[simp] theorem mt97 : zhG Try.prog 97 = some ((some .i64), 4) := by kernel_rfl
@[simp] theorem zv97 : zo7 Try.prog 4 = some (.bool false) := by kernel_rfl
@[simp] theorem ty111 : z2X Try.prog 111 = some ⟨.int .u32, 1, 4, (some [(.sc (.int .u32 0))])⟩ := by kernel_rfl
@[simp] theorem ty113 : z2X Try.prog 113 = some ⟨.int .u64, 1, 8, (some [(.sc (.int .u64 0))])⟩ := by kernel_rfl
def cf3 : Cfg := { wio := fun f i => (f == 20 && (i == 0)) || (f == 7 && (i == 0)) || (f == 8 && (i == 0)) || (f == 18 && (i == 0)) || (f == 13 && (i == 0)) || (f == 999999 && (i == 0)), live := fun r => none, dr := fun r => none }
@[simp] theorem wio3 : cf3.wio = fun f i => (f == 20 && (i == 0)) || (f == 7 && (i == 0)) || (f == 8 && (i == 0)) || (f == 18 && (i == 0)) || (f == 13 && (i == 0)) || (f == 999999 && (i == 0)) := rfl
@[simp] theorem live3 : cf3.live = fun r => none := rfl
@[simp] theorem wr3 : cf3.wr = fun _ => [] := rfl
def cf6 : Cfg := { wio := fun f i => (f == 999999 && (i == 0)), live := fun r => none, dr := fun r => none }
@[simp] theorem wio6 : cf6.wio = fun f i => (f == 999999 && (i == 0)) := rfl
@[simp] theorem live6 : cf6.live = fun r => none := rfl
@[simp] theorem wr6 : cf6.wr = fun _ => [] := rfl
def cf7 : Cfg := { wio := fun f i => (f == 20 && (i == 0)) || (f == 23 && (i == 0)) || (f == 13 && (i == 0)) || (f == 21 && (i == 0)) || (f == 22 && (i == 0)) || (f == 999999 && (i == 0)), live := fun r => none, dr := fun r => none, fz := fun r => if r = 999998 then some [] else none }
@[simp] theorem wio7 : cf7.wio = fun f i => (f == 20 && (i == 0)) || (f == 23 && (i == 0)) || (f == 13 && (i == 0)) || (f == 21 && (i == 0)) || (f == 22 && (i == 0)) || (f == 999999 && (i == 0)) := rfl
@[simp] theorem live7 : cf7.live = fun r => none := rfl
@[simp] theorem wr7 : cf7.wr = fun _ => [] := rfl
def cf8 : Cfg := { wio := fun f i => (f == 20 && (i == 0)) || (f == 999999 && (i == 0)), live := fun r => none, dr := fun r => none }
@[simp] theorem wio8 : cf8.wio = fun f i => (f == 20 && (i == 0)) || (f == 999999 && (i == 0)) := rfl
@[simp] theorem live8 : cf8.live = fun r => none := rfl
@[simp] theorem wr8 : cf8.wr = fun _ => [] := rfl
def cf9 : Cfg := { wio := fun f i => (f == 999999 && (i == 0)), live := fun r => if r = 6 then some [1, 4, 6, 29, 30, 31] else if r = 13 then some [1, 4, 6, 10, 11, 48, 49, 50] else none, dr := fun r => none, fz := fun r => if r = 11 then some [6] else if r = 999998 then some [] else none, dt := fun r => if r = 15 then some (.op 0 0 (.op 1 0 (.op 2 0 (.op 3 0 (.op 4 0 (.op 5 0 (.op 6 0 (.alt (.op 7 1 (.op 8 0 (.op 9 0 (.op 10 3 (.op 11 1 (.op 12 2 (.op 13 0 .nil))))))) (.op 11 1 (.op 7 1 (.op 8 0 (.op 9 0 (.op 10 3 (.op 12 2 (.op 13 0 .nil))))))))))))))) else none }
@[simp] theorem wio9 : cf9.wio = fun f i => (f == 999999 && (i == 0)) := rfl
@[simp] theorem live9 : cf9.live = fun r => if r = 6 then some [1, 4, 6, 29, 30, 31] else if r = 13 then some [1, 4, 6, 10, 11, 48, 49, 50] else none := rfl
@[simp] theorem wr9 : cf9.wr = fun _ => [] := rfl
def zgV : SchT := .nil
def zgW : SchT := .op 13 2 zgV
def zgX : SchT := .op 12 0 zgW
def zgY : SchT := .op 11 2 zgX
def zcl : SchT := .op 9 2 zgY
def zgZ : SchT := .op 8 1 zcl
def zcm : SchT := .op 10 3 zcl
def z9E : SchT := .op 4 2 zcm
def zcn : SchT := .op 6 1 zcm
def zco : SchT := .op 10 3 zgZ
def zcp : SchT := .op 3 1 z9E
def zcq : SchT := .alt (.op 4 2 zcn) (.op 6 1 z9E)
def zcr : SchT := .alt (.op 4 2 zco) (.op 8 1 z9E)
def zjx : SchT := .alt (.op 6 1 zco) (.op 8 1 zcn)
def zjy : SchT := .alt (.op 3 1 zcq) (.op 6 1 zcp)
def zjz : SchT := .alt (.op 3 1 zcr) (.op 8 1 zcp)
def zjA : SchT := .alt (.op 4 2 zjx) (.alt (.op 6 1 zcr) (.op 8 1 zcq))
def zjB : SchT := .alt (.op 3 1 zjA) (.alt (.op 6 1 zjz) (.op 8 1 zjy))
def zjC : SchT := .op 7 3 zjB
def zjD : SchT := .op 5 3 zjC
def zjE : SchT := .op 2 0 zjD
def zjF : SchT := .op 1 0 zjE
def zjG : SchT := .op 0 0 zjF
def cf10 : Cfg := { wio := fun f i => (f == 999999 && (i == 0)), live := fun r => if r = 6 then some [1, 4, 6, 40, 41, 42] else if r = 12 then some [1, 4, 6, 9, 52, 53, 54] else if r = 17 then some [1, 4, 6, 9, 11, 13, 52, 53, 54, 71, 72, 73] else if r = 22 then some [1, 4, 6, 9, 11, 13, 52, 53, 54, 89, 90, 91] else if r = 25 then some [1, 4, 6, 9, 11, 13, 16, 17, 18, 52, 53, 54, 89, 90, 91] else if r = 35 then some [1, 4, 6, 9, 11, 13, 16, 17, 18, 20, 21, 23, 52, 53, 54, 89, 90, 91, 152, 153, 154] else if r = 40 then some [1, 4, 6, 9, 11, 13, 16, 17, 18, 20, 21, 23, 52, 53, 54, 89, 90, 91, 167, 168, 169] else if r = 44 then some [1, 4, 6, 9, 11, 13, 16, 17, 18, 20, 21, 23, 27, 28, 52, 53, 54, 89, 90, 91, 167, 168, 169, 174, 175] else none, dr := fun r => if r = 19 then some [(0, 0), (1, 0), (2, 0), (3, 0), (4, 0), (5, 0), (6, 0), (7, 1), (8, 2), (9, 0), (10, 2)] else if r = 29 then some [(0, 0), (1, 0), (2, 0), (3, 0), (4, 0), (5, 0), (6, 0), (7, 0), (11, 0), (12, 0), (13, 0), (14, 0), (15, 0), (8, 1), (9, 0), (10, 0), (16, 0), (17, 0)] else if r = 46 then some [(0, 0), (1, 0), (2, 0), (3, 0), (4, 0), (5, 0), (6, 0), (7, 0), (8, 0), (9, 0), (10, 0), (11, 0), (12, 0)] else none, fz := fun r => if r = 4 then some [4] else if r = 999998 then some [] else none, dt := fun r => if r = 51 then some (zjG) else none }
@[simp] theorem wio10 : cf10.wio = fun f i => (f == 999999 && (i == 0)) := rfl
@[simp] theorem live10 : cf10.live = fun r => if r = 6 then some [1, 4, 6, 40, 41, 42] else if r = 12 then some [1, 4, 6, 9, 52, 53, 54] else if r = 17 then some [1, 4, 6, 9, 11, 13, 52, 53, 54, 71, 72, 73] else if r = 22 then some [1, 4, 6, 9, 11, 13, 52, 53, 54, 89, 90, 91] else if r = 25 then some [1, 4, 6, 9, 11, 13, 16, 17, 18, 52, 53, 54, 89, 90, 91] else if r = 35 then some [1, 4, 6, 9, 11, 13, 16, 17, 18, 20, 21, 23, 52, 53, 54, 89, 90, 91, 152, 153, 154] else if r = 40 then some [1, 4, 6, 9, 11, 13, 16, 17, 18, 20, 21, 23, 52, 53, 54, 89, 90, 91, 167, 168, 169] else if r = 44 then some [1, 4, 6, 9, 11, 13, 16, 17, 18, 20, 21, 23, 27, 28, 52, 53, 54, 89, 90, 91, 167, 168, 169, 174, 175] else none := rfl
@[simp] theorem wr10 : cf10.wr = fun _ => [] := rfl
def cf11 : Cfg := { wio := fun f i => (f == 999999 && (i == 0)), live := fun r => if r = 4 then some [0, 1, 17, 18] else if r = 10 then some [0, 1, 6, 7, 17, 18, 62, 63] else if r = 16 then some [0, 1, 6, 7, 17, 18, 80, 81] else if r = 21 then some [0, 1, 6, 7, 9, 17, 18, 80, 81, 102, 103] else none, dr := fun r => if r = 12 then some [(0, 0), (1, 0), (2, 0), (3, 0), (4, 0), (5, 0), (6, 0), (7, 0), (8, 0), (9, 0), (10, 0)] else if r = 18 then some [(0, 0), (1, 0), (2, 0), (3, 0), (4, 0), (5, 0), (6, 0), (7, 0), (8, 0), (9, 0), (10, 0), (11, 0), (12, 0)] else if r = 23 then some [(0, 0), (1, 0), (2, 0), (3, 0), (4, 0), (5, 0), (6, 0), (7, 0), (8, 0), (9, 0), (10, 0), (11, 0), (12, 0), (13, 0), (14, 0), (15, 0), (16, 0)] else none, dt := fun r => if r = 6 then some (.op 0 0 (.op 1 0 (.op 2 0 (.op 3 0 (.op 4 3 (.op 5 3 (.op 6 3 (.op 7 3 (.alt (.op 8 1 (.op 9 1 (.op 10 2 (.op 11 2 .nil)))) (.op 9 1 (.op 8 1 (.op 10 2 (.op 11 2 .nil))))))))))))) else none }
@[simp] theorem wio11 : cf11.wio = fun f i => (f == 999999 && (i == 0)) := rfl
@[simp] theorem live11 : cf11.live = fun r => if r = 4 then some [0, 1, 17, 18] else if r = 10 then some [0, 1, 6, 7, 17, 18, 62, 63] else if r = 16 then some [0, 1, 6, 7, 17, 18, 80, 81] else if r = 21 then some [0, 1, 6, 7, 9, 17, 18, 80, 81, 102, 103] else none := rfl
@[simp] theorem wr11 : cf11.wr = fun _ => [] := rfl
def cf12 : Cfg := { wio := fun f i => (f == 999999 && (i == 0)), live := fun r => none, dr := fun r => none }
@[simp] theorem wio12 : cf12.wio = fun f i => (f == 999999 && (i == 0)) := rfl
@[simp] theorem live12 : cf12.live = fun r => none := rfl
@[simp] theorem wr12 : cf12.wr = fun _ => [] := rfl
def cf13 : Cfg := { wio := fun f i => (f == 23 && (i == 0)) || (f == 999999 && (i == 0)), live := fun r => if r = 3 then some [6, 7, 17, 18] else if r = 6 then some [6, 7, 8, 17, 18, 25, 26, 27] else none, dr := fun r => none, fz := fun r => if r = 999998 then some [] else none }
@[simp] theorem wio13 : cf13.wio = fun f i => (f == 23 && (i == 0)) || (f == 999999 && (i == 0)) := rfl
@[simp] theorem live13 : cf13.live = fun r => if r = 3 then some [6, 7, 17, 18] else if r = 6 then some [6, 7, 8, 17, 18, 25, 26, 27] else none := rfl
@[simp] theorem wr13 : cf13.wr = fun _ => [] := rfl
def cf14 : Cfg := { wio := fun f i => (f == 999999 && (i == 0)), live := fun r => none, dr := fun r => none }
@[simp] theorem wio14 : cf14.wio = fun f i => (f == 999999 && (i == 0)) := rfl
@[simp] theorem live14 : cf14.live = fun r => none := rfl
@[simp] theorem wr14 : cf14.wr = fun _ => [] := rfl
def cf15 : Cfg := { wio := fun f i => (f == 999999 && (i == 0)), live := fun r => none, dr := fun r => none }
@[simp] theorem wio15 : cf15.wio = fun f i => (f == 999999 && (i == 0)) := rfl
@[simp] theorem live15 : cf15.live = fun r => none := rfl
@[simp] theorem wr15 : cf15.wr = fun _ => [] := rfl
def cf20 : Cfg := { wio := fun f i => (f == 999999 && (i == 0)), live := fun r => none, dr := fun r => if r = 1 then some [(0, 0), (1, 0), (2, 0), (3, 0), (4, 0), (5, 0), (6, 0), (7, 0), (8, 0), (9, 0)] else if r = 4 then some [(0, 0), (1, 0), (2, 0), (3, 0), (4, 0), (5, 0), (6, 0), (7, 0), (8, 0), (9, 0), (10, 0), (11, 0), (12, 1), (13, 0)] else none }
@[simp] theorem wio20 : cf20.wio = fun f i => (f == 999999 && (i == 0)) := rfl
@[simp] theorem live20 : cf20.live = fun r => none := rfl
@[simp] theorem wr20 : cf20.wr = fun _ => [] := rfl
def zje : SchT := .nil
def zjf : SchT := .op 16 2 zje
def zjg : SchT := .op 15 0 zjf
def zjh : SchT := .op 14 2 zjg
def zea : SchT := .op 12 2 zjh
def zeb : SchT := .op 11 1 zea
def zec : SchT := .op 13 3 zea
def z8F : SchT := .op 6 2 zec
def zed : SchT := .op 8 2 zec
def zji : SchT := .op 10 1 zeb
def zee : SchT := .op 13 3 zeb
def zaI : SchT := .op 1 2 z8F
def z8G : SchT := .op 5 1 z8F
def zaJ : SchT := .alt (.op 6 2 zed) (.op 8 2 z8F)
def z8H : SchT := .alt (.op 6 2 zee) (.op 11 1 z8F)
def zef : SchT := .alt (.op 8 2 zee) (.op 11 1 zed)
def zeg : SchT := .op 13 3 zji
def zaK : SchT := .alt (.op 1 2 z8G) (.op 5 1 zaI)
def zeh : SchT := .alt (.op 1 2 zaJ) (.op 8 2 zaI)
def zaL : SchT := .alt (.op 1 2 z8H) (.op 11 1 zaI)
def zjj : SchT := .op 4 0 z8G
def zaM : SchT := .alt (.op 5 1 zaJ) (.op 8 2 z8G)
def z8I : SchT := .alt (.op 5 1 z8H) (.op 11 1 z8G)
def zaN : SchT := .alt (.op 6 2 zef) (.alt (.op 8 2 z8H) (.op 11 1 zaJ))
def zaO : SchT := .alt (.op 6 2 zeg) (.op 10 1 z8H)
def zjk : SchT := .alt (.op 8 2 zeg) (.op 10 1 zef)
def zjl : SchT := .op 4 3 zaK
def zei : SchT := .alt (.op 1 2 zaM) (.alt (.op 5 1 zeh) (.op 8 2 zaK))
def zaP : SchT := .alt (.op 1 2 z8I) (.alt (.op 5 1 zaL) (.op 11 1 zaK))
def zej : SchT := .alt (.op 1 2 zaN) (.alt (.op 8 2 zaL) (.op 11 1 zeh))
def zek : SchT := .alt (.op 1 2 zaO) (.op 10 1 zaL)
def zaQ : SchT := .op 3 1 zjj
def zjm : SchT := .op 4 3 zaM
def zjn : SchT := .op 4 0 z8I
def zaR : SchT := .alt (.op 5 1 zaN) (.alt (.op 8 2 z8I) (.op 11 1 zaM))
def zaS : SchT := .alt (.op 5 1 zaO) (.op 10 1 z8I)
def zel : SchT := .alt (.op 6 2 zjk) (.alt (.op 8 2 zaO) (.op 10 1 zaN))
def zem : SchT := .alt (.op 1 2 zaQ) (.op 3 1 zjl)
def zjo : SchT := .op 4 3 zei
def zjp : SchT := .op 4 3 zaP
def zen : SchT := .alt (.op 1 2 zaR) (.alt (.op 5 1 zej) (.alt (.op 8 2 zaP) (.op 11 1 zei)))
def zeo : SchT := .alt (.op 1 2 zaS) (.alt (.op 5 1 zek) (.op 10 1 zaP))
def zjq : SchT := .alt (.op 1 2 zel) (.alt (.op 8 2 zek) (.op 10 1 zej))
def zep : SchT := .alt (.op 3 1 zjm) (.op 8 2 zaQ)
def zaT : SchT := .alt (.op 3 1 zjn) (.op 11 1 zaQ)
def zjr : SchT := .op 4 3 zaR
def zjs : SchT := .op 4 0 zaS
def zeq : SchT := .alt (.op 5 1 zel) (.alt (.op 8 2 zaS) (.op 10 1 zaR))
def zjt : SchT := .alt (.op 1 2 zep) (.alt (.op 3 1 zjo) (.op 8 2 zem))
def zer : SchT := .alt (.op 1 2 zaT) (.alt (.op 3 1 zjp) (.op 11 1 zem))
def zju : SchT := .op 4 3 zen
def zjv : SchT := .op 4 3 zeo
def zjw : SchT := .alt (.op 1 2 zeq) (.alt (.op 5 1 zjq) (.alt (.op 8 2 zeo) (.op 10 1 zen)))
def zes : SchT := .alt (.op 3 1 zjr) (.alt (.op 8 2 zaT) (.op 11 1 zep))
def zet : SchT := .alt (.op 3 1 zjs) (.op 10 1 zaT)
def zmM : SchT := .op 4 3 zeq
def zmN : SchT := .alt (.op 1 2 zes) (.alt (.op 3 1 zju) (.alt (.op 8 2 zer) (.op 11 1 zjt)))
def zmO : SchT := .alt (.op 1 2 zet) (.alt (.op 3 1 zjv) (.op 10 1 zer))
def zmP : SchT := .op 4 3 zjw
def zmQ : SchT := .alt (.op 3 1 zmM) (.alt (.op 8 2 zet) (.op 10 1 zes))
def zmR : SchT := .alt (.op 1 2 zmQ) (.alt (.op 3 1 zmP) (.alt (.op 8 2 zmO) (.op 10 1 zmN)))
def zmS : SchT := .op 9 3 zmR
def zmT : SchT := .op 7 3 zmS
def zmU : SchT := .op 2 3 zmT
def zmV : SchT := .op 0 3 zmU
def cf21 : Cfg := { wio := fun f i => (f == 20 && (i == 0)) || (f == 999999 && (i == 0)), live := fun r => if r = 5 then some [0, 1, 6, 7, 8, 9] else if r = 9 then some [0, 1, 6, 7, 8, 10] else if r = 13 then some [0, 1, 6, 7, 8, 10, 11, 12] else if r = 17 then some [0, 1, 6, 7, 8, 10, 11, 13] else none, dr := fun r => if r = 20 then some [(0, 0), (1, 0), (2, 0), (3, 0), (4, 0), (5, 0), (6, 0), (7, 0), (8, 0), (9, 0), (10, 0), (11, 2)] else if r = 21 then some [(1, 0), (2, 0), (3, 0), (5, 3), (6, 3), (7, 3), (8, 3), (0, 1), (4, 2), (9, 2), (10, 0)] else none, wr := fun r => if r = 7 then [0] else [], dt := fun r => if r = 7 then some (zmV) else none }
@[simp] theorem wio21 : cf21.wio = fun f i => (f == 20 && (i == 0)) || (f == 999999 && (i == 0)) := rfl
@[simp] theorem live21 : cf21.live = fun r => if r = 5 then some [0, 1, 6, 7, 8, 9] else if r = 9 then some [0, 1, 6, 7, 8, 10] else if r = 13 then some [0, 1, 6, 7, 8, 10, 11, 12] else if r = 17 then some [0, 1, 6, 7, 8, 10, 11, 13] else none := rfl
@[simp] theorem wr21 : cf21.wr = fun r => if r = 7 then [0] else [] := rfl
def cf22 : Cfg := { wio := fun f i => (f == 20 && (i == 0)) || (f == 999999 && (i == 0)), live := fun r => if r = 4 then some [0, 1, 4, 5, 6, 22, 23, 24] else if r = 9 then some [0, 1, 4, 5, 6, 8, 9, 10, 22, 23, 24] else if r = 13 then some [0, 1, 4, 5, 6, 8, 9, 10, 11, 12, 22, 23, 24] else if r = 15 then some [0, 1, 4, 5, 6, 8, 9, 10, 11, 12, 22, 23, 24, 50, 51, 52] else none, dr := fun r => if r = 6 then some [(0, 0), (1, 0), (2, 0), (3, 1), (4, 0), (5, 1), (6, 2), (7, 0), (8, 2)] else none, wr := fun r => if r = 6 then [0] else [] }
@[simp] theorem wio22 : cf22.wio = fun f i => (f == 20 && (i == 0)) || (f == 999999 && (i == 0)) := rfl
@[simp] theorem live22 : cf22.live = fun r => if r = 4 then some [0, 1, 4, 5, 6, 22, 23, 24] else if r = 9 then some [0, 1, 4, 5, 6, 8, 9, 10, 22, 23, 24] else if r = 13 then some [0, 1, 4, 5, 6, 8, 9, 10, 11, 12, 22, 23, 24] else if r = 15 then some [0, 1, 4, 5, 6, 8, 9, 10, 11, 12, 22, 23, 24, 50, 51, 52] else none := rfl
@[simp] theorem wr22 : cf22.wr = fun r => if r = 6 then [0] else [] := rfl
def cf23 : Cfg := { wio := fun f i => (f == 20 && (i == 0)) || (f == 999999 && (i == 0)), live := fun r => if r = 5 then some [0, 1, 6, 7, 8, 9] else if r = 10 then some [0, 1, 6, 7, 8, 9, 10, 11] else none, dr := fun r => if r = 7 then some [(0, 0), (1, 0), (2, 0), (3, 1), (4, 0), (5, 1), (6, 2), (7, 0), (8, 2)] else none, wr := fun r => if r = 7 then [0] else [] }
@[simp] theorem wio23 : cf23.wio = fun f i => (f == 20 && (i == 0)) || (f == 999999 && (i == 0)) := rfl
@[simp] theorem live23 : cf23.live = fun r => if r = 5 then some [0, 1, 6, 7, 8, 9] else if r = 10 then some [0, 1, 6, 7, 8, 9, 10, 11] else none := rfl
@[simp] theorem wr23 : cf23.wr = fun r => if r = 7 then [0] else [] := rfl
def zgw : SchT := .nil
def zbY : SchT := .op 13 2 zgw
def z7N : SchT := .op 11 0 zbY
def zgx : SchT := .op 12 1 zbY
def z7O : SchT := .op 4 1 z7N
def z7P : SchT := .op 6 1 z7N
def z7Q : SchT := .op 8 1 z7N
def z7R : SchT := .op 10 1 z7N
def z7S : SchT := .op 11 0 zgx
def z9q : SchT := .alt (.op 4 1 z7P) (.op 6 1 z7O)
def z9r : SchT := .alt (.op 4 1 z7Q) (.op 8 1 z7O)
def z9s : SchT := .alt (.op 4 1 z7R) (.op 10 1 z7O)
def z9t : SchT := .alt (.op 4 1 z7S) (.op 12 1 z7O)
def z9u : SchT := .alt (.op 6 1 z7Q) (.op 8 1 z7P)
def z9v : SchT := .alt (.op 6 1 z7R) (.op 10 1 z7P)
def z9w : SchT := .alt (.op 6 1 z7S) (.op 12 1 z7P)
def z9x : SchT := .alt (.op 8 1 z7R) (.op 10 1 z7Q)
def z9y : SchT := .alt (.op 8 1 z7S) (.op 12 1 z7Q)
def z9z : SchT := .alt (.op 10 1 z7S) (.op 12 1 z7R)
def zbZ : SchT := .alt (.op 4 1 z9u) (.alt (.op 6 1 z9r) (.op 8 1 z9q))
def zc0 : SchT := .alt (.op 4 1 z9v) (.alt (.op 6 1 z9s) (.op 10 1 z9q))
def zc1 : SchT := .alt (.op 4 1 z9w) (.alt (.op 6 1 z9t) (.op 12 1 z9q))
def zc2 : SchT := .alt (.op 4 1 z9x) (.alt (.op 8 1 z9s) (.op 10 1 z9r))
def zc3 : SchT := .alt (.op 4 1 z9y) (.alt (.op 8 1 z9t) (.op 12 1 z9r))
def zc4 : SchT := .alt (.op 4 1 z9z) (.alt (.op 10 1 z9t) (.op 12 1 z9s))
def zc5 : SchT := .alt (.op 6 1 z9x) (.alt (.op 8 1 z9v) (.op 10 1 z9u))
def zc6 : SchT := .alt (.op 6 1 z9y) (.alt (.op 8 1 z9w) (.op 12 1 z9u))
def zc7 : SchT := .alt (.op 6 1 z9z) (.alt (.op 10 1 z9w) (.op 12 1 z9v))
def zc8 : SchT := .alt (.op 8 1 z9z) (.alt (.op 10 1 z9y) (.op 12 1 z9x))
def zgy : SchT := .alt (.op 4 1 zc5) (.alt (.op 6 1 zc2) (.alt (.op 8 1 zc0) (.op 10 1 zbZ)))
def zgz : SchT := .alt (.op 4 1 zc6) (.alt (.op 6 1 zc3) (.alt (.op 8 1 zc1) (.op 12 1 zbZ)))
def zgA : SchT := .alt (.op 4 1 zc7) (.alt (.op 6 1 zc4) (.alt (.op 10 1 zc1) (.op 12 1 zc0)))
def zj4 : SchT := .alt (.op 4 1 zc8) (.alt (.op 8 1 zc4) (.alt (.op 10 1 zc3) (.op 12 1 zc2)))
def zj5 : SchT := .alt (.op 6 1 zc8) (.alt (.op 8 1 zc7) (.alt (.op 10 1 zc6) (.op 12 1 zc5)))
def zj6 : SchT := .alt (.op 4 1 zj5) (.alt (.op 6 1 zj4) (.alt (.op 8 1 zgA) (.alt (.op 10 1 zgz) (.op 12 1 zgy))))
def zj7 : SchT := .op 9 0 zj6
def zj8 : SchT := .op 7 0 zj7
def zj9 : SchT := .op 5 0 zj8
def zja : SchT := .op 3 0 zj9
def zjb : SchT := .op 2 0 zja
def zjc : SchT := .op 1 0 zjb
def zjd : SchT := .op 0 0 zjc
def cf24 : Cfg := { wio := fun f i => (f == 999999 && (i == 0)), live := fun r => if r = 12 then some [2, 5, 7, 8, 9, 10, 53, 54] else if r = 19 then some [2, 5, 7, 8, 10, 85, 86, 87] else if r = 23 then some [2, 5, 7, 8, 10, 14, 17, 85, 86, 87, 99, 100] else none, dr := fun r => if r = 14 then some [(0, 0), (1, 0), (2, 0), (3, 0), (4, 0), (5, 1), (6, 0), (7, 2)] else if r = 16 then some [(0, 0), (1, 0), (2, 0), (3, 0), (4, 0), (5, 0), (6, 0), (7, 0), (8, 0), (9, 0), (10, 0), (11, 0), (12, 0), (13, 0), (14, 2)] else if r = 26 then some [(0, 0), (1, 0), (2, 0), (3, 0), (4, 0), (5, 0), (6, 0), (7, 0), (8, 2)] else none, fz := fun r => if r = 8 then some [5] else if r = 10 then some [8] else if r = 999998 then some [] else none, dt := fun r => if r = 10 then some (zjd) else none }
@[simp] theorem wio24 : cf24.wio = fun f i => (f == 999999 && (i == 0)) := rfl
@[simp] theorem live24 : cf24.live = fun r => if r = 12 then some [2, 5, 7, 8, 9, 10, 53, 54] else if r = 19 then some [2, 5, 7, 8, 10, 85, 86, 87] else if r = 23 then some [2, 5, 7, 8, 10, 14, 17, 85, 86, 87, 99, 100] else none := rfl
@[simp] theorem wr24 : cf24.wr = fun _ => [] := rfl
def cf25 : Cfg := { wio := fun f i => (f == 52 && (i == 0)) || (f == 999999 && (i == 0)), live := fun r => if r = 3 then some [1, 4, 11, 12, 13] else if r = 11 then some [1, 4, 7, 36, 37, 38] else none, dr := fun r => if r = 13 then some [(0, 0), (1, 0), (2, 0), (3, 0), (4, 0), (5, 0), (6, 0), (7, 0)] else if r = 17 then some [(0, 0), (1, 0), (2, 0), (3, 0)] else none, fz := fun r => if r = 16 then some [1, 4] else if r = 999998 then some [] else none, dt := fun r => if r = 7 then some (.op 1 3 (.op 2 0 (.op 3 0 (.op 4 0 (.op 5 0 (.op 6 0 (.alt (.op 0 1 (.op 7 1 (.op 8 2 (.op 9 0 (.op 10 2 .nil))))) (.op 7 1 (.alt (.op 0 1 (.op 8 2 (.op 9 0 (.op 10 2 .nil)))) (.op 8 2 (.op 0 1 (.op 9 0 (.op 10 2 .nil))))))))))))) else none }
@[simp] theorem wio25 : cf25.wio = fun f i => (f == 52 && (i == 0)) || (f == 999999 && (i == 0)) := rfl
@[simp] theorem live25 : cf25.live = fun r => if r = 3 then some [1, 4, 11, 12, 13] else if r = 11 then some [1, 4, 7, 36, 37, 38] else none := rfl
@[simp] theorem wr25 : cf25.wr = fun _ => [] := rfl
def cf26 : Cfg := { wio := fun f i => (f == 999999 && (i == 0)), live := fun r => if r = 4 then some [2, 3, 4, 5, 8, 10, 11, 35, 36, 37] else if r = 10 then some [2, 4, 5, 8, 10, 11, 14, 53, 54, 55] else if r = 13 then some [2, 4, 5, 8, 10, 11, 14, 16, 53, 54, 55, 60, 61] else none, dr := fun r => if r = 6 then some [(0, 0), (1, 0), (2, 0), (3, 0), (4, 0), (5, 0), (6, 0), (7, 1), (8, 2), (9, 0), (10, 2)] else if r = 16 then some [(0, 0), (1, 0), (2, 0), (4, 0), (5, 0), (6, 0), (7, 0), (8, 0), (3, 1), (9, 1), (10, 0), (11, 0)] else if r = 17 then some [(0, 0), (1, 0), (2, 0), (3, 0), (4, 0), (5, 0), (6, 0), (7, 0), (8, 0), (9, 0), (10, 0)] else if r = 18 then some [(0, 0), (1, 0), (2, 0), (3, 0), (4, 0), (5, 0), (6, 0), (7, 0), (8, 0), (9, 0), (10, 0), (11, 0), (12, 0), (13, 0)] else if r = 19 then some [(0, 0), (1, 0), (3, 0), (4, 0), (2, 1), (5, 1), (6, 0)] else none, fz := fun r => if r = 999998 then some [] else none }
@[simp] theorem wio26 : cf26.wio = fun f i => (f == 999999 && (i == 0)) := rfl
@[simp] theorem live26 : cf26.live = fun r => if r = 4 then some [2, 3, 4, 5, 8, 10, 11, 35, 36, 37] else if r = 10 then some [2, 4, 5, 8, 10, 11, 14, 53, 54, 55] else if r = 13 then some [2, 4, 5, 8, 10, 11, 14, 16, 53, 54, 55, 60, 61] else none := rfl
@[simp] theorem wr26 : cf26.wr = fun _ => [] := rfl
def zgi : SchT := .nil
def zgj : SchT := .op 15 2 zgi
def zbF : SchT := .op 14 0 zgj
def zgk : SchT := .op 7 1 zbF
def zbG : SchT := .op 13 2 zbF
def zgl : SchT := .alt (.op 7 1 zbG) (.op 13 2 zgk)
def zbH : SchT := .op 12 0 zbG
def zbI : SchT := .op 5 1 zbH
def zbJ : SchT := .op 12 0 zgl
def z9k : SchT := .op 11 2 zbH
def zgm : SchT := .alt (.op 5 1 zbJ) (.op 7 1 zbI)
def zbK : SchT := .alt (.op 5 1 z9k) (.op 11 2 zbI)
def zbL : SchT := .alt (.op 7 1 z9k) (.op 11 2 zbJ)
def zbM : SchT := .op 10 0 z9k
def z9l : SchT := .op 3 1 zbM
def zgn : SchT := .alt (.op 5 1 zbL) (.alt (.op 7 1 zbK) (.op 11 2 zgm))
def zbN : SchT := .op 10 0 zbK
def zbO : SchT := .op 10 0 zbL
def z7M : SchT := .op 9 2 zbM
def zbP : SchT := .alt (.op 3 1 zbN) (.op 5 1 z9l)
def zbQ : SchT := .alt (.op 3 1 zbO) (.op 7 1 z9l)
def z9m : SchT := .alt (.op 3 1 z7M) (.op 9 2 z9l)
def zbR : SchT := .op 10 0 zgn
def z9n : SchT := .alt (.op 5 1 z7M) (.op 9 2 zbN)
def z9o : SchT := .alt (.op 7 1 z7M) (.op 9 2 zbO)
def zgo : SchT := .op 8 0 z7M
def z9p : SchT := .op 1 1 zgo
def zgp : SchT := .alt (.op 3 1 zbR) (.alt (.op 5 1 zbQ) (.op 7 1 zbP))
def zbS : SchT := .alt (.op 3 1 z9n) (.alt (.op 5 1 z9m) (.op 9 2 zbP))
def zbT : SchT := .alt (.op 3 1 z9o) (.alt (.op 7 1 z9m) (.op 9 2 zbQ))
def zgq : SchT := .op 8 0 z9m
def zbU : SchT := .alt (.op 5 1 z9o) (.alt (.op 7 1 z9n) (.op 9 2 zbR))
def zgr : SchT := .op 8 0 z9n
def zgs : SchT := .op 8 0 z9o
def zbV : SchT := .alt (.op 1 1 zgq) (.op 3 1 z9p)
def zbW : SchT := .alt (.op 1 1 zgr) (.op 5 1 z9p)
def zbX : SchT := .alt (.op 1 1 zgs) (.op 7 1 z9p)
def zgt : SchT := .alt (.op 3 1 zbU) (.alt (.op 5 1 zbT) (.alt (.op 7 1 zbS) (.op 9 2 zgp)))
def zgu : SchT := .op 8 0 zbS
def zgv : SchT := .op 8 0 zbT
def ziU : SchT := .op 8 0 zbU
def ziV : SchT := .alt (.op 1 1 zgu) (.alt (.op 3 1 zbW) (.op 5 1 zbV))
def ziW : SchT := .alt (.op 1 1 zgv) (.alt (.op 3 1 zbX) (.op 7 1 zbV))
def ziX : SchT := .alt (.op 1 1 ziU) (.alt (.op 5 1 zbX) (.op 7 1 zbW))
def ziY : SchT := .op 8 0 zgt
def ziZ : SchT := .alt (.op 1 1 ziY) (.alt (.op 3 1 ziX) (.alt (.op 5 1 ziW) (.op 7 1 ziV)))
def zj0 : SchT := .op 6 3 ziZ
def zj1 : SchT := .op 4 3 zj0
def zj2 : SchT := .op 2 3 zj1
def zj3 : SchT := .op 0 0 zj2
def zgb : SchT := .nil
def zgc : SchT := .op 12 2 zgb
def zbz : SchT := .op 11 0 zgc
def zgd : SchT := .op 1 2 zbz
def z9i : SchT := .op 10 2 zbz
def zbA : SchT := .alt (.op 1 2 z9i) (.op 10 2 zgd)
def z9j : SchT := .op 7 2 z9i
def zbB : SchT := .op 9 1 z9i
def zbC : SchT := .alt (.op 1 2 z9j) (.op 7 2 zbA)
def zge : SchT := .alt (.op 1 2 zbB) (.op 9 1 zbA)
def zgf : SchT := .op 6 0 z9j
def zbD : SchT := .alt (.op 7 2 zbB) (.op 9 1 z9j)
def zgg : SchT := .op 6 3 zbC
def zgh : SchT := .alt (.op 1 2 zbD) (.alt (.op 7 2 zge) (.op 9 1 zbC))
def zbE : SchT := .op 4 2 zgf
def ziK : SchT := .op 6 0 zbD
def ziL : SchT := .alt (.op 1 2 zbE) (.op 4 2 zgg)
def ziM : SchT := .op 6 3 zgh
def ziN : SchT := .alt (.op 4 2 ziK) (.op 9 1 zbE)
def ziO : SchT := .alt (.op 1 2 ziN) (.alt (.op 4 2 ziM) (.op 9 1 ziL))
def ziP : SchT := .op 8 3 ziO
def ziQ : SchT := .op 5 3 ziP
def ziR : SchT := .op 3 3 ziQ
def ziS : SchT := .op 2 3 ziR
def ziT : SchT := .op 0 3 ziS
def cf27 : Cfg := { wio := fun f i => (f == 999999 && (i == 0)), live := fun r => if r = 10 then some [1, 2, 5, 6, 7, 57, 58, 59] else if r = 16 then some [1, 2, 5, 6, 10, 71, 72] else if r = 21 then some [1, 2, 5, 6, 10, 82, 83, 84] else if r = 25 then some [1, 2, 5, 6, 10, 12, 82, 83, 84, 95, 96, 97] else if r = 28 then some [1, 2, 5, 6, 10, 12, 17, 82, 83, 84, 95, 96, 97, 102, 103, 104] else if r = 37 then some [1, 2, 5, 6, 10, 20, 126, 127] else if r = 41 then some [1, 2, 5, 6, 10, 20, 21, 22, 126, 127] else if r = 49 then some [1, 2, 5, 10, 23] else if r = 52 then some [1, 2, 5, 10, 23, 181, 182] else if r = 55 then some [1, 2, 5, 10, 23, 24, 181, 182, 187, 188] else if r = 63 then some [1, 2, 5, 244, 245] else if r = 67 then some [1, 2, 5, 26, 244, 245, 256, 257, 258] else if r = 72 then some [1, 2, 5, 26, 27, 28, 29, 244, 245, 256, 257, 258, 278, 279, 280] else if r = 81 then some [1, 2, 5, 333, 334] else if r = 84 then some [1, 2, 5, 32, 33, 333, 334] else if r = 88 then some [1, 2, 5, 32, 33, 35, 333, 334, 360, 361, 362] else if r = 95 then some [1, 2, 5, 32, 33, 35, 333, 334, 393, 394, 395] else none, dr := fun r => if r = 57 then some [(0, 0), (1, 0), (2, 0), (3, 0), (4, 0), (5, 1), (6, 0), (7, 0), (8, 0), (9, 0), (10, 0), (11, 0), (12, 0), (13, 0), (14, 0), (15, 0), (16, 0), (17, 0), (18, 0), (19, 0), (20, 0), (21, 0), (22, 0), (23, 0), (24, 0), (25, 0), (26, 0), (27, 0), (28, 0), (29, 0), (30, 0), (31, 0), (32, 0), (33, 0), (34, 0), (35, 0), (36, 0), (37, 0), (38, 0)] else if r = 58 then some [(0, 0), (1, 0), (2, 0), (3, 0), (4, 0), (5, 0), (6, 0), (7, 0), (8, 0), (9, 0), (10, 2)] else if r = 84 then some [(0, 0), (1, 0), (2, 0), (3, 0), (4, 0), (5, 0), (6, 0), (7, 0), (8, 0), (9, 0), (10, 0)] else if r = 86 then some [(0, 0), (1, 0), (2, 0), (3, 0), (4, 0), (5, 0), (6, 1), (7, 0), (8, 0), (9, 0), (10, 0), (11, 0)] else if r = 91 then some [(0, 0), (1, 0), (2, 0), (3, 0), (4, 0), (5, 0), (6, 0), (7, 0), (8, 2)] else if r = 93 then some [(0, 0), (1, 0), (2, 0), (3, 0), (4, 0), (5, 0), (6, 1), (7, 0), (8, 0), (9, 0), (10, 0), (11, 0)] else if r = 98 then some [(0, 0), (1, 0), (2, 0), (3, 0), (4, 0), (5, 0), (6, 0), (7, 0), (8, 2)] else none, dt := fun r => if r = 47 then some (zj3) else if r = 77 then some (ziT) else none }
@[simp] theorem wio27 : cf27.wio = fun f i => (f == 999999 && (i == 0)) := rfl
@[simp] theorem live27 : cf27.live = fun r => if r = 10 then some [1, 2, 5, 6, 7, 57, 58, 59] else if r = 16 then some [1, 2, 5, 6, 10, 71, 72] else if r = 21 then some [1, 2, 5, 6, 10, 82, 83, 84] else if r = 25 then some [1, 2, 5, 6, 10, 12, 82, 83, 84, 95, 96, 97] else if r = 28 then some [1, 2, 5, 6, 10, 12, 17, 82, 83, 84, 95, 96, 97, 102, 103, 104] else if r = 37 then some [1, 2, 5, 6, 10, 20, 126, 127] else if r = 41 then some [1, 2, 5, 6, 10, 20, 21, 22, 126, 127] else if r = 49 then some [1, 2, 5, 10, 23] else if r = 52 then some [1, 2, 5, 10, 23, 181, 182] else if r = 55 then some [1, 2, 5, 10, 23, 24, 181, 182, 187, 188] else if r = 63 then some [1, 2, 5, 244, 245] else if r = 67 then some [1, 2, 5, 26, 244, 245, 256, 257, 258] else if r = 72 then some [1, 2, 5, 26, 27, 28, 29, 244, 245, 256, 257, 258, 278, 279, 280] else if r = 81 then some [1, 2, 5, 333, 334] else if r = 84 then some [1, 2, 5, 32, 33, 333, 334] else if r = 88 then some [1, 2, 5, 32, 33, 35, 333, 334, 360, 361, 362] else if r = 95 then some [1, 2, 5, 32, 33, 35, 333, 334, 393, 394, 395] else none := rfl
@[simp] theorem wr27 : cf27.wr = fun _ => [] := rfl
def zg2 : SchT := .nil
def zg3 : SchT := .op 13 0 zg2
def zg4 : SchT := .op 12 0 zg3
def zbv : SchT := .op 11 2 zg4
def zbw : SchT := .op 3 2 zbv
def zbx : SchT := .op 10 1 zbv
def zg5 : SchT := .op 2 1 zbw
def zby : SchT := .alt (.op 3 2 zbx) (.op 10 1 zbw)
def zg6 : SchT := .op 9 0 zbx
def zg7 : SchT := .alt (.op 2 1 zby) (.op 10 1 zg5)
def zg8 : SchT := .op 9 3 zby
def zg9 : SchT := .op 8 0 zg6
def zga : SchT := .op 9 3 zg7
def ziA : SchT := .op 8 3 zg8
def ziB : SchT := .op 6 1 zg9
def ziC : SchT := .op 8 3 zga
def ziD : SchT := .alt (.op 3 2 ziB) (.op 6 1 ziA)
def ziE : SchT := .alt (.op 2 1 ziD) (.op 6 1 ziC)
def ziF : SchT := .op 7 3 ziE
def ziG : SchT := .op 5 3 ziF
def ziH : SchT := .op 4 3 ziG
def ziI : SchT := .op 1 0 ziH
def ziJ : SchT := .op 0 0 ziI
def cf28 : Cfg := { wio := fun f i => (f == 999999 && (i == 0)), live := fun r => if r = 3 then some [1, 3, 4, 13, 14, 15] else if r = 7 then some [1, 3, 4, 5, 6, 7, 13, 14, 15, 20, 21, 22] else if r = 15 then some [3, 4, 57, 58] else if r = 18 then some [3, 4, 11, 57, 58] else none, dr := fun r => if r = 18 then some [(0, 0), (1, 0), (2, 0), (3, 0), (4, 0), (5, 0), (6, 0), (7, 0), (8, 0), (9, 0), (10, 0), (11, 0), (12, 0), (13, 0), (14, 0), (15, 0), (16, 0), (17, 0), (18, 0), (19, 0), (20, 0), (21, 0), (22, 0), (23, 0), (24, 0), (25, 0), (26, 0), (27, 0), (28, 0), (29, 0), (30, 0), (31, 0), (32, 0), (33, 0), (34, 0), (35, 0), (36, 0), (37, 0)] else if r = 20 then some [(0, 0), (1, 0), (2, 3), (3, 3), (4, 3), (5, 3), (6, 3), (7, 3), (8, 3), (9, 3), (10, 0), (11, 0), (12, 0), (13, 0), (14, 0), (15, 0), (16, 0), (17, 0), (18, 0), (19, 0), (20, 0), (21, 0), (22, 0), (23, 0), (24, 0), (25, 0), (26, 0), (27, 0), (28, 0), (29, 2), (30, 0), (31, 2), (32, 0), (33, 2), (34, 0), (35, 2)] else none, dt := fun r => if r = 12 then some (ziJ) else none }
@[simp] theorem wio28 : cf28.wio = fun f i => (f == 999999 && (i == 0)) := rfl
@[simp] theorem live28 : cf28.live = fun r => if r = 3 then some [1, 3, 4, 13, 14, 15] else if r = 7 then some [1, 3, 4, 5, 6, 7, 13, 14, 15, 20, 21, 22] else if r = 15 then some [3, 4, 57, 58] else if r = 18 then some [3, 4, 11, 57, 58] else none := rfl
@[simp] theorem wr28 : cf28.wr = fun _ => [] := rfl
def cf29 : Cfg := { wio := fun f i => (f == 999999 && (i == 0)), live := fun r => if r = 2 then some [1, 2, 5] else none, dr := fun r => none }
@[simp] theorem wio29 : cf29.wio = fun f i => (f == 999999 && (i == 0)) := rfl
@[simp] theorem live29 : cf29.live = fun r => if r = 2 then some [1, 2, 5] else none := rfl
@[simp] theorem wr29 : cf29.wr = fun _ => [] := rfl
def cf30 : Cfg := { wio := fun f i => (f == 999999 && (i == 0)), live := fun r => if r = 3 then some [1, 2, 3, 7, 11, 12] else none, dr := fun r => none }
@[simp] theorem wio30 : cf30.wio = fun f i => (f == 999999 && (i == 0)) := rfl
@[simp] theorem live30 : cf30.live = fun r => if r = 3 then some [1, 2, 3, 7, 11, 12] else none := rfl
@[simp] theorem wr30 : cf30.wr = fun _ => [] := rfl
def cf31 : Cfg := { wio := fun f i => (f == 999999 && (i == 0)), live := fun r => if r = 3 then some [1, 2, 3, 8, 15, 16, 17] else if r = 7 then some [1, 2, 3, 8, 11, 12, 15, 16, 17, 25, 26, 27] else none, dr := fun r => none }
@[simp] theorem wio31 : cf31.wio = fun f i => (f == 999999 && (i == 0)) := rfl
@[simp] theorem live31 : cf31.live = fun r => if r = 3 then some [1, 2, 3, 8, 15, 16, 17] else if r = 7 then some [1, 2, 3, 8, 11, 12, 15, 16, 17, 25, 26, 27] else none := rfl
@[simp] theorem wr31 : cf31.wr = fun _ => [] := rfl
def cf32 : Cfg := { wio := fun f i => (f == 999999 && (i == 0)), live := fun r => if r = 4 then some [0, 1, 12, 13] else none, dr := fun r => if r = 6 then some [(0, 0), (1, 0), (2, 0), (3, 0), (4, 0), (5, 0), (6, 0), (7, 0), (8, 0)] else none }
@[simp] theorem wio32 : cf32.wio = fun f i => (f == 999999 && (i == 0)) := rfl
@[simp] theorem live32 : cf32.live = fun r => if r = 4 then some [0, 1, 12, 13] else none := rfl
@[simp] theorem wr32 : cf32.wr = fun _ => [] := rfl
def cf33 : Cfg := { wio := fun f i => (f == 999999 && (i == 0)), live := fun r => if r = 9 then some [1, 3, 38, 39, 40] else if r = 14 then some [1, 3, 38, 39, 40, 49, 50, 51] else none, dr := fun r => none }
@[simp] theorem wio33 : cf33.wio = fun f i => (f == 999999 && (i == 0)) := rfl
@[simp] theorem live33 : cf33.live = fun r => if r = 9 then some [1, 3, 38, 39, 40] else if r = 14 then some [1, 3, 38, 39, 40, 49, 50, 51] else none := rfl
@[simp] theorem wr33 : cf33.wr = fun _ => [] := rfl
def cf37 : Cfg := { wio := fun f i => (f == 999999 && (i == 0)), live := fun r => if r = 3 then some [1, 2, 5, 15, 16] else if r = 8 then some [1, 2, 5, 25, 26] else if r = 11 then some [1, 2, 5, 7, 25, 26, 29, 30, 31] else none, dr := fun r => if r = 13 then some [(0, 0), (1, 0), (2, 0), (3, 0), (4, 0), (5, 0), (6, 0), (7, 0), (8, 0), (9, 0), (10, 0), (11, 0), (12, 0), (13, 0), (14, 2)] else none }
@[simp] theorem wio37 : cf37.wio = fun f i => (f == 999999 && (i == 0)) := rfl
@[simp] theorem live37 : cf37.live = fun r => if r = 3 then some [1, 2, 5, 15, 16] else if r = 8 then some [1, 2, 5, 25, 26] else if r = 11 then some [1, 2, 5, 7, 25, 26, 29, 30, 31] else none := rfl
@[simp] theorem wr37 : cf37.wr = fun _ => [] := rfl
def cf38 : Cfg := { wio := fun f i => (f == 999999 && (i == 0)), live := fun r => if r = 3 then some [1, 5, 8, 9, 10] else none, dr := fun r => none }
@[simp] theorem wio38 : cf38.wio = fun f i => (f == 999999 && (i == 0)) := rfl
@[simp] theorem live38 : cf38.live = fun r => if r = 3 then some [1, 5, 8, 9, 10] else none := rfl
@[simp] theorem wr38 : cf38.wr = fun _ => [] := rfl
def cf39 : Cfg := { wio := fun f i => (f == 999999 && (i == 0)), live := fun r => none, dr := fun r => none }
@[simp] theorem wio39 : cf39.wio = fun f i => (f == 999999 && (i == 0)) := rfl
@[simp] theorem live39 : cf39.live = fun r => none := rfl
@[simp] theorem wr39 : cf39.wr = fun _ => [] := rfl
def cf43 : Cfg := { wio := fun f i => (f == 999999 && (i == 0)), live := fun r => if r = 2 then some [1, 2, 3, 7] else none, dr := fun r => if r = 4 then some [(0, 0), (1, 0), (2, 0), (3, 0), (4, 0), (5, 0), (6, 0), (7, 1), (8, 0)] else none }
@[simp] theorem wio43 : cf43.wio = fun f i => (f == 999999 && (i == 0)) := rfl
@[simp] theorem live43 : cf43.live = fun r => if r = 2 then some [1, 2, 3, 7] else none := rfl
@[simp] theorem wr43 : cf43.wr = fun _ => [] := rfl
def cf44 : Cfg := { wio := fun f i => (f == 999999 && (i == 0)), live := fun r => if r = 3 then some [0, 1, 5, 6] else if r = 6 then some [0, 1, 5, 6, 7] else none, dr := fun r => if r = 8 then some [(0, 0), (1, 0), (2, 0), (3, 0), (4, 0), (5, 0), (6, 0), (7, 0), (8, 1), (9, 0), (10, 0), (11, 1), (12, 2), (13, 0)] else none }
@[simp] theorem wio44 : cf44.wio = fun f i => (f == 999999 && (i == 0)) := rfl
@[simp] theorem live44 : cf44.live = fun r => if r = 3 then some [0, 1, 5, 6] else if r = 6 then some [0, 1, 5, 6, 7] else none := rfl
@[simp] theorem wr44 : cf44.wr = fun _ => [] := rfl
def cf45 : Cfg := { wio := fun f i => (f == 999999 && (i == 0)), live := fun r => none, dr := fun r => none }
@[simp] theorem wio45 : cf45.wio = fun f i => (f == 999999 && (i == 0)) := rfl
@[simp] theorem live45 : cf45.live = fun r => none := rfl
@[simp] theorem wr45 : cf45.wr = fun _ => [] := rfl
def cf46 : Cfg := { wio := fun f i => (f == 68 && (i == 0)) || (f == 999999 && (i == 0)), live := fun r => if r = 3 then some [3, 18, 19] else none, dr := fun r => if r = 1 then some [(0, 0), (1, 0), (2, 0), (3, 0), (4, 0), (5, 0), (6, 1), (7, 0), (8, 0), (9, 0), (10, 0), (11, 0)] else none }
@[simp] theorem wio46 : cf46.wio = fun f i => (f == 68 && (i == 0)) || (f == 999999 && (i == 0)) := rfl
@[simp] theorem live46 : cf46.live = fun r => if r = 3 then some [3, 18, 19] else none := rfl
@[simp] theorem wr46 : cf46.wr = fun _ => [] := rfl
def cf47 : Cfg := { wio := fun f i => (f == 999999 && (i == 0)), live := fun r => if r = 3 then some [1, 2, 4, 5, 24, 25, 26] else if r = 9 then some [1, 2, 4, 5, 8, 44, 45, 46] else if r = 13 then some [1, 2, 4, 5, 8, 9, 10, 44, 45, 46, 59, 60] else if r = 20 then some [1, 4, 8, 87, 88] else if r = 24 then some [1, 4, 8, 12, 13, 87, 88, 97, 98, 99] else if r = 27 then some [1, 4, 8, 12, 13, 15, 16, 87, 88, 97, 98, 99, 104, 105, 106] else none, dr := fun r => if r = 11 then some [(0, 0), (1, 0), (2, 0), (3, 0), (4, 0), (5, 1), (6, 0), (7, 2)] else if r = 15 then some [(0, 0), (1, 0), (2, 0), (3, 0), (4, 0), (5, 0), (6, 0), (7, 0), (8, 0), (9, 0), (10, 1), (11, 0), (12, 0), (13, 0), (14, 2)] else if r = 17 then some [(0, 0), (1, 0), (2, 0), (3, 0), (4, 0), (5, 1), (6, 0), (7, 2)] else none, dt := fun r => if r = 7 then some (.op 0 0 (.op 1 0 (.op 2 0 (.op 4 0 (.op 5 0 (.alt (.op 3 1 (.alt (.op 6 1 (.op 7 0 (.op 8 1 (.op 9 2 .nil)))) (.op 8 1 (.op 6 1 (.op 7 0 (.op 9 2 .nil)))))) (.alt (.op 6 1 (.alt (.op 3 1 (.op 7 0 (.op 8 1 (.op 9 2 .nil)))) (.op 8 1 (.op 3 1 (.op 7 0 (.op 9 2 .nil)))))) (.op 8 1 (.alt (.op 3 1 (.op 6 1 (.op 7 0 (.op 9 2 .nil)))) (.op 6 1 (.op 3 1 (.op 7 0 (.op 9 2 .nil))))))))))))) else none }
@[simp] theorem wio47 : cf47.wio = fun f i => (f == 999999 && (i == 0)) := rfl
@[simp] theorem live47 : cf47.live = fun r => if r = 3 then some [1, 2, 4, 5, 24, 25, 26] else if r = 9 then some [1, 2, 4, 5, 8, 44, 45, 46] else if r = 13 then some [1, 2, 4, 5, 8, 9, 10, 44, 45, 46, 59, 60] else if r = 20 then some [1, 4, 8, 87, 88] else if r = 24 then some [1, 4, 8, 12, 13, 87, 88, 97, 98, 99] else if r = 27 then some [1, 4, 8, 12, 13, 15, 16, 87, 88, 97, 98, 99, 104, 105, 106] else none := rfl
@[simp] theorem wr47 : cf47.wr = fun _ => [] := rfl
def cf48 : Cfg := { wio := fun f i => (f == 999999 && (i == 0)), live := fun r => if r = 4 then some [1, 4, 5, 15, 16] else if r = 8 then some [1, 4, 5, 6, 15, 16, 24, 25, 26] else none, dr := fun r => none }
@[simp] theorem wio48 : cf48.wio = fun f i => (f == 999999 && (i == 0)) := rfl
@[simp] theorem live48 : cf48.live = fun r => if r = 4 then some [1, 4, 5, 15, 16] else if r = 8 then some [1, 4, 5, 6, 15, 16, 24, 25, 26] else none := rfl
@[simp] theorem wr48 : cf48.wr = fun _ => [] := rfl
def cf49 : Cfg := { wio := fun f i => (f == 52 && (i == 0)) || (f == 999999 && (i == 0)), live := fun r => if r = 4 then some [1, 2, 5, 6, 23, 24] else if r = 8 then some [1, 2, 5, 6, 7, 23, 24, 33, 34] else if r = 17 then some [1, 2, 9, 60, 61, 62] else if r = 21 then some [1, 2, 9, 11, 60, 61, 62, 75, 76] else none, dr := fun r => if r = 23 then some [(0, 0), (1, 0), (2, 0), (3, 0), (4, 0), (5, 0), (6, 0), (7, 0), (8, 0), (9, 0), (10, 0), (11, 0), (12, 0), (13, 0), (14, 0), (15, 0), (16, 0), (17, 0), (18, 0)] else if r = 24 then some [(0, 0), (1, 0), (2, 0), (3, 0), (4, 0), (5, 0), (6, 0), (7, 0), (8, 0), (9, 0), (10, 0), (11, 0), (12, 0), (13, 2)] else none, fz := fun r => if r = 14 then some [5] else none }
@[simp] theorem wio49 : cf49.wio = fun f i => (f == 52 && (i == 0)) || (f == 999999 && (i == 0)) := rfl
@[simp] theorem live49 : cf49.live = fun r => if r = 4 then some [1, 2, 5, 6, 23, 24] else if r = 8 then some [1, 2, 5, 6, 7, 23, 24, 33, 34] else if r = 17 then some [1, 2, 9, 60, 61, 62] else if r = 21 then some [1, 2, 9, 11, 60, 61, 62, 75, 76] else none := rfl
@[simp] theorem wr49 : cf49.wr = fun _ => [] := rfl
def cf50 : Cfg := { wio := fun f i => (f == 999999 && (i == 0)), live := fun r => if r = 5 then some [1, 2, 5, 21, 22, 23] else if r = 12 then some [2, 5, 8, 45, 46, 47] else if r = 15 then some [2, 5, 8, 10, 45, 46, 47, 51, 52, 53] else none, dr := fun r => if r = 17 then some [(0, 0), (1, 0), (2, 0), (3, 0), (4, 0), (5, 0), (6, 0), (7, 0), (8, 0), (9, 0), (10, 0), (11, 0), (12, 0), (13, 0), (14, 1), (15, 0)] else none }
@[simp] theorem wio50 : cf50.wio = fun f i => (f == 999999 && (i == 0)) := rfl
@[simp] theorem live50 : cf50.live = fun r => if r = 5 then some [1, 2, 5, 21, 22, 23] else if r = 12 then some [2, 5, 8, 45, 46, 47] else if r = 15 then some [2, 5, 8, 10, 45, 46, 47, 51, 52, 53] else none := rfl
@[simp] theorem wr50 : cf50.wr = fun _ => [] := rfl
def cf51 : Cfg := { wio := fun f i => (f == 999999 && (i == 0)), live := fun r => if r = 6 then some [2, 6, 7, 8, 9] else if r = 9 then some [2, 6, 7, 8, 9, 38, 39, 40] else none, dr := fun r => if r = 8 then some [(0, 0), (1, 0), (2, 0), (3, 0), (4, 0), (5, 0), (6, 0), (7, 0), (8, 0), (9, 0)] else if r = 13 then some [(0, 0), (1, 0), (2, 0), (3, 0), (4, 0), (5, 0), (6, 0), (7, 0), (8, 0), (9, 0), (10, 0), (11, 0), (12, 1), (13, 0), (14, 0), (15, 0), (16, 2)] else none }
@[simp] theorem wio51 : cf51.wio = fun f i => (f == 999999 && (i == 0)) := rfl
@[simp] theorem live51 : cf51.live = fun r => if r = 6 then some [2, 6, 7, 8, 9] else if r = 9 then some [2, 6, 7, 8, 9, 38, 39, 40] else none := rfl
@[simp] theorem wr51 : cf51.wr = fun _ => [] := rfl
def cf52 : Cfg := { wio := fun f i => (f == 75 && (i == 0)) || (f == 999999 && (i == 0)), live := fun r => none, dr := fun r => none }
@[simp] theorem wio52 : cf52.wio = fun f i => (f == 75 && (i == 0)) || (f == 999999 && (i == 0)) := rfl
@[simp] theorem live52 : cf52.live = fun r => none := rfl
@[simp] theorem wr52 : cf52.wr = fun _ => [] := rfl
def cf53 : Cfg := { wio := fun f i => (f == 999999 && (i == 0)), live := fun r => none, dr := fun r => if r = 1 then some [(0, 0), (1, 0), (2, 0), (3, 0), (4, 0), (5, 0), (6, 0), (7, 0), (8, 0), (9, 0), (10, 0), (11, 0), (12, 0), (13, 0), (14, 0), (15, 0), (16, 0), (17, 0), (18, 0), (19, 0), (20, 1), (21, 0)] else none }
@[simp] theorem wio53 : cf53.wio = fun f i => (f == 999999 && (i == 0)) := rfl
@[simp] theorem live53 : cf53.live = fun r => none := rfl
@[simp] theorem wr53 : cf53.wr = fun _ => [] := rfl
def cf54 : Cfg := { wio := fun f i => (f == 999999 && (i == 0)), live := fun r => none, dr := fun r => none }
@[simp] theorem wio54 : cf54.wio = fun f i => (f == 999999 && (i == 0)) := rfl
@[simp] theorem live54 : cf54.live = fun r => none := rfl
@[simp] theorem wr54 : cf54.wr = fun _ => [] := rfl
def cf55 : Cfg := { wio := fun f i => (f == 999999 && (i == 0)), live := fun r => if r = 3 then some [0, 1, 5, 14, 15, 16] else if r = 9 then some [0, 5, 8, 28, 29, 30] else none, dr := fun r => none }
@[simp] theorem wio55 : cf55.wio = fun f i => (f == 999999 && (i == 0)) := rfl
@[simp] theorem live55 : cf55.live = fun r => if r = 3 then some [0, 1, 5, 14, 15, 16] else if r = 9 then some [0, 5, 8, 28, 29, 30] else none := rfl
@[simp] theorem wr55 : cf55.wr = fun _ => [] := rfl
def cf56 : Cfg := { wio := fun f i => (f == 999999 && (i == 0)), live := fun r => if r = 2 then some [5, 6, 7] else none, dr := fun r => none }
@[simp] theorem wio56 : cf56.wio = fun f i => (f == 999999 && (i == 0)) := rfl
@[simp] theorem live56 : cf56.live = fun r => if r = 2 then some [5, 6, 7] else none := rfl
@[simp] theorem wr56 : cf56.wr = fun _ => [] := rfl
def cf57 : Cfg := { wio := fun f i => (f == 999999 && (i == 0)), live := fun r => if r = 3 then some [3, 10, 11, 12] else none, dr := fun r => none }
@[simp] theorem wio57 : cf57.wio = fun f i => (f == 999999 && (i == 0)) := rfl
@[simp] theorem live57 : cf57.live = fun r => if r = 3 then some [3, 10, 11, 12] else none := rfl
@[simp] theorem wr57 : cf57.wr = fun _ => [] := rfl
def cf58 : Cfg := { wio := fun f i => (f == 999999 && (i == 0)), live := fun r => if r = 3 then some [3, 22, 23] else if r = 8 then some [3, 6, 7, 22, 23, 29, 30, 31] else if r = 17 then some [10, 53, 54] else if r = 20 then some [10, 12, 53, 54] else none, dr := fun r => if r = 1 then some [(0, 0), (1, 0), (2, 1), (3, 1), (4, 0), (5, 0), (6, 0), (7, 0), (8, 0)] else if r = 20 then some [(0, 0), (1, 0), (2, 0), (3, 0), (4, 0), (5, 0), (6, 0), (7, 0), (8, 0), (9, 0), (10, 0), (11, 0), (12, 1), (13, 0)] else if r = 22 then some [(0, 0), (1, 0), (2, 3), (3, 3), (4, 3), (5, 0), (6, 0), (7, 0), (8, 0), (9, 0), (10, 0), (11, 0), (12, 0), (13, 0), (14, 0), (15, 2), (16, 0), (17, 2)] else none }
@[simp] theorem wio58 : cf58.wio = fun f i => (f == 999999 && (i == 0)) := rfl
@[simp] theorem live58 : cf58.live = fun r => if r = 3 then some [3, 22, 23] else if r = 8 then some [3, 6, 7, 22, 23, 29, 30, 31] else if r = 17 then some [10, 53, 54] else if r = 20 then some [10, 12, 53, 54] else none := rfl
@[simp] theorem wr58 : cf58.wr = fun _ => [] := rfl
def zfO : SchT := .nil
def zfP : SchT := .op 18 0 zfO
def zfQ : SchT := .op 17 0 zfP
def zbr : SchT := .op 16 2 zfQ
def zbs : SchT := .op 3 1 zbr
def zbt : SchT := .op 15 1 zbr
def zfR : SchT := .op 2 1 zbs
def zbu : SchT := .alt (.op 3 1 zbt) (.op 15 1 zbs)
def zfS : SchT := .op 14 0 zbt
def zfT : SchT := .alt (.op 2 1 zbu) (.op 15 1 zfR)
def zfU : SchT := .op 14 0 zbu
def zfV : SchT := .op 13 0 zfS
def zfW : SchT := .op 14 0 zfT
def zfX : SchT := .op 13 0 zfU
def zfY : SchT := .op 12 1 zfV
def zfZ : SchT := .op 13 0 zfW
def zg0 : SchT := .alt (.op 3 1 zfY) (.op 12 1 zfX)
def zg1 : SchT := .alt (.op 2 1 zg0) (.op 12 1 zfZ)
def ziq : SchT := .op 11 0 zg1
def zir : SchT := .op 10 0 ziq
def zis : SchT := .op 9 0 zir
def zit : SchT := .op 8 0 zis
def ziu : SchT := .op 7 0 zit
def ziv : SchT := .op 6 0 ziu
def ziw : SchT := .op 5 0 ziv
def zix : SchT := .op 4 0 ziw
def ziy : SchT := .op 1 0 zix
def ziz : SchT := .op 0 0 ziy
def cf59 : Cfg := { wio := fun f i => (f == 999999 && (i == 0)), live := fun r => if r = 4 then some [2, 6, 7, 8, 9] else if r = 7 then some [2, 6, 7, 8, 9, 10] else none, dr := fun r => if r = 9 then some [(0, 0), (1, 0), (2, 0), (3, 0), (4, 0), (5, 0), (6, 1), (7, 0)] else none, wr := fun r => if r = 12 then [6, 46] else [], dt := fun r => if r = 12 then some (ziz) else none }
@[simp] theorem wio59 : cf59.wio = fun f i => (f == 999999 && (i == 0)) := rfl
@[simp] theorem live59 : cf59.live = fun r => if r = 4 then some [2, 6, 7, 8, 9] else if r = 7 then some [2, 6, 7, 8, 9, 10] else none := rfl
@[simp] theorem wr59 : cf59.wr = fun r => if r = 12 then [6, 46] else [] := rfl
def cf60 : Cfg := { wio := fun f i => (f == 999999 && (i == 0)), live := fun r => if r = 7 then some [3, 4, 5, 17, 18, 19] else none, dr := fun r => none }
@[simp] theorem wio60 : cf60.wio = fun f i => (f == 999999 && (i == 0)) := rfl
@[simp] theorem live60 : cf60.live = fun r => if r = 7 then some [3, 4, 5, 17, 18, 19] else none := rfl
@[simp] theorem wr60 : cf60.wr = fun _ => [] := rfl
def cf61 : Cfg := { wio := fun f i => (f == 999999 && (i == 0)), live := fun r => if r = 2 then some [0, 3] else none, dr := fun r => none }
@[simp] theorem wio61 : cf61.wio = fun f i => (f == 999999 && (i == 0)) := rfl
@[simp] theorem live61 : cf61.live = fun r => if r = 2 then some [0, 3] else none := rfl
@[simp] theorem wr61 : cf61.wr = fun _ => [] := rfl
def cf62 : Cfg := { wio := fun f i => (f == 999999 && (i == 0)), live := fun r => if r = 9 then some [1, 3, 38, 39, 40] else if r = 14 then some [1, 3, 38, 39, 40, 49, 50, 51] else none, dr := fun r => none }
@[simp] theorem wio62 : cf62.wio = fun f i => (f == 999999 && (i == 0)) := rfl
@[simp] theorem live62 : cf62.live = fun r => if r = 9 then some [1, 3, 38, 39, 40] else if r = 14 then some [1, 3, 38, 39, 40, 49, 50, 51] else none := rfl
@[simp] theorem wr62 : cf62.wr = fun _ => [] := rfl
def cf63 : Cfg := { wio := fun f i => (f == 999999 && (i == 0)), live := fun r => none, dr := fun r => none }
@[simp] theorem wio63 : cf63.wio = fun f i => (f == 999999 && (i == 0)) := rfl
@[simp] theorem live63 : cf63.live = fun r => none := rfl
@[simp] theorem wr63 : cf63.wr = fun _ => [] := rfl
def cf66 : Cfg := { wio := fun f i => (f == 999999 && (i == 0)), live := fun r => if r = 5 then some [2, 6, 7, 8, 9] else if r = 8 then some [2, 6, 7, 8, 9, 30, 31] else none, dr := fun r => if r = 10 then some [(0, 0), (1, 0), (2, 0), (3, 0), (4, 0), (5, 0), (6, 1), (7, 0)] else if r = 14 then some [(0, 0), (1, 0), (2, 0), (3, 0), (4, 0), (5, 0), (6, 0), (7, 0), (8, 1), (9, 0), (10, 0), (11, 1), (12, 2), (13, 0)] else none }
@[simp] theorem wio66 : cf66.wio = fun f i => (f == 999999 && (i == 0)) := rfl
@[simp] theorem live66 : cf66.live = fun r => if r = 5 then some [2, 6, 7, 8, 9] else if r = 8 then some [2, 6, 7, 8, 9, 30, 31] else none := rfl
@[simp] theorem wr66 : cf66.wr = fun _ => [] := rfl
def cf67 : Cfg := { wio := fun f i => (f == 999999 && (i == 0)), live := fun r => none, dr := fun r => none }
@[simp] theorem wio67 : cf67.wio = fun f i => (f == 999999 && (i == 0)) := rfl
@[simp] theorem live67 : cf67.live = fun r => none := rfl
@[simp] theorem wr67 : cf67.wr = fun _ => [] := rfl
def cf69 : Cfg := { wio := fun f i => (f == 999999 && (i == 0)), live := fun r => none, dr := fun r => none }
@[simp] theorem wio69 : cf69.wio = fun f i => (f == 999999 && (i == 0)) := rfl
@[simp] theorem live69 : cf69.live = fun r => none := rfl
@[simp] theorem wr69 : cf69.wr = fun _ => [] := rfl
def cf70 : Cfg := { wio := fun f i => (f == 999999 && (i == 0)), live := fun r => if r = 3 then some [3, 6, 7, 8] else none, dr := fun r => none }
@[simp] theorem wio70 : cf70.wio = fun f i => (f == 999999 && (i == 0)) := rfl
@[simp] theorem live70 : cf70.live = fun r => if r = 3 then some [3, 6, 7, 8] else none := rfl
@[simp] theorem wr70 : cf70.wr = fun _ => [] := rfl
def cf71 : Cfg := { wio := fun f i => (f == 999999 && (i == 0)), live := fun r => none, dr := fun r => none }
@[simp] theorem wio71 : cf71.wio = fun f i => (f == 999999 && (i == 0)) := rfl
@[simp] theorem live71 : cf71.live = fun r => none := rfl
@[simp] theorem wr71 : cf71.wr = fun _ => [] := rfl
def cf72 : Cfg := { wio := fun f i => (f == 999999 && (i == 0)), live := fun r => if r = 3 then some [1, 2, 7, 11, 12, 13] else none, dr := fun r => none }
@[simp] theorem wio72 : cf72.wio = fun f i => (f == 999999 && (i == 0)) := rfl
@[simp] theorem live72 : cf72.live = fun r => if r = 3 then some [1, 2, 7, 11, 12, 13] else none := rfl
@[simp] theorem wr72 : cf72.wr = fun _ => [] := rfl
def cf73 : Cfg := { wio := fun f i => (f == 999999 && (i == 0)), live := fun r => none, dr := fun r => none }
@[simp] theorem wio73 : cf73.wio = fun f i => (f == 999999 && (i == 0)) := rfl
@[simp] theorem live73 : cf73.live = fun r => none := rfl
@[simp] theorem wr73 : cf73.wr = fun _ => [] := rfl
def cf74 : Cfg := { wio := fun f i => (f == 999999 && (i == 0)), live := fun r => none, dr := fun r => if r = 1 then some [(0, 0), (1, 0), (2, 0), (3, 0), (4, 0), (5, 0), (6, 0), (7, 0), (8, 1), (9, 0)] else none }
@[simp] theorem wio74 : cf74.wio = fun f i => (f == 999999 && (i == 0)) := rfl
@[simp] theorem live74 : cf74.live = fun r => none := rfl
@[simp] theorem wr74 : cf74.wr = fun _ => [] := rfl
def cf75 : Cfg := { wio := fun f i => (f == 84 && (i == 0)) || (f == 85 && (i == 0)) || (f == 999999 && (i == 0)), live := fun r => if r = 2 then some [0, 1, 2, 6, 7, 8] else if r = 7 then some [0, 1, 2, 6] else if r = 9 then some [0, 1, 2, 6, 7, 8] else none, dr := fun r => none }
@[simp] theorem wio75 : cf75.wio = fun f i => (f == 84 && (i == 0)) || (f == 85 && (i == 0)) || (f == 999999 && (i == 0)) := rfl
@[simp] theorem live75 : cf75.live = fun r => if r = 2 then some [0, 1, 2, 6, 7, 8] else if r = 7 then some [0, 1, 2, 6] else if r = 9 then some [0, 1, 2, 6, 7, 8] else none := rfl
@[simp] theorem wr75 : cf75.wr = fun _ => [] := rfl
def cf76 : Cfg := { wio := fun f i => (f == 999999 && (i == 0)), live := fun r => none, dr := fun r => none }
@[simp] theorem wio76 : cf76.wio = fun f i => (f == 999999 && (i == 0)) := rfl
@[simp] theorem live76 : cf76.live = fun r => none := rfl
@[simp] theorem wr76 : cf76.wr = fun _ => [] := rfl
def cf77 : Cfg := { wio := fun f i => (f == 999999 && (i == 0)), live := fun r => none, dr := fun r => none }
@[simp] theorem wio77 : cf77.wio = fun f i => (f == 999999 && (i == 0)) := rfl
@[simp] theorem live77 : cf77.live = fun r => none := rfl
@[simp] theorem wr77 : cf77.wr = fun _ => [] := rfl
def cf80 : Cfg := { wio := fun f i => (f == 999999 && (i == 0)), live := fun r => if r = 2 then some [0, 1, 7, 8] else none, dr := fun r => none }
@[simp] theorem wio80 : cf80.wio = fun f i => (f == 999999 && (i == 0)) := rfl
@[simp] theorem live80 : cf80.live = fun r => if r = 2 then some [0, 1, 7, 8] else none := rfl
@[simp] theorem wr80 : cf80.wr = fun _ => [] := rfl
def cf83 : Cfg := { wio := fun f i => (f == 999999 && (i == 0)), live := fun r => none, dr := fun r => none }
@[simp] theorem wio83 : cf83.wio = fun f i => (f == 999999 && (i == 0)) := rfl
@[simp] theorem live83 : cf83.live = fun r => none := rfl
@[simp] theorem wr83 : cf83.wr = fun _ => [] := rfl
def cf84 : Cfg := { wio := fun f i => (f == 999999 && (i == 0)), live := fun r => if r = 1 then some [0, 1, 2, 3, 8] else if r = 4 then some [0, 1, 2, 3, 8, 9] else none, dr := fun r => if r = 4 then some [(0, 0), (1, 0), (2, 0), (3, 0), (4, 0), (5, 0), (6, 0), (7, 0), (8, 0), (9, 0), (10, 0), (11, 0), (12, 0), (13, 0), (14, 1), (15, 0), (16, 0)] else if r = 6 then some [(0, 0), (1, 0), (2, 3), (3, 3), (4, 3), (5, 0), (6, 0), (7, 0), (8, 0), (9, 0), (10, 0), (11, 0), (12, 0), (13, 0), (14, 0), (15, 2), (16, 0), (17, 2)] else none }
@[simp] theorem wio84 : cf84.wio = fun f i => (f == 999999 && (i == 0)) := rfl
@[simp] theorem live84 : cf84.live = fun r => if r = 1 then some [0, 1, 2, 3, 8] else if r = 4 then some [0, 1, 2, 3, 8, 9] else none := rfl
@[simp] theorem wr84 : cf84.wr = fun _ => [] := rfl
def cf85 : Cfg := { wio := fun f i => (f == 97 && (i == 0)) || (f == 85 && (i == 0)) || (f == 999999 && (i == 0)), live := fun r => if r = 3 then some [0, 1, 4, 10, 11] else if r = 9 then some [0, 10, 13] else if r = 15 then some [0, 2, 4, 14, 15] else if r = 21 then some [0, 14, 17] else if r = 33 then some [0, 1, 2, 3, 4, 18, 19, 20, 21, 22] else none, dr := fun r => if r = 5 then some [(0, 0), (1, 0), (2, 0), (3, 0), (4, 0), (5, 0), (6, 0), (7, 0), (8, 0), (9, 1), (10, 0)] else if r = 11 then some [(0, 0), (1, 0), (2, 3), (3, 3), (4, 3), (5, 0), (6, 0), (7, 0), (8, 0), (9, 0), (10, 0), (11, 0), (12, 0), (13, 0), (14, 0), (15, 2), (16, 0), (17, 2)] else if r = 17 then some [(0, 0), (1, 0), (2, 0), (3, 0), (4, 0), (5, 0), (6, 0), (7, 0), (8, 0), (9, 1), (10, 0), (11, 0)] else if r = 23 then some [(0, 0), (1, 0), (2, 3), (3, 3), (4, 3), (5, 0), (6, 0), (7, 0), (8, 0), (9, 0), (10, 0), (11, 0), (12, 0), (13, 0), (14, 0), (15, 2), (16, 0), (17, 2)] else if r = 35 then some [(0, 0), (1, 0), (2, 0), (3, 0), (4, 0), (5, 0), (6, 0), (7, 0), (8, 0), (9, 0), (10, 0), (11, 1), (12, 0), (13, 0)] else none }
@[simp] theorem wio85 : cf85.wio = fun f i => (f == 97 && (i == 0)) || (f == 85 && (i == 0)) || (f == 999999 && (i == 0)) := rfl
@[simp] theorem live85 : cf85.live = fun r => if r = 3 then some [0, 1, 4, 10, 11] else if r = 9 then some [0, 10, 13] else if r = 15 then some [0, 2, 4, 14, 15] else if r = 21 then some [0, 14, 17] else if r = 33 then some [0, 1, 2, 3, 4, 18, 19, 20, 21, 22] else none := rfl
@[simp] theorem wr85 : cf85.wr = fun _ => [] := rfl
def cf95 : Cfg := { wio := fun f i => (f == 999999 && (i == 0)), live := fun r => none, dr := fun r => if r = 1 then some [(0, 0), (1, 0), (2, 0), (3, 0), (4, 0), (5, 0), (6, 0), (7, 0), (8, 0), (9, 0), (10, 0), (11, 0), (12, 0), (13, 0), (14, 0), (15, 0), (16, 0), (17, 0), (18, 0)] else none }
@[simp] theorem wio95 : cf95.wio = fun f i => (f == 999999 && (i == 0)) := rfl
@[simp] theorem live95 : cf95.live = fun r => none := rfl
@[simp] theorem wr95 : cf95.wr = fun _ => [] := rfl
def cf96 : Cfg := { wio := fun f i => (f == 999999 && (i == 0)), live := fun r => none, dr := fun r => none }
@[simp] theorem wio96 : cf96.wio = fun f i => (f == 999999 && (i == 0)) := rfl
@[simp] theorem live96 : cf96.live = fun r => none := rfl
@[simp] theorem wr96 : cf96.wr = fun _ => [] := rfl
def cf97 : Cfg := { wio := fun f i => (f == 103 && (i == 0)) || (f == 999999 && (i == 0)), live := fun r => if r = 2 then some [0, 2, 4, 10, 11] else none, dr := fun r => none }
@[simp] theorem wio97 : cf97.wio = fun f i => (f == 103 && (i == 0)) || (f == 999999 && (i == 0)) := rfl
@[simp] theorem live97 : cf97.live = fun r => if r = 2 then some [0, 2, 4, 10, 11] else none := rfl
@[simp] theorem wr97 : cf97.wr = fun _ => [] := rfl
def cf103 : Cfg := { wio := fun f i => (f == 999999 && (i == 0)), live := fun r => if r = 1 then some [0, 1, 2, 3, 10] else none, dr := fun r => if r = 3 then some [(0, 0), (1, 0), (2, 0), (3, 0), (4, 3), (5, 3), (6, 3), (7, 3), (8, 0), (9, 0), (10, 0), (11, 0), (12, 0), (13, 0), (14, 0), (15, 0), (16, 0), (17, 0), (18, 0), (19, 0), (20, 0), (21, 2), (22, 0), (23, 2)] else none }
@[simp] theorem wio103 : cf103.wio = fun f i => (f == 999999 && (i == 0)) := rfl
@[simp] theorem live103 : cf103.live = fun r => if r = 1 then some [0, 1, 2, 3, 10] else none := rfl
@[simp] theorem wr103 : cf103.wr = fun _ => [] := rfl
def z1h (f : FuncId) : Option Cfg :=
  if f = 3 then some cf3 else
  if f = 6 then some cf6 else
  if f = 7 then some cf7 else
  if f = 8 then some cf8 else
  if f = 9 then some cf9 else
  if f = 10 then some cf10 else
  if f = 11 then some cf11 else
  if f = 12 then some cf12 else
  if f = 13 then some cf13 else
  if f = 14 then some cf14 else
  if f = 15 then some cf15 else
  if f = 20 then some cf20 else
  if f = 21 then some cf21 else
  if f = 22 then some cf22 else
  if f = 23 then some cf23 else
  if f = 24 then some cf24 else
  if f = 25 then some cf25 else
  if f = 26 then some cf26 else
  if f = 27 then some cf27 else
  if f = 28 then some cf28 else
  if f = 29 then some cf29 else
  if f = 30 then some cf30 else
  if f = 31 then some cf31 else
  if f = 32 then some cf32 else
  if f = 33 then some cf33 else
  if f = 37 then some cf37 else
  if f = 38 then some cf38 else
  if f = 39 then some cf39 else
  if f = 43 then some cf43 else
  if f = 44 then some cf44 else
  if f = 45 then some cf45 else
  if f = 46 then some cf46 else
  if f = 47 then some cf47 else
  if f = 48 then some cf48 else
  if f = 49 then some cf49 else
  if f = 50 then some cf50 else
  if f = 51 then some cf51 else
  if f = 52 then some cf52 else
  if f = 53 then some cf53 else
  if f = 54 then some cf54 else
  if f = 55 then some cf55 else
  if f = 56 then some cf56 else
  if f = 57 then some cf57 else
  if f = 58 then some cf58 else
  if f = 59 then some cf59 else
  if f = 60 then some cf60 else
  if f = 61 then some cf61 else
  if f = 62 then some cf62 else
  if f = 63 then some cf63 else
  if f = 66 then some cf66 else
  if f = 67 then some cf67 else
  if f = 69 then some cf69 else
  if f = 70 then some cf70 else
  if f = 71 then some cf71 else
  if f = 72 then some cf72 else
  if f = 73 then some cf73 else
  if f = 74 then some cf74 else
  if f = 75 then some cf75 else
  if f = 76 then some cf76 else
  if f = 77 then some cf77 else
  if f = 80 then some cf80 else
  if f = 83 then some cf83 else
  if f = 84 then some cf84 else
  if f = 85 then some cf85 else
  if f = 95 then some cf95 else
  if f = 96 then some cf96 else
  if f = 97 then some cf97 else
  if f = 103 then some cf103 else none
theorem zCn : z1h 3 = some cf3 := rfl
theorem zCm : z1h 6 = some cf6 := rfl
theorem zCl : z1h 7 = some cf7 := rfl
theorem zCk : z1h 8 = some cf8 := rfl
theorem zCj : z1h 9 = some cf9 := rfl
theorem zAe : z1h 10 = some cf10 := rfl
theorem zAd : z1h 11 = some cf11 := rfl
theorem zAc : z1h 13 = some cf13 := rfl
theorem zAb : z1h 14 = some cf14 := rfl
theorem zAa : z1h 15 = some cf15 := rfl
theorem zA9 : z1h 20 = some cf20 := rfl
theorem zA8 : z1h 21 = some cf21 := rfl
theorem zA7 : z1h 22 = some cf22 := rfl
theorem zA6 : z1h 23 = some cf23 := rfl
theorem zA5 : z1h 24 = some cf24 := rfl
theorem zA4 : z1h 25 = some cf25 := rfl
theorem zA3 : z1h 26 = some cf26 := rfl
theorem zA2 : z1h 27 = some cf27 := rfl
theorem zA1 : z1h 28 = some cf28 := rfl
theorem zA0 : z1h 29 = some cf29 := rfl
theorem zzZ : z1h 30 = some cf30 := rfl
theorem zzY : z1h 31 = some cf31 := rfl
theorem zzX : z1h 32 = some cf32 := rfl
theorem zzW : z1h 33 = some cf33 := rfl
theorem zzV : z1h 37 = some cf37 := rfl
theorem zzU : z1h 38 = some cf38 := rfl
theorem zzT : z1h 39 = some cf39 := rfl
theorem zzS : z1h 43 = some cf43 := rfl
theorem zzR : z1h 44 = some cf44 := rfl
theorem zzQ : z1h 45 = some cf45 := rfl
theorem zzP : z1h 46 = some cf46 := rfl
theorem zzO : z1h 47 = some cf47 := rfl
theorem zzN : z1h 48 = some cf48 := rfl
theorem zzM : z1h 49 = some cf49 := rfl
theorem zzL : z1h 50 = some cf50 := rfl
theorem zzK : z1h 51 = some cf51 := rfl
theorem zxh : z1h 52 = some cf52 := rfl
theorem zzJ : z1h 53 = some cf53 := rfl
theorem zzI : z1h 54 = some cf54 := rfl
theorem zzH : z1h 55 = some cf55 := rfl
theorem zzG : z1h 56 = some cf56 := rfl
theorem zzF : z1h 57 = some cf57 := rfl
theorem zzE : z1h 58 = some cf58 := rfl
theorem zzD : z1h 59 = some cf59 := rfl
theorem zzC : z1h 60 = some cf60 := rfl
theorem zzB : z1h 61 = some cf61 := rfl
theorem zzA : z1h 62 = some cf62 := rfl
theorem zzz : z1h 63 = some cf63 := rfl
theorem zzy : z1h 66 = some cf66 := rfl
theorem zzx : z1h 67 = some cf67 := rfl
theorem zzw : z1h 71 = some cf71 := rfl
theorem zzv : z1h 72 = some cf72 := rfl
theorem zzu : z1h 73 = some cf73 := rfl
theorem zzt : z1h 74 = some cf74 := rfl
theorem zxg : z1h 75 = some cf75 := rfl
theorem zzs : z1h 76 = some cf76 := rfl
theorem zzr : z1h 77 = some cf77 := rfl
theorem zzq : z1h 80 = some cf80 := rfl
theorem zzp : z1h 83 = some cf83 := rfl
theorem zxf : z1h 84 = some cf84 := rfl
theorem zxe : z1h 85 = some cf85 := rfl
theorem zzo : z1h 96 = some cf96 := rfl
theorem zxd : z1h 97 = some cf97 := rfl
theorem zuD : z1h 103 = some cf103 := rfl
theorem fn3 : Try.prog.funcs[3]? = some Try.f3 := by kernel_rfl
theorem fn6 : Try.prog.funcs[6]? = some Try.f6 := by kernel_rfl
theorem fn7 : Try.prog.funcs[7]? = some Try.f7 := by kernel_rfl
theorem fn8 : Try.prog.funcs[8]? = some Try.f8 := by kernel_rfl
theorem fn9 : Try.prog.funcs[9]? = some Try.f9 := by kernel_rfl
theorem zAE : Try.prog.funcs[10]? = some Try.f10 := by kernel_rfl
theorem zCc : Try.prog.funcs[11]? = some Try.f11 := by kernel_rfl
theorem zCb : Try.prog.funcs[13]? = some Try.f13 := by kernel_rfl
theorem zCa : Try.prog.funcs[14]? = some Try.f14 := by kernel_rfl
theorem zC9 : Try.prog.funcs[15]? = some Try.f15 := by kernel_rfl
theorem zC8 : Try.prog.funcs[20]? = some Try.f20 := by kernel_rfl
theorem zAD : Try.prog.funcs[21]? = some Try.f21 := by kernel_rfl
theorem zC7 : Try.prog.funcs[22]? = some Try.f22 := by kernel_rfl
theorem zC6 : Try.prog.funcs[23]? = some Try.f23 := by kernel_rfl
theorem zAC : Try.prog.funcs[24]? = some Try.f24 := by kernel_rfl
theorem zC5 : Try.prog.funcs[25]? = some Try.f25 := by kernel_rfl
theorem zC4 : Try.prog.funcs[26]? = some Try.f26 := by kernel_rfl
theorem zAB : Try.prog.funcs[27]? = some Try.f27 := by kernel_rfl
theorem zAA : Try.prog.funcs[28]? = some Try.f28 := by kernel_rfl
theorem zC3 : Try.prog.funcs[29]? = some Try.f29 := by kernel_rfl
theorem zC2 : Try.prog.funcs[30]? = some Try.f30 := by kernel_rfl
theorem zC1 : Try.prog.funcs[31]? = some Try.f31 := by kernel_rfl
theorem zC0 : Try.prog.funcs[32]? = some Try.f32 := by kernel_rfl
theorem zBZ : Try.prog.funcs[33]? = some Try.f33 := by kernel_rfl
theorem zBY : Try.prog.funcs[37]? = some Try.f37 := by kernel_rfl
theorem zBX : Try.prog.funcs[38]? = some Try.f38 := by kernel_rfl
theorem zBW : Try.prog.funcs[39]? = some Try.f39 := by kernel_rfl
theorem zBV : Try.prog.funcs[43]? = some Try.f43 := by kernel_rfl
theorem zBU : Try.prog.funcs[44]? = some Try.f44 := by kernel_rfl
theorem zBT : Try.prog.funcs[45]? = some Try.f45 := by kernel_rfl
theorem zBS : Try.prog.funcs[46]? = some Try.f46 := by kernel_rfl
theorem zBR : Try.prog.funcs[47]? = some Try.f47 := by kernel_rfl
theorem zBQ : Try.prog.funcs[48]? = some Try.f48 := by kernel_rfl
theorem zBP : Try.prog.funcs[49]? = some Try.f49 := by kernel_rfl
theorem zBO : Try.prog.funcs[50]? = some Try.f50 := by kernel_rfl
theorem zBN : Try.prog.funcs[51]? = some Try.f51 := by kernel_rfl
theorem zAz : Try.prog.funcs[52]? = some Try.f52 := by kernel_rfl
theorem zBM : Try.prog.funcs[53]? = some Try.f53 := by kernel_rfl
theorem zBL : Try.prog.funcs[54]? = some Try.f54 := by kernel_rfl
theorem zBK : Try.prog.funcs[55]? = some Try.f55 := by kernel_rfl
theorem zBJ : Try.prog.funcs[56]? = some Try.f56 := by kernel_rfl
theorem zBI : Try.prog.funcs[57]? = some Try.f57 := by kernel_rfl
theorem zBH : Try.prog.funcs[58]? = some Try.f58 := by kernel_rfl
theorem zAy : Try.prog.funcs[59]? = some Try.f59 := by kernel_rfl
theorem zBG : Try.prog.funcs[60]? = some Try.f60 := by kernel_rfl
theorem zBF : Try.prog.funcs[61]? = some Try.f61 := by kernel_rfl
theorem zBE : Try.prog.funcs[62]? = some Try.f62 := by kernel_rfl
theorem zBD : Try.prog.funcs[63]? = some Try.f63 := by kernel_rfl
theorem zBC : Try.prog.funcs[66]? = some Try.f66 := by kernel_rfl
theorem zBB : Try.prog.funcs[67]? = some Try.f67 := by kernel_rfl
theorem zBA : Try.prog.funcs[71]? = some Try.f71 := by kernel_rfl
theorem zBz : Try.prog.funcs[72]? = some Try.f72 := by kernel_rfl
theorem zBy : Try.prog.funcs[73]? = some Try.f73 := by kernel_rfl
theorem zBx : Try.prog.funcs[74]? = some Try.f74 := by kernel_rfl
theorem zAx : Try.prog.funcs[75]? = some Try.f75 := by kernel_rfl
theorem zBw : Try.prog.funcs[76]? = some Try.f76 := by kernel_rfl
theorem zBv : Try.prog.funcs[77]? = some Try.f77 := by kernel_rfl
theorem zBu : Try.prog.funcs[80]? = some Try.f80 := by kernel_rfl
theorem zBt : Try.prog.funcs[83]? = some Try.f83 := by kernel_rfl
theorem zAw : Try.prog.funcs[84]? = some Try.f84 := by kernel_rfl
theorem zAv : Try.prog.funcs[85]? = some Try.f85 := by kernel_rfl
theorem zBs : Try.prog.funcs[96]? = some Try.f96 := by kernel_rfl
theorem zAu : Try.prog.funcs[97]? = some Try.f97 := by kernel_rfl
theorem zx8 : Try.prog.funcs[103]? = some Try.f103 := by kernel_rfl
noncomputable def cd3 : Code := match Try.f3.body with | some c => c | none => .skip
theorem bd3 : Try.f3.body = some cd3 := by kernel_rfl
noncomputable def cd6 : Code := match Try.f6.body with | some c => c | none => .skip
theorem bd6 : Try.f6.body = some cd6 := by kernel_rfl
noncomputable def cd7 : Code := match Try.f7.body with | some c => c | none => .skip
theorem bd7 : Try.f7.body = some cd7 := by kernel_rfl
noncomputable def cd8 : Code := match Try.f8.body with | some c => c | none => .skip
theorem bd8 : Try.f8.body = some cd8 := by kernel_rfl
noncomputable def cd9 : Code := match Try.f9.body with | some c => c | none => .skip
theorem bd9 : Try.f9.body = some cd9 := by kernel_rfl
noncomputable def zAK : Code := match Try.f10.body with | some c => c | none => .skip
theorem zAW : Try.f10.body = some zAK := by kernel_rfl
noncomputable def zDe : Code := match Try.f11.body with | some c => c | none => .skip
theorem zE0 : Try.f11.body = some zDe := by kernel_rfl
noncomputable def zDd : Code := match Try.f13.body with | some c => c | none => .skip
theorem zDZ : Try.f13.body = some zDd := by kernel_rfl
noncomputable def zDc : Code := match Try.f14.body with | some c => c | none => .skip
theorem zDY : Try.f14.body = some zDc := by kernel_rfl
noncomputable def zDb : Code := match Try.f15.body with | some c => c | none => .skip
theorem zDX : Try.f15.body = some zDb := by kernel_rfl
noncomputable def zDa : Code := match Try.f20.body with | some c => c | none => .skip
theorem zDW : Try.f20.body = some zDa := by kernel_rfl
noncomputable def zAJ : Code := match Try.f21.body with | some c => c | none => .skip
theorem zAV : Try.f21.body = some zAJ := by kernel_rfl
noncomputable def zD9 : Code := match Try.f22.body with | some c => c | none => .skip
theorem zDV : Try.f22.body = some zD9 := by kernel_rfl
noncomputable def zD8 : Code := match Try.f23.body with | some c => c | none => .skip
theorem zDU : Try.f23.body = some zD8 := by kernel_rfl
noncomputable def zAI : Code := match Try.f24.body with | some c => c | none => .skip
theorem zAU : Try.f24.body = some zAI := by kernel_rfl
noncomputable def zD7 : Code := match Try.f25.body with | some c => c | none => .skip
theorem zDT : Try.f25.body = some zD7 := by kernel_rfl
noncomputable def zD6 : Code := match Try.f26.body with | some c => c | none => .skip
theorem zDS : Try.f26.body = some zD6 := by kernel_rfl
noncomputable def zAf : Code := match Try.f27.body with | some c => c | none => .skip
theorem zAT : Try.f27.body = some zAf := by kernel_rfl
noncomputable def zAH : Code := match Try.f28.body with | some c => c | none => .skip
theorem zAS : Try.f28.body = some zAH := by kernel_rfl
noncomputable def zD5 : Code := match Try.f29.body with | some c => c | none => .skip
theorem zDR : Try.f29.body = some zD5 := by kernel_rfl
noncomputable def zD4 : Code := match Try.f30.body with | some c => c | none => .skip
theorem zDQ : Try.f30.body = some zD4 := by kernel_rfl
noncomputable def zD3 : Code := match Try.f31.body with | some c => c | none => .skip
theorem zDP : Try.f31.body = some zD3 := by kernel_rfl
noncomputable def zD2 : Code := match Try.f32.body with | some c => c | none => .skip
theorem zDO : Try.f32.body = some zD2 := by kernel_rfl
noncomputable def zD1 : Code := match Try.f33.body with | some c => c | none => .skip
theorem zDN : Try.f33.body = some zD1 := by kernel_rfl
noncomputable def zD0 : Code := match Try.f37.body with | some c => c | none => .skip
theorem zDM : Try.f37.body = some zD0 := by kernel_rfl
noncomputable def zCZ : Code := match Try.f38.body with | some c => c | none => .skip
theorem zDL : Try.f38.body = some zCZ := by kernel_rfl
noncomputable def zCY : Code := match Try.f39.body with | some c => c | none => .skip
theorem zDK : Try.f39.body = some zCY := by kernel_rfl
noncomputable def zCX : Code := match Try.f43.body with | some c => c | none => .skip
theorem zDJ : Try.f43.body = some zCX := by kernel_rfl
noncomputable def zCW : Code := match Try.f44.body with | some c => c | none => .skip
theorem zDI : Try.f44.body = some zCW := by kernel_rfl
noncomputable def zCV : Code := match Try.f45.body with | some c => c | none => .skip
theorem zDH : Try.f45.body = some zCV := by kernel_rfl
noncomputable def zCU : Code := match Try.f46.body with | some c => c | none => .skip
theorem zDG : Try.f46.body = some zCU := by kernel_rfl
noncomputable def zCT : Code := match Try.f47.body with | some c => c | none => .skip
theorem zDF : Try.f47.body = some zCT := by kernel_rfl
noncomputable def zCS : Code := match Try.f48.body with | some c => c | none => .skip
theorem zDE : Try.f48.body = some zCS := by kernel_rfl
noncomputable def zCR : Code := match Try.f49.body with | some c => c | none => .skip
theorem zDD : Try.f49.body = some zCR := by kernel_rfl
noncomputable def zCQ : Code := match Try.f50.body with | some c => c | none => .skip
theorem zDC : Try.f50.body = some zCQ := by kernel_rfl
noncomputable def zCP : Code := match Try.f51.body with | some c => c | none => .skip
theorem zDB : Try.f51.body = some zCP := by kernel_rfl
noncomputable def zCO : Code := match Try.f52.body with | some c => c | none => .skip
theorem zAR : Try.f52.body = some zCO := by kernel_rfl
noncomputable def zCN : Code := match Try.f53.body with | some c => c | none => .skip
theorem zDA : Try.f53.body = some zCN := by kernel_rfl
noncomputable def zCM : Code := match Try.f54.body with | some c => c | none => .skip
theorem zDz : Try.f54.body = some zCM := by kernel_rfl
noncomputable def zCL : Code := match Try.f55.body with | some c => c | none => .skip
theorem zDy : Try.f55.body = some zCL := by kernel_rfl
noncomputable def zCK : Code := match Try.f56.body with | some c => c | none => .skip
theorem zDx : Try.f56.body = some zCK := by kernel_rfl
noncomputable def zCJ : Code := match Try.f57.body with | some c => c | none => .skip
theorem zDw : Try.f57.body = some zCJ := by kernel_rfl
noncomputable def zCI : Code := match Try.f58.body with | some c => c | none => .skip
theorem zDv : Try.f58.body = some zCI := by kernel_rfl
noncomputable def zAG : Code := match Try.f59.body with | some c => c | none => .skip
theorem zAQ : Try.f59.body = some zAG := by kernel_rfl
noncomputable def zCH : Code := match Try.f60.body with | some c => c | none => .skip
theorem zDu : Try.f60.body = some zCH := by kernel_rfl
noncomputable def zCG : Code := match Try.f61.body with | some c => c | none => .skip
theorem zDt : Try.f61.body = some zCG := by kernel_rfl
noncomputable def zCF : Code := match Try.f62.body with | some c => c | none => .skip
theorem zDs : Try.f62.body = some zCF := by kernel_rfl
noncomputable def zCE : Code := match Try.f63.body with | some c => c | none => .skip
theorem zDr : Try.f63.body = some zCE := by kernel_rfl
noncomputable def zCD : Code := match Try.f66.body with | some c => c | none => .skip
theorem zDq : Try.f66.body = some zCD := by kernel_rfl
noncomputable def zCC : Code := match Try.f67.body with | some c => c | none => .skip
theorem zDp : Try.f67.body = some zCC := by kernel_rfl
noncomputable def zCB : Code := match Try.f71.body with | some c => c | none => .skip
theorem zDo : Try.f71.body = some zCB := by kernel_rfl
noncomputable def zCA : Code := match Try.f72.body with | some c => c | none => .skip
theorem zDn : Try.f72.body = some zCA := by kernel_rfl
noncomputable def zCz : Code := match Try.f73.body with | some c => c | none => .skip
theorem zDm : Try.f73.body = some zCz := by kernel_rfl
noncomputable def zCy : Code := match Try.f74.body with | some c => c | none => .skip
theorem zDl : Try.f74.body = some zCy := by kernel_rfl
noncomputable def zCx : Code := match Try.f75.body with | some c => c | none => .skip
theorem zAP : Try.f75.body = some zCx := by kernel_rfl
noncomputable def zCw : Code := match Try.f76.body with | some c => c | none => .skip
theorem zDk : Try.f76.body = some zCw := by kernel_rfl
noncomputable def zCv : Code := match Try.f77.body with | some c => c | none => .skip
theorem zDj : Try.f77.body = some zCv := by kernel_rfl
noncomputable def zCu : Code := match Try.f80.body with | some c => c | none => .skip
theorem zDi : Try.f80.body = some zCu := by kernel_rfl
noncomputable def zCt : Code := match Try.f83.body with | some c => c | none => .skip
theorem zDh : Try.f83.body = some zCt := by kernel_rfl
noncomputable def zCs : Code := match Try.f84.body with | some c => c | none => .skip
theorem zAO : Try.f84.body = some zCs := by kernel_rfl
noncomputable def zCr : Code := match Try.f85.body with | some c => c | none => .skip
theorem zAN : Try.f85.body = some zCr := by kernel_rfl
noncomputable def zCq : Code := match Try.f96.body with | some c => c | none => .skip
theorem zDg : Try.f96.body = some zCq := by kernel_rfl
noncomputable def zCp : Code := match Try.f97.body with | some c => c | none => .skip
theorem zAM : Try.f97.body = some zCp := by kernel_rfl
noncomputable def zAg : Code := match Try.f103.body with | some c => c | none => .skip
theorem zxj : Try.f103.body = some zAg := by kernel_rfl
def xt : z0q := xtC
noncomputable def L : z0q := Lim Try.prog xt z1h
theorem zqu {f : FuncId} {c : Cfg} {fn : Func} {args : List T} {o : T × List T} (hc : z1h f = some c) (hfn : Try.prog.funcs[f]? = some fn) (h : zih Try.prog L c LFm fn args = some o) : L f args = some o := zrQ hc hfn h
end
section
open Go
theorem z4O {f : FuncId} {cf : Cfg} {fn : Func} {c : Code} {args : List T} {r : T} {outs : List T} (hc : z1h f = some cf) (hfn : Try.prog.funcs[f]? = some fn) (hb : fn.body = some c) (ha : args.length <= fn.ntmps /\ (args.filter z6z).length <= 1 := by exact ⟨of_decide_eq_true rfl, of_decide_eq_true rfl⟩) (hz : cf.fz 999998 = none := by rfl) (g : wpC Try.prog L cf LFm c (z7d fn.ntmps args) (zvC Try.prog fn args r outs) := by simp only [z7d, z6q, z6h, z8B, z6z]; exact zqD) : L f args = some (r, outs) := zqu hc hfn (zlX hb ha g hz)
theorem zsO {f : FuncId} {cf : Cfg} {fn : Func} {c : Code} {args : List T} {r : T} {outs : List T} (hc : z1h f = some cf) (hfn : Try.prog.funcs[f]? = some fn) (hb : fn.body = some c) (ha : args.length <= fn.ntmps /\ (args.filter z6z).length <= 1 := by exact ⟨of_decide_eq_true rfl, of_decide_eq_true rfl⟩) (hz : (cf.fz 999998).isSome = true := by rfl) (g : wpC Try.prog L cf LFm c (z7d fn.ntmps args) (zvB Try.prog fn args r outs) := by simp only [z7d, z6q, z6h, z8B, z6z]; exact zqD) : L f args = some (r, outs) := zqu hc hfn (zhA hb ha hz g)
end
section
open Go.RowKit
def Cells (w : World) (ga : Option Addr) (n : Nat) (F : Nat -> Value) : Prop := ∀ j, j < n -> ∃ g o, ga = some ⟨g, o, none⟩ /\ w.cell? ⟨g, o + j, none⟩ = some (F j)
theorem zcO {w w' : World} (hb : Below w.heap.size w w') {a : Addr} {v : Value} (h : w.cell? a = some v) : w'.cell? a = some v := by
  rw [hb.cell (World.block_lt_of_cell? w a h)]; exact h
theorem Cells.below {w w' : World} {ga : Option Addr} {n : Nat} {F : Nat -> Value} (h : Cells w ga n F) (hb : Below w.heap.size w w') : Cells w' ga n F := fun j hj => by
  obtain ⟨g, o, e, hc⟩ := h j hj
  exact ⟨g, o, e, zcO hb hc⟩
theorem Cells.mono {w : World} {ga : Option Addr} {n m : Nat} {F : Nat -> Value} (h : Cells w ga n F) (hm : m <= n) : Cells w ga m F := fun j hj => h j (by omega)
theorem Cells.congr {w : World} {ga : Option Addr} {n : Nat} {F G : Nat -> Value} (h : Cells w ga n F) (e : ∀ j, j < n -> F j = G j) : Cells w ga n G := fun j hj => by
  obtain ⟨g, o, e1, hc⟩ := h j hj
  exact ⟨g, o, e1, by rw [hc, e j hj]⟩
def IntsAt (w : World) (v : Value) (xs : List Int) : Prop :=
  ∃ ga cap, v = .slice ga xs.length cap /\ xs.length <= cap /\ cap <= maxLen /\ Cells w ga xs.length (fun j => .int .i64 (xs.getD j 0))
theorem IntsAt.below {w w' : World} {v : Value} {xs : List Int} (h : IntsAt w v xs) (hb : Below w.heap.size w w') : IntsAt w' v xs := by
  obtain ⟨ga, cap, e, h1, h2, h3⟩ := h
  exact ⟨ga, cap, e, h1, h2, h3.below hb⟩
def RowsAt (w : World) (v : Value) (rows : List (List Int)) : Prop :=
  ∃ ga cap, ∃ F : Nat -> Value, v = .slice ga rows.length cap /\ rows.length <= cap /\ cap <= maxLen /\ Cells w ga rows.length F /\ ∀ j, j < rows.length -> IntsAt w (F j) (rows.getD j [])
theorem RowsAt.below {w w' : World} {v : Value} {rows : List (List Int)} (h : RowsAt w v rows) (hb : Below w.heap.size w w') : RowsAt w' v rows := by
  obtain ⟨ga, cap, F, e, h1, h2, h3, h4⟩ := h
  exact ⟨ga, cap, F, e, h1, h2, h3.below hb, fun j hj => (h4 j hj).below hb⟩
structure CRow where
  pre : List Int
  maps : List (List Int)
deriving Inhabited
structure Casc where
  letters : Int
  sizes : List Int
  rows : List CRow
deriving Inhabited
def CRowsAt (w : World) (v : Value) (rows : List CRow) : Prop :=
  ∃ ga cap, ∃ F G : Nat -> Value, v = .slice ga rows.length cap /\ rows.length <= cap /\ cap <= maxLen /\ ∀ j, (h : j < rows.length) -> ∃ g o, ga = some ⟨g, o, none⟩ /\ w.cell? ⟨g, o + j * 2, none⟩ = some (F j) /\ w.cell? ⟨g, o + j * 2 + 1, none⟩ = some (G j) /\ IntsAt w (F j) rows[j].pre /\ RowsAt w (G j) rows[j].maps
theorem CRowsAt.below {w w' : World} {v : Value} {rows : List CRow} (h : CRowsAt w v rows) (hb : Below w.heap.size w w') : CRowsAt w' v rows := by
  obtain ⟨ga, cap, F, G, e, h1, h2, h3⟩ := h
  refine ⟨ga, cap, F, G, e, h1, h2, fun j hj => ?_⟩
  obtain ⟨g, o, e1, c1, c2, i1, i2⟩ := h3 j hj
  exact ⟨g, o, e1, zcO hb c1, zcO hb c2, i1.below hb, i2.below hb⟩
def CascAt (w : World) (v : Value) (c : Casc) : Prop :=
  ∃ s r, v = .agg #[.int .i64 c.letters, s, r] /\ IntsAt w s c.sizes /\ CRowsAt w r c.rows
theorem CascAt.below {w w' : World} {v : Value} {c : Casc} (h : CascAt w v c) (hb : Below w.heap.size w w') : CascAt w' v c := by
  obtain ⟨s, r, e, h1, h2⟩ := h
  exact ⟨s, r, e, h1.below hb, h2.below hb⟩
end
section
open Go
noncomputable section
set_option maxRecDepth 100000
set_option maxHeartbeats 6000000
def zb9 (a0 : Int) (a1 : Int) : Option (Int) :=
  if a1 < 1 then
    some 0
  else
    chk (¬ a1 = 0) <|
    if (Int.tmod a0 a1) < 0 then
      some (IntKind.i64.wrap ((Int.tmod a0 a1) + a1))
    else
      some (Int.tmod a0 a1)
instance made_Mod_ok {a0 : Int} {a1 : Int} : Ok (zb9 a0 a1) (fun r => L 15 [.sc (.int .i64 a0), .sc (.int .i64 a1)] = some (.sc (.int .i64 r), [.dead, .dead])) := ⟨fun r h => by have h := z4p h; unfold zb9 at h; exact z4O zAa zC9 zDX⟩
def z0X (a0 : Tape) (a1 : Int) : Option (Int × Tape) :=
  if (a0.l.length : Int) <= a0.at_ then
    some (0, a0)
  else
    (atI a0.l (IntKind.i64.wrap ((IntKind.i64.wrap (a0.at_ + 1)) - 1))).bind fun v3 =>
    (zb9 v3 a1).bind fun v4 =>
    some (v4, (⟨a0.l, IntKind.i64.wrap (a0.at_ + 1)⟩ : Tape))
instance made_Tape_Next_ok {a0 : Tape} {a1 : Int} : Ok (z0X a0 a1) (fun r => L 20 [.vr [.sl a0.l.length (a0.l.map fun x0 => .sc (.int .i64 x0)), .sc (.int .i64 a0.at_)], .sc (.int .i64 a1)] = some (.sc (.int .i64 r.1), [.vr [.sl r.2.l.length (r.2.l.map fun x0 => .sc (.int .i64 x0)), .sc (.int .i64 r.2.at_)], .dead])) := ⟨fun r h => by have h := z4p h; unfold z0X at h; exact z4O zA9 zC8 zDW⟩
def zb8 (a0 : List Int) : Option (Tape) :=
  if 80 < (a0.length : Int) then
    (z6d a0 0 80).bind fun v2 =>
    some (⟨v2, 0⟩ : Tape)
  else
    some (⟨a0, 0⟩ : Tape)
instance made_New_ok {a0 : List Int} : Ok (zb8 a0) (fun r => L 6 [.sl a0.length (a0.map fun x0 => .sc (.int .i64 x0))] = some (.vr [.sl r.l.length (r.l.map fun x0 => .sc (.int .i64 x0)), .sc (.int .i64 r.at_)], [.dead])) := ⟨fun r h => by have h := z4p h; unfold zb8 at h; exact z4O zCm fn6 bd6⟩
def z3w (a0 : Tape) : Option (Int × Tape) :=
  (z0X a0 8).bind fun v2 =>
  some (IntKind.i64.wrap (2 - (zxq .i64 v2.1 7)), v2.2)
instance made_Tape_Letters_ok {a0 : Tape} : Ok (z3w a0) (fun r => L 8 [.vr [.sl a0.l.length (a0.l.map fun x0 => .sc (.int .i64 x0)), .sc (.int .i64 a0.at_)]] = some (.sc (.int .i64 r.1), [.vr [.sl r.2.l.length (r.2.l.map fun x0 => .sc (.int .i64 x0)), .sc (.int .i64 r.2.at_)]])) := ⟨fun r h => by have h := z4p h; unfold z3w at h; exact z4O zCk fn8 bd8⟩
abbrev z4h (a1 : Int) (v32 : Int × Tape) (w42 : Int) (w45 : List Bool) (w46 : List (List Int)) (v55 : Int × Tape) : Int × List Int × Int × List Int -> Option ((Int × List Int × Int × List Int) ⊕ ((Int × List Int × Int × List Bool × List (List Int)) ⊕ (DFA × Tape)))
  | (w57, w58, w59, w60) =>
  if w57 < a1 then
    (z0X (⟨w58, w59⟩ : Tape) (IntKind.i64.wrap (1 + v32.1))).bind fun v62 =>
    chk (z1c 8 (w60.length + 1)) <|
    z0e (IntKind.i64.wrap (w57 + 1), v62.2.l, v62.2.at_, w60 ++ [v62.1])
  else
    z0k <|
    chk (z1c 24 (w46.length + 1)) <|
    z0e (IntKind.i64.wrap (w42 + 1), w58, w59, w45 ++ [decide (v55.1 = 1)], w46 ++ [w60])
instance {a1 : Int} {v32 : Int × Tape} {w42 : Int} {w45 : List Bool} {w46 : List (List Int)} {v55 : Int × Tape} : Hd (z4h a1 v32 w42 w45 w46 v55) := ⟨fun (w57, w58, w59, w60) => ([(11, xI w57)], [(0, .vr [.sl w58.length (w58.map fun x0 => .sc (.int .i64 x0)), .sc (.int .i64 w59)]), (10, .os 1 w60.length (w60.map fun x0 => .sc (.int .i64 x0)))])⟩
abbrev z4E (a1 : Int) (v32 : Int × Tape) (v33 : Int × Tape) : Int × List Int × Int × List Bool × List (List Int) -> Option ((Int × List Int × Int × List Bool × List (List Int)) ⊕ (DFA × Tape))
  | (w42, w43, w44, w45, w46) =>
  if w42 < (IntKind.i64.wrap (1 + v32.1)) then
    (z0X (⟨w43, w44⟩ : Tape) 2).bind fun v55 =>
    chk (z1c 1 (w45.length + 1)) <|
    z0j (z4h a1 v32 w42 w45 w46 v55) LFm (0, v55.2.l, v55.2.at_, [])
  else
    z0k <|
    some ((⟨a1, v33.1, w45, w46⟩ : DFA), (⟨w43, w44⟩ : Tape))
instance {a1 : Int} {v32 : Int × Tape} {v33 : Int × Tape} : Hd (z4E a1 v32 v33) := ⟨fun (w42, w43, w44, w45, w46) => ([(9, xI w42)], [(0, .vr [.sl w43.length (w43.map fun x0 => .sc (.int .i64 x0)), .sc (.int .i64 w44)]), (7, .vr [.sc (.int .i64 a1), .sc (.int .i64 v33.1), .os 1 w45.length (w45.map fun x0 => .sc (.bool x0)), .os 1 w46.length (w46.map fun x0 => .os 1 x0.length (x0.map fun x1 => .sc (.int .i64 x1)))])])⟩
def z4i (a0 : Tape) (a1 : Int) (a2 : Int) : Option (DFA × Tape) :=
  (z0X a0 a2).bind fun v32 =>
  (z0X v32.2 (IntKind.i64.wrap (1 + v32.1))).bind fun v33 =>
  z0j (z4E a1 v32 v33) LFm (0, v33.2.l, v33.2.at_, [], [])
instance made_Tape_Dfa_ok {a0 : Tape} {a1 : Int} {a2 : Int} : Ok (z4i a0 a1 a2) (fun r => L 23 [.vr [.sl a0.l.length (a0.l.map fun x0 => .sc (.int .i64 x0)), .sc (.int .i64 a0.at_)], .sc (.int .i64 a1), .sc (.int .i64 a2)] = some (.agg [.sc (.int .i64 r.1.letters), .sc (.int .i64 r.1.start), .os 1 r.1.final.length (r.1.final.map fun x0 => .sc (.bool x0)), .os 1 r.1.next.length (r.1.next.map fun x0 => .os 1 x0.length (x0.map fun x1 => .sc (.int .i64 x1)))], [.vr [.sl r.2.l.length (r.2.l.map fun x0 => .sc (.int .i64 x0)), .sc (.int .i64 r.2.at_)], .dead, .dead])) := ⟨fun r h => by have h := z4p h; unfold z4i at h; exact z4O zA6 zC6 zDU⟩
abbrev z3l (w61 : Int) (v77 : List Int) (v46 : DFA × Tape) : Int × List (List Int) -> Option ((Int × List (List Int)) ⊕ ((Int × List (List Int)) ⊕ (DFA × Tape)))
  | (w81, w82) =>
  (atI w82 w61).bind fun v87 =>
  if w81 < (v77.length : Int) then
    (atI v87 w81).bind fun v88 =>
    z0e (IntKind.i64.wrap (w81 + 1), (w82.set w61.toNat (v87.set w81.toNat (if w61 < v88 then v88 else w61))))
  else
    z0k <|
    z0e (IntKind.i64.wrap (w61 + 1), w82)
instance {w61 : Int} {v77 : List Int} {v46 : DFA × Tape} : Hd (z3l w61 v77 v46) := ⟨fun (w81, w82) => ([(27, xI w81)], [(7, .vr [.sc (.int .i64 v46.1.letters), .sc (.int .i64 v46.1.start), .os 1 v46.1.final.length (v46.1.final.map fun x0 => .sc (.bool x0)), .os 1 w82.length (w82.map fun x0 => .os 1 x0.length (x0.map fun x1 => .sc (.int .i64 x1)))])])⟩
abbrev z3m (v46 : DFA × Tape) : Int × List (List Int) -> Option ((Int × List (List Int)) ⊕ (DFA × Tape))
  | (w61, w62) =>
  if w61 < (v46.1.next.length : Int) then
    (atI w62 w61).bind fun v77 =>
    z0j (z3l w61 v77 v46) LFm (0, w62)
  else
    z0k <|
    some ((⟨v46.1.letters, 0, v46.1.final, w62⟩ : DFA), v46.2)
instance {v46 : DFA × Tape} : Hd (z3m v46) := ⟨fun (w61, w62) => ([(18, xI w61)], [(7, .vr [.sc (.int .i64 v46.1.letters), .sc (.int .i64 v46.1.start), .os 1 v46.1.final.length (v46.1.final.map fun x0 => .sc (.bool x0)), .os 1 w62.length (w62.map fun x0 => .os 1 x0.length (x0.map fun x1 => .sc (.int .i64 x1)))])])⟩
def z3v (a0 : Tape) (a1 : Int) (a2 : Int) : Option (DFA × Tape) :=
  (z4i a0 a1 a2).bind fun v46 =>
  z0j (z3m v46) LFm (0, v46.1.next)
instance made_Tape_Ordered_ok {a0 : Tape} {a1 : Int} {a2 : Int} : Ok (z3v a0 a1 a2) (fun r => L 13 [.vr [.sl a0.l.length (a0.l.map fun x0 => .sc (.int .i64 x0)), .sc (.int .i64 a0.at_)], .sc (.int .i64 a1), .sc (.int .i64 a2)] = some (.agg [.sc (.int .i64 r.1.letters), .sc (.int .i64 r.1.start), .sl r.1.final.length (r.1.final.map fun x0 => .sc (.bool x0)), .sl r.1.next.length (r.1.next.map fun x0 => .sl x0.length (x0.map fun x1 => .sc (.int .i64 x1)))], [.vr [.sl r.2.l.length (r.2.l.map fun x0 => .sc (.int .i64 x0)), .sc (.int .i64 r.2.at_)], .dead, .dead])) := ⟨fun r h => by have h := z4p h; unfold z3v at h; exact zsO zAc zCb zDZ⟩
def z2e (v90 : Int × Tape) (w125 : Int) : Int × List Int × Int × List (List Int) × List Int -> Option ((Int × List Int × Int × List (List Int) × List Int) ⊕ ((Int × List Int × Int × List (List Int)) ⊕ (DFA × Tape)))
  | (w162, w163, w164, w165, w166) =>
  if w162 < (IntKind.i64.wrap (1 + v90.1)) then
    (z0X (⟨w163, w164⟩ : Tape) (w166.length : Int)).bind fun v173 =>
    (atI w165 w162).bind fun v174 =>
    (atI w166 v173.1).bind fun v175 =>
    (atI v174 w125).bind fun v176 =>
    (z6d w166 0 v173.1).bind fun v177 =>
    (z6d w166 (IntKind.i64.wrap (v173.1 + 1)) (w166.length : Int)).bind fun v178 =>
    chk (z1c 8 (v177.length)) <|
    chk (z1c 8 (v177.length + v178.length)) <|
    z0e (IntKind.i64.wrap (w162 + 1), v173.2.l, v173.2.at_, (w165.set w162.toNat (v174.set w125.toNat v175)), v177 ++ v178)
  else
    z0k <|
    z0e (IntKind.i64.wrap (w125 + 1), w163, w164, w165)
def z2c (a1 : Int) (v90 : Int × Tape) (v91 : Int × Tape) (w96 : List Bool) (w125 : Int) : Int × List Int × Int × List (List Int) × List Int -> Fr
  | (w162, w163, w164, w165, w166) => ⟨90, [(0, .one (.a 0 [] (0))), (1, .one (.t none (.sc (.int .i64 a1)))), (6, .one (.a 6 [] (0))), (7, .one (.a 7 [] (0))), (8, .one (.t none (.sc (.int .i64 (IntKind.i64.wrap (1 + v90.1)))))), (10, .one (.t none (.sc (.int .i64 w125)))), (11, .one (.h 11 [])), (13, .one (.t none (.sc (.int .i64 w162)))), (1090, .one (.a 0 [] (0)))], [(0, .vr [.sl w163.length (w163.map fun x0 => .sc (.int .i64 x0)), .sc (.int .i64 w164)]), (6, .vr [.sc (.int .i64 0), .sc (.int .i64 0), .os 1 0 [], .os 1 0 []]), (7, .vr [.sc (.int .i64 a1), .sc (.int .i64 v91.1), .os 1 w96.length (w96.map fun x0 => .sc (.bool x0)), .os 1 w165.length (w165.map fun x0 => .os 1 x0.length (x0.map fun x1 => .sc (.int .i64 x1)))]), (11, .os 1 w166.length (w166.map fun x0 => .sc (.int .i64 x0)))]⟩
def z2f (v90 : Int × Tape) (w125 : Int) (w126 : List Int) (w127 : Int) (w128 : List (List Int)) : Int × List Int -> Option ((Int × List Int) ⊕ ((Int × List Int × Int × List (List Int)) ⊕ (DFA × Tape)))
  | (w154, w155) =>
  if w154 < (IntKind.i64.wrap (1 + v90.1)) then
    chk (z1c 8 (w155.length + 1)) <|
    z0e (IntKind.i64.wrap (w154 + 1), w155 ++ [w154])
  else
    z0k <|
    z0j (z2e v90 w125) LFm (0, w126, w127, w128, w155)
def z2d (a1 : Int) (v90 : Int × Tape) (v91 : Int × Tape) (w96 : List Bool) (w125 : Int) (w126 : List Int) (w127 : Int) (w128 : List (List Int)) : Int × List Int -> Fr
  | (w154, w155) => ⟨90, [(0, .one (.a 0 [] (0))), (1, .one (.t none (.sc (.int .i64 a1)))), (6, .one (.a 6 [] (0))), (7, .one (.a 7 [] (0))), (8, .one (.t none (.sc (.int .i64 (IntKind.i64.wrap (1 + v90.1)))))), (10, .one (.t none (.sc (.int .i64 w125)))), (11, .one (.h 11 [])), (12, .one (.t none (.sc (.int .i64 w154)))), (1090, .one (.a 0 [] (0)))], [(0, .vr [.sl w126.length (w126.map fun x0 => .sc (.int .i64 x0)), .sc (.int .i64 w127)]), (6, .vr [.sc (.int .i64 0), .sc (.int .i64 0), .os 1 0 [], .os 1 0 []]), (7, .vr [.sc (.int .i64 a1), .sc (.int .i64 v91.1), .os 1 w96.length (w96.map fun x0 => .sc (.bool x0)), .os 1 w128.length (w128.map fun x0 => .os 1 x0.length (x0.map fun x1 => .sc (.int .i64 x1)))]), (11, .os 1 w155.length (w155.map fun x0 => .sc (.int .i64 x0)))]⟩
def z2q (a1 : Int) (v90 : Int × Tape) (v91 : Int × Tape) (w96 : List Bool) : Int × List Int × Int × List (List Int) -> Option ((Int × List Int × Int × List (List Int)) ⊕ (DFA × Tape))
  | (w125, w126, w127, w128) =>
  if w125 < a1 then
    z0j (z2f v90 w125 w126 w127 w128) LFm (0, [])
  else
    z0k <|
    some ((⟨a1, v91.1, w96, w128⟩ : DFA), (⟨w126, w127⟩ : Tape))
def z2o (a1 : Int) (v90 : Int × Tape) (v91 : Int × Tape) (w96 : List Bool) : Int × List Int × Int × List (List Int) -> Fr
  | (w125, w126, w127, w128) => ⟨90, [(0, .one (.a 0 [] (0))), (1, .one (.t none (.sc (.int .i64 a1)))), (6, .one (.a 6 [] (0))), (7, .one (.a 7 [] (0))), (8, .one (.t none (.sc (.int .i64 (IntKind.i64.wrap (1 + v90.1)))))), (10, .one (.t none (.sc (.int .i64 w125)))), (1090, .one (.a 0 [] (0)))], [(0, .vr [.sl w126.length (w126.map fun x0 => .sc (.int .i64 x0)), .sc (.int .i64 w127)]), (6, .vr [.sc (.int .i64 0), .sc (.int .i64 0), .os 1 0 [], .os 1 0 []]), (7, .vr [.sc (.int .i64 a1), .sc (.int .i64 v91.1), .os 1 w96.length (w96.map fun x0 => .sc (.bool x0)), .os 1 w128.length (w128.map fun x0 => .os 1 x0.length (x0.map fun x1 => .sc (.int .i64 x1)))])]⟩
def z2r (a1 : Int) (v90 : Int × Tape) (v91 : Int × Tape) : Int × List Int × Int × List Bool × List (List Int) -> Option ((Int × List Int × Int × List Bool × List (List Int)) ⊕ (DFA × Tape))
  | (w93, w94, w95, w96, w97) =>
  if w93 < (IntKind.i64.wrap (1 + v90.1)) then
    (z0X (⟨w94, w95⟩ : Tape) 2).bind fun v99 =>
    chk (z1c 1 (w96.length + 1)) <|
    chk (z1g 8 a1) <|
    chk (z1c 24 (w97.length + 1)) <|
    z0e (IntKind.i64.wrap (w93 + 1), v99.2.l, v99.2.at_, w96 ++ [decide (v99.1 = 1)], w97 ++ [List.replicate a1.toNat (0 : Int)])
  else
    z0k <|
    z0j (z2q a1 v90 v91 w96) LFm (0, w94, w95, w97)
def z2p (a1 : Int) (v90 : Int × Tape) (v91 : Int × Tape) : Int × List Int × Int × List Bool × List (List Int) -> Fr
  | (w93, w94, w95, w96, w97) => ⟨90, [(0, .one (.a 0 [] (0))), (1, .one (.t none (.sc (.int .i64 a1)))), (6, .one (.a 6 [] (0))), (7, .one (.a 7 [] (0))), (8, .one (.t none (.sc (.int .i64 (IntKind.i64.wrap (1 + v90.1)))))), (9, .one (.t none (.sc (.int .i64 w93)))), (1090, .one (.a 0 [] (0)))], [(0, .vr [.sl w94.length (w94.map fun x0 => .sc (.int .i64 x0)), .sc (.int .i64 w95)]), (6, .vr [.sc (.int .i64 0), .sc (.int .i64 0), .os 1 0 [], .os 1 0 []]), (7, .vr [.sc (.int .i64 a1), .sc (.int .i64 v91.1), .os 1 w96.length (w96.map fun x0 => .sc (.bool x0)), .os 1 w97.length (w97.map fun x0 => .os 1 x0.length (x0.map fun x1 => .sc (.int .i64 x1)))])]⟩
def z2h (a0 : Tape) (a1 : Int) (a2 : Int) : Option (DFA × Tape) :=
  (z0X a0 a2).bind fun v90 =>
  (z0X v90.2 (IntKind.i64.wrap (1 + v90.1))).bind fun v91 =>
  z0j (z2r a1 v90 v91) LFm (0, v91.2.l, v91.2.at_, [], [])
instance made_Tape_Permutations_ok {a0 : Tape} {a1 : Int} {a2 : Int} : Ok (z2h a0 a1 a2) (fun r => L 21 [.vr [.sl a0.l.length (a0.l.map fun x0 => .sc (.int .i64 x0)), .sc (.int .i64 a0.at_)], .sc (.int .i64 a1), .sc (.int .i64 a2)] = some (.agg [.sc (.int .i64 r.1.letters), .sc (.int .i64 r.1.start), .os 1 r.1.final.length (r.1.final.map fun x0 => .sc (.bool x0)), .os 1 r.1.next.length (r.1.next.map fun x0 => .os 1 x0.length (x0.map fun x1 => .sc (.int .i64 x1)))], [.vr [.sl r.2.l.length (r.2.l.map fun x0 => .sc (.int .i64 x0)), .sc (.int .i64 r.2.at_)], .dead, .dead])) := ⟨fun r h0 => by
  simp only [z2h] at h0
  refine zqu zA8 zAD (zlX zAV ⟨of_decide_eq_true rfl, of_decide_eq_true rfl⟩ ?_)
  simp only [z7d, z6q, z6h, z8B, z6z]
  refine zq rfl (zr rfl rfl rfl (by simp; rfl) ?_)
  refine z0a (zq rfl (zr rfl rfl rfl (by simp; rfl) ?_))
  refine z0a (zq rfl ?_)
  obtain ⟨v90, f115, h1⟩ := z1a h0
  have f115k := Ok.ok _ f115
  try simp at f115k
  refine zr rfl rfl rfl (by simp [f115k]; rfl) ?_
  refine z0a (zq rfl ?_)
  obtain ⟨v91, f116, h2⟩ := z1a h1
  have f116k := Ok.ok _ f116
  try simp at f116k
  refine zr rfl rfl rfl (by simp [f116k]; rfl) ?_
  refine z0a (zq rfl (zq rfl (zr rfl rfl rfl (by simp; rfl) ?_)))
  refine z0a (zb rfl (z2l h2 (z2p a1 v90 v91) rfl rfl (by simp [z2p]) fun s o1 h3 hr1 => ?_))
  obtain ⟨w93, w94, w95, w96, w97⟩ := s
  simp only [z2r] at h3
  simp only [z2p]
  refine zq rfl (zq rfl (zr rfl rfl rfl (by simp; rfl) ?_))
  refine z0a ?_
  by_cases c125 : w93 < (IntKind.i64.wrap (1 + v90.1))
  ·rw [if_pos c125] at h3
   refine z3i rfl (by simp [c125]) (z1E rfl (z0a (zq rfl (zb rfl ?_))))
   obtain ⟨v99, f126, h4⟩ := z1a h3
   have f126k := Ok.ok _ f126
   try simp at f126k
   obtain ⟨f127, h5⟩ := zAh h4
   obtain ⟨f128, h6⟩ := zup h5
   obtain ⟨f129, h7⟩ := zi7 h6
   refine zeQ rfl rfl rfl rfl ?_
   refine zmW [(0, 0, 3, 1), (1, 2, 3, 2), (2, 7, 3, 3), (3, 9, 3, 4), (4, 1, 2, 5), (4, 3, 1, 6), (4, 8, 2, 7), (4, 10, 1, 8), (5, 3, 1, 9), (5, 8, 2, 10), (5, 10, 1, 11), (6, 4, 3, 12), (7, 1, 2, 10), (7, 3, 1, 13), (7, 10, 1, 15), (8, 1, 2, 11), (8, 3, 1, 14), (8, 8, 2, 15), (8, 11, 1, 16), (9, 4, 3, 17), (10, 3, 1, 18), (10, 10, 1, 20), (11, 3, 1, 19), (11, 8, 2, 20), (11, 11, 1, 21), (12, 1, 2, 17), (12, 5, 1, 22), (12, 8, 2, 23), (12, 10, 1, 24), (13, 4, 3, 23), (14, 4, 3, 24), (15, 1, 2, 20), (15, 3, 1, 25), (15, 11, 1, 27), (16, 1, 2, 21), (16, 3, 1, 26), (16, 8, 2, 27), (17, 5, 1, 28), (17, 8, 2, 29), (17, 10, 1, 30), (18, 4, 0, 29), (19, 4, 3, 30), (20, 3, 1, 31), (20, 11, 1, 33), (21, 3, 1, 32), (21, 8, 2, 33), (22, 1, 2, 28), (22, 8, 2, 34), (22, 10, 1, 35), (23, 1, 2, 29), (23, 5, 1, 34), (23, 10, 1, 36), (24, 1, 2, 30), (24, 5, 1, 35), (24, 8, 2, 36), (24, 11, 1, 37), (25, 4, 3, 36), (26, 4, 3, 37), (27, 1, 2, 33), (27, 3, 1, 38), (28, 6, 2, 39), (28, 8, 2, 40), (28, 10, 1, 41), (29, 5, 1, 40), (29, 10, 1, 42), (30, 5, 1, 41), (30, 8, 2, 42), (30, 11, 1, 43), (31, 4, 0, 42), (32, 4, 3, 43), (33, 3, 1, 44), (34, 1, 2, 40), (34, 10, 1, 45), (35, 1, 2, 41), (35, 8, 2, 45), (35, 11, 1, 46), (36, 1, 2, 42), (36, 5, 1, 45), (36, 11, 1, 47), (37, 1, 2, 43), (37, 5, 1, 46), (37, 8, 2, 47), (38, 4, 3, 47), (39, 8, 2, 48), (39, 10, 1, 49), (40, 6, 2, 48), (40, 10, 1, 50), (41, 6, 2, 49), (41, 8, 2, 50), (41, 11, 1, 51), (42, 5, 1, 50), (42, 11, 1, 52), (43, 5, 1, 51), (43, 8, 2, 52), (44, 4, 0, 52), (45, 1, 2, 50), (45, 11, 1, 53), (46, 1, 2, 51), (46, 8, 2, 53), (47, 1, 2, 52), (47, 5, 1, 53), (48, 13, 3, 55), (49, 8, 2, 54), (49, 11, 1, 56), (50, 6, 2, 54), (50, 11, 1, 57), (51, 6, 2, 56), (51, 8, 2, 57), (52, 5, 1, 57), (53, 1, 2, 57), (54, 13, 3, 59), (55, 10, 1, 59), (56, 8, 2, 58), (57, 6, 2, 58), (58, 13, 3, 60), (59, 11, 1, 60), (60, 12, 2, 61), (61, 14, 2, 62), (62, 15, 0, 63), (63, 16, 2, 64)] 64 (by kernel_rfl) ?_
   refine z0f rfl rfl rfl rfl (by simp [z0b, z0c, f126k, f127, f128, f129]; rfl) ?_
   refine z0f rfl rfl rfl rfl (by simp [z0b, z0c, f126k, f127, f128, f129]; rfl) ?_
   refine z0f rfl rfl rfl rfl (by simp [z0b, z0c, f126k, f127, f128, f129]; rfl) ?_
   refine z0f rfl rfl rfl rfl (by simp [z0b, z0c, f126k, f127, f128, f129]; rfl) ?_
   refine z0f rfl rfl rfl rfl (by simp [z0b, z0c, f126k, f127, f128, f129]; rfl) ?_
   refine z0f rfl rfl rfl rfl (by simp [z0b, z0c, f126k, f127, f128, f129]; rfl) ?_
   refine z0f rfl rfl rfl rfl (by simp [z0b, z0c, f126k, f127, f128, f129]; rfl) ?_
   refine z0f rfl rfl rfl rfl (by simp [z0b, z0c, f126k, f127, f128, f129]; rfl) ?_
   refine z0f rfl rfl rfl rfl (by simp [z0b, z0c, f126k, f127, f128, f129]; rfl) ?_
   refine z0f rfl rfl rfl rfl (by simp [z0b, z0c, f126k, f127, f128, f129]; rfl) ?_
   refine z0f rfl rfl rfl rfl (by simp [z0b, z0c, f126k, f127, f128, f129]; rfl) ?_
   refine z0f rfl rfl rfl rfl (by simp [z0b, z0c, f126k, f127, f128, f129]; rfl) ?_
   refine z0i rfl rfl rfl rfl (by simp [z0b, z0c, f126k, f127, f128, f129]) ?_
   refine z0f rfl rfl rfl rfl (by simp [z0b, z0c, f126k, f127, f128, f129]; rfl) ?_
   refine z0f rfl rfl rfl rfl (by simp [z0b, z0c, f126k, f127, f128, f129]; rfl) ?_
   refine z0i rfl rfl rfl rfl (by simp [z0b, z0c, f126k, f127, f128, f129]) ?_
   refine z0f rfl rfl rfl rfl (by simp [z0b, z0c, f126k, f127, f128, f129]; rfl) ?_
   refine z0i rfl rfl rfl rfl (by simp [z0b, z0c, f126k, f127, f128, f129]) ?_
   refine z0f rfl rfl rfl rfl (by simp [z0b, z0c, f126k, f127, f128, f129]; rfl) ?_
   refine z0f rfl rfl rfl rfl (by simp [z0b, z0c, f126k, f127, f128, f129]; rfl) ?_
   refine z0f rfl rfl rfl rfl (by simp [z0b, z0c, f126k, f127, f128, f129]; rfl) ?_
   refine z0f rfl rfl rfl rfl (by simp [z0b, z0c, f126k, f127, f128, f129]; rfl) ?_
   refine z0f rfl rfl rfl rfl (by simp [z0b, z0c, f126k, f127, f128, f129]; rfl) ?_
   refine z0i rfl rfl rfl rfl (by simp [z0b, z0c, f126k, f127, f128, f129]) ?_
   refine z0f rfl rfl rfl rfl (by simp [z0b, z0c, f126k, f127, f128, f129]; rfl) ?_
   refine z0i rfl rfl rfl rfl (by simp [z0b, z0c, f126k, f127, f128, f129]) ?_
   refine z0f rfl rfl rfl rfl (by simp [z0b, z0c, f126k, f127, f128, f129]; rfl) ?_
   refine z0f rfl rfl rfl rfl (by simp [z0b, z0c, f126k, f127, f128, f129]; rfl) ?_
   refine z0f rfl rfl rfl rfl (by simp [z0b, z0c, f126k, f127, f128, f129]; rfl) ?_
   refine z0i rfl rfl rfl rfl (by simp [z0b, z0c, f126k, f127, f128, f129]) ?_
   refine z0i rfl rfl rfl rfl (by simp [z0b, z0c, f126k, f127, f128, f129]) ?_
   refine z0i rfl rfl rfl rfl (by simp [z0b, z0c, f126k, f127, f128, f129]) ?_
   refine z0f rfl rfl rfl rfl (by simp [z0b, z0c, f126k, f127, f128, f129]; rfl) ?_
   refine z0f rfl rfl rfl rfl (by simp [z0b, z0c, f126k, f127, f128, f129]; rfl) ?_
   refine z0i rfl rfl rfl rfl (by simp [z0b, z0c, f126k, f127, f128, f129]) ?_
   refine z0f rfl rfl rfl rfl (by simp [z0b, z0c, f126k, f127, f128, f129]; rfl) ?_
   refine z0i rfl rfl rfl rfl (by simp [z0b, z0c, f126k, f127, f128, f129]) ?_
   refine z0f rfl rfl rfl rfl (by simp [z0b, z0c, f126k, f127, f128, f129]; rfl) ?_
   refine z0f rfl rfl rfl rfl (by simp [z0b, z0c, f126k, f127, f128, f129]; rfl) ?_
   refine z0f rfl rfl rfl rfl (by simp [z0b, z0c, f126k, f127, f128, f129]; rfl) ?_
   refine z0i rfl rfl rfl rfl (by simp [z0b, z0c, f126k, f127, f128, f129]) ?_
   refine z0i rfl rfl rfl rfl (by simp [z0b, z0c, f126k, f127, f128, f129]) ?_
   refine z0f rfl rfl rfl rfl (by simp [z0b, z0c, f126k, f127, f128, f129]; rfl) ?_
   refine z0f rfl rfl rfl rfl (by simp [z0b, z0c, f126k, f127, f128, f129]; rfl) ?_
   refine z0f rfl rfl rfl rfl (by simp [z0b, z0c, f126k, f127, f128, f129]; rfl) ?_
   refine z0i rfl rfl rfl rfl (by simp [z0b, z0c, f126k, f127, f128, f129]) ?_
   refine z0i rfl rfl rfl rfl (by simp [z0b, z0c, f126k, f127, f128, f129]) ?_
   refine z0f rfl rfl rfl rfl (by simp [z0b, z0c, f126k, f127, f128, f129]; rfl) ?_
   refine z0f rfl rfl rfl rfl (by simp [z0b, z0c, f126k, f127, f128, f129]; rfl) ?_
   refine z0i rfl rfl rfl rfl (by simp [z0b, z0c, f126k, f127, f128, f129]) ?_
   refine z0i rfl rfl rfl rfl (by simp [z0b, z0c, f126k, f127, f128, f129]) ?_
   refine z0f rfl rfl rfl rfl (by simp [z0b, z0c, f126k, f127, f128, f129]; rfl) ?_
   refine z0i rfl rfl rfl rfl (by simp [z0b, z0c, f126k, f127, f128, f129]) ?_
   refine z0i rfl rfl rfl rfl (by simp [z0b, z0c, f126k, f127, f128, f129]) ?_
   refine z0i rfl rfl rfl rfl (by simp [z0b, z0c, f126k, f127, f128, f129]) ?_
   refine z0f rfl rfl rfl rfl (by simp [z0b, z0c, f126k, f127, f128, f129]; rfl) ?_
   refine z0i rfl rfl rfl rfl (by simp [z0b, z0c, f126k, f127, f128, f129]) ?_
   refine z0i rfl rfl rfl rfl (by simp [z0b, z0c, f126k, f127, f128, f129]) ?_
   refine z0i rfl rfl rfl rfl (by simp [z0b, z0c, f126k, f127, f128, f129]) ?_
   refine z0f rfl rfl rfl rfl (by simp [z0b, z0c, f126k, f127, f128, f129]; rfl) ?_
   refine z0f rfl rfl rfl rfl (by simp [z0b, z0c, f126k, f127, f128, f129]; rfl) ?_
   refine z0f rfl rfl rfl rfl (by simp [z0b, z0c, f126k, f127, f128, f129]; rfl) ?_
   refine z0f rfl rfl rfl rfl (by simp [z0b, z0c, f126k, f127, f128, f129]; rfl) ?_
   refine z0i rfl rfl rfl rfl (by simp [z0b, z0c, f126k, f127, f128, f129]) ?_
   refine z0f rfl rfl rfl rfl (by simp [z0b, z0c, f126k, f127, f128, f129]; rfl) ?_
   refine z0i rfl rfl rfl rfl (by simp [z0b, z0c, f126k, f127, f128, f129]) ?_
   refine z0i rfl rfl rfl rfl (by simp [z0b, z0c, f126k, f127, f128, f129]) ?_
   refine z0f rfl rfl rfl rfl (by simp [z0b, z0c, f126k, f127, f128, f129]; rfl) ?_
   refine z0i rfl rfl rfl rfl (by simp [z0b, z0c, f126k, f127, f128, f129]) ?_
   refine z0i rfl rfl rfl rfl (by simp [z0b, z0c, f126k, f127, f128, f129]) ?_
   refine z0f rfl rfl rfl rfl (by simp [z0b, z0c, f126k, f127, f128, f129]; rfl) ?_
   refine z0i rfl rfl rfl rfl (by simp [z0b, z0c, f126k, f127, f128, f129]) ?_
   refine z0f rfl rfl rfl rfl (by simp [z0b, z0c, f126k, f127, f128, f129]; rfl) ?_
   refine z0i rfl rfl rfl rfl (by simp [z0b, z0c, f126k, f127, f128, f129]) ?_
   refine z0i rfl rfl rfl rfl (by simp [z0b, z0c, f126k, f127, f128, f129]) ?_
   refine z0f rfl rfl rfl rfl (by simp [z0b, z0c, f126k, f127, f128, f129]; rfl) ?_
   refine z0i rfl rfl rfl rfl (by simp [z0b, z0c, f126k, f127, f128, f129]) ?_
   refine z0i rfl rfl rfl rfl (by simp [z0b, z0c, f126k, f127, f128, f129]) ?_
   refine z0f rfl rfl rfl rfl (by simp [z0b, z0c, f126k, f127, f128, f129]; rfl) ?_
   refine z0i rfl rfl rfl rfl (by simp [z0b, z0c, f126k, f127, f128, f129]) ?_
   refine z0i rfl rfl rfl rfl (by simp [z0b, z0c, f126k, f127, f128, f129]) ?_
   refine z0i rfl rfl rfl rfl (by simp [z0b, z0c, f126k, f127, f128, f129]) ?_
   refine z0i rfl rfl rfl rfl (by simp [z0b, z0c, f126k, f127, f128, f129]) ?_
   refine z0f rfl rfl rfl rfl (by simp [z0b, z0c, f126k, f127, f128, f129]; rfl) ?_
   refine z0f rfl rfl rfl rfl (by simp [z0b, z0c, f126k, f127, f128, f129]; rfl) ?_
   refine z0i rfl rfl rfl rfl (by simp [z0b, z0c, f126k, f127, f128, f129]) ?_
   refine z0f rfl rfl rfl rfl (by simp [z0b, z0c, f126k, f127, f128, f129]; rfl) ?_
   refine z0i rfl rfl rfl rfl (by simp [z0b, z0c, f126k, f127, f128, f129]) ?_
   refine z0i rfl rfl rfl rfl (by simp [z0b, z0c, f126k, f127, f128, f129]) ?_
   refine z0f rfl rfl rfl rfl (by simp [z0b, z0c, f126k, f127, f128, f129]; rfl) ?_
   refine z0i rfl rfl rfl rfl (by simp [z0b, z0c, f126k, f127, f128, f129]) ?_
   refine z0f rfl rfl rfl rfl (by simp [z0b, z0c, f126k, f127, f128, f129]; rfl) ?_
   refine z0i rfl rfl rfl rfl (by simp [z0b, z0c, f126k, f127, f128, f129]) ?_
   refine z0i rfl rfl rfl rfl (by simp [z0b, z0c, f126k, f127, f128, f129]) ?_
   refine z0i rfl rfl rfl rfl (by simp [z0b, z0c, f126k, f127, f128, f129]) ?_
   refine z0i rfl rfl rfl rfl (by simp [z0b, z0c, f126k, f127, f128, f129]) ?_
   refine z0f rfl rfl rfl rfl (by simp [z0b, z0c, f126k, f127, f128, f129]; rfl) ?_
   refine z0i rfl rfl rfl rfl (by simp [z0b, z0c, f126k, f127, f128, f129]) ?_
   refine z0i rfl rfl rfl rfl (by simp [z0b, z0c, f126k, f127, f128, f129]) ?_
   refine z0i rfl rfl rfl rfl (by simp [z0b, z0c, f126k, f127, f128, f129]) ?_
   refine z0i rfl rfl rfl rfl (by simp [z0b, z0c, f126k, f127, f128, f129]) ?_
   refine z0f rfl rfl rfl rfl (by simp [z0b, z0c, f126k, f127, f128, f129]; rfl) ?_
   refine z0f rfl rfl rfl rfl (by simp [z0b, z0c, f126k, f127, f128, f129]; rfl) ?_
   refine z0f rfl rfl rfl rfl (by simp [z0b, z0c, f126k, f127, f128, f129]; rfl) ?_
   refine z0i rfl rfl rfl rfl (by simp [z0b, z0c, f126k, f127, f128, f129]) ?_
   refine z0f rfl rfl rfl rfl (by simp [z0b, z0c, f126k, f127, f128, f129]; rfl) ?_
   refine z0i rfl rfl rfl rfl (by simp [z0b, z0c, f126k, f127, f128, f129]) ?_
   refine z0i rfl rfl rfl rfl (by simp [z0b, z0c, f126k, f127, f128, f129]) ?_
   refine z0i rfl rfl rfl rfl (by simp [z0b, z0c, f126k, f127, f128, f129]) ?_
   refine z0i rfl rfl rfl rfl (by simp [z0b, z0c, f126k, f127, f128, f129]) ?_
   refine z0f rfl rfl rfl rfl (by simp [z0b, z0c, f126k, f127, f128, f129]; rfl) ?_
   refine z0i rfl rfl rfl rfl (by simp [z0b, z0c, f126k, f127, f128, f129]) ?_
   refine z0f rfl rfl rfl rfl (by simp [z0b, z0c, f126k, f127, f128, f129]; rfl) ?_
   refine z0i rfl rfl rfl rfl (by simp [z0b, z0c, f126k, f127, f128, f129]) ?_
   refine z0f rfl rfl rfl rfl (by simp [z0b, z0c, f126k, f127, f128, f129]; rfl) ?_
   refine z0i rfl rfl rfl rfl (by simp [z0b, z0c, f126k, f127, f128, f129]) ?_
   refine z0f rfl rfl rfl rfl (by simp [z0b, z0c, f126k, f127, f128, f129]; rfl) ?_
   refine z0f rfl rfl rfl rfl (by simp [z0b, z0c, f126k, f127, f128, f129]; rfl) ?_
   refine z0f rfl rfl rfl rfl (by simp [z0b, z0c, f126k, f127, f128, f129]; rfl) ?_
   refine z0f rfl rfl rfl rfl (by simp [z0b, z0c, f126k, f127, f128, f129]; rfl) ?_
   refine znN rfl ?_
   refine zeC rfl (by simp [f126k, f127, f128, f129]; rfl) ?_
   refine z0N (z0a (zr rfl rfl rfl (by simp; rfl) ?_))
   have ho := z0w h7
   refine z0H ho ?_
   simp [z2p]
  ·rw [if_neg c125] at h3
   refine z2V rfl (by simp [c125]) (z2O rfl (z1U ?_))
   obtain ⟨rr1, h4, ho1⟩ := z0Z h3
   have hs1 := hr1 _ ho1
   subst hs1
   refine z1z ho1 (z0C rfl (z0a (zq rfl (zq rfl (zr rfl rfl rfl (by simp; rfl) ?_)))))
   refine z0a (zb rfl (z2l h4 (z2o a1 v90 v91 w96) rfl rfl (by simp [z2o]) fun s o2 h5 hr2 => ?_))
   obtain ⟨w125, w126, w127, w128⟩ := s
   simp only [z2q] at h5
   simp only [z2o]
   refine zq rfl (zq rfl (zr rfl rfl rfl (by simp; rfl) ?_))
   refine z0a ?_
   by_cases c196 : w125 < a1
   ·rw [if_pos c196] at h5
    refine z3i rfl (by simp [c196]) (z1E rfl (z0a (zq rfl (zb rfl (zq rfl (zr rfl rfl rfl (by simp; rfl) ?_))))))
    refine z0a (zq rfl (zq rfl (zr rfl rfl rfl (by simp; rfl) ?_)))
    refine z0a (zb rfl (z2l h5 (z2d a1 v90 v91 w96 w125 w126 w127 w128) rfl rfl (by simp [z2d]) fun s o3 h6 hr3 => ?_))
    obtain ⟨w154, w155⟩ := s
    simp only [z2f] at h6
    simp only [z2d]
    refine zq rfl (zq rfl (zr rfl rfl rfl (by simp; rfl) ?_))
    refine z0a ?_
    by_cases c200 : w154 < (IntKind.i64.wrap (1 + v90.1))
    ·rw [if_pos c200] at h6
     refine z3i rfl (by simp [c200]) (z1E rfl (z0a (zq rfl (zb rfl ?_))))
     obtain ⟨f201, h7⟩ := zi7 h6
     refine zr rfl rfl rfl (by simp [f201]; rfl) ?_
     refine z0N (z0a (zr rfl rfl rfl (by simp; rfl) ?_))
     have ho := z0w h7
     refine z0H ho ?_
     simp [z2d]
    ·rw [if_neg c200] at h6
     refine z2V rfl (by simp [c200]) (z2O rfl (z1U ?_))
     obtain ⟨rr3, h7, ho3⟩ := z0Z h6
     have hs3 := hr3 _ ho3
     subst hs3
     refine z1z ho3 (z0C rfl (z0a (zq rfl (zr rfl rfl rfl (by simp; rfl) ?_))))
     refine z0a (zb rfl (z2l h7 (z2c a1 v90 v91 w96 w125) rfl rfl (by simp [z2c]) fun s o4 h8 hr4 => ?_))
     obtain ⟨w162, w163, w164, w165, w166⟩ := s
     simp only [z2e] at h8
     simp only [z2c]
     refine zq rfl (zq rfl (zr rfl rfl rfl (by simp; rfl) ?_))
     refine z0a ?_
     by_cases c220 : w162 < (IntKind.i64.wrap (1 + v90.1))
     ·rw [if_pos c220] at h8
      refine z3i rfl (by simp [c220]) (z1E rfl (z0a (zq rfl (zb rfl (zq rfl ?_)))))
      obtain ⟨v173, f221, h9⟩ := z1a h8
      have f221k := Ok.ok _ f221
      try simp at f221k
      refine zr rfl rfl rfl (by simp [f221k]; rfl) ?_
      refine z0a (zq rfl ?_)
      obtain ⟨v174, f222, h10⟩ := z2k h9
      obtain ⟨v175, f223, h11⟩ := z2k h10
      obtain ⟨v176, f224, h12⟩ := z2k h11
      refine z3N rfl rfl rfl rfl ?_; repeat' ((first | refine z1P rfl rfl fun Q' hQ => ?_ | refine z1r rfl fun Q' hQ => ?_); simp [f222, f223, f224]; refine hQ.out _ ?_; clear hQ; clear Q')
      refine z0a ?_
      obtain ⟨v177, f225, h13⟩ := z1a h12
      obtain ⟨f225a, f225b, f225c, -⟩ := z4b f225
      obtain ⟨f225d, f225g⟩ := zb2 f225a f225b
      have f225e := zcD (g := fun x : Int => (.sc (.int .i64 x) : T)) f225
      try simp at f225e
      have f225f := zcC f225
      try simp only [Int.reduceToNat, Int.toNat_natCast, Nat.sub_zero] at f225f
      obtain ⟨v178, f226, h14⟩ := z1a h13
      obtain ⟨f226a, f226b, f226c, -⟩ := z4b f226
      obtain ⟨f226d, f226g⟩ := zb2 f226a f226b
      have f226e := zcD (g := fun x : Int => (.sc (.int .i64 x) : T)) f226
      try simp at f226e
      have f226f := zcC f226
      try simp only [Int.reduceToNat, Int.toNat_natCast, Nat.sub_zero] at f226f
      obtain ⟨f227, h15⟩ := zi7 h14
      obtain ⟨f228, h16⟩ := zi7 h15
      refine z3N rfl rfl rfl rfl ?_; repeat' ((first | refine z1P rfl rfl fun Q' hQ => ?_ | refine z1r rfl fun Q' hQ => ?_); simp [f222, f225a, f225b, f225c, f225d, f225g, f225e, f225f, f226a, f226b, f226c, f226d, f226g, f226e, f226f, f227, f228]; refine hQ.out _ ?_; clear hQ; clear Q')
      refine z0N (z0a (zr rfl rfl rfl (by simp [f222]; rfl) ?_))
      have ho := z0w h16
      refine z0H ho ?_
      simp [z2c]
     ·rw [if_neg c220] at h8
      refine z2V rfl (by simp [c220]) (z2O rfl (z1U ?_))
      obtain ⟨rr4, h9, ho4⟩ := z0Z h8
      have hs4 := hr4 _ ho4
      subst hs4
      refine z1z ho4 (z0C rfl (z0N (z0a (zr rfl rfl rfl (by simp; rfl) ?_))))
      have ho := z0w h9
      refine z0H ho ?_
      simp [z2o]
   ·rw [if_neg c196] at h5
    refine z2V rfl (by simp [c196]) (z2O rfl (z1U ?_))
    obtain ⟨rr2, h6, ho2⟩ := z0Z h5
    have hs2 := hr2 _ ho2
    subst hs2
    refine z1z ho2 (z0C rfl (z0a (zq rfl (zr rfl rfl rfl (by simp; rfl) ?_))))
    refine z0a (zhE rfl ?_)
    cases h6
    simp⟩
abbrev zb6 (a0 : Int) (a1 : Int) (w31 : Int) : Int × List ByteArray -> Option ((Int × List ByteArray) ⊕ ((Int × List ByteArray) ⊕ List ByteArray))
  | (w43, w44) =>
  if w43 < a0 then
    (atI w44 w31).bind fun v47 =>
    if (v47.size : Int) < a1 then
      chk (z6K v47 ⟨#[UInt8.ofNat (IntKind.u8.wrap (IntKind.i64.wrap (97 + w43))).toNat]⟩) <|
      chk (z1c 16 (w44.length + 1)) <|
      z0e (IntKind.i64.wrap (w43 + 1), w44 ++ [v47 ++ ⟨#[UInt8.ofNat (IntKind.u8.wrap (IntKind.i64.wrap (97 + w43))).toNat]⟩])
    else
      z0k <|
      z0e (IntKind.i64.wrap (w31 + 1), w44)
  else
    z0k <|
    z0e (IntKind.i64.wrap (w31 + 1), w44)
instance {a0 : Int} {a1 : Int} {w31 : Int} : Hd (zb6 a0 a1 w31) := ⟨fun (w43, w44) => ([(7, xI w43)], [(5, .os 1 w44.length (w44.map fun x0 => .sc (.string x0)))])⟩
abbrev zb7 (a0 : Int) (a1 : Int) : Int × List ByteArray -> Option ((Int × List ByteArray) ⊕ List ByteArray)
  | (w31, w32) =>
  if w31 < (w32.length : Int) then
    z0j (zb6 a0 a1 w31) LFm (0, w32)
  else
    z0k <|
    some w32
instance {a0 : Int} {a1 : Int} : Hd (zb7 a0 a1) := ⟨fun (w31, w32) => ([(6, xI w31)], [(5, .os 1 w32.length (w32.map fun x0 => .sc (.string x0)))])⟩
def z5l (a0 : Int) (a1 : Int) : Option (List ByteArray) :=
  z0j (zb7 a0 a1) LFm (0, [ByteArray.empty])
instance made_Words_ok {a0 : Int} {a1 : Int} : Ok (z5l a0 a1) (fun r => L 44 [.sc (.int .i64 a0), .sc (.int .i64 a1)] = some (.os 1 r.length (r.map fun x0 => .sc (.string x0)), [.dead, .dead])) := ⟨fun r h => by have h := z4p h; unfold z5l at h; exact z4O zzR zBU zDI⟩
abbrev z5d (v201 : List ByteArray) (w385 : ByteArray) : Int × Int -> Option ((Int × Int) ⊕ ((ByteArray × Int) ⊕ ((Int × List Int) ⊕ ((Int × List Int × Int × List Bool × List (List Int)) ⊕ (DFA × Tape)))))
  | (w394, w395) =>
  if w395 < (v201.length : Int) then
    (atI v201 w395).bind fun v397 =>
    if v397 = w385 then
      z0e (w395, IntKind.i64.wrap (w395 + 1))
    else
      z0e (w394, IntKind.i64.wrap (w395 + 1))
  else
    z0k <|
    (zn9 w385 1 (w385.size : Int)).bind fun v398 =>
    z0e (v398, w394)
instance {v201 : List ByteArray} {w385 : ByteArray} : Hd (z5d v201 w385) := ⟨fun (w394, w395) => ([(12, xI w394), (52, xI w395)], [])⟩
abbrev z2U (v201 : List ByteArray) (w357 : Int) (w358 : List Int) : ByteArray × Int -> Option ((ByteArray × Int) ⊕ ((Int × List Int) ⊕ ((Int × List Int × Int × List Bool × List (List Int)) ⊕ (DFA × Tape))))
  | (w385, w386) =>
  if w386 = (-1) then
    z0j (z5d v201 w385) LFm (w386, 0)
  else
    z0k <|
    chk (z1c 8 (w358.length + 1)) <|
    z0e (IntKind.i64.wrap (w357 + 1), w358 ++ [w386])
instance {v201 : List ByteArray} {w357 : Int} {w358 : List Int} : Hd (z2U v201 w357 w358) := ⟨fun (w385, w386) => ([(11, xS w385), (12, xI w386)], [])⟩
abbrev z2w (a1 : Int) (v201 : List ByteArray) (w266 : Int) (w269 : List Bool) (w270 : List (List Int)) (v335 : ByteArray) (v336 : Int × Tape) : Int × List Int -> Option ((Int × List Int) ⊕ ((Int × List Int × Int × List Bool × List (List Int)) ⊕ (DFA × Tape)))
  | (w357, w358) =>
  if w357 < a1 then
    chk (z6K v335 ⟨#[UInt8.ofNat (IntKind.u8.wrap (IntKind.i64.wrap (97 + w357))).toNat]⟩) <|
    z0j (z2U v201 w357 w358) LFm (v335 ++ ⟨#[UInt8.ofNat (IntKind.u8.wrap (IntKind.i64.wrap (97 + w357))).toNat]⟩, (-1))
  else
    z0k <|
    chk (z1c 24 (w270.length + 1)) <|
    z0e (IntKind.i64.wrap (w266 + 1), v336.2.l, v336.2.at_, w269 ++ [decide (v336.1 = 1)], w270 ++ [w358])
instance {a1 : Int} {v201 : List ByteArray} {w266 : Int} {w269 : List Bool} {w270 : List (List Int)} {v335 : ByteArray} {v336 : Int × Tape} : Hd (z2w a1 v201 w266 w269 w270 v335 v336) := ⟨fun (w357, w358) => ([(10, xI w357)], [(9, .os 1 w358.length (w358.map fun x0 => .sc (.int .i64 x0)))])⟩
abbrev z3c (a1 : Int) (v201 : List ByteArray) : Int × List Int × Int × List Bool × List (List Int) -> Option ((Int × List Int × Int × List Bool × List (List Int)) ⊕ (DFA × Tape))
  | (w266, w267, w268, w269, w270) =>
  if w266 < (v201.length : Int) then
    (atI v201 w266).bind fun v335 =>
    (z0X (⟨w267, w268⟩ : Tape) 2).bind fun v336 =>
    chk (z1c 1 (w269.length + 1)) <|
    z0j (z2w a1 v201 w266 w269 w270 v335 v336) LFm (0, [])
  else
    z0k <|
    some ((⟨a1, 0, w269, w270⟩ : DFA), (⟨w267, w268⟩ : Tape))
instance {a1 : Int} {v201 : List ByteArray} : Hd (z3c a1 v201) := ⟨fun (w266, w267, w268, w269, w270) => ([(24, xI w266)], [(0, .vr [.sl w267.length (w267.map fun x0 => .sc (.int .i64 x0)), .sc (.int .i64 w268)]), (5, .vr [.sc (.int .i64 a1), .sc (.int .i64 0), .os 1 w269.length (w269.map fun x0 => .sc (.bool x0)), .os 1 w270.length (w270.map fun x0 => .os 1 x0.length (x0.map fun x1 => .sc (.int .i64 x1)))])])⟩
def z3d (a0 : Tape) (a1 : Int) : Option (DFA × Tape) :=
  (z0X a0 2).bind fun v200 =>
  (z5l a1 (IntKind.i64.wrap (1 + v200.1))).bind fun v201 =>
  z0j (z3c a1 v201) LFm (0, v200.2.l, v200.2.at_, [], [])
instance made_Tape_Definite_ok {a0 : Tape} {a1 : Int} : Ok (z3d a0 a1) (fun r => L 22 [.vr [.sl a0.l.length (a0.l.map fun x0 => .sc (.int .i64 x0)), .sc (.int .i64 a0.at_)], .sc (.int .i64 a1)] = some (.agg [.sc (.int .i64 r.1.letters), .sc (.int .i64 r.1.start), .os 1 r.1.final.length (r.1.final.map fun x0 => .sc (.bool x0)), .os 1 r.1.next.length (r.1.next.map fun x0 => .os 1 x0.length (x0.map fun x1 => .sc (.int .i64 x1)))], [.vr [.sl r.2.l.length (r.2.l.map fun x0 => .sc (.int .i64 x0)), .sc (.int .i64 r.2.at_)], .dead])) := ⟨fun r h => by have h := z4p h; unfold z3d at h; exact z4O zA7 zC7 zDV⟩
def z4j (a0 : Tape) (a1 : Int) (a2 : Int) : Option (DFA × Tape) :=
  (z0X a0 6).bind fun v6 =>
  if v6.1 = 1 then
    (z3v v6.2 a1 a2).bind fun v7 =>
    some (v7.1, v7.2)
  else
    if v6.1 = 2 then
      (z2h v6.2 a1 (if 4 < a2 then 4 else a2)).bind fun v8 =>
      some (v8.1, v8.2)
    else
      if v6.1 = 3 then
        (z3d v6.2 a1).bind fun v9 =>
        some (v9.1, v9.2)
      else
        (z4i v6.2 a1 a2).bind fun v10 =>
        some (v10.1, v10.2)
instance made_Tape_Any_ok {a0 : Tape} {a1 : Int} {a2 : Int} : Ok (z4j a0 a1 a2) (fun r => L 7 [.vr [.sl a0.l.length (a0.l.map fun x0 => .sc (.int .i64 x0)), .sc (.int .i64 a0.at_)], .sc (.int .i64 a1), .sc (.int .i64 a2)] = some (.agg [.sc (.int .i64 r.1.letters), .sc (.int .i64 r.1.start), .sl r.1.final.length (r.1.final.map fun x0 => .sc (.bool x0)), .sl r.1.next.length (r.1.next.map fun x0 => .sl x0.length (x0.map fun x1 => .sc (.int .i64 x1)))], [.vr [.sl r.2.l.length (r.2.l.map fun x0 => .sc (.int .i64 x0)), .sc (.int .i64 r.2.at_)], .dead, .dead])) := ⟨fun r h => by have h := z4p h; unfold z4j at h; exact zsO zCl fn7 bd7⟩
end
end
section
open Go
noncomputable section
set_option maxRecDepth 100000
set_option maxHeartbeats 6000000
def z4D (a0 : Int) : Option (Bool) :=
  if 1 <= a0 then
    some (decide (a0 <= 6))
  else
    some false
instance ref01_MayLetters_ok {a0 : Int} : Ok (z4D a0) (fun r => L 14 [.sc (.int .i64 a0)] = some (.sc (.bool r), [.dead])) := ⟨fun r h => by have h := z4p h; unfold z4D at h; exact z4O zAb zCa zDY⟩
abbrev z7y (a0 : DFA) (w24 : Int) (v30 : List Int) : Int -> Option (Int ⊕ (Int ⊕ Int))
  | w32 =>
  if w32 < (v30.length : Int) then
    (atI v30 w32).bind fun v34 =>
    if v34 < 0 then
      z0k <|
      z0k <|
      some 4
    else
      if (a0.final.length : Int) <= v34 then
        z0k <|
        z0k <|
        some 4
      else
        z0e (IntKind.i64.wrap (w32 + 1))
  else
    z0k <|
    z0e (IntKind.i64.wrap (w24 + 1))
instance {a0 : DFA} {w24 : Int} {v30 : List Int} : Hd (z7y a0 w24 v30) := ⟨fun w32 => ([(51, xI w32)], [])⟩
abbrev z5j (a0 : DFA) : Int -> Option (Int ⊕ Int)
  | w24 =>
  if w24 < (a0.next.length : Int) then
    (atI a0.next w24).bind fun v30 =>
    if (v30.length : Int) = a0.letters then
      z0j (z7y a0 w24 v30) LFm 0
    else
      z0k <|
      some 4
  else
    z0k <|
    some 0
instance {a0 : DFA} : Hd (z5j a0) := ⟨fun w24 => ([(40, xI w24)], [])⟩
def z4w (a0 : DFA) : Option (Int) :=
  (z4D a0.letters).bind fun v18 =>
  if v18 = true then
    if 512 < (a0.final.length : Int) then
      some 3
    else
      if (a0.final.length : Int) = 0 then
        some 4
      else
        if (a0.next.length : Int) = (a0.final.length : Int) then
          if a0.start < 0 then
            some 4
          else
            if (a0.final.length : Int) <= a0.start then
              some 4
            else
              z0j (z5j a0) LFm 0
        else
          some 4
  else
    some 1
instance ref07_Validate_ok {a0 : DFA} : Ok (z4w a0) (fun r => L 62 [.agg [.sc (.int .i64 a0.letters), .sc (.int .i64 a0.start), .sl a0.final.length (a0.final.map fun x0 => .sc (.bool x0)), .sl a0.next.length (a0.next.map fun x0 => .sl x0.length (x0.map fun x1 => .sc (.int .i64 x1)))]] = some (.sc (.int .i64 r), [.dead])) := ⟨fun r h => by have h := z4p h; unfold z4w at h; exact z4O zzA zBE zDs⟩
abbrev z4H (a0 : DFA) (w22 : Int) (v28 : List Int) : Int -> Option (Int ⊕ (Int ⊕ Int))
  | w30 =>
  if w30 < (v28.length : Int) then
    (atI v28 w30).bind fun v32 =>
    if v32 < 0 then
      z0k <|
      z0k <|
      some 4
    else
      if (a0.final.length : Int) <= v32 then
        z0k <|
        z0k <|
        some 4
      else
        z0e (IntKind.i64.wrap (w30 + 1))
  else
    z0k <|
    z0e (IntKind.i64.wrap (w22 + 1))
instance {a0 : DFA} {w22 : Int} {v28 : List Int} : Hd (z4H a0 w22 v28) := ⟨fun w30 => ([(51, xI w30)], [])⟩
abbrev z3A (a0 : DFA) : Int -> Option (Int ⊕ Int)
  | w22 =>
  if w22 < (a0.next.length : Int) then
    (atI a0.next w22).bind fun v28 =>
    if (v28.length : Int) = a0.letters then
      z0j (z4H a0 w22 v28) LFm 0
    else
      z0k <|
      some 4
  else
    z0k <|
    some 0
instance {a0 : DFA} : Hd (z3A a0) := ⟨fun w22 => ([(40, xI w22)], [])⟩
def z6i (a0 : DFA) : Option (Int) :=
  if a0.letters < 1 then
    some 1
  else
    if 6 < a0.letters then
      some 1
    else
      if 512 < (a0.final.length : Int) then
        some 3
      else
        if (a0.next.length : Int) = (a0.final.length : Int) then
          if a0.start < 0 then
            some 4
          else
            if (a0.final.length : Int) <= a0.start then
              some 4
            else
              z0j (z3A a0) LFm 0
        else
          some 4
instance dfa_Validate_ok {a0 : DFA} : Ok (z6i a0) (fun r => L 33 [.agg [.sc (.int .i64 a0.letters), .sc (.int .i64 a0.start), .sl a0.final.length (a0.final.map fun x0 => .sc (.bool x0)), .sl a0.next.length (a0.next.map fun x0 => .sl x0.length (x0.map fun x1 => .sc (.int .i64 x1)))]] = some (.sc (.int .i64 r), [.dead])) := ⟨fun r h => by have h := z4p h; unfold z6i at h; exact z4O zzW zBZ zDN⟩
def z4c (a0 : DFA) : Option (Int) :=
  (z6i a0).bind fun v2 =>
  if v2 = 0 then
    if 12 < (a0.final.length : Int) then
      some 3
    else
      some 0
  else
    some v2
instance images_validate_ok {a0 : DFA} : Ok (z4c a0) (fun r => L 45 [.agg [.sc (.int .i64 a0.letters), .sc (.int .i64 a0.start), .sl a0.final.length (a0.final.map fun x0 => .sc (.bool x0)), .sl a0.next.length (a0.next.map fun x0 => .sl x0.length (x0.map fun x1 => .sc (.int .i64 x1)))]] = some (.sc (.int .i64 r), [.dead])) := ⟨fun r h => by have h := z4p h; unfold z4c at h; exact z4O zzQ zBT zDH⟩
def z8P (a0 : DFA) : Option (Int) :=
  (z4w a0).bind fun v2 =>
  if v2 = 0 then
    if 12 < (a0.final.length : Int) then
      some 3
    else
      some 0
  else
    some v2
instance ref24_May_ok {a0 : DFA} : Ok (z8P a0) (fun r => L 39 [.agg [.sc (.int .i64 a0.letters), .sc (.int .i64 a0.start), .sl a0.final.length (a0.final.map fun x0 => .sc (.bool x0)), .sl a0.next.length (a0.next.map fun x0 => .sl x0.length (x0.map fun x1 => .sc (.int .i64 x1)))]] = some (.sc (.int .i64 r), [.dead])) := ⟨fun r h => by have h := z4p h; unfold z8P at h; exact z4O zzT zBW zDK⟩
def z8Q (a0 : DFA) : Option (Int) :=
  chk (¬ (IntKind.u64.wrap (a0.final.length : Int)) < 0) <|
  some (IntKind.i64.wrap ((zjM .i64 1 (IntKind.u64.wrap (a0.final.length : Int))) - 1))
instance ref24_All_ok {a0 : DFA} : Ok (z8Q a0) (fun r => L 63 [.agg [.sc (.int .i64 a0.letters), .sc (.int .i64 a0.start), .sl a0.final.length (a0.final.map fun x0 => .sc (.bool x0)), .sl a0.next.length (a0.next.map fun x0 => .sl x0.length (x0.map fun x1 => .sc (.int .i64 x1)))]] = some (.sc (.int .i64 r), [.dead])) := ⟨fun r h => by have h := z4p h; unfold z8Q at h; exact z4O zzz zBD zDr⟩
abbrev z4T (a0 : DFA) (a1 : Int) (a2 : Int) : Int × Int -> Option ((Int × Int) ⊕ Int)
  | (w11, w12) =>
  if w12 < (a0.final.length : Int) then
    chk (¬ (IntKind.u64.wrap w12) < 0) <|
    if (z2a .i64 (z0l .i64 a1 (IntKind.u64.wrap w12)) 1) = 1 then
      (atI a0.next w12).bind fun v15 =>
      (atI v15 a2).bind fun v16 =>
      chk (¬ (IntKind.u64.wrap v16) < 0) <|
      z0e (orI .i64 w11 (zjM .i64 1 (IntKind.u64.wrap v16)), IntKind.i64.wrap (w12 + 1))
    else
      z0e (w11, IntKind.i64.wrap (w12 + 1))
  else
    z0k <|
    some w11
instance {a0 : DFA} {a1 : Int} {a2 : Int} : Hd (z4T a0 a1 a2) := ⟨fun (w11, w12) => ([(7, xI w11), (12, xI w12)], [])⟩
def z3Y (a0 : DFA) (a1 : Int) (a2 : Int) : Option (Int) :=
  z0j (z4T a0 a1 a2) LFm (0, 0)
instance ref24_Letter_ok {a0 : DFA} {a1 : Int} {a2 : Int} : Ok (z3Y a0 a1 a2) (fun r => L 30 [.agg [.sc (.int .i64 a0.letters), .sc (.int .i64 a0.start), .sl a0.final.length (a0.final.map fun x0 => .sc (.bool x0)), .sl a0.next.length (a0.next.map fun x0 => .sl x0.length (x0.map fun x1 => .sc (.int .i64 x1)))], .sc (.int .i64 a1), .sc (.int .i64 a2)] = some (.sc (.int .i64 r), [.dead, .dead, .dead])) := ⟨fun r h => by have h := z4p h; unfold z3Y at h; exact z4O zzZ zC2 zDQ⟩
abbrev z5E (a0 : DFA) (a1 : Int) (a2 : Int) : Int × Int -> Option ((Int × Int) ⊕ Int)
  | (w11, w12) =>
  if w12 < (a0.next.length : Int) then
    (atI a0.next w12).bind fun v15 =>
    chk (¬ w12 < 0) <|
    if (z2a .i64 (z0l .i64 a1 w12) 1) = 1 then
      (atI v15 a2).bind fun v16 =>
      chk (¬ v16 < 0) <|
      z0e (orI .i64 w11 (zjM .i64 1 v16), IntKind.i64.wrap (w12 + 1))
    else
      z0e (w11, IntKind.i64.wrap (w12 + 1))
  else
    z0k <|
    some w11
instance {a0 : DFA} {a1 : Int} {a2 : Int} : Hd (z5E a0 a1 a2) := ⟨fun (w11, w12) => ([(7, xI w11), (13, xI w12)], [])⟩
def z5n (a0 : DFA) (a1 : Int) (a2 : Int) : Option (Int) :=
  z0j (z5E a0 a1 a2) LFm (0, 0)
instance images_move_ok {a0 : DFA} {a1 : Int} {a2 : Int} : Ok (z5n a0 a1 a2) (fun r => L 72 [.agg [.sc (.int .i64 a0.letters), .sc (.int .i64 a0.start), .sl a0.final.length (a0.final.map fun x0 => .sc (.bool x0)), .sl a0.next.length (a0.next.map fun x0 => .sl x0.length (x0.map fun x1 => .sc (.int .i64 x1)))], .sc (.int .i64 a1), .sc (.int .i64 a2)] = some (.sc (.int .i64 r), [.dead, .dead, .dead])) := ⟨fun r h => by have h := z4p h; unfold z5n at h; exact z4O zzv zBz zDn⟩
abbrev z6u (a0 : DFA) (a2 : ByteArray) : Int × Int -> Option ((Int × Int) ⊕ Int)
  | (w11, w12) =>
  if w12 < (a2.size : Int) then
    (zmF a2 w12).bind fun v15 =>
    (z3Y a0 w11 (IntKind.i64.wrap (IntKind.u8.wrap (v15 - 97)))).bind fun v16 =>
    z0e (v16, IntKind.i64.wrap (w12 + 1))
  else
    z0k <|
    some w11
instance {a0 : DFA} {a2 : ByteArray} : Hd (z6u a0 a2) := ⟨fun (w11, w12) => ([(1, xI w11), (7, xI w12)], [])⟩
def z7U (a0 : DFA) (a1 : Int) (a2 : ByteArray) : Option (Int) :=
  z0j (z6u a0 a2) LFm (a1, 0)
instance ref24_Word_ok {a0 : DFA} {a1 : Int} {a2 : ByteArray} : Ok (z7U a0 a1 a2) (fun r => L 43 [.agg [.sc (.int .i64 a0.letters), .sc (.int .i64 a0.start), .sl a0.final.length (a0.final.map fun x0 => .sc (.bool x0)), .sl a0.next.length (a0.next.map fun x0 => .sl x0.length (x0.map fun x1 => .sc (.int .i64 x1)))], .sc (.int .i64 a1), .sc (.string a2)] = some (.sc (.int .i64 r), [.dead, .dead, .dead])) := ⟨fun r h => by have h := z4p h; unfold z7U at h; exact z4O zzS zBV zDJ⟩
def z2P (a0 : Int) (a1 : Int) : Option (Bool) :=
  some (decide ((zie .i64 a1 a0) = 0))
instance images_contains_ok {a0 : Int} {a1 : Int} : Ok (z2P a0 a1) (fun r => L 73 [.sc (.int .i64 a0), .sc (.int .i64 a1)] = some (.sc (.bool r), [.dead, .dead])) := ⟨fun r h => by have h := z4p h; unfold z2P at h; exact z4O zzu zBy zDm⟩
abbrev z4d (a0 : DFA) (w77 : Int) : Int × List Bool × List Int × List ByteArray -> Option ((Int × List Bool × List Int × List ByteArray) ⊕ ((Int × List Bool × List Int × List ByteArray) ⊕ (List Int × List ByteArray)))
  | (w105, w106, w107, w108) =>
  if w105 < a0.letters then
    (atI w107 w77).bind fun v114 =>
    (z5n a0 v114 w105).bind fun v115 =>
    (atI w106 v115).bind fun v116 =>
    if v116 = true then
      z0e (IntKind.i64.wrap (w105 + 1), w106, w107, w108)
    else
      chk (z1c 8 (w107.length + 1)) <|
      (atI w108 w77).bind fun v118 =>
      chk (z6K v118 ⟨#[UInt8.ofNat (IntKind.u8.wrap (IntKind.i64.wrap (97 + w105))).toNat]⟩) <|
      chk (z1c 16 (w108.length + 1)) <|
      z0e (IntKind.i64.wrap (w105 + 1), (w106.set v115.toNat true), w107 ++ [v115], w108 ++ [v118 ++ ⟨#[UInt8.ofNat (IntKind.u8.wrap (IntKind.i64.wrap (97 + w105))).toNat]⟩])
  else
    z0k <|
    z0e (IntKind.i64.wrap (w77 + 1), w106, w107, w108)
instance {a0 : DFA} {w77 : Int} : Hd (z4d a0 w77) := ⟨fun (w105, w106, w107, w108) => ([(31, xI w105)], [(6, .os 1 w106.length (w106.map fun x0 => .sc (.bool x0))), (7, .os 1 w107.length (w107.map fun x0 => .sc (.int .i64 x0))), (8, .os 1 w108.length (w108.map fun x0 => .sc (.string x0)))])⟩
abbrev z6Y (a0 : DFA) : Int × List Bool × List Int × List ByteArray -> Option ((Int × List Bool × List Int × List ByteArray) ⊕ (List Int × List ByteArray))
  | (w77, w78, w79, w80) =>
  if w77 < (w79.length : Int) then
    z0j (z4d a0 w77) LFm (0, w78, w79, w80)
  else
    z0k <|
    some (w79, w80)
instance {a0 : DFA} : Hd (z6Y a0) := ⟨fun (w77, w78, w79, w80) => ([(9, xI w77)], [(6, .os 1 w78.length (w78.map fun x0 => .sc (.bool x0))), (7, .os 1 w79.length (w79.map fun x0 => .sc (.int .i64 x0))), (8, .os 1 w80.length (w80.map fun x0 => .sc (.string x0)))])⟩
def z6g (a0 : DFA) (a1 : Int) : Option (List Int × List ByteArray) :=
  chk (¬ (a0.final.length : Int) < 0) <|
  chk (z1g 1 (zjM .i64 1 (a0.final.length : Int))) <|
  chk (0 <= a1 /\ a1 < (zjM .i64 1 (a0.final.length : Int))) <|
  z0j (z6Y a0) LFm (0, ((List.replicate (zjM .i64 1 (a0.final.length : Int)).toNat (false : Bool)).set a1.toNat true), [a1], [ByteArray.empty])
instance images_reach_ok {a0 : DFA} {a1 : Int} : Ok (z6g a0 a1) (fun r => L 66 [.agg [.sc (.int .i64 a0.letters), .sc (.int .i64 a0.start), .sl a0.final.length (a0.final.map fun x0 => .sc (.bool x0)), .sl a0.next.length (a0.next.map fun x0 => .sl x0.length (x0.map fun x1 => .sc (.int .i64 x1)))], .sc (.int .i64 a1)] = some (.tup [.os 1 r.1.length (r.1.map fun x0 => .sc (.int .i64 x0)), .os 1 r.2.length (r.2.map fun x0 => .sc (.string x0))], [.dead, .dead])) := ⟨fun r h => by have h := z4p h; unfold z6g at h; exact z4O zzy zBC zDq⟩
abbrev z4v (a0 : DFA) (w53 : Int) : Int × List Int × List ByteArray × (List (Int × Bool)) -> Option ((Int × List Int × List ByteArray × (List (Int × Bool))) ⊕ ((Int × List Int × List ByteArray × (List (Int × Bool))) ⊕ (List Int × List ByteArray)))
  | (w73, w74, w75, w76) =>
  if w73 < a0.letters then
    (atI w74 w53).bind fun v80 =>
    (z3Y a0 v80 w73).bind fun v81 =>
    if ((z8D v81 w76).getD false) = true then
      z0e (IntKind.i64.wrap (w73 + 1), w74, w75, w76)
    else
      (atI w75 w53).bind fun v82 =>
      chk (z1c 8 (w74.length + 1)) <|
      chk (z6K v82 ⟨#[UInt8.ofNat (IntKind.u8.wrap (IntKind.i64.wrap (97 + w73))).toNat]⟩) <|
      chk (z1c 16 (w75.length + 1)) <|
      z0e (IntKind.i64.wrap (w73 + 1), w74 ++ [v81], w75 ++ [v82 ++ ⟨#[UInt8.ofNat (IntKind.u8.wrap (IntKind.i64.wrap (97 + w73))).toNat]⟩], zaE v81 true w76)
  else
    z0k <|
    z0e (IntKind.i64.wrap (w53 + 1), w74, w75, w76)
instance {a0 : DFA} {w53 : Int} : Hd (z4v a0 w53) := ⟨fun (w73, w74, w75, w76) => ([(10, xI w73)], [(6, .os 1 w74.length (w74.map fun x0 => .sc (.int .i64 x0))), (7, .os 1 w75.length (w75.map fun x0 => .sc (.string x0))), (8, .mp (some .i64) (w76.map fun x0 => (.int .i64 x0.1, .bool x0.2)))])⟩
abbrev z7E (a0 : DFA) : Int × List Int × List ByteArray × (List (Int × Bool)) -> Option ((Int × List Int × List ByteArray × (List (Int × Bool))) ⊕ (List Int × List ByteArray))
  | (w53, w54, w55, w56) =>
  if w53 < (w54.length : Int) then
    z0j (z4v a0 w53) LFm (0, w54, w55, w56)
  else
    z0k <|
    some (w54, w55)
instance {a0 : DFA} : Hd (z7E a0) := ⟨fun (w53, w54, w55, w56) => ([(9, xI w53)], [(6, .os 1 w54.length (w54.map fun x0 => .sc (.int .i64 x0))), (7, .os 1 w55.length (w55.map fun x0 => .sc (.string x0))), (8, .mp (some .i64) (w56.map fun x0 => (.int .i64 x0.1, .bool x0.2)))])⟩
def z3W (a0 : DFA) (a1 : Int) : Option (List Int × List ByteArray) :=
  z0j (z7E a0) LFm (0, [a1], [ByteArray.empty], zaE a1 true ([] : List (Int × Bool)))
instance ref24_Reach_ok {a0 : DFA} {a1 : Int} : Ok (z3W a0 a1) (fun r => L 59 [.agg [.sc (.int .i64 a0.letters), .sc (.int .i64 a0.start), .sl a0.final.length (a0.final.map fun x0 => .sc (.bool x0)), .sl a0.next.length (a0.next.map fun x0 => .sl x0.length (x0.map fun x1 => .sc (.int .i64 x1)))], .sc (.int .i64 a1)] = some (.tup [.os 1 r.1.length (r.1.map fun x0 => .sc (.int .i64 x0)), .os 1 r.2.length (r.2.map fun x0 => .sc (.string x0))], [.dead, .dead])) := ⟨fun r h => by have h := z4p h; unfold z3W at h; exact z4O zzD zAy zAQ⟩
abbrev zaY : Int × Int -> Option ((Int × Int) ⊕ Int)
  | (w3, w4) =>
  if 0 < w3 then
    chk (¬ 1 < 0) <|
    z0e (z0l .i64 w3 1, IntKind.i64.wrap (w4 + (z2a .i64 w3 1)))
  else
    z0k <|
    some w4
instance : Hd (zaY) := ⟨fun (w3, w4) => ([(0, xI w3), (3, xI w4)], [])⟩
def z4g (a0 : Int) : Option (Int) :=
  z0j (zaY) LFm (a0, 0)
instance ref24_Size_ok {a0 : Int} : Ok (z4g a0) (fun r => L 61 [.sc (.int .i64 a0)] = some (.sc (.int .i64 r), [.dead])) := ⟨fun r h => by have h := z4p h; unfold z4g at h; exact z4O zzB zBF zDt⟩
def z2v (a0 : Int) : Option (Int) :=
  chk (¬ 1 < 0) <|
  chk (¬ 2 < 0) <|
  chk (¬ 4 < 0) <|
  chk (¬ 8 < 0) <|
  chk (¬ 16 < 0) <|
  chk (¬ 32 < 0) <|
  some (z2a .i64 (IntKind.i64.wrap (IntKind.u64.wrap ((IntKind.u64.wrap ((IntKind.u64.wrap ((z2a .u64 (IntKind.u64.wrap ((z0l .u64 (IntKind.u64.wrap ((z2a .u64 (z0l .u64 (IntKind.u64.wrap ((z2a .u64 (z0l .u64 a0 1) 6148914691236517205) + (z2a .u64 a0 6148914691236517205))) 2) 3689348814741910323) + (z2a .u64 (IntKind.u64.wrap ((z2a .u64 (z0l .u64 a0 1) 6148914691236517205) + (z2a .u64 a0 6148914691236517205))) 3689348814741910323))) 4) + (IntKind.u64.wrap ((z2a .u64 (z0l .u64 (IntKind.u64.wrap ((z2a .u64 (z0l .u64 a0 1) 6148914691236517205) + (z2a .u64 a0 6148914691236517205))) 2) 3689348814741910323) + (z2a .u64 (IntKind.u64.wrap ((z2a .u64 (z0l .u64 a0 1) 6148914691236517205) + (z2a .u64 a0 6148914691236517205))) 3689348814741910323))))) 1085102592571150095) + (z0l .u64 (z2a .u64 (IntKind.u64.wrap ((z0l .u64 (IntKind.u64.wrap ((z2a .u64 (z0l .u64 (IntKind.u64.wrap ((z2a .u64 (z0l .u64 a0 1) 6148914691236517205) + (z2a .u64 a0 6148914691236517205))) 2) 3689348814741910323) + (z2a .u64 (IntKind.u64.wrap ((z2a .u64 (z0l .u64 a0 1) 6148914691236517205) + (z2a .u64 a0 6148914691236517205))) 3689348814741910323))) 4) + (IntKind.u64.wrap ((z2a .u64 (z0l .u64 (IntKind.u64.wrap ((z2a .u64 (z0l .u64 a0 1) 6148914691236517205) + (z2a .u64 a0 6148914691236517205))) 2) 3689348814741910323) + (z2a .u64 (IntKind.u64.wrap ((z2a .u64 (z0l .u64 a0 1) 6148914691236517205) + (z2a .u64 a0 6148914691236517205))) 3689348814741910323))))) 1085102592571150095) 8))) + (z0l .u64 (IntKind.u64.wrap ((z2a .u64 (IntKind.u64.wrap ((z0l .u64 (IntKind.u64.wrap ((z2a .u64 (z0l .u64 (IntKind.u64.wrap ((z2a .u64 (z0l .u64 a0 1) 6148914691236517205) + (z2a .u64 a0 6148914691236517205))) 2) 3689348814741910323) + (z2a .u64 (IntKind.u64.wrap ((z2a .u64 (z0l .u64 a0 1) 6148914691236517205) + (z2a .u64 a0 6148914691236517205))) 3689348814741910323))) 4) + (IntKind.u64.wrap ((z2a .u64 (z0l .u64 (IntKind.u64.wrap ((z2a .u64 (z0l .u64 a0 1) 6148914691236517205) + (z2a .u64 a0 6148914691236517205))) 2) 3689348814741910323) + (z2a .u64 (IntKind.u64.wrap ((z2a .u64 (z0l .u64 a0 1) 6148914691236517205) + (z2a .u64 a0 6148914691236517205))) 3689348814741910323))))) 1085102592571150095) + (z0l .u64 (z2a .u64 (IntKind.u64.wrap ((z0l .u64 (IntKind.u64.wrap ((z2a .u64 (z0l .u64 (IntKind.u64.wrap ((z2a .u64 (z0l .u64 a0 1) 6148914691236517205) + (z2a .u64 a0 6148914691236517205))) 2) 3689348814741910323) + (z2a .u64 (IntKind.u64.wrap ((z2a .u64 (z0l .u64 a0 1) 6148914691236517205) + (z2a .u64 a0 6148914691236517205))) 3689348814741910323))) 4) + (IntKind.u64.wrap ((z2a .u64 (z0l .u64 (IntKind.u64.wrap ((z2a .u64 (z0l .u64 a0 1) 6148914691236517205) + (z2a .u64 a0 6148914691236517205))) 2) 3689348814741910323) + (z2a .u64 (IntKind.u64.wrap ((z2a .u64 (z0l .u64 a0 1) 6148914691236517205) + (z2a .u64 a0 6148914691236517205))) 3689348814741910323))))) 1085102592571150095) 8))) 16))) + (z0l .u64 (IntKind.u64.wrap ((IntKind.u64.wrap ((z2a .u64 (IntKind.u64.wrap ((z0l .u64 (IntKind.u64.wrap ((z2a .u64 (z0l .u64 (IntKind.u64.wrap ((z2a .u64 (z0l .u64 a0 1) 6148914691236517205) + (z2a .u64 a0 6148914691236517205))) 2) 3689348814741910323) + (z2a .u64 (IntKind.u64.wrap ((z2a .u64 (z0l .u64 a0 1) 6148914691236517205) + (z2a .u64 a0 6148914691236517205))) 3689348814741910323))) 4) + (IntKind.u64.wrap ((z2a .u64 (z0l .u64 (IntKind.u64.wrap ((z2a .u64 (z0l .u64 a0 1) 6148914691236517205) + (z2a .u64 a0 6148914691236517205))) 2) 3689348814741910323) + (z2a .u64 (IntKind.u64.wrap ((z2a .u64 (z0l .u64 a0 1) 6148914691236517205) + (z2a .u64 a0 6148914691236517205))) 3689348814741910323))))) 1085102592571150095) + (z0l .u64 (z2a .u64 (IntKind.u64.wrap ((z0l .u64 (IntKind.u64.wrap ((z2a .u64 (z0l .u64 (IntKind.u64.wrap ((z2a .u64 (z0l .u64 a0 1) 6148914691236517205) + (z2a .u64 a0 6148914691236517205))) 2) 3689348814741910323) + (z2a .u64 (IntKind.u64.wrap ((z2a .u64 (z0l .u64 a0 1) 6148914691236517205) + (z2a .u64 a0 6148914691236517205))) 3689348814741910323))) 4) + (IntKind.u64.wrap ((z2a .u64 (z0l .u64 (IntKind.u64.wrap ((z2a .u64 (z0l .u64 a0 1) 6148914691236517205) + (z2a .u64 a0 6148914691236517205))) 2) 3689348814741910323) + (z2a .u64 (IntKind.u64.wrap ((z2a .u64 (z0l .u64 a0 1) 6148914691236517205) + (z2a .u64 a0 6148914691236517205))) 3689348814741910323))))) 1085102592571150095) 8))) + (z0l .u64 (IntKind.u64.wrap ((z2a .u64 (IntKind.u64.wrap ((z0l .u64 (IntKind.u64.wrap ((z2a .u64 (z0l .u64 (IntKind.u64.wrap ((z2a .u64 (z0l .u64 a0 1) 6148914691236517205) + (z2a .u64 a0 6148914691236517205))) 2) 3689348814741910323) + (z2a .u64 (IntKind.u64.wrap ((z2a .u64 (z0l .u64 a0 1) 6148914691236517205) + (z2a .u64 a0 6148914691236517205))) 3689348814741910323))) 4) + (IntKind.u64.wrap ((z2a .u64 (z0l .u64 (IntKind.u64.wrap ((z2a .u64 (z0l .u64 a0 1) 6148914691236517205) + (z2a .u64 a0 6148914691236517205))) 2) 3689348814741910323) + (z2a .u64 (IntKind.u64.wrap ((z2a .u64 (z0l .u64 a0 1) 6148914691236517205) + (z2a .u64 a0 6148914691236517205))) 3689348814741910323))))) 1085102592571150095) + (z0l .u64 (z2a .u64 (IntKind.u64.wrap ((z0l .u64 (IntKind.u64.wrap ((z2a .u64 (z0l .u64 (IntKind.u64.wrap ((z2a .u64 (z0l .u64 a0 1) 6148914691236517205) + (z2a .u64 a0 6148914691236517205))) 2) 3689348814741910323) + (z2a .u64 (IntKind.u64.wrap ((z2a .u64 (z0l .u64 a0 1) 6148914691236517205) + (z2a .u64 a0 6148914691236517205))) 3689348814741910323))) 4) + (IntKind.u64.wrap ((z2a .u64 (z0l .u64 (IntKind.u64.wrap ((z2a .u64 (z0l .u64 a0 1) 6148914691236517205) + (z2a .u64 a0 6148914691236517205))) 2) 3689348814741910323) + (z2a .u64 (IntKind.u64.wrap ((z2a .u64 (z0l .u64 a0 1) 6148914691236517205) + (z2a .u64 a0 6148914691236517205))) 3689348814741910323))))) 1085102592571150095) 8))) 16))) 32)))) 127)
instance math_bits_OnesCount64_ok {a0 : Int} : Ok (z2v a0) (fun r => L 96 [.sc (.int .u64 a0)] = some (.sc (.int .i64 r), [.dead])) := ⟨fun r h => by have h := z4p h; unfold z2v at h; exact z4O zzo zBs zDg⟩
def z3E (a0 : Int) : Option (Int) :=
  (z2v a0).bind fun v2 =>
  some v2
instance math_bits_OnesCount_ok {a0 : Int} : Ok (z3E a0) (fun r => L 83 [.sc (.int .u64 a0)] = some (.sc (.int .i64 r), [.dead])) := ⟨fun r h => by have h := z4p h; unfold z3E at h; exact z4O zzp zBt zDh⟩
def z5m (a0 : Int) : Option (Int) :=
  (z3E (IntKind.u64.wrap a0)).bind fun v2 =>
  some v2
instance images_size_ok {a0 : Int} : Ok (z5m a0) (fun r => L 71 [.sc (.int .i64 a0)] = some (.sc (.int .i64 r), [.dead])) := ⟨fun r h => by have h := z4p h; unfold z5m at h; exact z4O zzw zBA zDo⟩
end
end
section
open Go
noncomputable section
set_option maxRecDepth 100000
set_option maxHeartbeats 6000000
def cmp_isNaN_int (a0 : Int) : Option (Bool) :=
  some (!decide (a0 = a0))
instance cmp_isNaN_int_ok {a0 : Int} : Ok (cmp_isNaN_int a0) (fun r => L 76 [.sc (.int .i64 a0)] = some (.sc (.bool r), [.dead])) := ⟨fun r h => by have h := z4p h; unfold cmp_isNaN_int at h; exact z4O zzs zBw zDk⟩
def cmp_Compare_int (a0 : Int) (a1 : Int) : Option (Int) :=
  (cmp_isNaN_int a0).bind fun v3 =>
  (cmp_isNaN_int a1).bind fun v4 =>
  if v3 = true then
    if v4 = true then
      some 0
    else
      some (-1)
  else
    if v4 = true then
      some 1
    else
      if a0 < a1 then
        some (-1)
      else
        if a1 < a0 then
          some 1
        else
          some 0
instance cmp_Compare_int_ok {a0 : Int} {a1 : Int} : Ok (cmp_Compare_int a0 a1) (fun r => L 54 [.sc (.int .i64 a0), .sc (.int .i64 a1)] = some (.sc (.int .i64 r), [.dead, .dead])) := ⟨fun r h => by have h := z4p h; unfold cmp_Compare_int at h; exact z4O zzI zBL zDz⟩
def z0U (a0 : Int) (a1 : Int) (m1 : List Int) : Option (Int) :=
  (atI m1 a0).bind fun v4 =>
  (atI m1 a1).bind fun v5 =>
  (cmp_Compare_int v4 v5).bind fun v6 =>
  some v6
instance images_diagram_heights_1_ok {a0 : Int} {a1 : Int} {m1 : List Int} : Ok (z0U a0 a1 m1) (fun r => L 74 [.sc (.int .i64 a0), .sc (.int .i64 a1), .pr [.sl m1.length (m1.map fun x0 => .sc (.int .i64 x0))]] = some (.sc (.int .i64 r), [.dead, .dead, .dead])) := ⟨fun r h => by have h := z4p h; unfold z0U at h; exact z4O zzt zBx zDl⟩
abbrev z1e (a1 : Int) (m3 : List Int) (w95 : Int) : Int × List Int -> Option ((Int × List Int) ⊕ ((Int × List Int) ⊕ List Int))
  | (w127, w128) =>
  if a1 < w127 then
    (atI w128 w127).bind fun v136 =>
    (atI w128 (IntKind.i64.wrap (w127 - 1))).bind fun v137 =>
    (z0U v136 v137 m3).bind fun v138 =>
    if v138 < 0 then
      (atI (w128.set w127.toNat v137) (IntKind.i64.wrap (w127 - 1))).bind fun v142 =>
      z0e (IntKind.i64.wrap (w127 - 1), ((w128.set w127.toNat v137).set (IntKind.i64.wrap (w127 - 1)).toNat v136))
    else
      z0k <|
      z0e (IntKind.i64.wrap (w95 + 1), w128)
  else
    z0k <|
    z0e (IntKind.i64.wrap (w95 + 1), w128)
instance {a1 : Int} {m3 : List Int} {w95 : Int} : Hd (z1e a1 m3 w95) := ⟨fun (w127, w128) => ([(9, xI w127)], [(0, .os 1 w128.length (w128.map fun x0 => .sc (.int .i64 x0)))])⟩
abbrev z1f (a1 : Int) (a2 : Int) (m3 : List Int) : Int × List Int -> Option ((Int × List Int) ⊕ List Int)
  | (w95, w96) =>
  if w95 < a2 then
    z0j (z1e a1 m3 w95) LFm (w95, w96)
  else
    z0k <|
    some w96
instance {a1 : Int} {a2 : Int} {m3 : List Int} : Hd (z1f a1 a2 m3) := ⟨fun (w95, w96) => ([(8, xI w95)], [(0, .os 1 w96.length (w96.map fun x0 => .sc (.int .i64 x0)))])⟩
def z0y (a0 : List Int) (a1 : Int) (a2 : Int) (m3 : List Int) : Option (List Int) :=
  z0j (z1f a1 a2 m3) LFm (IntKind.i64.wrap (a1 + 1), a0)
instance slices_insertionSortCmpFunc_int_images_diagram_heights_1_ok {a0 : List Int} {a1 : Int} {a2 : Int} {m3 : List Int} : Ok (z0y a0 a1 a2 m3) (fun r => L 84 [.os 1 a0.length (a0.map fun x0 => .sc (.int .i64 x0)), .sc (.int .i64 a1), .sc (.int .i64 a2), .cl 74 [.pr [.sl m3.length (m3.map fun x0 => .sc (.int .i64 x0))]]] = some (.tup [], [.os 1 r.length (r.map fun x0 => .sc (.int .i64 x0)), .dead, .dead, .dead])) := ⟨fun r h => by have h := z4p h; unfold z0y at h; exact z4O zxf zAw zAO⟩
abbrev z1n (a1 : Int) (a2 : Int) (a3 : Int) : Int × List Int -> Option ((Int × List Int) ⊕ List Int)
  | (w19, w20) =>
  if w19 < a3 then
    (atI w20 (IntKind.i64.wrap (a2 + w19))).bind fun v25 =>
    (atI w20 (IntKind.i64.wrap (a1 + w19))).bind fun v26 =>
    (atI (w20.set (IntKind.i64.wrap (a1 + w19)).toNat v25) (IntKind.i64.wrap (a2 + w19))).bind fun v28 =>
    z0e (IntKind.i64.wrap (w19 + 1), ((w20.set (IntKind.i64.wrap (a1 + w19)).toNat v25).set (IntKind.i64.wrap (a2 + w19)).toNat v26))
  else
    z0k <|
    some w20
instance {a1 : Int} {a2 : Int} {a3 : Int} : Hd (z1n a1 a2 a3) := ⟨fun (w19, w20) => ([(10, xI w19)], [(0, .os 1 w20.length (w20.map fun x0 => .sc (.int .i64 x0)))])⟩
def z0v (a0 : List Int) (a1 : Int) (a2 : Int) (a3 : Int) (m0 : List Int) : Option (List Int) :=
  z0j (z1n a1 a2 a3) LFm (0, a0)
instance slices_swapRangeCmpFunc_int_images_diagram_heights_1_ok {a0 : List Int} {a1 : Int} {a2 : Int} {a3 : Int} {m0 : List Int} : Ok (z0v a0 a1 a2 a3 m0) (fun r => L 103 [.os 1 a0.length (a0.map fun x0 => .sc (.int .i64 x0)), .sc (.int .i64 a1), .sc (.int .i64 a2), .sc (.int .i64 a3), .cl 74 [.pr [.sl m0.length (m0.map fun x0 => .sc (.int .i64 x0))]]] = some (.tup [], [.os 1 r.length (r.map fun x0 => .sc (.int .i64 x0)), .dead, .dead, .dead, .dead])) := ⟨fun r h => by have h := z4p h; unfold z0v at h; exact z4O zuD zx8 zxj⟩
abbrev z1x (a2 : Int) (m0 : List Int) : Int × Int × List Int -> Option ((Int × Int × List Int) ⊕ List Int)
  | (w13, w15, w14) =>
  if w13 = w15 then
    z0k <|
    (z0v w14 (IntKind.i64.wrap (a2 - w13)) a2 w13 m0).bind fun v18 =>
    some v18
  else
    if w15 < w13 then
      (z0v w14 (IntKind.i64.wrap (a2 - w13)) a2 w15 m0).bind fun v19 =>
      z0e (IntKind.i64.wrap (w13 - w15), w15, v19)
    else
      (z0v w14 (IntKind.i64.wrap (a2 - w13)) (IntKind.i64.wrap ((IntKind.i64.wrap (a2 + w15)) - w13)) w13 m0).bind fun v20 =>
      z0e (w13, IntKind.i64.wrap (w15 - w13), v20)
instance {a2 : Int} {m0 : List Int} : Hd (z1x a2 m0) := ⟨fun (w13, w15, w14) => ([(10, xI w13), (11, xI w15)], [(0, .os 1 w14.length (w14.map fun x0 => .sc (.int .i64 x0)))])⟩
def z0L (a0 : List Int) (a1 : Int) (a2 : Int) (a3 : Int) (m0 : List Int) : Option (List Int) :=
  z0j (z1x a2 m0) LFm (IntKind.i64.wrap (a2 - a1), IntKind.i64.wrap (a3 - a2), a0)
instance slices_rotateCmpFunc_int_images_diagram_heights_1_ok {a0 : List Int} {a1 : Int} {a2 : Int} {a3 : Int} {m0 : List Int} : Ok (z0L a0 a1 a2 a3 m0) (fun r => L 97 [.os 1 a0.length (a0.map fun x0 => .sc (.int .i64 x0)), .sc (.int .i64 a1), .sc (.int .i64 a2), .sc (.int .i64 a3), .cl 74 [.pr [.sl m0.length (m0.map fun x0 => .sc (.int .i64 x0))]]] = some (.tup [], [.os 1 r.length (r.map fun x0 => .sc (.int .i64 x0)), .dead, .dead, .dead, .dead])) := ⟨fun r h => by have h := z4p h; unfold z0L at h; exact z4O zxd zAu zAM⟩
abbrev z1o (w102 : Int) : Int × List Int -> Option ((Int × List Int) ⊕ List Int)
  | (w114, w115) =>
  if w114 < (IntKind.i64.wrap (w102 - 1)) then
    (atI w115 (IntKind.i64.wrap (w114 + 1))).bind fun v120 =>
    (atI w115 w114).bind fun v121 =>
    (atI (w115.set w114.toNat v120) (IntKind.i64.wrap (w114 + 1))).bind fun v123 =>
    z0e (IntKind.i64.wrap (w114 + 1), ((w115.set w114.toNat v120).set (IntKind.i64.wrap (w114 + 1)).toNat v121))
  else
    z0k <|
    some w115
instance {w102 : Int} : Hd (z1o w102) := ⟨fun (w114, w115) => ([(13, xI w114)], [(0, .os 1 w115.length (w115.map fun x0 => .sc (.int .i64 x0)))])⟩
abbrev z1p (a0 : List Int) (a1 : Int) (m0 : List Int) : Int × Int -> Option ((Int × Int) ⊕ List Int)
  | (w102, w103) =>
  if w102 < w103 then
    chk (¬ 1 < 0) <|
    (atI a0 (IntKind.i64.wrap (z0l .u64 (IntKind.u64.wrap (IntKind.i64.wrap (w102 + w103))) 1))).bind fun v107 =>
    (atI a0 a1).bind fun v108 =>
    (z0U v107 v108 m0).bind fun v109 =>
    if v109 < 0 then
      z0e (IntKind.i64.wrap ((IntKind.i64.wrap (z0l .u64 (IntKind.u64.wrap (IntKind.i64.wrap (w102 + w103))) 1)) + 1), w103)
    else
      z0e (w102, IntKind.i64.wrap (z0l .u64 (IntKind.u64.wrap (IntKind.i64.wrap (w102 + w103))) 1))
  else
    z0k <|
    z0j (z1o w102) LFm (a1, a0)
instance {a0 : List Int} {a1 : Int} {m0 : List Int} : Hd (z1p a0 a1 m0) := ⟨fun (w102, w103) => ([(10, xI w102), (11, xI w103)], [])⟩
abbrev z1l (w128 : Int) : Int × List Int -> Option ((Int × List Int) ⊕ List Int)
  | (w139, w140) =>
  if w128 < w139 then
    (atI w140 (IntKind.i64.wrap (w139 - 1))).bind fun v145 =>
    (atI w140 w139).bind fun v146 =>
    (atI (w140.set w139.toNat v145) (IntKind.i64.wrap (w139 - 1))).bind fun v148 =>
    z0e (IntKind.i64.wrap (w139 - 1), ((w140.set w139.toNat v145).set (IntKind.i64.wrap (w139 - 1)).toNat v146))
  else
    z0k <|
    some w140
instance {w128 : Int} : Hd (z1l w128) := ⟨fun (w139, w140) => ([(17, xI w139)], [(0, .os 1 w140.length (w140.map fun x0 => .sc (.int .i64 x0)))])⟩
abbrev z1m (a0 : List Int) (a2 : Int) (m0 : List Int) : Int × Int -> Option ((Int × Int) ⊕ List Int)
  | (w128, w127) =>
  if w128 < w127 then
    chk (¬ 1 < 0) <|
    (atI a0 a2).bind fun v132 =>
    (atI a0 (IntKind.i64.wrap (z0l .u64 (IntKind.u64.wrap (IntKind.i64.wrap (w128 + w127))) 1))).bind fun v133 =>
    (z0U v132 v133 m0).bind fun v134 =>
    if v134 < 0 then
      z0e (w128, IntKind.i64.wrap (z0l .u64 (IntKind.u64.wrap (IntKind.i64.wrap (w128 + w127))) 1))
    else
      z0e (IntKind.i64.wrap ((IntKind.i64.wrap (z0l .u64 (IntKind.u64.wrap (IntKind.i64.wrap (w128 + w127))) 1)) + 1), w127)
  else
    z0k <|
    z0j (z1l w128) LFm (a2, a0)
instance {a0 : List Int} {a2 : Int} {m0 : List Int} : Hd (z1m a0 a2 m0) := ⟨fun (w128, w127) => ([(14, xI w128), (15, xI w127)], [])⟩
abbrev z1k (a0 : List Int) (a1 : Int) (a2 : Int) (a3 : Int) (m0 : List Int) (rf : List Int -> Int -> Int -> Int -> List Int -> Option (List Int)) : Int × Int -> Option ((Int × Int) ⊕ List Int)
  | (w153, w152) =>
  if w153 < w152 then
    chk (¬ 1 < 0) <|
    (atI a0 (IntKind.i64.wrap ((IntKind.i64.wrap ((IntKind.i64.wrap ((IntKind.i64.wrap (z0l .u64 (IntKind.u64.wrap (IntKind.i64.wrap (a1 + a3))) 1)) + a2)) - 1)) - (IntKind.i64.wrap (z0l .u64 (IntKind.u64.wrap (IntKind.i64.wrap (w153 + w152))) 1))))).bind fun v157 =>
    (atI a0 (IntKind.i64.wrap (z0l .u64 (IntKind.u64.wrap (IntKind.i64.wrap (w153 + w152))) 1))).bind fun v158 =>
    (z0U v157 v158 m0).bind fun v159 =>
    if v159 < 0 then
      z0e (w153, IntKind.i64.wrap (z0l .u64 (IntKind.u64.wrap (IntKind.i64.wrap (w153 + w152))) 1))
    else
      z0e (IntKind.i64.wrap ((IntKind.i64.wrap (z0l .u64 (IntKind.u64.wrap (IntKind.i64.wrap (w153 + w152))) 1)) + 1), w152)
  else
    z0k <|
    if w153 < a2 then
      if a2 < (IntKind.i64.wrap ((IntKind.i64.wrap ((IntKind.i64.wrap (z0l .u64 (IntKind.u64.wrap (IntKind.i64.wrap (a1 + a3))) 1)) + a2)) - w153)) then
        (z0L a0 w153 a2 (IntKind.i64.wrap ((IntKind.i64.wrap ((IntKind.i64.wrap (z0l .u64 (IntKind.u64.wrap (IntKind.i64.wrap (a1 + a3))) 1)) + a2)) - w153)) m0).bind fun v160 =>
        if a1 < w153 then
          if w153 < (IntKind.i64.wrap (z0l .u64 (IntKind.u64.wrap (IntKind.i64.wrap (a1 + a3))) 1)) then
            (rf v160 a1 w153 (IntKind.i64.wrap (z0l .u64 (IntKind.u64.wrap (IntKind.i64.wrap (a1 + a3))) 1)) m0).bind fun v161 =>
            if (IntKind.i64.wrap (z0l .u64 (IntKind.u64.wrap (IntKind.i64.wrap (a1 + a3))) 1)) < (IntKind.i64.wrap ((IntKind.i64.wrap ((IntKind.i64.wrap (z0l .u64 (IntKind.u64.wrap (IntKind.i64.wrap (a1 + a3))) 1)) + a2)) - w153)) then
              if (IntKind.i64.wrap ((IntKind.i64.wrap ((IntKind.i64.wrap (z0l .u64 (IntKind.u64.wrap (IntKind.i64.wrap (a1 + a3))) 1)) + a2)) - w153)) < a3 then
                (rf v161 (IntKind.i64.wrap (z0l .u64 (IntKind.u64.wrap (IntKind.i64.wrap (a1 + a3))) 1)) (IntKind.i64.wrap ((IntKind.i64.wrap ((IntKind.i64.wrap (z0l .u64 (IntKind.u64.wrap (IntKind.i64.wrap (a1 + a3))) 1)) + a2)) - w153)) a3 m0).bind fun v162 =>
                some v162
              else
                some v161
            else
              some v161
          else
            if (IntKind.i64.wrap (z0l .u64 (IntKind.u64.wrap (IntKind.i64.wrap (a1 + a3))) 1)) < (IntKind.i64.wrap ((IntKind.i64.wrap ((IntKind.i64.wrap (z0l .u64 (IntKind.u64.wrap (IntKind.i64.wrap (a1 + a3))) 1)) + a2)) - w153)) then
              if (IntKind.i64.wrap ((IntKind.i64.wrap ((IntKind.i64.wrap (z0l .u64 (IntKind.u64.wrap (IntKind.i64.wrap (a1 + a3))) 1)) + a2)) - w153)) < a3 then
                (rf v160 (IntKind.i64.wrap (z0l .u64 (IntKind.u64.wrap (IntKind.i64.wrap (a1 + a3))) 1)) (IntKind.i64.wrap ((IntKind.i64.wrap ((IntKind.i64.wrap (z0l .u64 (IntKind.u64.wrap (IntKind.i64.wrap (a1 + a3))) 1)) + a2)) - w153)) a3 m0).bind fun v163 =>
                some v163
              else
                some v160
            else
              some v160
        else
          if (IntKind.i64.wrap (z0l .u64 (IntKind.u64.wrap (IntKind.i64.wrap (a1 + a3))) 1)) < (IntKind.i64.wrap ((IntKind.i64.wrap ((IntKind.i64.wrap (z0l .u64 (IntKind.u64.wrap (IntKind.i64.wrap (a1 + a3))) 1)) + a2)) - w153)) then
            if (IntKind.i64.wrap ((IntKind.i64.wrap ((IntKind.i64.wrap (z0l .u64 (IntKind.u64.wrap (IntKind.i64.wrap (a1 + a3))) 1)) + a2)) - w153)) < a3 then
              (rf v160 (IntKind.i64.wrap (z0l .u64 (IntKind.u64.wrap (IntKind.i64.wrap (a1 + a3))) 1)) (IntKind.i64.wrap ((IntKind.i64.wrap ((IntKind.i64.wrap (z0l .u64 (IntKind.u64.wrap (IntKind.i64.wrap (a1 + a3))) 1)) + a2)) - w153)) a3 m0).bind fun v164 =>
              some v164
            else
              some v160
          else
            some v160
      else
        if a1 < w153 then
          if w153 < (IntKind.i64.wrap (z0l .u64 (IntKind.u64.wrap (IntKind.i64.wrap (a1 + a3))) 1)) then
            (rf a0 a1 w153 (IntKind.i64.wrap (z0l .u64 (IntKind.u64.wrap (IntKind.i64.wrap (a1 + a3))) 1)) m0).bind fun v165 =>
            if (IntKind.i64.wrap (z0l .u64 (IntKind.u64.wrap (IntKind.i64.wrap (a1 + a3))) 1)) < (IntKind.i64.wrap ((IntKind.i64.wrap ((IntKind.i64.wrap (z0l .u64 (IntKind.u64.wrap (IntKind.i64.wrap (a1 + a3))) 1)) + a2)) - w153)) then
              if (IntKind.i64.wrap ((IntKind.i64.wrap ((IntKind.i64.wrap (z0l .u64 (IntKind.u64.wrap (IntKind.i64.wrap (a1 + a3))) 1)) + a2)) - w153)) < a3 then
                (rf v165 (IntKind.i64.wrap (z0l .u64 (IntKind.u64.wrap (IntKind.i64.wrap (a1 + a3))) 1)) (IntKind.i64.wrap ((IntKind.i64.wrap ((IntKind.i64.wrap (z0l .u64 (IntKind.u64.wrap (IntKind.i64.wrap (a1 + a3))) 1)) + a2)) - w153)) a3 m0).bind fun v166 =>
                some v166
              else
                some v165
            else
              some v165
          else
            if (IntKind.i64.wrap (z0l .u64 (IntKind.u64.wrap (IntKind.i64.wrap (a1 + a3))) 1)) < (IntKind.i64.wrap ((IntKind.i64.wrap ((IntKind.i64.wrap (z0l .u64 (IntKind.u64.wrap (IntKind.i64.wrap (a1 + a3))) 1)) + a2)) - w153)) then
              if (IntKind.i64.wrap ((IntKind.i64.wrap ((IntKind.i64.wrap (z0l .u64 (IntKind.u64.wrap (IntKind.i64.wrap (a1 + a3))) 1)) + a2)) - w153)) < a3 then
                (rf a0 (IntKind.i64.wrap (z0l .u64 (IntKind.u64.wrap (IntKind.i64.wrap (a1 + a3))) 1)) (IntKind.i64.wrap ((IntKind.i64.wrap ((IntKind.i64.wrap (z0l .u64 (IntKind.u64.wrap (IntKind.i64.wrap (a1 + a3))) 1)) + a2)) - w153)) a3 m0).bind fun v167 =>
                some v167
              else
                some a0
            else
              some a0
        else
          if (IntKind.i64.wrap (z0l .u64 (IntKind.u64.wrap (IntKind.i64.wrap (a1 + a3))) 1)) < (IntKind.i64.wrap ((IntKind.i64.wrap ((IntKind.i64.wrap (z0l .u64 (IntKind.u64.wrap (IntKind.i64.wrap (a1 + a3))) 1)) + a2)) - w153)) then
            if (IntKind.i64.wrap ((IntKind.i64.wrap ((IntKind.i64.wrap (z0l .u64 (IntKind.u64.wrap (IntKind.i64.wrap (a1 + a3))) 1)) + a2)) - w153)) < a3 then
              (rf a0 (IntKind.i64.wrap (z0l .u64 (IntKind.u64.wrap (IntKind.i64.wrap (a1 + a3))) 1)) (IntKind.i64.wrap ((IntKind.i64.wrap ((IntKind.i64.wrap (z0l .u64 (IntKind.u64.wrap (IntKind.i64.wrap (a1 + a3))) 1)) + a2)) - w153)) a3 m0).bind fun v168 =>
              some v168
            else
              some a0
          else
            some a0
    else
      if a1 < w153 then
        if w153 < (IntKind.i64.wrap (z0l .u64 (IntKind.u64.wrap (IntKind.i64.wrap (a1 + a3))) 1)) then
          (rf a0 a1 w153 (IntKind.i64.wrap (z0l .u64 (IntKind.u64.wrap (IntKind.i64.wrap (a1 + a3))) 1)) m0).bind fun v169 =>
          if (IntKind.i64.wrap (z0l .u64 (IntKind.u64.wrap (IntKind.i64.wrap (a1 + a3))) 1)) < (IntKind.i64.wrap ((IntKind.i64.wrap ((IntKind.i64.wrap (z0l .u64 (IntKind.u64.wrap (IntKind.i64.wrap (a1 + a3))) 1)) + a2)) - w153)) then
            if (IntKind.i64.wrap ((IntKind.i64.wrap ((IntKind.i64.wrap (z0l .u64 (IntKind.u64.wrap (IntKind.i64.wrap (a1 + a3))) 1)) + a2)) - w153)) < a3 then
              (rf v169 (IntKind.i64.wrap (z0l .u64 (IntKind.u64.wrap (IntKind.i64.wrap (a1 + a3))) 1)) (IntKind.i64.wrap ((IntKind.i64.wrap ((IntKind.i64.wrap (z0l .u64 (IntKind.u64.wrap (IntKind.i64.wrap (a1 + a3))) 1)) + a2)) - w153)) a3 m0).bind fun v170 =>
              some v170
            else
              some v169
          else
            some v169
        else
          if (IntKind.i64.wrap (z0l .u64 (IntKind.u64.wrap (IntKind.i64.wrap (a1 + a3))) 1)) < (IntKind.i64.wrap ((IntKind.i64.wrap ((IntKind.i64.wrap (z0l .u64 (IntKind.u64.wrap (IntKind.i64.wrap (a1 + a3))) 1)) + a2)) - w153)) then
            if (IntKind.i64.wrap ((IntKind.i64.wrap ((IntKind.i64.wrap (z0l .u64 (IntKind.u64.wrap (IntKind.i64.wrap (a1 + a3))) 1)) + a2)) - w153)) < a3 then
              (rf a0 (IntKind.i64.wrap (z0l .u64 (IntKind.u64.wrap (IntKind.i64.wrap (a1 + a3))) 1)) (IntKind.i64.wrap ((IntKind.i64.wrap ((IntKind.i64.wrap (z0l .u64 (IntKind.u64.wrap (IntKind.i64.wrap (a1 + a3))) 1)) + a2)) - w153)) a3 m0).bind fun v171 =>
              some v171
            else
              some a0
          else
            some a0
      else
        if (IntKind.i64.wrap (z0l .u64 (IntKind.u64.wrap (IntKind.i64.wrap (a1 + a3))) 1)) < (IntKind.i64.wrap ((IntKind.i64.wrap ((IntKind.i64.wrap (z0l .u64 (IntKind.u64.wrap (IntKind.i64.wrap (a1 + a3))) 1)) + a2)) - w153)) then
          if (IntKind.i64.wrap ((IntKind.i64.wrap ((IntKind.i64.wrap (z0l .u64 (IntKind.u64.wrap (IntKind.i64.wrap (a1 + a3))) 1)) + a2)) - w153)) < a3 then
            (rf a0 (IntKind.i64.wrap (z0l .u64 (IntKind.u64.wrap (IntKind.i64.wrap (a1 + a3))) 1)) (IntKind.i64.wrap ((IntKind.i64.wrap ((IntKind.i64.wrap (z0l .u64 (IntKind.u64.wrap (IntKind.i64.wrap (a1 + a3))) 1)) + a2)) - w153)) a3 m0).bind fun v172 =>
            some v172
          else
            some a0
        else
          some a0
instance {a0 : List Int} {a1 : Int} {a2 : Int} {a3 : Int} {m0 : List Int} {rf : List Int -> Int -> Int -> Int -> List Int -> Option (List Int)} : Hd (z1k a0 a1 a2 a3 m0 rf) := ⟨fun (w153, w152) => ([(20, xI w153), (21, xI w152)], [])⟩
abbrev z1i (a0 : List Int) (a1 : Int) (a2 : Int) (a3 : Int) (m0 : List Int) (rf : List Int -> Int -> Int -> Int -> List Int -> Option (List Int)) : Int × Int -> Option ((Int × Int) ⊕ List Int)
  | (w177, w176) =>
  if w177 < w176 then
    chk (¬ 1 < 0) <|
    (atI a0 (IntKind.i64.wrap ((IntKind.i64.wrap ((IntKind.i64.wrap ((IntKind.i64.wrap (z0l .u64 (IntKind.u64.wrap (IntKind.i64.wrap (a1 + a3))) 1)) + a2)) - 1)) - (IntKind.i64.wrap (z0l .u64 (IntKind.u64.wrap (IntKind.i64.wrap (w177 + w176))) 1))))).bind fun v181 =>
    (atI a0 (IntKind.i64.wrap (z0l .u64 (IntKind.u64.wrap (IntKind.i64.wrap (w177 + w176))) 1))).bind fun v182 =>
    (z0U v181 v182 m0).bind fun v183 =>
    if v183 < 0 then
      z0e (w177, IntKind.i64.wrap (z0l .u64 (IntKind.u64.wrap (IntKind.i64.wrap (w177 + w176))) 1))
    else
      z0e (IntKind.i64.wrap ((IntKind.i64.wrap (z0l .u64 (IntKind.u64.wrap (IntKind.i64.wrap (w177 + w176))) 1)) + 1), w176)
  else
    z0k <|
    if w177 < a2 then
      if a2 < (IntKind.i64.wrap ((IntKind.i64.wrap ((IntKind.i64.wrap (z0l .u64 (IntKind.u64.wrap (IntKind.i64.wrap (a1 + a3))) 1)) + a2)) - w177)) then
        (z0L a0 w177 a2 (IntKind.i64.wrap ((IntKind.i64.wrap ((IntKind.i64.wrap (z0l .u64 (IntKind.u64.wrap (IntKind.i64.wrap (a1 + a3))) 1)) + a2)) - w177)) m0).bind fun v184 =>
        if a1 < w177 then
          if w177 < (IntKind.i64.wrap (z0l .u64 (IntKind.u64.wrap (IntKind.i64.wrap (a1 + a3))) 1)) then
            (rf v184 a1 w177 (IntKind.i64.wrap (z0l .u64 (IntKind.u64.wrap (IntKind.i64.wrap (a1 + a3))) 1)) m0).bind fun v185 =>
            if (IntKind.i64.wrap (z0l .u64 (IntKind.u64.wrap (IntKind.i64.wrap (a1 + a3))) 1)) < (IntKind.i64.wrap ((IntKind.i64.wrap ((IntKind.i64.wrap (z0l .u64 (IntKind.u64.wrap (IntKind.i64.wrap (a1 + a3))) 1)) + a2)) - w177)) then
              if (IntKind.i64.wrap ((IntKind.i64.wrap ((IntKind.i64.wrap (z0l .u64 (IntKind.u64.wrap (IntKind.i64.wrap (a1 + a3))) 1)) + a2)) - w177)) < a3 then
                (rf v185 (IntKind.i64.wrap (z0l .u64 (IntKind.u64.wrap (IntKind.i64.wrap (a1 + a3))) 1)) (IntKind.i64.wrap ((IntKind.i64.wrap ((IntKind.i64.wrap (z0l .u64 (IntKind.u64.wrap (IntKind.i64.wrap (a1 + a3))) 1)) + a2)) - w177)) a3 m0).bind fun v186 =>
                some v186
              else
                some v185
            else
              some v185
          else
            if (IntKind.i64.wrap (z0l .u64 (IntKind.u64.wrap (IntKind.i64.wrap (a1 + a3))) 1)) < (IntKind.i64.wrap ((IntKind.i64.wrap ((IntKind.i64.wrap (z0l .u64 (IntKind.u64.wrap (IntKind.i64.wrap (a1 + a3))) 1)) + a2)) - w177)) then
              if (IntKind.i64.wrap ((IntKind.i64.wrap ((IntKind.i64.wrap (z0l .u64 (IntKind.u64.wrap (IntKind.i64.wrap (a1 + a3))) 1)) + a2)) - w177)) < a3 then
                (rf v184 (IntKind.i64.wrap (z0l .u64 (IntKind.u64.wrap (IntKind.i64.wrap (a1 + a3))) 1)) (IntKind.i64.wrap ((IntKind.i64.wrap ((IntKind.i64.wrap (z0l .u64 (IntKind.u64.wrap (IntKind.i64.wrap (a1 + a3))) 1)) + a2)) - w177)) a3 m0).bind fun v187 =>
                some v187
              else
                some v184
            else
              some v184
        else
          if (IntKind.i64.wrap (z0l .u64 (IntKind.u64.wrap (IntKind.i64.wrap (a1 + a3))) 1)) < (IntKind.i64.wrap ((IntKind.i64.wrap ((IntKind.i64.wrap (z0l .u64 (IntKind.u64.wrap (IntKind.i64.wrap (a1 + a3))) 1)) + a2)) - w177)) then
            if (IntKind.i64.wrap ((IntKind.i64.wrap ((IntKind.i64.wrap (z0l .u64 (IntKind.u64.wrap (IntKind.i64.wrap (a1 + a3))) 1)) + a2)) - w177)) < a3 then
              (rf v184 (IntKind.i64.wrap (z0l .u64 (IntKind.u64.wrap (IntKind.i64.wrap (a1 + a3))) 1)) (IntKind.i64.wrap ((IntKind.i64.wrap ((IntKind.i64.wrap (z0l .u64 (IntKind.u64.wrap (IntKind.i64.wrap (a1 + a3))) 1)) + a2)) - w177)) a3 m0).bind fun v188 =>
              some v188
            else
              some v184
          else
            some v184
      else
        if a1 < w177 then
          if w177 < (IntKind.i64.wrap (z0l .u64 (IntKind.u64.wrap (IntKind.i64.wrap (a1 + a3))) 1)) then
            (rf a0 a1 w177 (IntKind.i64.wrap (z0l .u64 (IntKind.u64.wrap (IntKind.i64.wrap (a1 + a3))) 1)) m0).bind fun v189 =>
            if (IntKind.i64.wrap (z0l .u64 (IntKind.u64.wrap (IntKind.i64.wrap (a1 + a3))) 1)) < (IntKind.i64.wrap ((IntKind.i64.wrap ((IntKind.i64.wrap (z0l .u64 (IntKind.u64.wrap (IntKind.i64.wrap (a1 + a3))) 1)) + a2)) - w177)) then
              if (IntKind.i64.wrap ((IntKind.i64.wrap ((IntKind.i64.wrap (z0l .u64 (IntKind.u64.wrap (IntKind.i64.wrap (a1 + a3))) 1)) + a2)) - w177)) < a3 then
                (rf v189 (IntKind.i64.wrap (z0l .u64 (IntKind.u64.wrap (IntKind.i64.wrap (a1 + a3))) 1)) (IntKind.i64.wrap ((IntKind.i64.wrap ((IntKind.i64.wrap (z0l .u64 (IntKind.u64.wrap (IntKind.i64.wrap (a1 + a3))) 1)) + a2)) - w177)) a3 m0).bind fun v190 =>
                some v190
              else
                some v189
            else
              some v189
          else
            if (IntKind.i64.wrap (z0l .u64 (IntKind.u64.wrap (IntKind.i64.wrap (a1 + a3))) 1)) < (IntKind.i64.wrap ((IntKind.i64.wrap ((IntKind.i64.wrap (z0l .u64 (IntKind.u64.wrap (IntKind.i64.wrap (a1 + a3))) 1)) + a2)) - w177)) then
              if (IntKind.i64.wrap ((IntKind.i64.wrap ((IntKind.i64.wrap (z0l .u64 (IntKind.u64.wrap (IntKind.i64.wrap (a1 + a3))) 1)) + a2)) - w177)) < a3 then
                (rf a0 (IntKind.i64.wrap (z0l .u64 (IntKind.u64.wrap (IntKind.i64.wrap (a1 + a3))) 1)) (IntKind.i64.wrap ((IntKind.i64.wrap ((IntKind.i64.wrap (z0l .u64 (IntKind.u64.wrap (IntKind.i64.wrap (a1 + a3))) 1)) + a2)) - w177)) a3 m0).bind fun v191 =>
                some v191
              else
                some a0
            else
              some a0
        else
          if (IntKind.i64.wrap (z0l .u64 (IntKind.u64.wrap (IntKind.i64.wrap (a1 + a3))) 1)) < (IntKind.i64.wrap ((IntKind.i64.wrap ((IntKind.i64.wrap (z0l .u64 (IntKind.u64.wrap (IntKind.i64.wrap (a1 + a3))) 1)) + a2)) - w177)) then
            if (IntKind.i64.wrap ((IntKind.i64.wrap ((IntKind.i64.wrap (z0l .u64 (IntKind.u64.wrap (IntKind.i64.wrap (a1 + a3))) 1)) + a2)) - w177)) < a3 then
              (rf a0 (IntKind.i64.wrap (z0l .u64 (IntKind.u64.wrap (IntKind.i64.wrap (a1 + a3))) 1)) (IntKind.i64.wrap ((IntKind.i64.wrap ((IntKind.i64.wrap (z0l .u64 (IntKind.u64.wrap (IntKind.i64.wrap (a1 + a3))) 1)) + a2)) - w177)) a3 m0).bind fun v192 =>
              some v192
            else
              some a0
          else
            some a0
    else
      if a1 < w177 then
        if w177 < (IntKind.i64.wrap (z0l .u64 (IntKind.u64.wrap (IntKind.i64.wrap (a1 + a3))) 1)) then
          (rf a0 a1 w177 (IntKind.i64.wrap (z0l .u64 (IntKind.u64.wrap (IntKind.i64.wrap (a1 + a3))) 1)) m0).bind fun v193 =>
          if (IntKind.i64.wrap (z0l .u64 (IntKind.u64.wrap (IntKind.i64.wrap (a1 + a3))) 1)) < (IntKind.i64.wrap ((IntKind.i64.wrap ((IntKind.i64.wrap (z0l .u64 (IntKind.u64.wrap (IntKind.i64.wrap (a1 + a3))) 1)) + a2)) - w177)) then
            if (IntKind.i64.wrap ((IntKind.i64.wrap ((IntKind.i64.wrap (z0l .u64 (IntKind.u64.wrap (IntKind.i64.wrap (a1 + a3))) 1)) + a2)) - w177)) < a3 then
              (rf v193 (IntKind.i64.wrap (z0l .u64 (IntKind.u64.wrap (IntKind.i64.wrap (a1 + a3))) 1)) (IntKind.i64.wrap ((IntKind.i64.wrap ((IntKind.i64.wrap (z0l .u64 (IntKind.u64.wrap (IntKind.i64.wrap (a1 + a3))) 1)) + a2)) - w177)) a3 m0).bind fun v194 =>
              some v194
            else
              some v193
          else
            some v193
        else
          if (IntKind.i64.wrap (z0l .u64 (IntKind.u64.wrap (IntKind.i64.wrap (a1 + a3))) 1)) < (IntKind.i64.wrap ((IntKind.i64.wrap ((IntKind.i64.wrap (z0l .u64 (IntKind.u64.wrap (IntKind.i64.wrap (a1 + a3))) 1)) + a2)) - w177)) then
            if (IntKind.i64.wrap ((IntKind.i64.wrap ((IntKind.i64.wrap (z0l .u64 (IntKind.u64.wrap (IntKind.i64.wrap (a1 + a3))) 1)) + a2)) - w177)) < a3 then
              (rf a0 (IntKind.i64.wrap (z0l .u64 (IntKind.u64.wrap (IntKind.i64.wrap (a1 + a3))) 1)) (IntKind.i64.wrap ((IntKind.i64.wrap ((IntKind.i64.wrap (z0l .u64 (IntKind.u64.wrap (IntKind.i64.wrap (a1 + a3))) 1)) + a2)) - w177)) a3 m0).bind fun v195 =>
              some v195
            else
              some a0
          else
            some a0
      else
        if (IntKind.i64.wrap (z0l .u64 (IntKind.u64.wrap (IntKind.i64.wrap (a1 + a3))) 1)) < (IntKind.i64.wrap ((IntKind.i64.wrap ((IntKind.i64.wrap (z0l .u64 (IntKind.u64.wrap (IntKind.i64.wrap (a1 + a3))) 1)) + a2)) - w177)) then
          if (IntKind.i64.wrap ((IntKind.i64.wrap ((IntKind.i64.wrap (z0l .u64 (IntKind.u64.wrap (IntKind.i64.wrap (a1 + a3))) 1)) + a2)) - w177)) < a3 then
            (rf a0 (IntKind.i64.wrap (z0l .u64 (IntKind.u64.wrap (IntKind.i64.wrap (a1 + a3))) 1)) (IntKind.i64.wrap ((IntKind.i64.wrap ((IntKind.i64.wrap (z0l .u64 (IntKind.u64.wrap (IntKind.i64.wrap (a1 + a3))) 1)) + a2)) - w177)) a3 m0).bind fun v196 =>
            some v196
          else
            some a0
        else
          some a0
instance {a0 : List Int} {a1 : Int} {a2 : Int} {a3 : Int} {m0 : List Int} {rf : List Int -> Int -> Int -> Int -> List Int -> Option (List Int)} : Hd (z1i a0 a1 a2 a3 m0 rf) := ⟨fun (w177, w176) => ([(20, xI w177), (21, xI w176)], [])⟩
def z0D (rf : List Int -> Int -> Int -> Int -> List Int -> Option (List Int)) (a0 : List Int) (a1 : Int) (a2 : Int) (a3 : Int) (m0 : List Int) : Option (List Int) :=
  if (IntKind.i64.wrap (a2 - a1)) = 1 then
    z0j (z1p a0 a1 m0) LFm (a2, a3)
  else
    if (IntKind.i64.wrap (a3 - a2)) = 1 then
      z0j (z1m a0 a2 m0) LFm (a1, a2)
    else
      chk (¬ 1 < 0) <|
      if (IntKind.i64.wrap (z0l .u64 (IntKind.u64.wrap (IntKind.i64.wrap (a1 + a3))) 1)) < a2 then
        z0j (z1k a0 a1 a2 a3 m0 rf) LFm (IntKind.i64.wrap ((IntKind.i64.wrap ((IntKind.i64.wrap (z0l .u64 (IntKind.u64.wrap (IntKind.i64.wrap (a1 + a3))) 1)) + a2)) - a3), IntKind.i64.wrap (z0l .u64 (IntKind.u64.wrap (IntKind.i64.wrap (a1 + a3))) 1))
      else
        z0j (z1i a0 a1 a2 a3 m0 rf) LFm (a1, a2)
theorem z2D {rf : List Int -> Int -> Int -> Int -> List Int -> Option (List Int)} [ih : ∀ (a0 : List Int) (a1 : Int) (a2 : Int) (a3 : Int) (m0 : List Int), Ok (rf a0 a1 a2 a3 m0) (fun r => L 85 [.os 1 a0.length (a0.map fun x0 => .sc (.int .i64 x0)), .sc (.int .i64 a1), .sc (.int .i64 a2), .sc (.int .i64 a3), .cl 74 [.pr [.sl m0.length (m0.map fun x0 => .sc (.int .i64 x0))]]] = some (.tup [], [.os 1 r.length (r.map fun x0 => .sc (.int .i64 x0)), .dead, .dead, .dead, .dead]))] {a0 : List Int} {a1 : Int} {a2 : Int} {a3 : Int} {m0 : List Int} : Ok (z0D rf a0 a1 a2 a3 m0) (fun r => L 85 [.os 1 a0.length (a0.map fun x0 => .sc (.int .i64 x0)), .sc (.int .i64 a1), .sc (.int .i64 a2), .sc (.int .i64 a3), .cl 74 [.pr [.sl m0.length (m0.map fun x0 => .sc (.int .i64 x0))]]] = some (.tup [], [.os 1 r.length (r.map fun x0 => .sc (.int .i64 x0)), .dead, .dead, .dead, .dead])) := ⟨fun r h => by have h := z4p h; unfold z0D at h; exact z4O zxe zAv zAN⟩
def z0n : Nat -> List Int -> Int -> Int -> Int -> List Int -> Option (List Int)
  | 0 => fun _ _ _ _ _ => none
  | k + 1 => z0D (z0n k)
instance slices_symMergeCmpFunc_int_images_diagram_heights_1_ok : ∀ {k : Nat} {a0 : List Int} {a1 : Int} {a2 : Int} {a3 : Int} {m0 : List Int}, Ok (z0n k a0 a1 a2 a3 m0) (fun r => L 85 [.os 1 a0.length (a0.map fun x0 => .sc (.int .i64 x0)), .sc (.int .i64 a1), .sc (.int .i64 a2), .sc (.int .i64 a3), .cl 74 [.pr [.sl m0.length (m0.map fun x0 => .sc (.int .i64 x0))]]] = some (.tup [], [.os 1 r.length (r.map fun x0 => .sc (.int .i64 x0)), .dead, .dead, .dead, .dead])) := by
  intro k
  induction k with
  | zero => intros; exact ⟨fun r h => by cases h⟩
  | succ k ih => intros; have ih2 := @ih; exact z2D (rf := z0n k)
abbrev z0E (a1 : Int) (m2 : List Int) (w45 : Int) : Int × Int × List Int -> Option ((Int × Int × List Int) ⊕ ((Int × List Int) ⊕ List Int))
  | (w55, w56, w57) =>
  if w56 <= a1 then
    (z0n 5000 w57 w55 (IntKind.i64.wrap (w55 + w45)) w56 m2).bind fun v59 =>
    z0e (w56, IntKind.i64.wrap (w56 + (IntKind.i64.wrap (2 * w45))), v59)
  else
    z0k <|
    if (IntKind.i64.wrap (w55 + w45)) < a1 then
      (z0n 5000 w57 w55 (IntKind.i64.wrap (w55 + w45)) a1 m2).bind fun v60 =>
      z0e (IntKind.i64.wrap (w45 * 2), v60)
    else
      z0e (IntKind.i64.wrap (w45 * 2), w57)
instance {a1 : Int} {m2 : List Int} {w45 : Int} : Hd (z0E a1 m2 w45) := ⟨fun (w55, w56, w57) => ([(7, xI w55), (8, xI w56)], [(0, .os 1 w57.length (w57.map fun x0 => .sc (.int .i64 x0)))])⟩
abbrev z0F (a1 : Int) (m2 : List Int) : Int × List Int -> Option ((Int × List Int) ⊕ List Int)
  | (w45, w46) =>
  if w45 < a1 then
    z0j (z0E a1 m2 w45) LFm (0, IntKind.i64.wrap (2 * w45), w46)
  else
    z0k <|
    some w46
instance {a1 : Int} {m2 : List Int} : Hd (z0F a1 m2) := ⟨fun (w45, w46) => ([(6, xI w45)], [(0, .os 1 w46.length (w46.map fun x0 => .sc (.int .i64 x0)))])⟩
abbrev z0G (a1 : Int) (m2 : List Int) : Int × Int × List Int -> Option ((Int × Int × List Int) ⊕ List Int)
  | (w32, w33, w34) =>
  if w33 <= a1 then
    (z0y w34 w32 w33 m2).bind fun v36 =>
    z0e (w33, IntKind.i64.wrap (w33 + 20), v36)
  else
    z0k <|
    (z0y w34 w32 a1 m2).bind fun v37 =>
    z0j (z0F a1 m2) LFm (20, v37)
instance {a1 : Int} {m2 : List Int} : Hd (z0G a1 m2) := ⟨fun (w32, w33, w34) => ([(7, xI w32), (8, xI w33)], [(0, .os 1 w34.length (w34.map fun x0 => .sc (.int .i64 x0)))])⟩
def z0K (a0 : List Int) (a1 : Int) (m2 : List Int) : Option (List Int) :=
  z0j (z0G a1 m2) LFm (0, 20, a0)
instance slices_stableCmpFunc_int_images_diagram_heights_1_ok {a0 : List Int} {a1 : Int} {m2 : List Int} : Ok (z0K a0 a1 m2) (fun r => L 75 [.os 1 a0.length (a0.map fun x0 => .sc (.int .i64 x0)), .sc (.int .i64 a1), .cl 74 [.pr [.sl m2.length (m2.map fun x0 => .sc (.int .i64 x0))]]] = some (.tup [], [.os 1 r.length (r.map fun x0 => .sc (.int .i64 x0)), .dead, .dead])) := ⟨fun r h => by have h := z4p h; unfold z0K at h; exact z4O zxg zAx zAP⟩
def z0o (a0 : List Int) (m4 : List Int) : Option (List Int) :=
  (z0K a0 (a0.length : Int) m4).bind fun v2 =>
  some v2
instance slices_SortStableFunc_Lint_int_images_diagram_heights_1_ok {a0 : List Int} {m4 : List Int} : Ok (z0o a0 m4) (fun r => L 52 [.os 1 a0.length (a0.map fun x0 => .sc (.int .i64 x0)), .cl 74 [.pr [.sl m4.length (m4.map fun x0 => .sc (.int .i64 x0))]]] = some (.tup [], [.os 1 r.length (r.map fun x0 => .sc (.int .i64 x0)), .dead])) := ⟨fun r h => by have h := z4p h; unfold z0o at h; exact z4O zxh zAz zAR⟩
abbrev z1R (a0 : Dgm) (w136 : Int) (w138 : List Int) : Int × List Int -> Option ((Int × List Int) ⊕ ((Int × List Int × List Int) ⊕ List Int))
  | (w159, w160) =>
  if w159 < (a0.sets.length : Int) then
    (atI a0.below w159).bind fun v165 =>
    (atI v165 w136).bind fun v166 =>
    if v166 = true then
      (atI w160 w136).bind fun v167 =>
      z0e (IntKind.i64.wrap (w159 + 1), (w160.set w136.toNat (IntKind.i64.wrap (v167 + 1))))
    else
      z0e (IntKind.i64.wrap (w159 + 1), w160)
  else
    z0k <|
    z0e (IntKind.i64.wrap (w136 + 1), w160, (w138.set w136.toNat w136))
instance {a0 : Dgm} {w136 : Int} {w138 : List Int} : Hd (z1R a0 w136 w138) := ⟨fun (w159, w160) => ([(34, xI w159)], [(5, .vr [.os 1 w160.length (w160.map fun x0 => .sc (.int .i64 x0))])])⟩
abbrev z1K (a0 : Dgm) (a1 : List Int) (w193 : Int) (v221 : Int) : Int × List Int -> Option ((Int × List Int) ⊕ ((Int × List Int) ⊕ List Int))
  | (w231, w232) =>
  if w231 < (a0.sets.length : Int) then
    (atI a0.below w231).bind fun v240 =>
    (atI v240 v221).bind fun v241 =>
    if v241 = true then
      (atI a1 w231).bind fun v242 =>
      (atI a1 v221).bind fun v243 =>
      if v242 = v243 then
        z0e (IntKind.i64.wrap (w231 + 1), w232)
      else
        (atI w232 v221).bind fun v244 =>
        (atI w232 w231).bind fun v245 =>
        z0e (IntKind.i64.wrap (w231 + 1), (w232.set v221.toNat (if v244 < (IntKind.i64.wrap (v245 + 1)) then (IntKind.i64.wrap (v245 + 1)) else v244)))
    else
      z0e (IntKind.i64.wrap (w231 + 1), w232)
  else
    z0k <|
    z0e (IntKind.i64.wrap (w193 + 1), w232)
instance {a0 : Dgm} {a1 : List Int} {w193 : Int} {v221 : Int} : Hd (z1K a0 a1 w193 v221) := ⟨fun (w231, w232) => ([(76, xI w231)], [(9, .os 1 w232.length (w232.map fun x0 => .sc (.int .i64 x0)))])⟩
abbrev z2g (a0 : Dgm) (a1 : List Int) (v169 : List Int) : Int × List Int -> Option ((Int × List Int) ⊕ List Int)
  | (w193, w194) =>
  if w193 < (v169.length : Int) then
    (atI v169 w193).bind fun v221 =>
    (atI a0.sets v221).bind fun v222 =>
    (z5m v222).bind fun v223 =>
    if v223 = 1 then
      z0e (IntKind.i64.wrap (w193 + 1), w194)
    else
      z0j (z1K a0 a1 w193 v221) LFm (0, w194)
  else
    z0k <|
    some w194
instance {a0 : Dgm} {a1 : List Int} {v169 : List Int} : Hd (z2g a0 a1 v169) := ⟨fun (w193, w194) => ([(62, xI w193)], [(9, .os 1 w194.length (w194.map fun x0 => .sc (.int .i64 x0)))])⟩
abbrev z2s (a0 : Dgm) (a1 : List Int) : Int × List Int × List Int -> Option ((Int × List Int × List Int) ⊕ List Int)
  | (w136, w137, w138) =>
  if w136 < (a0.sets.length : Int) then
    (atI w138 w136).bind fun v154 =>
    z0j (z1R a0 w136 w138) LFm (0, w137)
  else
    z0k <|
    (z0o w138 w137).bind fun v169 =>
    chk (z1g 8 (a0.sets.length : Int)) <|
    z0j (z2g a0 a1 v169) LFm (0, List.replicate (a0.sets.length : Int).toNat (0 : Int))
instance {a0 : Dgm} {a1 : List Int} : Hd (z2s a0 a1) := ⟨fun (w136, w137, w138) => ([(24, xI w136)], [(5, .vr [.os 1 w137.length (w137.map fun x0 => .sc (.int .i64 x0))]), (6, .os 1 w138.length (w138.map fun x0 => .sc (.int .i64 x0)))])⟩
def z2i (a0 : Dgm) (a1 : List Int) : Option (List Int) :=
  chk (z1g 8 (a0.sets.length : Int)) <|
  z0j (z2s a0 a1) LFm (0, List.replicate (a0.sets.length : Int).toNat (0 : Int), List.replicate (a0.sets.length : Int).toNat (0 : Int))
instance images_diagram_heights_ok {a0 : Dgm} {a1 : List Int} : Ok (z2i a0 a1) (fun r => L 49 [.agg [.sl a0.sets.length (a0.sets.map fun x0 => .sc (.int .i64 x0)), .sl a0.next.length (a0.next.map fun x0 => .sl x0.length (x0.map fun x1 => .sc (.int .i64 x1))), .sl a0.below.length (a0.below.map fun x0 => .sl x0.length (x0.map fun x1 => .sc (.bool x1)))], .sl a1.length (a1.map fun x0 => .sc (.int .i64 x0))] = some (.os 1 r.length (r.map fun x0 => .sc (.int .i64 x0)), [.dead, .dead])) := ⟨fun r h => by have h := z4p h; unfold z2i at h; exact z4O zzM zBP zDD⟩
end
end
section
open Go
structure TapeOk (t : Tape) : Prop where
  a0 : 0 <= t.at_
  a1 : t.at_ <= t.l.length
  a2 : t.l.length <= 80
theorem zmc (x n : Int) (h1 : 1 <= n) (h2 : n < 4611686018427387904) : ∃ v, zb9 x n = some v /\ 0 <= v /\ v < n := by
  have hx : x.tmod n < n := Int.tmod_lt_of_pos _ (by omega)
  have hy : -n < x.tmod n := Int.lt_tmod_of_pos x (by omega)
  unfold zb9
  rw [if_neg (by omega), z0m _ (by omega)]
  split
  · rw [z1Z (by omega) (by omega)]; exact ⟨_, rfl, by omega, by omega⟩
  · exact ⟨_, rfl, by omega, by omega⟩
theorem z6l {t : Tape} (ht : TapeOk t) (n : Int) (h1 : 1 <= n) (h2 : n < 4611686018427387904) : ∃ v t', z0X t n = some (v, t') /\ 0 <= v /\ v < n /\ TapeOk t' := by
  obtain ⟨a0, a1, a2⟩ := ht
  unfold z0X
  split
  · exact ⟨_, _, rfl, by omega, by omega, a0, a1, a2⟩
  · rename_i hlt
    rw [z1Z (x := t.at_ + 1) (by omega) (by omega), z1Z (by omega) (by omega)]
    obtain ⟨k, hk⟩ := Int.eq_ofNat_of_zero_le a0
    have e : t.at_ + 1 - 1 = (k : Int) := by omega
    rw [e, z1s (by omega)]
    obtain ⟨v, hv, h3, h4⟩ := zmc t.l[k] n h1 h2
    simp only [Option.bind_some, hv]
    exact ⟨_, _, rfl, h3, h4, by simp only; omega, by simp only; omega, a2⟩
theorem zwM (l : List Int) : ∃ t, zb8 l = some t /\ TapeOk t := by
  unfold zb8
  split
  · rename_i h
    have := zk2 (xs := l) (k := 80) (by omega)
    simp only [Int.cast_ofNat_Int] at this
    rw [this]
    exact ⟨_, rfl, by simp, by simp, by simp only [List.length_take]; omega⟩
  · exact ⟨_, rfl, by simp, by simp, by simp; omega⟩
end
end Go.Proofs.Ytodliknibbafeaa

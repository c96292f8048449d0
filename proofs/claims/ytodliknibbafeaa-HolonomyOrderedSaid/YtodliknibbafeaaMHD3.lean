/- Proved here: a part of the proof of the law at hand, in one text: no condition. -/
import Derived.Test.YtodliknibbafeaaMHD2
import Derived.Test.YtodliknibbafeaaProg
import Derived.KernelRfl
import Derived.WalkKit
import Derived.Below
set_option linter.unusedVariables false
set_option linter.unusedSimpArgs false
section
namespace Go.Proofs.Ytodliknibbafeaa
open Go
set_option maxRecDepth 100000
structure SrtC where
  cmp : Int → Int → Option Int
  key : Int → Int
  ok : Int → Prop
  law : ∀ x y, ok x → ok y → y < x → ∃ c, cmp x y = some c ∧ (c < 0 ↔ key x < key y)
noncomputable section
abbrev zi8 (a1 : Int) (a3_0_0 : SrtC) (w95 : Int) : Int × List Int → Option ((Int × List Int) ⊕ ((Int × List Int) ⊕ List Int))
  | (w127, w128) =>
  if a1 < w127 then
    (atI w128 w127).bind fun v136 =>
    (atI w128 (IntKind.i64.wrap (w127 - 1))).bind fun v137 =>
    (a3_0_0.cmp v136 v137).bind fun v138 =>
    if v138 < 0 then
      (atI (w128.set w127.toNat v137) (IntKind.i64.wrap (w127 - 1))).bind fun v142 =>
      z0n (IntKind.i64.wrap (w127 - 1), ((w128.set w127.toNat v137).set (IntKind.i64.wrap (w127 - 1)).toNat v136))
    else
      z0A <|
      z0n (IntKind.i64.wrap (w95 + 1), w128)
  else
    z0A <|
    z0n (IntKind.i64.wrap (w95 + 1), w128)
abbrev zi9 (a1 : Int) (a2 : Int) (a3_0_0 : SrtC) : Int × List Int → Option ((Int × List Int) ⊕ List Int)
  | (w95, w96) =>
  if w95 < a2 then
    z0u (zi8 a1 a3_0_0 w95) LFm (w95, w96)
  else
    z0A <|
    some w96
def zyg (a0 : List Int) (a1 : Int) (a2 : Int) (a3_0_0 : SrtC) : Option (List Int) :=
  z0u (zi9 a1 a2 a3_0_0) LFm (IntKind.i64.wrap (a1 + 1), a0)
abbrev zmz (a1 : Int) (a2 : Int) (a3 : Int) : Int × List Int → Option ((Int × List Int) ⊕ List Int)
  | (w19, w20) =>
  if w19 < a3 then
    (atI w20 (IntKind.i64.wrap (a2 + w19))).bind fun v25 =>
    (atI w20 (IntKind.i64.wrap (a1 + w19))).bind fun v26 =>
    (atI (w20.set (IntKind.i64.wrap (a1 + w19)).toNat v25) (IntKind.i64.wrap (a2 + w19))).bind fun v28 =>
    z0n (IntKind.i64.wrap (w19 + 1), ((w20.set (IntKind.i64.wrap (a1 + w19)).toNat v25).set (IntKind.i64.wrap (a2 + w19)).toNat v26))
  else
    z0A <|
    some w20
def zxM (a0 : List Int) (a1 : Int) (a2 : Int) (a3 : Int) (a4_0_0 : SrtC) : Option (List Int) :=
  z0u (zmz a1 a2 a3) LFm (0, a0)
abbrev ztc (a2 : Int) (a4_0_0 : SrtC) : Int × Int × List Int → Option ((Int × Int × List Int) ⊕ List Int)
  | (w13, w15, w14) =>
  if w13 = w15 then
    z0A <|
    (zxM w14 (IntKind.i64.wrap (a2 - w13)) a2 w13 a4_0_0).bind fun v18 =>
    some v18
  else
    if w15 < w13 then
      (zxM w14 (IntKind.i64.wrap (a2 - w13)) a2 w15 a4_0_0).bind fun v19 =>
      z0n (IntKind.i64.wrap (w13 - w15), w15, v19)
    else
      (zxM w14 (IntKind.i64.wrap (a2 - w13)) (IntKind.i64.wrap ((IntKind.i64.wrap (a2 + w15)) - w13)) w13 a4_0_0).bind fun v20 =>
      z0n (w13, IntKind.i64.wrap (w15 - w13), v20)
def zyf (a0 : List Int) (a1 : Int) (a2 : Int) (a3 : Int) (a4_0_0 : SrtC) : Option (List Int) :=
  z0u (ztc a2 a4_0_0) LFm (IntKind.i64.wrap (a2 - a1), IntKind.i64.wrap (a3 - a2), a0)
abbrev zi6 (w102 : Int) : Int × List Int → Option ((Int × List Int) ⊕ List Int)
  | (w114, w115) =>
  if w114 < (IntKind.i64.wrap (w102 - 1)) then
    (atI w115 (IntKind.i64.wrap (w114 + 1))).bind fun v120 =>
    (atI w115 w114).bind fun v121 =>
    (atI (w115.set w114.toNat v120) (IntKind.i64.wrap (w114 + 1))).bind fun v123 =>
    z0n (IntKind.i64.wrap (w114 + 1), ((w115.set w114.toNat v120).set (IntKind.i64.wrap (w114 + 1)).toNat v121))
  else
    z0A <|
    some w115
abbrev zi7 (a0 : List Int) (a1 : Int) (a4_0_0 : SrtC) : Int × Int → Option ((Int × Int) ⊕ List Int)
  | (w102, w103) =>
  if w102 < w103 then
    chk (¬ 1 < 0) <|
    (atI a0 (IntKind.i64.wrap (z0e .u64 (IntKind.u64.wrap (IntKind.i64.wrap (w102 + w103))) 1))).bind fun v107 =>
    (atI a0 a1).bind fun v108 =>
    (a4_0_0.cmp v107 v108).bind fun v109 =>
    if v109 < 0 then
      z0n (IntKind.i64.wrap ((IntKind.i64.wrap (z0e .u64 (IntKind.u64.wrap (IntKind.i64.wrap (w102 + w103))) 1)) + 1), w103)
    else
      z0n (w102, IntKind.i64.wrap (z0e .u64 (IntKind.u64.wrap (IntKind.i64.wrap (w102 + w103))) 1))
  else
    z0A <|
    z0u (zi6 w102) LFm (a1, a0)
abbrev zcD (w128 : Int) : Int × List Int → Option ((Int × List Int) ⊕ List Int)
  | (w139, w140) =>
  if w128 < w139 then
    (atI w140 (IntKind.i64.wrap (w139 - 1))).bind fun v145 =>
    (atI w140 w139).bind fun v146 =>
    (atI (w140.set w139.toNat v145) (IntKind.i64.wrap (w139 - 1))).bind fun v148 =>
    z0n (IntKind.i64.wrap (w139 - 1), ((w140.set w139.toNat v145).set (IntKind.i64.wrap (w139 - 1)).toNat v146))
  else
    z0A <|
    some w140
abbrev zcE (a0 : List Int) (a2 : Int) (a4_0_0 : SrtC) : Int × Int → Option ((Int × Int) ⊕ List Int)
  | (w128, w127) =>
  if w128 < w127 then
    chk (¬ 1 < 0) <|
    (atI a0 a2).bind fun v132 =>
    (atI a0 (IntKind.i64.wrap (z0e .u64 (IntKind.u64.wrap (IntKind.i64.wrap (w128 + w127))) 1))).bind fun v133 =>
    (a4_0_0.cmp v132 v133).bind fun v134 =>
    if v134 < 0 then
      z0n (w128, IntKind.i64.wrap (z0e .u64 (IntKind.u64.wrap (IntKind.i64.wrap (w128 + w127))) 1))
    else
      z0n (IntKind.i64.wrap ((IntKind.i64.wrap (z0e .u64 (IntKind.u64.wrap (IntKind.i64.wrap (w128 + w127))) 1)) + 1), w127)
  else
    z0A <|
    z0u (zcD w128) LFm (a2, a0)
abbrev z8j (a0 : List Int) (a1 : Int) (a2 : Int) (a3 : Int) (a4_0_0 : SrtC) (rf : List Int → Int → Int → Int → SrtC → Option (List Int)) : Int × Int → Option ((Int × Int) ⊕ List Int)
  | (w153, w152) =>
  if w153 < w152 then
    chk (¬ 1 < 0) <|
    (atI a0 (IntKind.i64.wrap ((IntKind.i64.wrap ((IntKind.i64.wrap ((IntKind.i64.wrap (z0e .u64 (IntKind.u64.wrap (IntKind.i64.wrap (a1 + a3))) 1)) + a2)) - 1)) - (IntKind.i64.wrap (z0e .u64 (IntKind.u64.wrap (IntKind.i64.wrap (w153 + w152))) 1))))).bind fun v157 =>
    (atI a0 (IntKind.i64.wrap (z0e .u64 (IntKind.u64.wrap (IntKind.i64.wrap (w153 + w152))) 1))).bind fun v158 =>
    (a4_0_0.cmp v157 v158).bind fun v159 =>
    if v159 < 0 then
      z0n (w153, IntKind.i64.wrap (z0e .u64 (IntKind.u64.wrap (IntKind.i64.wrap (w153 + w152))) 1))
    else
      z0n (IntKind.i64.wrap ((IntKind.i64.wrap (z0e .u64 (IntKind.u64.wrap (IntKind.i64.wrap (w153 + w152))) 1)) + 1), w152)
  else
    z0A <|
    if w153 < a2 then
      if a2 < (IntKind.i64.wrap ((IntKind.i64.wrap ((IntKind.i64.wrap (z0e .u64 (IntKind.u64.wrap (IntKind.i64.wrap (a1 + a3))) 1)) + a2)) - w153)) then
        (zyf a0 w153 a2 (IntKind.i64.wrap ((IntKind.i64.wrap ((IntKind.i64.wrap (z0e .u64 (IntKind.u64.wrap (IntKind.i64.wrap (a1 + a3))) 1)) + a2)) - w153)) a4_0_0).bind fun v160 =>
        if a1 < w153 then
          if w153 < (IntKind.i64.wrap (z0e .u64 (IntKind.u64.wrap (IntKind.i64.wrap (a1 + a3))) 1)) then
            (rf v160 a1 w153 (IntKind.i64.wrap (z0e .u64 (IntKind.u64.wrap (IntKind.i64.wrap (a1 + a3))) 1)) a4_0_0).bind fun v161 =>
            if (IntKind.i64.wrap (z0e .u64 (IntKind.u64.wrap (IntKind.i64.wrap (a1 + a3))) 1)) < (IntKind.i64.wrap ((IntKind.i64.wrap ((IntKind.i64.wrap (z0e .u64 (IntKind.u64.wrap (IntKind.i64.wrap (a1 + a3))) 1)) + a2)) - w153)) then
              if (IntKind.i64.wrap ((IntKind.i64.wrap ((IntKind.i64.wrap (z0e .u64 (IntKind.u64.wrap (IntKind.i64.wrap (a1 + a3))) 1)) + a2)) - w153)) < a3 then
                (rf v161 (IntKind.i64.wrap (z0e .u64 (IntKind.u64.wrap (IntKind.i64.wrap (a1 + a3))) 1)) (IntKind.i64.wrap ((IntKind.i64.wrap ((IntKind.i64.wrap (z0e .u64 (IntKind.u64.wrap (IntKind.i64.wrap (a1 + a3))) 1)) + a2)) - w153)) a3 a4_0_0).bind fun v162 =>
                some v162
              else
                some v161
            else
              some v161
          else
            if (IntKind.i64.wrap (z0e .u64 (IntKind.u64.wrap (IntKind.i64.wrap (a1 + a3))) 1)) < (IntKind.i64.wrap ((IntKind.i64.wrap ((IntKind.i64.wrap (z0e .u64 (IntKind.u64.wrap (IntKind.i64.wrap (a1 + a3))) 1)) + a2)) - w153)) then
              if (IntKind.i64.wrap ((IntKind.i64.wrap ((IntKind.i64.wrap (z0e .u64 (IntKind.u64.wrap (IntKind.i64.wrap (a1 + a3))) 1)) + a2)) - w153)) < a3 then
                (rf v160 (IntKind.i64.wrap (z0e .u64 (IntKind.u64.wrap (IntKind.i64.wrap (a1 + a3))) 1)) (IntKind.i64.wrap ((IntKind.i64.wrap ((IntKind.i64.wrap (z0e .u64 (IntKind.u64.wrap (IntKind.i64.wrap (a1 + a3))) 1)) + a2)) - w153)) a3 a4_0_0).bind fun v163 =>
                some v163
              else
                some v160
            else
              some v160
        else
          if (IntKind.i64.wrap (z0e .u64 (IntKind.u64.wrap (IntKind.i64.wrap (a1 + a3))) 1)) < (IntKind.i64.wrap ((IntKind.i64.wrap ((IntKind.i64.wrap (z0e .u64 (IntKind.u64.wrap (IntKind.i64.wrap (a1 + a3))) 1)) + a2)) - w153)) then
            if (IntKind.i64.wrap ((IntKind.i64.wrap ((IntKind.i64.wrap (z0e .u64 (IntKind.u64.wrap (IntKind.i64.wrap (a1 + a3))) 1)) + a2)) - w153)) < a3 then
              (rf v160 (IntKind.i64.wrap (z0e .u64 (IntKind.u64.wrap (IntKind.i64.wrap (a1 + a3))) 1)) (IntKind.i64.wrap ((IntKind.i64.wrap ((IntKind.i64.wrap (z0e .u64 (IntKind.u64.wrap (IntKind.i64.wrap (a1 + a3))) 1)) + a2)) - w153)) a3 a4_0_0).bind fun v164 =>
              some v164
            else
              some v160
          else
            some v160
      else
        if a1 < w153 then
          if w153 < (IntKind.i64.wrap (z0e .u64 (IntKind.u64.wrap (IntKind.i64.wrap (a1 + a3))) 1)) then
            (rf a0 a1 w153 (IntKind.i64.wrap (z0e .u64 (IntKind.u64.wrap (IntKind.i64.wrap (a1 + a3))) 1)) a4_0_0).bind fun v165 =>
            if (IntKind.i64.wrap (z0e .u64 (IntKind.u64.wrap (IntKind.i64.wrap (a1 + a3))) 1)) < (IntKind.i64.wrap ((IntKind.i64.wrap ((IntKind.i64.wrap (z0e .u64 (IntKind.u64.wrap (IntKind.i64.wrap (a1 + a3))) 1)) + a2)) - w153)) then
              if (IntKind.i64.wrap ((IntKind.i64.wrap ((IntKind.i64.wrap (z0e .u64 (IntKind.u64.wrap (IntKind.i64.wrap (a1 + a3))) 1)) + a2)) - w153)) < a3 then
                (rf v165 (IntKind.i64.wrap (z0e .u64 (IntKind.u64.wrap (IntKind.i64.wrap (a1 + a3))) 1)) (IntKind.i64.wrap ((IntKind.i64.wrap ((IntKind.i64.wrap (z0e .u64 (IntKind.u64.wrap (IntKind.i64.wrap (a1 + a3))) 1)) + a2)) - w153)) a3 a4_0_0).bind fun v166 =>
                some v166
              else
                some v165
            else
              some v165
          else
            if (IntKind.i64.wrap (z0e .u64 (IntKind.u64.wrap (IntKind.i64.wrap (a1 + a3))) 1)) < (IntKind.i64.wrap ((IntKind.i64.wrap ((IntKind.i64.wrap (z0e .u64 (IntKind.u64.wrap (IntKind.i64.wrap (a1 + a3))) 1)) + a2)) - w153)) then
              if (IntKind.i64.wrap ((IntKind.i64.wrap ((IntKind.i64.wrap (z0e .u64 (IntKind.u64.wrap (IntKind.i64.wrap (a1 + a3))) 1)) + a2)) - w153)) < a3 then
                (rf a0 (IntKind.i64.wrap (z0e .u64 (IntKind.u64.wrap (IntKind.i64.wrap (a1 + a3))) 1)) (IntKind.i64.wrap ((IntKind.i64.wrap ((IntKind.i64.wrap (z0e .u64 (IntKind.u64.wrap (IntKind.i64.wrap (a1 + a3))) 1)) + a2)) - w153)) a3 a4_0_0).bind fun v167 =>
                some v167
              else
                some a0
            else
              some a0
        else
          if (IntKind.i64.wrap (z0e .u64 (IntKind.u64.wrap (IntKind.i64.wrap (a1 + a3))) 1)) < (IntKind.i64.wrap ((IntKind.i64.wrap ((IntKind.i64.wrap (z0e .u64 (IntKind.u64.wrap (IntKind.i64.wrap (a1 + a3))) 1)) + a2)) - w153)) then
            if (IntKind.i64.wrap ((IntKind.i64.wrap ((IntKind.i64.wrap (z0e .u64 (IntKind.u64.wrap (IntKind.i64.wrap (a1 + a3))) 1)) + a2)) - w153)) < a3 then
              (rf a0 (IntKind.i64.wrap (z0e .u64 (IntKind.u64.wrap (IntKind.i64.wrap (a1 + a3))) 1)) (IntKind.i64.wrap ((IntKind.i64.wrap ((IntKind.i64.wrap (z0e .u64 (IntKind.u64.wrap (IntKind.i64.wrap (a1 + a3))) 1)) + a2)) - w153)) a3 a4_0_0).bind fun v168 =>
              some v168
            else
              some a0
          else
            some a0
    else
      if a1 < w153 then
        if w153 < (IntKind.i64.wrap (z0e .u64 (IntKind.u64.wrap (IntKind.i64.wrap (a1 + a3))) 1)) then
          (rf a0 a1 w153 (IntKind.i64.wrap (z0e .u64 (IntKind.u64.wrap (IntKind.i64.wrap (a1 + a3))) 1)) a4_0_0).bind fun v169 =>
          if (IntKind.i64.wrap (z0e .u64 (IntKind.u64.wrap (IntKind.i64.wrap (a1 + a3))) 1)) < (IntKind.i64.wrap ((IntKind.i64.wrap ((IntKind.i64.wrap (z0e .u64 (IntKind.u64.wrap (IntKind.i64.wrap (a1 + a3))) 1)) + a2)) - w153)) then
            if (IntKind.i64.wrap ((IntKind.i64.wrap ((IntKind.i64.wrap (z0e .u64 (IntKind.u64.wrap (IntKind.i64.wrap (a1 + a3))) 1)) + a2)) - w153)) < a3 then
              (rf v169 (IntKind.i64.wrap (z0e .u64 (IntKind.u64.wrap (IntKind.i64.wrap (a1 + a3))) 1)) (IntKind.i64.wrap ((IntKind.i64.wrap ((IntKind.i64.wrap (z0e .u64 (IntKind.u64.wrap (IntKind.i64.wrap (a1 + a3))) 1)) + a2)) - w153)) a3 a4_0_0).bind fun v170 =>
              some v170
            else
              some v169
          else
            some v169
        else
          if (IntKind.i64.wrap (z0e .u64 (IntKind.u64.wrap (IntKind.i64.wrap (a1 + a3))) 1)) < (IntKind.i64.wrap ((IntKind.i64.wrap ((IntKind.i64.wrap (z0e .u64 (IntKind.u64.wrap (IntKind.i64.wrap (a1 + a3))) 1)) + a2)) - w153)) then
            if (IntKind.i64.wrap ((IntKind.i64.wrap ((IntKind.i64.wrap (z0e .u64 (IntKind.u64.wrap (IntKind.i64.wrap (a1 + a3))) 1)) + a2)) - w153)) < a3 then
              (rf a0 (IntKind.i64.wrap (z0e .u64 (IntKind.u64.wrap (IntKind.i64.wrap (a1 + a3))) 1)) (IntKind.i64.wrap ((IntKind.i64.wrap ((IntKind.i64.wrap (z0e .u64 (IntKind.u64.wrap (IntKind.i64.wrap (a1 + a3))) 1)) + a2)) - w153)) a3 a4_0_0).bind fun v171 =>
              some v171
            else
              some a0
          else
            some a0
      else
        if (IntKind.i64.wrap (z0e .u64 (IntKind.u64.wrap (IntKind.i64.wrap (a1 + a3))) 1)) < (IntKind.i64.wrap ((IntKind.i64.wrap ((IntKind.i64.wrap (z0e .u64 (IntKind.u64.wrap (IntKind.i64.wrap (a1 + a3))) 1)) + a2)) - w153)) then
          if (IntKind.i64.wrap ((IntKind.i64.wrap ((IntKind.i64.wrap (z0e .u64 (IntKind.u64.wrap (IntKind.i64.wrap (a1 + a3))) 1)) + a2)) - w153)) < a3 then
            (rf a0 (IntKind.i64.wrap (z0e .u64 (IntKind.u64.wrap (IntKind.i64.wrap (a1 + a3))) 1)) (IntKind.i64.wrap ((IntKind.i64.wrap ((IntKind.i64.wrap (z0e .u64 (IntKind.u64.wrap (IntKind.i64.wrap (a1 + a3))) 1)) + a2)) - w153)) a3 a4_0_0).bind fun v172 =>
            some v172
          else
            some a0
        else
          some a0
def ztb (rf : List Int → Int → Int → Int → SrtC → Option (List Int)) (a0 : List Int) (a1 : Int) (a2 : Int) (a3 : Int) (a4_0_0 : SrtC) : Option (List Int) :=
  if (IntKind.i64.wrap (a2 - a1)) = 1 then
    z0u (zi7 a0 a1 a4_0_0) LFm (a2, a3)
  else
    if (IntKind.i64.wrap (a3 - a2)) = 1 then
      z0u (zcE a0 a2 a4_0_0) LFm (a1, a2)
    else
      chk (¬ 1 < 0) <|
      if (IntKind.i64.wrap (z0e .u64 (IntKind.u64.wrap (IntKind.i64.wrap (a1 + a3))) 1)) < a2 then
        z0u (z8j a0 a1 a2 a3 a4_0_0 rf) LFm (IntKind.i64.wrap ((IntKind.i64.wrap ((IntKind.i64.wrap (z0e .u64 (IntKind.u64.wrap (IntKind.i64.wrap (a1 + a3))) 1)) + a2)) - a3), IntKind.i64.wrap (z0e .u64 (IntKind.u64.wrap (IntKind.i64.wrap (a1 + a3))) 1))
      else
        z0u (z8j a0 a1 a2 a3 a4_0_0 rf) LFm (a1, a2)
def zvo : Nat → List Int → Int → Int → Int → SrtC → Option (List Int)
  | 0 => fun _ _ _ _ _ => none
  | k + 1 => ztb (zvo k)
abbrev zc6 (a1 : Int) (a2_0_0 : SrtC) (w45 : Int) : Int × Int × List Int → Option ((Int × Int × List Int) ⊕ ((Int × List Int) ⊕ List Int))
  | (w55, w56, w57) =>
  if w56 ≤ a1 then
    (zvo 5000 w57 w55 (IntKind.i64.wrap (w55 + w45)) w56 a2_0_0).bind fun v59 =>
    z0n (w56, IntKind.i64.wrap (w56 + (IntKind.i64.wrap (2 * w45))), v59)
  else
    z0A <|
    if (IntKind.i64.wrap (w55 + w45)) < a1 then
      (zvo 5000 w57 w55 (IntKind.i64.wrap (w55 + w45)) a1 a2_0_0).bind fun v60 =>
      z0n (IntKind.i64.wrap (w45 * 2), v60)
    else
      z0n (IntKind.i64.wrap (w45 * 2), w57)
abbrev zeS (a1 : Int) (a2_0_0 : SrtC) : Int × List Int → Option ((Int × List Int) ⊕ List Int)
  | (w45, w46) =>
  if w45 < a1 then
    z0u (zc6 a1 a2_0_0 w45) LFm (0, IntKind.i64.wrap (2 * w45), w46)
  else
    z0A <|
    some w46
abbrev zeT (a1 : Int) (a2_0_0 : SrtC) : Int × Int × List Int → Option ((Int × Int × List Int) ⊕ List Int)
  | (w32, w33, w34) =>
  if w33 ≤ a1 then
    (zyg w34 w32 w33 a2_0_0).bind fun v36 =>
    z0n (w33, IntKind.i64.wrap (w33 + 20), v36)
  else
    z0A <|
    (zyg w34 w32 a1 a2_0_0).bind fun v37 =>
    z0u (zeS a1 a2_0_0) LFm (20, v37)
def zBd (a0 : List Int) (a1 : Int) (a2_0_0 : SrtC) : Option (List Int) :=
  z0u (zeT a1 a2_0_0) LFm (0, 20, a0)
def zye (a0 : List Int) (a1_0_0 : SrtC) : Option (List Int) :=
  (zBd a0 (a0.length : Int) a1_0_0).bind fun v2 =>
  some v2
end
end Go.Proofs.Ytodliknibbafeaa
end
section
namespace Go.Proofs.Ytodliknibbafeaa
open Go
set_option maxRecDepth 100000
theorem zxy (i j : Nat) (h : i + j < 4611686018427387904) : IntKind.i64.wrap (z0e .u64 (IntKind.u64.wrap (IntKind.i64.wrap ((i : Int) + j))) 1) = (((i + j) / 2 : Nat) : Int) := by
  have e1 : IntKind.u64.wrap (IntKind.i64.wrap ((i : Int) + j)) = (((i + j : Nat)) : Int) := by
    rw [z2B (by omega) (by omega), IntKind.wrap_u64]; omega
  have e2 : z0e .u64 (((i + j : Nat)) : Int) 1 = (((i + j) / 2 : Nat) : Int) := by
    unfold z0e
    have : min ((1 : Int).toNat) IntKind.u64.bits = 1 := by decide
    rw [this, Int.fdiv_eq_ediv_of_nonneg _ (by decide)]
    omega
  rw [e1, e2, z2B (by omega) (by omega)]
theorem at0 {α : Type} (A : List α) (x : α) (B : List α) {i : Nat} (h : i = A.length) : atI (A ++ x :: B) (i : Int) = some x := by
  subst h
  rw [z2y (by simp)]; simp
theorem at1 {α : Type} (A : List α) (x y : α) (B : List α) {i : Nat} (h : i = A.length + 1) : atI (A ++ x :: y :: B) (i : Int) = some y := by
  have : A ++ x :: y :: B = (A ++ [x]) ++ y :: B := by simp
  rw [this]
  exact at0 _ _ _ (by simpa using h)
theorem zvX {α : Type} (A : List α) (x z : α) (B : List α) {i : Nat} (h : i = A.length) : (A ++ x :: B).set i z = A ++ z :: B := by
  subst h; simp
theorem zyC {α : Type} (A : List α) (x y z : α) (B : List α) {i : Nat} (h : i = A.length + 1) : (A ++ x :: y :: B).set i z = A ++ x :: z :: B := by
  have : A ++ x :: y :: B = (A ++ [x]) ++ y :: B := by simp
  rw [this, zvX _ _ _ _ (by simpa using h)]; simp
abbrev kvC (K : SrtC) (x : Int) : Int := K.key x
abbrev okS (K : SrtC) (x : Int) : Prop := K.ok x
abbrev zis (K : SrtC) (l : List Int) : Prop := ∀ x ∈ l, okS K x
abbrev z7t (K : SrtC) (l : List Int) : Prop := l.Pairwise fun x y => kvC K x ≤ kvC K y
abbrev Bef (U V : List Int) : Prop := ∀ x ∈ U, ∀ y ∈ V, x < y
theorem zyn {K : SrtC} {x y : Int} (hx : okS K x) (hy : okS K y) (h : y < x) : ∃ c, K.cmp x y = some c ∧ (c < 0 ↔ kvC K x < kvC K y) := K.law x y hx hy h
theorem z8f {V : List Int} {t : Nat} (h : t < V.length) : V.getD t 0 ∈ V := by
  rw [List.getD, List.getElem?_eq_getElem h, Option.getD_some]; exact List.getElem_mem h
theorem zwi {K : SrtC} {P S R : List Int} {x : Int} (hv : zis K (S ++ [x])) (hs : z7t K S) (hb : ∀ y ∈ S, y < x) (hl : P.length + S.length < 2 ^ 40) {w : Nat} (hw : w = P.length + S.length) :
    ∃ S', z0u (zi8 (P.length : Int) K (w : Int)) LFm ((w : Int), P ++ S ++ x :: R) = some (.inl (((w + 1 : Nat) : Int), P ++ S' ++ R)) ∧ z7t K S' ∧ S'.Perm (S ++ [x]) := by
  refine Exists.elim (z3c (b := zi8 (P.length : Int) K (w : Int)) (fun z => ∃ S1 S2, S1 ++ S2 = S ∧ z = (((P.length + S1.length : Nat) : Int), P ++ S1 ++ x :: (S2 ++ R)) ∧ ∀ y ∈ S2, kvC K x < kvC K y) (fun z => z.1.toNat)
    (fun r => ∃ S', r = .inl (((w + 1 : Nat) : Int), P ++ S' ++ R) ∧ z7t K S' ∧ S'.Perm (S ++ [x])) ?_ LFm ((w : Int), P ++ S ++ x :: R) ⟨S, [], by simp, by rw [hw]; simp, by simp⟩ (by simp only [LFm]; omega)) fun r h => by
      obtain ⟨h1, S', rfl, h2, h3⟩ := h
      exact ⟨S', h1, h2, h3⟩
  rintro z ⟨S1, S2, rfl, rfl, h2⟩
  have hlen : S1.length + S2.length < 2 ^ 40 := by rw [List.length_append] at hl; omega
  have fin : (∀ y ∈ S1, kvC K y ≤ kvC K x) → z7t K (S1 ++ x :: S2) ∧ (S1 ++ x :: S2).Perm (S1 ++ S2 ++ [x]) := fun hle => by
    refine ⟨?_, ?_⟩
    · rw [z7t, List.pairwise_append] at hs ⊢
      refine ⟨hs.1, List.pairwise_cons.2 ⟨fun y hy => by have := h2 y hy; omega, hs.2.1⟩, fun a ha b hb => ?_⟩
      rcases List.mem_cons.1 hb with rfl | hb
      · exact hle a ha
      · exact hs.2.2 a ha b hb
    · rw [List.append_assoc]
      exact List.Perm.append_left _ (List.perm_append_singleton x S2).symm
  simp only [zi8]
  rcases List.eq_nil_or_concat S1 with rfl | ⟨S0, y, rfl⟩
  · right
    rw [if_neg (by simp)]
    obtain ⟨f1, f2⟩ := fin (fun y hy => by simp at hy)
    refine ⟨_, rfl, x :: S2, ?_, by simpa using f1, by simpa using f2⟩
    have : IntKind.i64.wrap ((w : Int) + 1) = ((w + 1 : Nat) : Int) := by rw [z2B (by omega) (by omega)]; omega
    rw [this]; simp
  · simp only [List.concat_eq_append] at *
    have hy : okS K y := hv y (by simp)
    have hx : okS K x := hv x (by simp)
    have e1 : P ++ (S0 ++ [y]) ++ x :: (S2 ++ R) = (P ++ S0) ++ y :: x :: (S2 ++ R) := by simp
    have hn : (P.length + (S0 ++ [y]).length : Nat) = (P ++ S0).length + 1 := by simp; omega
    have hj : IntKind.i64.wrap ((((P ++ S0).length + 1 : Nat) : Int) - 1) = (((P ++ S0).length : Nat) : Int) := by
      rw [z2B (by simp at hlen ⊢; omega) (by simp at hlen ⊢; simp at hl; omega)]; omega
    rw [e1, hn, if_pos (by simp; omega), at1 _ _ _ _ rfl, Option.bind_some, hj, at0 _ _ _ rfl, Option.bind_some]
    obtain ⟨c, hc, hc2⟩ := zyn hx hy (hb y (by simp))
    rw [hc, Option.bind_some]
    by_cases hlt : c < 0
    · left
      rw [if_pos hlt, Int.toNat_natCast, zyC _ _ _ _ _ rfl, at0 _ _ _ rfl, Option.bind_some, Int.toNat_natCast, zvX _ _ _ _ rfl]
      refine ⟨_, rfl, ⟨S0, y :: S2, by simp, ?_, fun z hz => ?_⟩, by simp only; omega⟩
      · simp
      · rcases List.mem_cons.1 hz with rfl | hz
        · exact hc2.1 hlt
        · exact h2 z hz
    · right
      rw [if_neg hlt]
      have hyx : kvC K y ≤ kvC K x := by have := (not_congr hc2).1 hlt; omega
      obtain ⟨f1, f2⟩ := fin (fun z hz => by
        rcases List.mem_append.1 hz with hz | hz
        · rw [z7t, List.pairwise_append, List.pairwise_append] at hs
          have := hs.1.2.2 z hz y (by simp)
          omega
        · obtain rfl := List.mem_singleton.1 hz; exact hyx)
      refine ⟨_, rfl, S0 ++ [y] ++ x :: S2, ?_, f1, f2⟩
      have : IntKind.i64.wrap ((w : Int) + 1) = ((w + 1 : Nat) : Int) := by rw [z2B (by omega) (by omega)]; omega
      rw [this]; simp
theorem znU {K : SrtC} {P X R : List Int} (hv : zis K X) (hX : X.Pairwise (· < ·)) (hl : P.length + X.length < 2 ^ 40) {a b : Nat} (ha : a = P.length) (hb : b = P.length + X.length) :
    ∃ S, zyg (P ++ X ++ R) (a : Int) (b : Int) K = some (P ++ S ++ R) ∧ z7t K S ∧ S.Perm X := by
  subst ha hb
  unfold zyg
  rw [z1O (by omega)]
  cases X with
  | nil =>
    refine ⟨[], ?_, by simp, .refl _⟩
    rw [show LFm = (LFm - 1) + 1 from rfl, z0u]
    simp only [zi9]
    rw [if_neg (by simp; omega)]
    rfl
  | cons x X =>
    refine Exists.elim (z3c (b := zi9 (P.length : Int) ((P.length + (x :: X).length : Nat) : Int) K) (fun z => ∃ S U T, S ≠ [] ∧ z = (((P.length + S.length : Nat) : Int), P ++ S ++ (U ++ R)) ∧ z7t K S ∧ T ++ U = x :: X ∧ S.Perm T) (fun z => P.length + (x :: X).length + 1 - z.1.toNat)
      (fun r => ∃ S, r = P ++ S ++ R ∧ z7t K S ∧ S.Perm (x :: X)) ?_ LFm ((P.length + 1 : Nat), P ++ x :: X ++ R) ⟨[x], X, [x], by simp, by simp, by simp, rfl, .refl _⟩ (by simp only [LFm]; omega)) fun r h => by
        obtain ⟨h1, S, rfl, h2, h3⟩ := h
        exact ⟨S, h1, h2, h3⟩
    rintro z ⟨S, U, T, h0, rfl, h1, hT, hST⟩
    have h2 : (S ++ U).Perm (x :: X) := by rw [← hT]; exact hST.append_right U
    have hlen := h2.length_eq
    rw [List.length_append] at hlen
    simp only [zi9]
    cases U with
    | nil =>
      right
      rw [if_neg (by simp at hlen ⊢; omega)]
      exact ⟨_, rfl, S, by simp, h1, by simpa using h2⟩
    | cons u U =>
      left
      rw [if_pos (by simp at hlen ⊢; omega)]
      have hvS : zis K (S ++ [u]) := fun y hy => hv y (h2.mem_iff.1 (by
        rcases List.mem_append.1 hy with hy | hy
        · exact List.mem_append.2 (.inl hy)
        · obtain rfl := List.mem_singleton.1 hy; simp))
      have hbu : ∀ y ∈ S, y < u := fun y hy => by
        have hp : (T ++ u :: U).Pairwise (· < ·) := by rw [hT]; exact hX
        exact (List.pairwise_append.1 hp).2.2 y (hST.mem_iff.1 hy) u (List.mem_cons_self ..)
      obtain ⟨S', e, s1, s2⟩ := zwi (P := P) (S := S) (R := U ++ R) (x := u) hvS h1 hbu (by simp at hlen hl ⊢; omega) rfl
      have e' : P ++ S ++ (u :: U ++ R) = P ++ S ++ u :: (U ++ R) := rfl
      rw [e', e]
      have hS' := s2.length_eq
      simp at hS'
      refine ⟨_, rfl, ⟨S', U, T ++ [u], fun h => by rw [h] at hS'; simp at hS', ?_, s1, by rw [List.append_assoc]; exact hT, s2.trans (hST.append_right [u])⟩, ?_⟩
      · simp only [hS']
        congr 1
      · have := congrArg List.length hT
        simp at this hlen ⊢; omega
theorem zu3 {P V R : List Int} {x : Int} (hl : P.length + V.length < 2 ^ 40) {w : Nat} (hw : w = P.length + V.length + 1) :
    z0u (zi6 (w : Int)) LFm ((P.length : Int), P ++ x :: (V ++ R)) = some (P ++ V ++ x :: R) := by
  refine z1a (s := ((P.length : Int), P ++ x :: (V ++ R))) V.length (fun k => (((P.length + k : Nat) : Int), (P ++ V.take k) ++ x :: (V.drop k ++ R))) (by simp) (by simp only [LFm]; omega) (fun k hk => ?_) ?_
  · have hlk : P.length + k = (P ++ V.take k).length := by rw [List.length_append, List.length_take]; omega
    simp only [zi6]
    rw [z2B (x := (w : Int) - 1) (by omega) (by omega), if_pos (by omega)]
    have hj : IntKind.i64.wrap (((P.length + k : Nat) : Int) + 1) = ((P.length + k + 1 : Nat) : Int) := by rw [z2B (by omega) (by omega)]; omega
    rw [hj, List.drop_eq_getElem_cons hk, List.cons_append, hlk, at1 _ _ _ _ rfl, Option.bind_some, at0 _ _ _ rfl, Option.bind_some, Int.toNat_natCast, zvX _ _ _ _ rfl, at1 _ _ _ _ rfl, Option.bind_some, Int.toNat_natCast, zyC _ _ _ _ _ rfl]
    rw [List.take_succ_eq_append_getElem hk]
    have e2 : P.length + (k + 1) = (P ++ V.take k).length + 1 := by omega
    rw [e2]
    simp only [List.append_assoc, List.cons_append, List.nil_append]
  · simp only [zi6]
    rw [z2B (x := (w : Int) - 1) (by omega) (by omega), if_neg (by omega)]
    simp
theorem zqX {P V R : List Int} {x : Int} (hl : P.length + V.length < 2 ^ 40) :
    z0u (zcD (P.length : Int)) LFm (((P.length + V.length : Nat) : Int), P ++ V ++ x :: R) = some (P ++ x :: (V ++ R)) := by
  refine z1a (s := (((P.length + V.length : Nat) : Int), P ++ V ++ x :: R)) V.length (fun k => (((P.length + (V.length - k) : Nat) : Int), (P ++ V.take (V.length - k)) ++ x :: (V.drop (V.length - k) ++ R))) (by simp) (by simp only [LFm]; omega) (fun k hk => ?_) ?_
  · obtain ⟨j, hj⟩ : ∃ j, V.length - k = j + 1 := ⟨V.length - k - 1, by omega⟩
    have hjl : j < V.length := by omega
    have e3 : V.length - (k + 1) = j := by omega
    have hlk : P.length + j = (P ++ V.take j).length := by rw [List.length_append, List.length_take]; omega
    rw [hj, e3]
    simp only [zcD]
    rw [if_pos (by omega)]
    have hw : IntKind.i64.wrap (((P.length + (j + 1) : Nat) : Int) - 1) = ((P.length + j : Nat) : Int) := by rw [z2B (by omega) (by omega)]; omega
    have e1 : (P ++ V.take (j + 1)) ++ x :: (V.drop (j + 1) ++ R) = (P ++ V.take j) ++ V[j] :: x :: (V.drop (j + 1) ++ R) := by
      rw [List.take_succ_eq_append_getElem hjl]; simp only [List.append_assoc, List.cons_append, List.nil_append]
    have e2 : P.length + (j + 1) = (P ++ V.take j).length + 1 := by omega
    rw [hw, e1, hlk, e2, at0 _ _ _ rfl, Option.bind_some, at1 _ _ _ _ rfl, Option.bind_some, Int.toNat_natCast, zyC _ _ _ _ _ rfl, at0 _ _ _ rfl, Option.bind_some, Int.toNat_natCast, zvX _ _ _ _ rfl, List.drop_eq_getElem_cons hjl]
    rfl
  · simp only [zcD]
    rw [if_neg (by omega)]
    simp
end Go.Proofs.Ytodliknibbafeaa
end
section
namespace Go.Proofs.Ytodliknibbafeaa
open Go
set_option maxRecDepth 100000
theorem zbX {P X M Y R : List Int} (K : SrtC) (hxy : X.length = Y.length) (hl : P.length + X.length + M.length + Y.length < 2 ^ 40) {a b n : Nat} (ha : a = P.length) (hb : b = P.length + X.length + M.length) (hn : n = X.length) :
    zxM (P ++ (X ++ (M ++ (Y ++ R)))) (a : Int) (b : Int) (n : Int) K = some (P ++ (Y ++ (M ++ (X ++ R)))) := by
  subst ha hb hn
  unfold zxM
  refine z1a (s := ((0 : Int), P ++ (X ++ (M ++ (Y ++ R))))) X.length (fun k => ((k : Int), P ++ (Y.take k ++ (X.drop k ++ (M ++ (X.take k ++ (Y.drop k ++ R))))))) (by simp) (by simp only [LFm]; omega) (fun k hk => ?_) ?_
  · have hk' : k < Y.length := by omega
    simp only [zmz]
    have e1 : IntKind.i64.wrap ((((P.length + X.length + M.length : Nat)) : Int) + (k : Int)) = ((P.length + X.length + M.length + k : Nat) : Int) := by rw [z2B (by omega) (by omega)]; omega
    have e2 : IntKind.i64.wrap ((P.length : Int) + (k : Int)) = ((P.length + k : Nat) : Int) := by rw [z2B (by omega) (by omega)]; omega
    rw [if_pos (by omega), e1, e2, z1O (by omega), List.drop_eq_getElem_cons hk, List.drop_eq_getElem_cons hk']
    have f1 : P ++ (Y.take k ++ (X[k] :: X.drop (k + 1) ++ (M ++ (X.take k ++ (Y[k] :: Y.drop (k + 1) ++ R))))) = (P ++ Y.take k) ++ X[k] :: (X.drop (k + 1) ++ (M ++ (X.take k ++ Y[k] :: (Y.drop (k + 1) ++ R)))) := by simp only [List.append_assoc, List.cons_append]
    have l1 : P.length + k = (P ++ Y.take k).length := by rw [List.length_append, List.length_take]; omega
    have g : ∀ z : Int, (P ++ Y.take k) ++ z :: (X.drop (k + 1) ++ (M ++ (X.take k ++ Y[k] :: (Y.drop (k + 1) ++ R)))) = ((P ++ Y.take k) ++ z :: (X.drop (k + 1) ++ (M ++ X.take k))) ++ Y[k] :: (Y.drop (k + 1) ++ R) := fun z => by simp only [List.append_assoc, List.cons_append]
    have l2 : ∀ z : Int, P.length + X.length + M.length + k = ((P ++ Y.take k) ++ z :: (X.drop (k + 1) ++ (M ++ X.take k))).length := fun z => by
      simp only [List.length_append, List.length_cons, List.length_take, List.length_drop]; omega
    rw [f1, l1]
    conv => lhs; rw [show (P ++ List.take k Y ++ X[k] :: (List.drop (k + 1) X ++ (M ++ (List.take k X ++ Y[k] :: (List.drop (k + 1) Y ++ R))))) = _ from g X[k]]
    rw [at0 _ _ _ (l2 X[k]), Option.bind_some, ← g, at0 _ _ _ rfl, Option.bind_some, Int.toNat_natCast, zvX _ _ _ _ rfl, g, at0 _ _ _ (l2 Y[k]), Option.bind_some, Int.toNat_natCast, zvX _ _ _ _ (l2 Y[k])]
    rw [List.take_succ_eq_append_getElem hk, List.take_succ_eq_append_getElem hk']
    simp only [List.append_assoc, List.cons_append, List.nil_append]
  · simp only [zmz]
    rw [if_neg (by omega)]
    have e3 : Y.take X.length = Y := List.take_of_length_le (by omega)
    have e4 : Y.drop X.length = [] := List.drop_of_length_le (by omega)
    simp [e3, e4]
theorem rotate {P U V R : List Int} (K : SrtC) (hU : U ≠ []) (hV : V ≠ []) (hl : P.length + U.length + V.length < 2 ^ 40) {a m b : Nat} (ha : a = P.length) (hm : m = P.length + U.length) (hb : b = P.length + U.length + V.length) :
    zyf (P ++ (U ++ (V ++ R))) (a : Int) (m : Int) (b : Int) K = some (P ++ (V ++ (U ++ R))) := by
  subst ha hm hb
  unfold zyf
  have e1 : IntKind.i64.wrap (((P.length + U.length : Nat) : Int) - (P.length : Int)) = (U.length : Int) := by rw [z2B (by omega) (by omega)]; omega
  have e2 : IntKind.i64.wrap (((P.length + U.length + V.length : Nat) : Int) - ((P.length + U.length : Nat) : Int)) = (V.length : Int) := by rw [z2B (by omega) (by omega)]; omega
  rw [e1, e2]
  refine zhR (s := ((U.length : Int), (V.length : Int), P ++ (U ++ (V ++ R)))) (fun z => ∃ (A X Y B : List Int), X ≠ [] ∧ Y ≠ [] ∧ A.length + X.length = P.length + U.length ∧ A.length + X.length + Y.length ≤ P.length + U.length + V.length ∧ z = ((X.length : Int), (Y.length : Int), A ++ (X ++ (Y ++ B))) ∧ A ++ (Y ++ (X ++ B)) = P ++ (V ++ (U ++ R))) (fun z => z.1.toNat + z.2.1.toNat) ⟨P, U, V, R, hU, hV, rfl, by omega, rfl, rfl⟩ (by simp only [LFm]; omega) ?_
  rintro z ⟨A, X, Y, B, hX, hY, hm, hb, rfl, hfin⟩
  have x0 := List.length_pos_iff.2 hX
  have y0 := List.length_pos_iff.2 hY
  have hmi : IntKind.i64.wrap (((P.length + U.length : Nat) : Int) - (X.length : Int)) = (A.length : Int) := by rw [z2B (by omega) (by omega)]; omega
  simp only [ztc]
  by_cases h1 : (X.length : Int) = (Y.length : Int)
  · right
    rw [if_pos h1, hmi]
    have := zbX (P := A) (X := X) (M := []) (Y := Y) (R := B) K (by omega) (by simp; omega) rfl (b := P.length + U.length) (by simp; omega) rfl
    rw [List.nil_append, List.nil_append] at this
    rw [this, Option.bind_some, hfin]
  · left
    rw [if_neg h1]
    by_cases h2 : (Y.length : Int) < (X.length : Int)
    · rw [if_pos h2, hmi]
      have hx1 : (X.take Y.length).length = Y.length := by rw [List.length_take]; omega
      have := zbX (P := A) (X := X.take Y.length) (M := X.drop Y.length) (Y := Y) (R := B) K hx1 (by simp only [List.length_take, List.length_drop]; omega) rfl (b := P.length + U.length) (by simp only [List.length_take, List.length_drop]; omega) (n := Y.length) hx1.symm
      have e : A ++ (X.take Y.length ++ (X.drop Y.length ++ (Y ++ B))) = A ++ (X ++ (Y ++ B)) := by
        rw [← List.append_assoc (X.take Y.length), List.take_append_drop]
      rw [e] at this
      rw [this, Option.bind_some]
      have hw : IntKind.i64.wrap ((X.length : Int) - (Y.length : Int)) = ((X.drop Y.length).length : Int) := by rw [z2B (by omega) (by omega), List.length_drop]; omega
      refine ⟨_, rfl, ⟨A ++ Y, X.drop Y.length, X.take Y.length, B, ?_, ?_, ?_, ?_, ?_, ?_⟩, ?_⟩
      · intro h; have := congrArg List.length h; simp at this; omega
      · intro h; rw [h] at hx1; simp at hx1; omega
      · rw [List.length_append, List.length_drop]; omega
      · rw [List.length_append, List.length_drop, hx1]; omega
      · rw [hw, hx1]; simp only [List.append_assoc]
      · rw [← hfin, List.append_assoc, ← List.append_assoc (X.take Y.length), List.take_append_drop]
      · simp only [hw, List.length_drop, Int.toNat_natCast]; omega
    · rw [if_neg h2, hmi]
      have hlt : X.length < Y.length := by omega
      have hb1 : IntKind.i64.wrap (IntKind.i64.wrap (((P.length + U.length : Nat) : Int) + (Y.length : Int)) - (X.length : Int)) = ((P.length + U.length + Y.length - X.length : Nat) : Int) := by
        rw [z2B (x := ((P.length + U.length : Nat) : Int) + (Y.length : Int)) (by omega) (by omega), z2B (by omega) (by omega)]; omega
      have hy1 : (Y.drop (Y.length - X.length)).length = X.length := by rw [List.length_drop]; omega
      have := zbX (P := A) (X := X) (M := Y.take (Y.length - X.length)) (Y := Y.drop (Y.length - X.length)) (R := B) K hy1.symm (by simp only [List.length_take, List.length_drop]; omega) rfl (b := P.length + U.length + Y.length - X.length) (by simp only [List.length_take]; omega) rfl
      have e : A ++ (X ++ (Y.take (Y.length - X.length) ++ (Y.drop (Y.length - X.length) ++ B))) = A ++ (X ++ (Y ++ B)) := by
        rw [← List.append_assoc (Y.take (Y.length - X.length)), List.take_append_drop]
      rw [e] at this
      rw [hb1, this, Option.bind_some]
      have hw : IntKind.i64.wrap ((Y.length : Int) - (X.length : Int)) = ((Y.take (Y.length - X.length)).length : Int) := by rw [z2B (by omega) (by omega), List.length_take]; omega
      refine ⟨_, rfl, ⟨A, Y.drop (Y.length - X.length), Y.take (Y.length - X.length), X ++ B, ?_, ?_, ?_, ?_, ?_, ?_⟩, ?_⟩
      · intro h; rw [h] at hy1; simp at hy1; omega
      · intro h; have := congrArg List.length h; simp at this; omega
      · rw [hy1]; exact hm
      · rw [hy1, List.length_take]; omega
      · rw [hw, hy1]
      · rw [← hfin, ← List.append_assoc (Y.take (Y.length - X.length)), List.take_append_drop]
      · simp only [hw, List.length_take, Int.toNat_natCast]; omega
theorem zt7 {ρ : Type} {b : Int × Int → Option ((Int × Int) ⊕ ρ)} {p : Nat → Bool} {lo hi : Nat} {Post : ρ → Prop} (hlh : lo ≤ hi) (h40 : hi < 2 ^ 40) (hmono : ∀ i j, lo ≤ i → i < j → j < hi → p j = true → p i = true)
    (step : ∀ i j : Nat, lo ≤ i → i < j → j ≤ hi → b ((i : Int), (j : Int)) = if p ((i + j) / 2) = true then z0n ((((i + j) / 2 + 1 : Nat) : Int), (j : Int)) else z0n ((i : Int), (((i + j) / 2 : Nat) : Int)))
    (last : ∀ s, lo ≤ s → s ≤ hi → (∀ k, lo ≤ k → k < s → p k = true) → (∀ k, s ≤ k → k < hi → p k = false) → ∃ r, b ((s : Int), (s : Int)) = some (.inr r) ∧ Post r) :
    ∃ r, z0u b LFm ((lo : Int), (hi : Int)) = some r ∧ Post r := by
  refine z3c (fun z => ∃ i j : Nat, lo ≤ i ∧ i ≤ j ∧ j ≤ hi ∧ z = ((i : Int), (j : Int)) ∧ (∀ k, lo ≤ k → k < i → p k = true) ∧ (∀ k, j ≤ k → k < hi → p k = false)) (fun z => (z.2 - z.1).toNat) Post ?_ LFm _ ⟨lo, hi, by omega, hlh, by omega, rfl, fun k h1 h2 => by omega, fun k h1 h2 => by omega⟩ (by simp only [LFm]; omega)
  rintro z ⟨i, j, h1, h2, h3, rfl, h4, h5⟩
  by_cases hij : i < j
  · left
    rw [step i j h1 hij h3]
    by_cases hp : p ((i + j) / 2) = true
    · rw [if_pos hp]
      refine ⟨_, rfl, ⟨(i + j) / 2 + 1, j, by omega, by omega, h3, rfl, fun k k1 k2 => ?_, h5⟩, by simp only; omega⟩
      by_cases e : k = (i + j) / 2
      · rw [e]; exact hp
      · exact hmono k ((i + j) / 2) k1 (by omega) (by omega) hp
    · rw [if_neg hp]
      refine ⟨_, rfl, ⟨i, (i + j) / 2, h1, by omega, by omega, rfl, h4, fun k k1 k2 => ?_⟩, by simp only; omega⟩
      by_cases e : k = (i + j) / 2
      · rw [e]; simpa using hp
      · cases hk : p k with
        | false => rfl
        | true => exact absurd (hmono ((i + j) / 2) k (by omega) (by omega) k2 hk) hp
  · right
    obtain rfl : i = j := by omega
    exact last i h1 h3 h4 h5
end Go.Proofs.Ytodliknibbafeaa
end
section
namespace Go.Proofs.Ytodliknibbafeaa
open Go
set_option maxRecDepth 100000
theorem atM {A V B : List Int} {t i : Nat} (h : t < V.length) (hi : i = A.length + t) : atI (A ++ (V ++ B)) (i : Int) = some (V.getD t 0) := by
  subst hi
  rw [z2y (by simp; omega)]
  congr 1
  rw [List.getElem_append_right (by omega)]
  have : A.length + t - A.length = t := by omega
  simp only [this]
  rw [List.getElem_append_left h, List.getD, List.getElem?_eq_getElem h, Option.getD_some]
theorem zyd {K : SrtC} {V : List Int} (hv : zis K V) {t : Nat} (h : t < V.length) : okS K (V.getD t 0) := by
  rw [List.getD, List.getElem?_eq_getElem h, Option.getD_some]; exact hv _ (List.getElem_mem h)
theorem z4T {K : SrtC} {V : List Int} (hs : z7t K V) {i j : Nat} (hij : i ≤ j) (hj : j < V.length) : kvC K (V.getD i 0) ≤ kvC K (V.getD j 0) := by
  rw [List.getD, List.getD, List.getElem?_eq_getElem hj, List.getElem?_eq_getElem (show i < V.length by omega), Option.getD_some, Option.getD_some]
  by_cases e : i = j
  · subst e; omega
  · exact List.pairwise_iff_getElem.1 hs i j (by omega) hj (by omega)
theorem z4b {V : List Int} {k : Nat} {x : Int} (h : x ∈ V.take k) : ∃ i, i < k ∧ i < V.length ∧ x = V.getD i 0 := by
  obtain ⟨i, hi, rfl⟩ := List.getElem_of_mem h
  have hi' : i < k ∧ i < V.length := by rw [List.length_take] at hi; omega
  refine ⟨i, hi'.1, hi'.2, ?_⟩
  rw [List.getElem_take, List.getD, List.getElem?_eq_getElem hi'.2, Option.getD_some]
theorem z4c {V : List Int} {k : Nat} {x : Int} (h : x ∈ V.drop k) : ∃ i, k ≤ i ∧ i < V.length ∧ x = V.getD i 0 := by
  obtain ⟨i, hi, rfl⟩ := List.getElem_of_mem h
  have hi' : k + i < V.length := by rw [List.length_drop] at hi; omega
  refine ⟨k + i, by omega, hi', ?_⟩
  rw [List.getElem_drop, List.getD, List.getElem?_eq_getElem hi', Option.getD_some]
theorem zsa {K : SrtC} {V1 V2 : List Int} {x : Int} (hs : z7t K (V1 ++ V2)) (h1 : ∀ y ∈ V1, kvC K y ≤ kvC K x) (h2 : ∀ y ∈ V2, kvC K x ≤ kvC K y) : z7t K (V1 ++ x :: V2) := by
  rw [z7t, List.pairwise_append] at hs ⊢
  refine ⟨hs.1, List.pairwise_cons.2 ⟨h2, hs.2.1⟩, fun a ha b hb => ?_⟩
  rcases List.mem_cons.1 hb with rfl | hb
  · exact h1 a ha
  · exact hs.2.2 a ha b hb
def tl3 (rf : List Int → Int → Int → Int → SrtC → Option (List Int)) (K : SrtC) (M E b : Int) (v : List Int) : Option (List Int) :=
  if M < E then (if E < b then (rf v M E b K).bind fun r => some r else some v) else some v
def tl2 (rf : List Int → Int → Int → Int → SrtC → Option (List Int)) (K : SrtC) (a s M E b : Int) (v : List Int) : Option (List Int) :=
  if a < s then (if s < M then (rf v a s M K).bind fun r => tl3 rf K M E b r else tl3 rf K M E b v) else tl3 rf K M E b v
def tl1 (rf : List Int → Int → Int → Int → SrtC → Option (List Int)) (K : SrtC) (a m s M E b : Int) (v : List Int) : Option (List Int) :=
  if s < m then (if m < E then (zyf v s m E K).bind fun r => tl2 rf K a s M E b r else tl2 rf K a s M E b v) else tl2 rf K a s M E b v
def zip (rf : List Int → Int → Int → Int → SrtC → Option (List Int)) (K : SrtC) (N : Nat) : Prop :=
  ∀ {P U V R : List Int} {a m b : Nat}, U ≠ [] → V ≠ [] → zis K (U ++ V) → z7t K U → z7t K V → Bef U V → P.length + U.length + V.length < 2 ^ 40 → U.length + V.length ≤ N → a = P.length → m = P.length + U.length → b = P.length + U.length + V.length →
    ∃ W, rf (P ++ (U ++ (V ++ R))) (a : Int) (m : Int) (b : Int) K = some (P ++ (W ++ R)) ∧ z7t K W ∧ W.Perm (U ++ V)
theorem zky {rf : List Int → Int → Int → Int → SrtC → Option (List Int)} {K : SrtC} {N : Nat} (hrf : zip rf K N) {P U V R : List Int} {a m b : Nat} (hv : zis K (U ++ V)) (hsU : z7t K U) (hsV : z7t K V) (hBf : Bef U V) (hl : P.length + U.length + V.length < 2 ^ 40) (hN : U.length + V.length ≤ N) (ha : a = P.length) (hm : m = P.length + U.length) (hb : b = P.length + U.length + V.length)
    (f : List Int → Option (List Int)) :
    ∃ W, (if (a : Int) < (m : Int) then (if (m : Int) < (b : Int) then (rf (P ++ (U ++ (V ++ R))) (a : Int) (m : Int) (b : Int) K).bind f else f (P ++ (U ++ (V ++ R)))) else f (P ++ (U ++ (V ++ R)))) = f (P ++ (W ++ R)) ∧ z7t K W ∧ W.Perm (U ++ V) := by
  by_cases h1 : U = []
  · subst h1
    rw [if_neg (by simp at hm; omega)]
    exact ⟨V, by simp, hsV, .refl _⟩
  · have h1' := List.length_pos_iff.2 h1
    rw [if_pos (by omega)]
    by_cases h2 : V = []
    · subst h2
      rw [if_neg (by simp at hb; omega)]
      exact ⟨U, by simp, hsU, by simp⟩
    · have h2' := List.length_pos_iff.2 h2
      rw [if_pos (by omega)]
      obtain ⟨W, e, w1, w2⟩ := hrf h1 h2 hv hsU hsV hBf hl hN ha hm hb (R := R)
      exact ⟨W, by rw [e, Option.bind_some], w1, w2⟩
theorem zx2 {rf : List Int → Int → Int → Int → SrtC → Option (List Int)} {K : SrtC} {N : Nat} (hrf : zip rf K N) {P U1 U2 V1 V2 R : List Int} {a m b s M E : Nat} (hv : zis K (U1 ++ U2 ++ (V1 ++ V2))) (hsU : z7t K (U1 ++ U2)) (hsV : z7t K (V1 ++ V2)) (hBf : Bef (U1 ++ U2) (V1 ++ V2)) (hl : P.length + U1.length + U2.length + V1.length + V2.length < 2 ^ 40)
    (h1 : U1.length + V1.length ≤ N) (h2 : U2.length + V2.length ≤ N) (ha : a = P.length) (hs : s = a + U1.length) (hm : m = s + U2.length) (hE : E = m + V1.length) (hb : b = E + V2.length) (hM : M = s + V1.length)
    (c1 : ∀ x ∈ U1, ∀ y ∈ V2, kvC K x ≤ kvC K y) (c2 : ∀ x ∈ V1, ∀ y ∈ U2, kvC K x ≤ kvC K y) :
    ∃ W, tl1 rf K (a : Int) (m : Int) (s : Int) (M : Int) (E : Int) (b : Int) (P ++ (U1 ++ U2 ++ (V1 ++ V2 ++ R))) = some (P ++ (W ++ R)) ∧ z7t K W ∧ W.Perm (U1 ++ U2 ++ (V1 ++ V2)) := by
  have e0 : tl1 rf K (a : Int) (m : Int) (s : Int) (M : Int) (E : Int) (b : Int) (P ++ (U1 ++ U2 ++ (V1 ++ V2 ++ R))) = tl2 rf K (a : Int) (s : Int) (M : Int) (E : Int) (b : Int) (P ++ (U1 ++ (V1 ++ (U2 ++ (V2 ++ R))))) := by
    unfold tl1
    by_cases hu : U2 = []
    · subst hu
      rw [if_neg (by simp at hm; omega)]; simp
    · have hu' := List.length_pos_iff.2 hu
      rw [if_pos (by omega)]
      by_cases hw : V1 = []
      · subst hw
        rw [if_neg (by simp at hE; omega)]; simp
      · have hw' := List.length_pos_iff.2 hw
        rw [if_pos (by omega)]
        have := rotate (P := P ++ U1) (U := U2) (V := V1) (R := V2 ++ R) K hu hw (by simp; omega) (a := s) (m := m) (b := E) (by simp; omega) (by simp; omega) (by simp; omega)
        have e : P ++ U1 ++ (U2 ++ (V1 ++ (V2 ++ R))) = P ++ (U1 ++ U2 ++ (V1 ++ V2 ++ R)) := by simp only [List.append_assoc]
        rw [e] at this
        rw [this, Option.bind_some]
        simp only [List.append_assoc]
  rw [e0]
  have q1 := List.pairwise_append.1 hsU
  have q2 := List.pairwise_append.1 hsV
  have m1 : ∀ x ∈ U1 ++ V1, x ∈ U1 ++ U2 ++ (V1 ++ V2) := fun x hx => by
    simp only [List.mem_append] at *
    rcases hx with h | h
    · exact .inl (.inl h)
    · exact .inr (.inl h)
  have m2 : ∀ x ∈ U2 ++ V2, x ∈ U1 ++ U2 ++ (V1 ++ V2) := fun x hx => by
    simp only [List.mem_append] at *
    rcases hx with h | h
    · exact .inl (.inr h)
    · exact .inr (.inr h)
  obtain ⟨L, e1, l1, l2⟩ := zky (R := U2 ++ (V2 ++ R)) hrf (P := P) (U := U1) (V := V1) (fun x hx => hv x (m1 x hx)) q1.1 q2.1 (fun x hx y hy => hBf x (List.mem_append.2 (.inl hx)) y (List.mem_append.2 (.inl hy))) (by omega) h1 ha (m := s) (by omega) (b := M) (by omega) (tl3 rf K (M : Int) (E : Int) (b : Int))
  have hL := l2.length_eq
  rw [List.length_append] at hL
  unfold tl2
  rw [e1]
  obtain ⟨Rw, e2, r1, r2⟩ := zky (R := R) hrf (P := P ++ L) (U := U2) (V := V2) (fun x hx => hv x (m2 x hx)) q1.2.1 q2.2.1 (fun x hx y hy => hBf x (List.mem_append.2 (.inr hx)) y (List.mem_append.2 (.inr hy))) (by rw [List.length_append]; omega) h2 (a := M) (by rw [List.length_append]; omega) (m := E) (by rw [List.length_append]; omega) (b := b) (by rw [List.length_append]; omega) (fun r => some r)
  unfold tl3
  have e : P ++ (L ++ (U2 ++ (V2 ++ R))) = P ++ L ++ (U2 ++ (V2 ++ R)) := by simp only [List.append_assoc]
  rw [e, e2]
  refine ⟨L ++ Rw, by simp only [List.append_assoc], ?_, ?_⟩
  · refine List.pairwise_append.2 ⟨l1, r1, fun x hx y hy => ?_⟩
    have hx' := l2.mem_iff.1 hx
    have hy' := r2.mem_iff.1 hy
    rcases List.mem_append.1 hx' with hx' | hx' <;> rcases List.mem_append.1 hy' with hy' | hy'
    · exact q1.2.2 x hx' y hy'
    · exact c1 x hx' y hy'
    · exact c2 x hx' y hy'
    · exact q2.2.2 x hx' y hy'
  · refine (l2.append r2).trans ?_
    have : (U1 ++ V1 ++ (U2 ++ V2)).Perm (U1 ++ U2 ++ (V1 ++ V2)) := by
      simp only [List.append_assoc]
      refine List.Perm.append_left U1 ?_
      rw [← List.append_assoc, ← List.append_assoc]
      exact List.perm_append_comm.append_right V2
    exact this
theorem zkj {rf : List Int → Int → Int → Int → SrtC → Option (List Int)} {K : SrtC} {N : Nat} (hrf : zip rf K N) {P U V R : List Int} (hv : zis K (U ++ V)) (hsU : z7t K U) (hsV : z7t K V) (hBf : Bef U V) (hl : P.length + U.length + V.length < 2 ^ 40) {a m b M lo hi : Nat} (ha : a = P.length) (hm : m = P.length + U.length) (hb : b = P.length + U.length + V.length)
    (hU2 : 2 ≤ U.length) (hV2 : 2 ≤ V.length) (hN : U.length + V.length ≤ N + 1) (hM : M = (a + b) / 2) (hlo : (lo = a ∧ m ≤ M) ∨ (lo = M + m - b ∧ M < m)) (hhi : (hi = m ∧ m ≤ M) ∨ (hi = M ∧ M < m)) :
    ∃ r, z0u (z8j (P ++ (U ++ (V ++ R))) (a : Int) (m : Int) (b : Int) K rf) LFm ((lo : Int), (hi : Int)) = some r ∧ ∃ W, r = P ++ (W ++ R) ∧ z7t K W ∧ W.Perm (U ++ V) := by
  have hvU : zis K U := fun x hx => hv x (List.mem_append.2 (.inl hx))
  have hvV : zis K V := fun x hx => hv x (List.mem_append.2 (.inr hx))
  have cM : IntKind.i64.wrap (z0e .u64 (IntKind.u64.wrap (IntKind.i64.wrap ((a : Int) + b))) 1) = (M : Int) := by rw [zxy _ _ (by omega), hM]
  have cN : IntKind.i64.wrap ((M : Int) + (m : Int)) = ((M + m : Nat) : Int) := by rw [z2B (by omega) (by omega)]; omega
  have cP : IntKind.i64.wrap (((M + m : Nat) : Int) - 1) = ((M + m - 1 : Nat) : Int) := by rw [z2B (by omega) (by omega)]; omega
  refine zt7 (p := fun c => decide (kvC K (U.getD (c - a) 0) ≤ kvC K (V.getD (M + m - 1 - c - m) 0))) (by omega) (by omega) (fun i j h1 h2 h3 hp => ?_) (fun i j h1 h2 h3 => ?_) (fun s h1 h2 h3 h4 => ?_)
  · simp only [decide_eq_true_eq] at hp ⊢
    have k1 := z4T hsU (i := i - a) (j := j - a) (by omega) (by omega)
    have k2 := z4T hsV (i := M + m - 1 - j - m) (j := M + m - 1 - i - m) (by omega) (by omega)
    omega
  · simp only [z8j]
    rw [if_pos (by omega), z0w _ (by omega), cM, zxy i j (by omega), cN, cP]
    have hc : (i + j) / 2 < hi ∧ lo ≤ (i + j) / 2 := by omega
    have w1 : IntKind.i64.wrap (((M + m - 1 : Nat) : Int) - (((i + j) / 2 : Nat) : Int)) = ((M + m - 1 - (i + j) / 2 : Nat) : Int) := by rw [z2B (by omega) (by omega)]; omega
    have e1 : P ++ (U ++ (V ++ R)) = (P ++ U) ++ (V ++ R) := by simp only [List.append_assoc]
    have g1 : atI (P ++ (U ++ (V ++ R))) ((M + m - 1 - (i + j) / 2 : Nat) : Int) = some (V.getD (M + m - 1 - (i + j) / 2 - m) 0) := by
      rw [e1]; exact atM (by omega) (by rw [List.length_append]; omega)
    have g2 : atI (P ++ (U ++ (V ++ R))) (((i + j) / 2 : Nat) : Int) = some (U.getD ((i + j) / 2 - a) 0) := atM (by omega) (by omega)
    rw [w1, g1, Option.bind_some, g2, Option.bind_some]
    obtain ⟨c, hc1, hc2⟩ := zyn (zyd hvV (t := M + m - 1 - (i + j) / 2 - m) (by omega)) (zyd hvU (t := (i + j) / 2 - a) (by omega)) (hBf _ (z8f (by omega)) _ (z8f (by omega)))
    rw [hc1, Option.bind_some]
    simp only [decide_eq_true_eq]
    by_cases h : c < 0
    · have := hc2.1 h
      rw [if_pos h, if_neg (by omega)]
    · have := (not_congr hc2).1 h
      rw [if_neg h, if_pos (by omega), z1O (by omega)]
  · have wE : IntKind.i64.wrap (((M + m : Nat) : Int) - (s : Int)) = ((M + m - s : Nat) : Int) := by rw [z2B (by omega) (by omega)]; omega
    have hx : (z8j (P ++ (U ++ (V ++ R))) (a : Int) (m : Int) (b : Int) K rf) ((s : Int), (s : Int)) = z0A (tl1 rf K (a : Int) (m : Int) (s : Int) (M : Int) ((M + m - s : Nat) : Int) (b : Int) (P ++ (U ++ (V ++ R)))) := by
      simp only [z8j]
      rw [if_neg (by omega), cM, cN, wE]
      rfl
    have hsa : a ≤ s ∧ s ≤ m ∧ s ≤ M := by omega
    have tU : U.take (s - a) ++ U.drop (s - a) = U := List.take_append_drop ..
    have tV : V.take (M - s) ++ V.drop (M - s) = V := List.take_append_drop ..
    have lU1 : (U.take (s - a)).length = s - a := by rw [List.length_take]; omega
    have lU2 : (U.drop (s - a)).length = m - s := by rw [List.length_drop]; omega
    have lV1 : (V.take (M - s)).length = M - s := by rw [List.length_take]; omega
    have lV2 : (V.drop (M - s)).length = b - (M + m - s) := by rw [List.length_drop]; omega
    have c1 : ∀ x ∈ U.take (s - a), ∀ y ∈ V.drop (M - s), kvC K x ≤ kvC K y := fun x hx y hy => by
      obtain ⟨i, i1, i2, rfl⟩ := z4b hx
      obtain ⟨j, j1, j2, rfl⟩ := z4c hy
      have hs1 : lo ≤ s - 1 ∧ s - 1 < s := by omega
      have := h3 (s - 1) hs1.1 hs1.2
      simp only [decide_eq_true_eq] at this
      have k1 := z4T hsU (i := i) (j := s - 1 - a) (by omega) (by omega)
      have k2 := z4T hsV (i := M + m - 1 - (s - 1) - m) (j := j) (by omega) (by omega)
      omega
    have c2 : ∀ x ∈ V.take (M - s), ∀ y ∈ U.drop (s - a), kvC K x ≤ kvC K y := fun x hx y hy => by
      obtain ⟨i, i1, i2, rfl⟩ := z4b hx
      obtain ⟨j, j1, j2, rfl⟩ := z4c hy
      have hs1 : s ≤ s ∧ s < hi := by omega
      have := h4 s hs1.1 hs1.2
      simp only [decide_eq_false_iff_not] at this
      have k1 := z4T hsU (i := s - a) (j := j) (by omega) (by omega)
      have k2 := z4T hsV (i := i) (j := M + m - 1 - s - m) (by omega) (by omega)
      omega
    obtain ⟨W, e, w1, w2⟩ := zx2 (P := P) (U1 := U.take (s - a)) (U2 := U.drop (s - a)) (V1 := V.take (M - s)) (V2 := V.drop (M - s)) (R := R) hrf (a := a) (m := m) (b := b) (s := s) (M := M) (E := M + m - s) (by rw [tU, tV]; exact hv) (by rw [tU]; exact hsU) (by rw [tV]; exact hsV) (by rw [tU, tV]; exact hBf) (by omega) (by omega) (by omega) ha (by omega) (by omega) (by omega) (by omega) (by omega) c1 c2
    rw [tU, tV] at e w2
    rw [hx, e]
    exact ⟨_, rfl, W, rfl, w1, w2⟩
theorem zes {K : SrtC} : ∀ (k : Nat) {P U V R : List Int} {a m b : Nat}, U ≠ [] → V ≠ [] → zis K (U ++ V) → z7t K U → z7t K V → Bef U V → P.length + U.length + V.length < 2 ^ 40 → U.length + V.length ≤ k → a = P.length → m = P.length + U.length → b = P.length + U.length + V.length →
    ∃ W, zvo k (P ++ (U ++ (V ++ R))) (a : Int) (m : Int) (b : Int) K = some (P ++ (W ++ R)) ∧ z7t K W ∧ W.Perm (U ++ V)
  | 0, P, U, V, R, a, m, b, hU, _, _, _, _, _, _, hk, _, _, _ => by
    have := List.length_pos_iff.2 hU
    omega
  | k + 1, P, U, V, R, a, m, b, hU, hV, hv, hsU, hsV, hBf, hl, hk, ha, hm, hb => by
    have u0 := List.length_pos_iff.2 hU
    have v0 := List.length_pos_iff.2 hV
    have hvU : zis K U := fun x hx => hv x (List.mem_append.2 (.inl hx))
    have hvV : zis K V := fun x hx => hv x (List.mem_append.2 (.inr hx))
    have cU : IntKind.i64.wrap ((m : Int) - (a : Int)) = (U.length : Int) := by rw [z2B (by omega) (by omega)]; omega
    have cV : IntKind.i64.wrap ((b : Int) - (m : Int)) = (V.length : Int) := by rw [z2B (by omega) (by omega)]; omega
    show ∃ W, ztb (zvo k) (P ++ (U ++ (V ++ R))) (a : Int) (m : Int) (b : Int) K = _ ∧ _
    unfold ztb
    rw [cU, cV]
    by_cases h1 : U.length = 1
    · obtain ⟨x, rfl⟩ := List.length_eq_one_iff.1 h1
      rw [if_pos (by simp)]
      have hx : okS K x := hvU x (by simp)
      have := zt7 (b := zi7 (P ++ ([x] ++ (V ++ R))) (a : Int) K) (p := fun h => decide (kvC K (V.getD (h - m) 0) < kvC K x)) (lo := m) (hi := b) (Post := fun r => ∃ W, r = P ++ (W ++ R) ∧ z7t K W ∧ W.Perm ([x] ++ V)) (by omega) (by omega) (fun i j q1 q2 q3 hp => ?_) (fun i j q1 q2 q3 => ?_) (fun s q1 q2 q3 q4 => ?_)
      · obtain ⟨r, e, W, rfl, w1, w2⟩ := this
        exact ⟨W, e, w1, w2⟩
      · simp only [decide_eq_true_eq] at hp ⊢
        have k1 := z4T hsV (i := i - m) (j := j - m) (by omega) (by omega)
        omega
      · simp only [zi7]
        rw [if_pos (by omega), z0w _ (by omega), zxy _ _ (by omega)]
        have e1 : P ++ ([x] ++ (V ++ R)) = (P ++ [x]) ++ (V ++ R) := by simp only [List.append_assoc]
        have g1 : atI (P ++ ([x] ++ (V ++ R))) (((i + j) / 2 : Nat) : Int) = some (V.getD ((i + j) / 2 - m) 0) := by
          rw [e1]; exact atM (by omega) (by rw [List.length_append]; simp at hm ⊢; omega)
        rw [g1, Option.bind_some, show P ++ ([x] ++ (V ++ R)) = P ++ x :: (V ++ R) from rfl, at0 _ _ _ ha, Option.bind_some]
        obtain ⟨c, hc1, hc2⟩ := zyn (zyd hvV (t := (i + j) / 2 - m) (by omega)) hx (hBf _ (by simp) _ (z8f (by omega)))
        rw [hc1, Option.bind_some]
        simp only [decide_eq_true_eq]
        by_cases h : c < 0
        · rw [if_pos h, if_pos (hc2.1 h), z1O (by omega)]
        · rw [if_neg h, if_neg ((not_congr hc2).1 h)]
      · simp only [zi7]
        rw [if_neg (by omega)]
        have lV1 : (V.take (s - m)).length = s - m := by rw [List.length_take]; omega
        simp only [List.length_singleton] at *
        have := zu3 (P := P) (V := V.take (s - m)) (R := V.drop (s - m) ++ R) (x := x) (by omega) (w := s) (by omega)
        rw [← List.append_assoc (V.take (s - m)), List.take_append_drop] at this
        rw [show P ++ ([x] ++ (V ++ R)) = P ++ x :: (V ++ R) from rfl, ha, this]
        refine ⟨_, rfl, V.take (s - m) ++ x :: V.drop (s - m), by simp only [List.append_assoc, List.cons_append], ?_, ?_⟩
        · refine zsa (by rw [List.take_append_drop]; exact hsV) (fun y hy => ?_) (fun y hy => ?_)
          · obtain ⟨i, i1, i2, rfl⟩ := z4b hy
            have := q3 (m + i) (by omega) (by omega)
            simp only [decide_eq_true_eq, Nat.add_sub_cancel_left] at this
            omega
          · obtain ⟨i, i1, i2, rfl⟩ := z4c hy
            have := q4 (m + i) (by omega) (by omega)
            simp only [decide_eq_false_iff_not, Nat.add_sub_cancel_left] at this
            omega
        · refine List.perm_middle.trans ?_
          rw [List.take_append_drop]
          exact .refl _
    · rw [if_neg (by omega)]
      by_cases h2 : V.length = 1
      · obtain ⟨x, rfl⟩ := List.length_eq_one_iff.1 h2
        rw [if_pos (by simp)]
        have hx : okS K x := hvV x (by simp)
        have := zt7 (b := zcE (P ++ (U ++ ([x] ++ R))) (m : Int) K) (p := fun h => decide (kvC K (U.getD (h - a) 0) ≤ kvC K x)) (lo := a) (hi := m) (Post := fun r => ∃ W, r = P ++ (W ++ R) ∧ z7t K W ∧ W.Perm (U ++ [x])) (by omega) (by omega) (fun i j q1 q2 q3 hp => ?_) (fun i j q1 q2 q3 => ?_) (fun s q1 q2 q3 q4 => ?_)
        · obtain ⟨r, e, W, rfl, w1, w2⟩ := this
          exact ⟨W, e, w1, w2⟩
        · simp only [decide_eq_true_eq] at hp ⊢
          have k1 := z4T hsU (i := i - a) (j := j - a) (by omega) (by omega)
          omega
        · simp only [zcE]
          have e1 : P ++ (U ++ ([x] ++ R)) = (P ++ U) ++ x :: R := by simp only [List.append_assoc, List.cons_append, List.nil_append]
          have g1 : atI (P ++ (U ++ ([x] ++ R))) (((i + j) / 2 : Nat) : Int) = some (U.getD ((i + j) / 2 - a) 0) := atM (by omega) (by omega)
          have g2 : atI (P ++ (U ++ ([x] ++ R))) (m : Int) = some x := by rw [e1]; exact at0 _ _ _ (by rw [List.length_append]; omega)
          rw [if_pos (by omega), z0w _ (by omega), zxy _ _ (by omega), g2, Option.bind_some, g1, Option.bind_some]
          obtain ⟨c, hc1, hc2⟩ := zyn hx (zyd hvU (t := (i + j) / 2 - a) (by omega)) (hBf _ (z8f (by omega)) _ (by simp))
          rw [hc1, Option.bind_some]
          simp only [decide_eq_true_eq]
          by_cases h : c < 0
          · have := hc2.1 h
            rw [if_pos h, if_neg (by omega)]
          · have := (not_congr hc2).1 h
            rw [if_neg h, if_pos (by omega), z1O (by omega)]
        · simp only [zcE]
          rw [if_neg (by omega)]
          have lU1 : (U.take (s - a)).length = s - a := by rw [List.length_take]; omega
          have lU2 : (U.drop (s - a)).length = m - s := by rw [List.length_drop]; omega
          simp only [List.length_singleton] at *
          have := zqX (P := P ++ U.take (s - a)) (V := U.drop (s - a)) (R := R) (x := x) (by rw [List.length_append]; omega)
          have e2 : (P ++ U.take (s - a)).length = s := by rw [List.length_append]; omega
          have e3 : (P ++ U.take (s - a)).length + (U.drop (s - a)).length = m := by rw [e2, lU2]; omega
          have e4 : P ++ U.take (s - a) ++ U.drop (s - a) ++ x :: R = P ++ (U ++ ([x] ++ R)) := by
            rw [List.append_assoc P, List.take_append_drop]; simp only [List.append_assoc, List.cons_append, List.nil_append]
          rw [e3, e4, e2] at this
          rw [this]
          refine ⟨_, rfl, U.take (s - a) ++ x :: U.drop (s - a), by simp only [List.append_assoc, List.cons_append], ?_, ?_⟩
          · refine zsa (by rw [List.take_append_drop]; exact hsU) (fun y hy => ?_) (fun y hy => ?_)
            · obtain ⟨i, i1, i2, rfl⟩ := z4b hy
              have := q3 (a + i) (by omega) (by omega)
              simp only [decide_eq_true_eq, Nat.add_sub_cancel_left] at this
              omega
            · obtain ⟨i, i1, i2, rfl⟩ := z4c hy
              have := q4 (a + i) (by omega) (by omega)
              simp only [decide_eq_false_iff_not, Nat.add_sub_cancel_left] at this
              omega
          · refine List.perm_middle.trans ?_
            rw [List.take_append_drop]
            exact (List.perm_append_singleton x U).symm
      · rw [if_neg (by omega)]
        have hrf : zip (zvo k) K k := fun {P' U' V' R' a' m' b'} g1 g2 g3 g4 g5 g6 g7 g8 g9 g10 g11 => zes k g1 g2 g3 g4 g5 g6 g7 g8 g9 g10 g11
        have cM : IntKind.i64.wrap (z0e .u64 (IntKind.u64.wrap (IntKind.i64.wrap ((a : Int) + b))) 1) = (((a + b) / 2 : Nat) : Int) := zxy _ _ (by omega)
        have cN : IntKind.i64.wrap ((((a + b) / 2 : Nat) : Int) + (m : Int)) = (((a + b) / 2 + m : Nat) : Int) := by rw [z2B (by omega) (by omega)]; omega
        rw [z0w _ (by omega), cM, cN]
        by_cases hMm : (a + b) / 2 < m
        · have cB : IntKind.i64.wrap ((((a + b) / 2 + m : Nat) : Int) - (b : Int)) = (((a + b) / 2 + m - b : Nat) : Int) := by rw [z2B (by omega) (by omega)]; omega
          rw [if_pos (by omega), cB]
          obtain ⟨r, e, W, rfl, w1, w2⟩ := zkj (R := R) hrf hv hsU hsV hBf hl (M := (a + b) / 2) (lo := (a + b) / 2 + m - b) (hi := (a + b) / 2) ha hm hb (by omega) (by omega) (by omega) rfl (.inr ⟨rfl, hMm⟩) (.inr ⟨rfl, hMm⟩)
          exact ⟨W, e, w1, w2⟩
        · rw [if_neg (by omega)]
          obtain ⟨r, e, W, rfl, w1, w2⟩ := zkj (R := R) hrf hv hsU hsV hBf hl (M := (a + b) / 2) (lo := a) (hi := m) ha hm hb (by omega) (by omega) (by omega) rfl (.inl ⟨rfl, by omega⟩) (.inl ⟨rfl, by omega⟩)
          exact ⟨W, e, w1, w2⟩
end Go.Proofs.Ytodliknibbafeaa
end
section
namespace Go.Proofs.Ytodliknibbafeaa
open Go
set_option maxRecDepth 100000
def zir (K : SrtC) (B : Nat) (l : List Int) : Prop := (∀ i j, i < j → j < l.length → i / B = j / B → kvC K (l.getD i 0) ≤ kvC K (l.getD j 0)) ∧ ∀ i j, j < l.length → i / B < j / B → l.getD i 0 < l.getD j 0
theorem zx7 {K : SrtC} {l : List Int} (h : ∀ i j, i < j → j < l.length → kvC K (l.getD i 0) ≤ kvC K (l.getD j 0)) : z7t K l := by
  refine List.pairwise_iff_getElem.2 fun i j hi hj hij => ?_
  have := h i j hij hj
  rwa [List.getD, List.getD, List.getElem?_eq_getElem hj, List.getElem?_eq_getElem hi, Option.getD_some, Option.getD_some] at this
theorem zeR {A X : List Int} {i : Nat} (h : i < A.length) : (A ++ X).getD i 0 = A.getD i 0 := by
  rw [List.getD, List.getD, List.getElem?_append_left h]
theorem zeQ {A X : List Int} {i : Nat} : (A ++ X).getD (A.length + i) 0 = X.getD i 0 := by
  rw [List.getD, List.getD, List.getElem?_append_right (by omega), Nat.add_sub_cancel_left]
theorem zii {K : SrtC} {A X : List Int} {B q : Nat} (hB : 0 < B) (hA : A.length = q * B) (h : zir K B (A ++ X)) : zir K B X := by
  have e : ∀ i, (A.length + i) / B = i / B + q := fun i => by rw [hA, Nat.add_comm, Nat.add_mul_div_right _ _ hB]
  refine ⟨fun i j hij hj hb => ?_, fun i j hj hb => ?_⟩
  · have := h.1 (A.length + i) (A.length + j) (by omega) (by rw [List.length_append]; omega) (by rw [e, e, hb])
    rwa [zeQ, zeQ] at this
  · have := h.2 (A.length + i) (A.length + j) (by rw [List.length_append]; omega) (by rw [e, e]; omega)
    rwa [zeQ, zeQ] at this
theorem zce {K : SrtC} {U X : List Int} {B : Nat} (hU : U.length ≤ B) (h : zir K B (U ++ X)) : z7t K U := zx7 fun i j hij hj => by
  have := h.1 i j hij (by rw [List.length_append]; omega) (by rw [Nat.div_eq_of_lt (by omega), Nat.div_eq_of_lt (by omega)])
  rwa [zeR (by omega), zeR hj] at this
theorem zij {K : SrtC} {X : List Int} {B : Nat} (hB : 0 < B) (h : zir K B X) : Bef (X.take B) (X.drop B) := fun x hx y hy => by
  obtain ⟨i, i1, i2, rfl⟩ := z4b hx
  obtain ⟨j, j1, j2, rfl⟩ := z4c hy
  have := Nat.div_pos j1 hB
  exact h.2 i j j2 (by rw [Nat.div_eq_of_lt i1]; exact this)
theorem zas {K : SrtC} {D W : List Int} {B q : Nat} (hB : 0 < B) (hD : D.length = q * B) (h : zir K B D) (hW : z7t K W) (hl : W.length ≤ B) (hBf : Bef D W) : zir K B (D ++ W) := by
  have e : ∀ i, (D.length + i) / B = i / B + q := fun i => by rw [hD, Nat.add_comm, Nat.add_mul_div_right _ _ hB]
  refine ⟨fun i j hij hj hb => ?_, fun i j hj hb => ?_⟩
  · by_cases h1 : j < D.length
    · rw [zeR (by omega), zeR h1]
      exact h.1 i j hij h1 hb
    · have h2 : D.length ≤ i := by
        rcases Nat.lt_or_ge i D.length with h2 | h2
        · exfalso
          have a1 : i / B < q := by rw [Nat.div_lt_iff_lt_mul hB, ← hD]; exact h2
          have a2 : q ≤ j / B := by rw [Nat.le_div_iff_mul_le hB, ← hD]; omega
          omega
        · exact h2
      obtain ⟨i', rfl⟩ := Nat.exists_eq_add_of_le h2
      obtain ⟨j', rfl⟩ := Nat.exists_eq_add_of_le (show D.length ≤ j by omega)
      rw [zeQ, zeQ]
      exact z4T hW (by omega) (by rw [List.length_append] at hj; omega)
  · have hij : i < j := Nat.lt_of_not_le fun hji => by have := Nat.div_le_div_right (c := B) hji; omega
    rw [List.length_append] at hj
    by_cases h1 : j < D.length
    · rw [zeR (by omega), zeR h1]
      exact h.2 i j h1 hb
    · obtain ⟨j', rfl⟩ := Nat.exists_eq_add_of_le (show D.length ≤ j by omega)
      by_cases h2 : i < D.length
      · rw [zeR h2, zeQ]
        exact hBf _ (z8f h2) _ (z8f (by omega))
      · obtain ⟨i', rfl⟩ := Nat.exists_eq_add_of_le (show D.length ≤ i by omega)
        rw [e, e, Nat.div_eq_of_lt (by omega), Nat.div_eq_of_lt (by omega)] at hb
        omega
theorem ztE (K : SrtC) (B : Nat) : zir K B [] := ⟨fun i j _ hj => by simp at hj, fun i j hj => by simp at hj⟩
theorem zuV {K : SrtC} {l0 : List Int} (hv : zis K l0) (ha : l0.Pairwise (· < ·)) (hn : l0.length < 2 ^ 38) (Post : List Int → Prop) (k : ∀ D, zir K 20 D → D.Perm l0 → ∃ r, z0u (zeS ((l0.length : Nat) : Int) K) LFm (20, D) = some r ∧ Post r) :
    ∃ r, z0u (zeT ((l0.length : Nat) : Int) K) LFm (0, 20, l0) = some r ∧ Post r := by
  refine z3c (fun z => ∃ (D X : List Int) (q : Nat), D.length = q * 20 ∧ z = ((D.length : Int), ((D.length + 20 : Nat) : Int), D ++ X) ∧ zir K 20 D ∧ Bef D X ∧ X.Pairwise (· < ·) ∧ (D ++ X).Perm l0) (fun z => l0.length + 1 - z.1.toNat) Post ?_ LFm _ ⟨[], l0, 0, rfl, rfl, ztE K 20, (fun x hx => by simp at hx), ha, .refl _⟩ (by simp only [LFm]; omega)
  rintro z ⟨D, X, q, hq, rfl, hD, hBf, hXp, hp⟩
  have hlen := hp.length_eq
  rw [List.length_append] at hlen
  have hvX : zis K X := fun x hx => hv x (hp.mem_iff.1 (List.mem_append.2 (.inr hx)))
  simp only [zeT]
  by_cases h : D.length + 20 ≤ l0.length
  · left
    rw [if_pos (by omega)]
    have t1 : X.take 20 ++ X.drop 20 = X := List.take_append_drop ..
    have t2 : (X.take 20).length = 20 := by rw [List.length_take]; omega
    obtain ⟨S, e, s1, s2⟩ := znU (P := D) (X := X.take 20) (R := X.drop 20) (fun x hx => hvX x (List.mem_of_mem_take hx)) (hXp.sublist (List.take_sublist ..)) (by omega) (a := D.length) (b := D.length + 20) rfl (by omega)
    have hS := s2.length_eq
    rw [t2] at hS
    rw [List.append_assoc, t1] at e
    rw [e, Option.bind_some, z2B (by omega) (by omega)]
    refine ⟨_, rfl, ⟨D ++ S, X.drop 20, q + 1, by rw [List.length_append]; omega, ?_, zas (by omega) hq hD s1 (by omega) (fun x hx y hy => hBf x hx y (List.mem_of_mem_take (s2.mem_iff.1 hy))), ?_, hXp.sublist (List.drop_sublist ..), ?_⟩, by simp only; omega⟩
    · rw [List.length_append, hS]
      congr 2
    · intro x hx y hy
      rcases List.mem_append.1 hx with hx | hx
      · exact hBf x hx y (List.mem_of_mem_drop hy)
      · have hp2 : (X.take 20 ++ X.drop 20).Pairwise (· < ·) := by rw [t1]; exact hXp
        exact (List.pairwise_append.1 hp2).2.2 x (s2.mem_iff.1 hx) y hy
    · refine List.Perm.trans ?_ hp
      rw [List.append_assoc]
      refine List.Perm.append_left D ?_
      have := s2.append_right (X.drop 20)
      rwa [t1] at this
  · right
    rw [if_neg (by omega)]
    obtain ⟨S, e, s1, s2⟩ := znU (P := D) (X := X) (R := []) hvX hXp (by omega) (a := D.length) (b := l0.length) rfl (by omega)
    rw [List.append_nil, List.append_nil] at e
    rw [e, Option.bind_some]
    have hSl := s2.length_eq
    obtain ⟨r, e2, hr⟩ := k (D ++ S) (zas (by omega) hq hD s1 (by omega) (fun x hx y hy => hBf x hx y (s2.mem_iff.1 hy))) ((s2.append_left D).trans hp)
    exact ⟨r, by rw [e2]; rfl, hr⟩
theorem zxA {K : SrtC} {l0 : List Int} (hv : zis K l0) (hn : l0.length ≤ 5000) {B : Nat} (hB0 : 0 < B) (hB : B < 5000) {l : List Int} (hb : zir K B l) (hp : l.Perm l0) :
    ∃ S, z0u (zc6 ((l0.length : Nat) : Int) K (B : Int)) LFm (0, ((2 * B : Nat) : Int), l) = some (.inl (((B * 2 : Nat) : Int), S)) ∧ zir K (B * 2) S ∧ S.Perm l0 := by
  refine Exists.elim (z3c (b := zc6 ((l0.length : Nat) : Int) K (B : Int)) (fun z => ∃ (D X : List Int) (q : Nat), D.length = q * (B * 2) ∧ z = ((D.length : Int), ((D.length + 2 * B : Nat) : Int), D ++ X) ∧ zir K (B * 2) D ∧ zir K B X ∧ Bef D X ∧ (D ++ X).Perm l0) (fun z => l0.length + 1 - z.1.toNat)
    (fun r => ∃ S, r = .inl (((B * 2 : Nat) : Int), S) ∧ zir K (B * 2) S ∧ S.Perm l0) ?_ LFm (0, ((2 * B : Nat) : Int), l) ⟨[], l, 0, by simp, by simp, ztE K _, hb, (fun x hx => by simp at hx), hp⟩ (by simp only [LFm]; omega)) fun r h => by
      obtain ⟨h1, S, rfl, h2, h3⟩ := h
      exact ⟨S, h1, h2, h3⟩
  rintro z ⟨D, X, q, hq, rfl, hD, hX, hBf, hp2⟩
  have hlen := hp2.length_eq
  rw [List.length_append] at hlen
  have hvX : zis K X := fun x hx => hv x (hp2.mem_iff.1 (List.mem_append.2 (.inr hx)))
  have wB : IntKind.i64.wrap (2 * (B : Int)) = ((2 * B : Nat) : Int) := by rw [z2B (by omega) (by omega)]; omega
  have wB2 : IntKind.i64.wrap ((B : Int) * 2) = ((B * 2 : Nat) : Int) := by rw [z2B (by omega) (by omega)]; omega
  have wa : IntKind.i64.wrap ((D.length : Int) + (B : Int)) = ((D.length + B : Nat) : Int) := by rw [z2B (by omega) (by omega)]; omega
  simp only [zc6]
  rw [wa, wB, wB2]
  have t1 : X.take B ++ X.drop B = X := List.take_append_drop ..
  by_cases h : D.length + 2 * B ≤ l0.length
  · left
    rw [if_pos (by omega)]
    have t2 : (X.take B).length = B := by rw [List.length_take]; omega
    have hX2 : zir K B (X.drop B) := zii (A := X.take B) (q := 1) hB0 (by omega) (by rw [t1]; exact hX)
    have t3 : (X.drop B).take B ++ (X.drop B).drop B = X.drop B := List.take_append_drop ..
    have t4 : ((X.drop B).take B).length = B := by rw [List.length_take, List.length_drop]; omega
    obtain ⟨W, e, w1, w2⟩ := zes (K := K) 5000 (P := D) (U := X.take B) (V := (X.drop B).take B) (R := (X.drop B).drop B) (a := D.length) (m := D.length + B) (b := D.length + 2 * B) (fun h => by rw [h] at t2; simp at t2; omega) (fun h => by rw [h] at t4; simp at t4; omega)
      (fun x hx => hvX x (by
        rcases List.mem_append.1 hx with hx | hx
        · exact List.mem_of_mem_take hx
        · exact List.mem_of_mem_drop (List.mem_of_mem_take hx)))
      (zce (B := B) (X := X.drop B) (by omega) (by rw [t1]; exact hX)) (zce (B := B) (X := (X.drop B).drop B) (by omega) (by rw [t3]; exact hX2)) (fun x hx y hy => zij hB0 hX x hx y (List.mem_of_mem_take hy)) (by omega) (by omega) rfl (by omega) (by omega)
    have hW := w2.length_eq
    rw [List.length_append, t2, t4] at hW
    rw [t3, t1] at e
    have hX3 : zir K B ((X.drop B).drop B) := zii (A := (X.drop B).take B) (q := 1) hB0 (by omega) (by rw [t3]; exact hX2)
    have hWX : ∀ y ∈ W, y ∈ X := fun y hy => by
      rcases List.mem_append.1 (w2.mem_iff.1 hy) with h | h
      · exact List.mem_of_mem_take h
      · exact List.mem_of_mem_drop (List.mem_of_mem_take h)
    have ws : IntKind.i64.wrap (((D.length + 2 * B : Nat) : Int) + ((2 * B : Nat) : Int)) = ((D.length + 2 * B + 2 * B : Nat) : Int) := by rw [z2B (by omega) (by omega)]; omega
    rw [e, Option.bind_some, ws]
    refine ⟨_, rfl, ⟨D ++ W, (X.drop B).drop B, q + 1, ?_, ?_, zas (by omega) hq hD w1 (by omega) (fun x hx y hy => hBf x hx y (hWX y hy)), hX3, ?_, ?_⟩, by simp only; omega⟩
    · rw [List.length_append, hW, Nat.add_mul, hq]; omega
    · rw [List.length_append, hW]
      refine Prod.ext ?_ (Prod.ext ?_ ?_)
      · simp only; omega
      · simp only; omega
      · simp only [List.append_assoc]
    · intro x hx y hy
      rcases List.mem_append.1 hx with hx | hx
      · exact hBf x hx y (List.mem_of_mem_drop (List.mem_of_mem_drop hy))
      · rcases List.mem_append.1 (w2.mem_iff.1 hx) with h | h
        · exact zij hB0 hX x h y (List.mem_of_mem_drop hy)
        · exact zij hB0 hX2 x h y hy
    · refine List.Perm.trans ?_ hp2
      rw [List.append_assoc]
      refine List.Perm.append_left D ?_
      have := w2.append_right ((X.drop B).drop B)
      rwa [List.append_assoc, t3, t1] at this
  · right
    rw [if_neg (by omega)]
    by_cases h2 : D.length + B < l0.length
    · have t2 : (X.take B).length = B := by rw [List.length_take]; omega
      have hX2 : zir K B (X.drop B) := zii (A := X.take B) (q := 1) hB0 (by omega) (by rw [t1]; exact hX)
      have t4 : (X.drop B).length = l0.length - D.length - B := by rw [List.length_drop]; omega
      obtain ⟨W, e, w1, w2⟩ := zes (K := K) 5000 (P := D) (U := X.take B) (V := X.drop B) (R := []) (a := D.length) (m := D.length + B) (b := l0.length) (fun h => by rw [h] at t2; simp at t2; omega) (fun h => by rw [h] at t4; simp at t4; omega)
        (fun x hx => hvX x (by rw [t1] at hx; exact hx))
        (zce (B := B) (X := X.drop B) (by omega) (by rw [t1]; exact hX)) (zce (B := B) (X := []) (by omega) (by rw [List.append_nil]; exact hX2)) (zij hB0 hX) (by omega) (by omega) rfl (by omega) (by omega)
      rw [List.append_nil, List.append_nil, t1] at e
      rw [if_pos (by omega), e, Option.bind_some]
      have hWl := w2.length_eq
      rw [t1] at hWl
      refine ⟨_, rfl, D ++ W, rfl, zas (by omega) hq hD w1 (by omega) (fun x hx y hy => hBf x hx y (by have := w2.mem_iff.1 hy; rwa [t1] at this)), ?_⟩
      have := w2.append_left D
      rw [t1] at this
      exact this.trans hp2
    · rw [if_neg (by omega)]
      refine ⟨_, rfl, D ++ X, rfl, ?_, hp2⟩
      exact zas (by omega) hq hD (zce (B := B) (X := []) (by omega) (by rw [List.append_nil]; exact hX)) (by omega) hBf
theorem zs9 {K : SrtC} {l : List Int} (hv : zis K l) (ha : l.Pairwise (· < ·)) (hn : l.length ≤ 5000) : ∃ S, zye l K = some S ∧ z7t K S ∧ S.Perm l := by
  unfold zye zBd
  obtain ⟨r, e, h⟩ := zuV (Post := fun r => z7t K r ∧ r.Perm l) hv ha (by omega) fun D hD hp => by
    refine z3c (fun z => ∃ (B : Nat) (S : List Int), 0 < B ∧ B < 10000 ∧ z = ((B : Int), S) ∧ zir K B S ∧ S.Perm l) (fun z => 10000 - z.1.toNat) _ ?_ LFm _ ⟨20, D, by omega, by omega, rfl, hD, hp⟩ (by simp only [LFm]; omega)
    rintro z ⟨B, S, hB0, hB1, rfl, hS, hp2⟩
    have hlen := hp2.length_eq
    simp only [zeS]
    by_cases h : B < l.length
    · left
      have wB : IntKind.i64.wrap (2 * (B : Int)) = ((2 * B : Nat) : Int) := by rw [z2B (by omega) (by omega)]; omega
      obtain ⟨S', e, s1, s2⟩ := zxA hv hn hB0 (by omega) hS hp2
      rw [if_pos (by omega), wB, e]
      exact ⟨_, rfl, ⟨B * 2, S', by omega, by omega, rfl, s1, s2⟩, by simp only; omega⟩
    · right
      rw [if_neg (by omega)]
      exact ⟨_, rfl, zce (B := B) (X := []) (by omega) (by rw [List.append_nil]; exact hS), hp2⟩
  exact ⟨r, by rw [e]; rfl, h⟩
end Go.Proofs.Ytodliknibbafeaa
end
section
namespace Go.Proofs.Ytodliknibbafeaa
structure Run {ρ : Type} (x : Option ρ) (K : ρ → Prop) : Prop where
  out : ∃ v, x = some v ∧ K v
structure RK {σ ρ : Type} (o : σ ⊕ ρ) (K : ρ → Prop) (o' : σ ⊕ ρ) : Prop where
  eq : o' = o
  k : ∀ r, o' = .inr r → K r
class Head {σ ρ : Type} (b : σ → Option (σ ⊕ ρ)) where
  H : σ → Fr
class Ok {ρ : Type} (x : Option ρ) (S : outParam (ρ → Prop)) : Prop where
  ok : ∀ r, x = some r → S r
section
variable {G : Prop} {ρ : Type} {K : ρ → Prop}
theorem zxk {b n : Nat} {x : Option ρ} (k : n * b ≤ 140737488355328 → n ≤ 4611686018427387904 → Run x K → G) (h : Run (chk (z2Q b n) x) K) : G := by
  obtain ⟨v, e, hk⟩ := h
  obtain ⟨⟨a, c⟩, e⟩ := z5d e
  exact k a c ⟨v, e, hk⟩
theorem zxj {n : Nat} {x : Option ρ} (k : n ≤ 140737488355328 → n ≤ 4611686018427387904 → Run x K → G) (h : Run (chk (z2Q 1 n) x) K) : G := zxk (fun a b => k (by omega) b) h
theorem zBb {b l : Int} {x : Option ρ} (k : 0 ≤ l → l ≤ 140737488355328 → b * l ≤ 140737488355328 → max l 0 = l → Run x K → G) (h : Run (chk (z1L b l) x) K) : G := by
  obtain ⟨v, e, hk⟩ := h
  obtain ⟨⟨a, c, d⟩, e⟩ := z5d e
  exact k a c d (by omega) ⟨v, e, hk⟩
theorem zyF {l : Int} {x : Option ρ} (k : 0 ≤ l → l ≤ 140737488355328 → max l 0 = l → Run x K → G) (h : Run (chk (z1L 1 l) x) K) : G := zBb (fun a b _ d => k a b d) h
theorem zyD {i : Int} {n : Nat} {x : Option ρ} (k : 0 ≤ i → i < (n : Int) → i.toNat < n → i.toNat + 1 ≤ n → Run x K → G) (h : Run (chk (0 ≤ i ∧ i < (n : Int)) x) K) : G := by
  obtain ⟨v, e, hk⟩ := h
  obtain ⟨⟨a, c⟩, e⟩ := z5d e
  exact k a c (by omega) (by omega) ⟨v, e, hk⟩
theorem zxg {i n : Int} {x : Option ρ} (k : 0 ≤ i → i < n → i.toNat < n.toNat → i.toNat + 1 ≤ n.toNat → Run x K → G) (h : Run (chk (0 ≤ i ∧ i < n) x) K) : G := by
  obtain ⟨v, e, hk⟩ := h
  obtain ⟨⟨a, c⟩, e⟩ := z5d e
  exact k a c (by omega) (by omega) ⟨v, e, hk⟩
theorem zyL {p : Prop} [Decidable p] {x : Option ρ} (k : p → Run x K → G) (h : Run (chk p x) K) : G := by
  obtain ⟨v, e, hk⟩ := h
  obtain ⟨a, e⟩ := z5d e
  exact k a ⟨v, e, hk⟩
theorem zyE {α : Type} {xs : List α} {i : Nat} {f : α → Option ρ} (k : ∀ v, i < xs.length → i + 1 ≤ xs.length → xs[i]? = some v → (∀ hh : i < xs.length, xs[i]'hh = v) → Run (f v) K → G) (h : Run ((atI xs (i : Int)).bind f) K) : G := by
  obtain ⟨r, e, hk⟩ := h
  obtain ⟨v, ⟨a, b, c, d⟩, e⟩ := zwA e
  exact k v a b c d ⟨r, e, hk⟩
theorem zBN {α : Type} {xs : List α} {i : Int} {f : α → Option ρ} (k : ∀ v, 0 ≤ i → i < xs.length → i.toNat + 1 ≤ xs.length → xs[i.toNat]? = some v → (∀ hh : i.toNat < xs.length, xs[i.toNat]'hh = v) → Run (f v) K → G) (h : Run ((atI xs i).bind f) K) : G := by
  obtain ⟨r, e, hk⟩ := h
  obtain ⟨v, ⟨a, b, c, d, d2⟩, e⟩ := z3M e
  exact k v a b c d d2 ⟨r, e, hk⟩
theorem zxm {s : ByteArray} {i : Int} {f : Int → Option ρ} (k : ∀ v, 0 ≤ i → i < s.size → (∃ b, s[i.toNat]? = some b ∧ v = (b.toNat : Int)) → (∀ hh : i.toNat < s.size, ((s[i.toNat]'hh).toNat : Int) = v) → Run (f v) K → G) (h : Run ((zr7 s i).bind f) K) : G := by
  obtain ⟨r, e, hk⟩ := h
  obtain ⟨v, e1, e2⟩ := z1y e
  obtain ⟨a, b, c, d1, d2, d3⟩ := zr6 e1
  exact k v a b ⟨c, d1, d2⟩ d3 ⟨r, e2, hk⟩
theorem zw0 {α : Type} {xs : List α} {i : Int} {v : α} {f : α → Option ρ} (hv : xs[i.toNat]? = some v) (hi : 0 ≤ i) (k : Run (f v) K → G) (h : Run ((atI xs i).bind f) K) : G := by
  obtain ⟨r, e, hk⟩ := h
  unfold atI at e
  rw [if_pos hi, hv] at e
  exact k ⟨r, e, hk⟩
theorem zxi {α : Type} {xs : List α} {i : Nat} {v : α} {f : α → Option ρ} (hv : xs[i]? = some v) (k : Run (f v) K → G) (h : Run ((atI xs (i : Int)).bind f) K) : G := zw0 (i := (i : Int)) hv (Int.natCast_nonneg i) k h
theorem zBO {α : Type} {xs : List α} {v : α} {f : α → Option ρ} (hv : xs[0]? = some v) (k : Run (f v) K → G) (h : Run ((atI xs 0).bind f) K) : G := zw0 (i := 0) hv (Int.le_refl 0) k h
theorem zvY {α : Type} {e : Option α} {v : α} {f : α → Option ρ} (hv : e = some v) (k : Run (f v) K → G) (h : Run (e.bind f) K) : G := by subst hv; exact k h
theorem zxl {α : Type} {e : Option α} {S : α → Prop} [Ok e S] {f : α → Option ρ} (k : ∀ v, e = some v → S v → Run (f v) K → G) (h : Run (e.bind f) K) : G := by
  obtain ⟨r, e1, hk⟩ := h
  obtain ⟨v, e2, e3⟩ := z1y e1
  exact k v e2 (Ok.ok v e2) ⟨r, e3, hk⟩
theorem zBM {p : Prop} [Decidable p] {x y : Option ρ} (k : (p = True) → Run x K → G) (k2 : (p = False) → Run y K → G) (h : Run (if p then x else y) K) : G := by
  by_cases c : p
  · rw [if_pos c] at h; exact k (eq_true c) h
  · rw [if_neg c] at h; exact k2 (eq_false c) h
theorem p_0 {α : Type} {xs : List α} {f : α → Option ρ} (k : ∀ v, 0 < xs.length → xs ≠ [] → xs[0]? = some v → (∀ hh : 0 < xs.length, xs[0]'hh = v) → Run (f v) K → G) (h : Run ((atI xs 0).bind f) K) : G := by
  obtain ⟨r, e, hk⟩ := h
  obtain ⟨v, ⟨b, c, d, d2⟩, e⟩ := zwA (i := 0) e
  exact k v b (List.length_pos_iff.1 b) d d2 ⟨r, e, hk⟩
theorem zyG {α : Type} {xs : List α} {i : Nat} {f : α → Option ρ} (k : ∀ v, (OfNat.ofNat i : Nat) < xs.length → xs ≠ [] → xs[(OfNat.ofNat i : Nat)]? = some v → (∀ hh : (OfNat.ofNat i : Nat) < xs.length, xs[(OfNat.ofNat i : Nat)]'hh = v) → Run (f v) K → G) (h : Run ((atI xs (OfNat.ofNat i : Int)).bind f) K) : G := by
  obtain ⟨r, e, hk⟩ := h
  obtain ⟨v, ⟨b, c, d, d2⟩, e⟩ := zwA (i := i) e
  exact k v b (List.length_pos_iff.1 (Nat.lt_of_le_of_lt (Nat.zero_le _) b)) d d2 ⟨r, e, hk⟩
class IsS (α : Type) : Prop
theorem zyN {α : Type} [IsS α] {xs : List α} {i : Int} {f : α → Option ρ} (k : ∀ v, 0 ≤ i → i < xs.length → i.toNat + 1 ≤ xs.length → xs[i.toNat]? = some v → (∀ m, i.toNat * m + m ≤ xs.length * m) → (∀ (g : α → List T) (m : Nat), (∀ x, (g x).length = m) → ((xs.flatMap g).drop (i.toNat * m)).take m = g v) →
    (∀ (g : α → List T) (m j : Nat), (∀ x, (g x).length = m) → j < m → (xs.flatMap g)[i.toNat * m + j]? = (g v)[j]?) → (∀ (g : α → List T) (m : Nat), (∀ x, (g x).length = m) → 0 < m → (xs.flatMap g)[i.toNat * m]? = (g v)[0]?) → Run (f v) K → G) (h : Run ((atI xs i).bind f) K) : G := by
  obtain ⟨r, e, hk⟩ := h
  obtain ⟨v, ⟨a, b, c, d, d2⟩, e⟩ := z3M e
  refine k v a b c d (fun m => ?_) (fun g m hg => (zeX hg d).2.1) (fun g m j hg hj => (zeX hg d).2.2.1 j hj) (fun g m hg hj => (zeX hg d).2.2.1 0 hj) ⟨r, e, hk⟩
  calc i.toNat * m + m = (i.toNat + 1) * m := by rw [Nat.add_mul, Nat.one_mul]
    _ ≤ _ := Nat.mul_le_mul_right _ c
theorem zyM {α : Type} {l : List α} {j : Nat} {a : α} {i : Int} {f : α → Option ρ} (k : ∀ v, 0 ≤ i → i < l.length → i.toNat + 1 ≤ l.length → (∀ (g : α → T) hh, ((l.map g).set j (g a))[i.toNat]'hh = g v) → (∀ (g : α → T), ((l.map g).set j (g a))[i.toNat]? = some (g v)) → Run (f v) K → G) (h : Run ((atI (l.set j a) i).bind f) K) : G := by
  obtain ⟨r, e, hk⟩ := h
  obtain ⟨v, ⟨x, b, c, d, d2⟩, e⟩ := z3M e
  rw [List.length_set] at b c
  have key : ∀ (g : α → T), ((l.map g).set j (g a))[i.toNat]? = some (g v) := fun g => by rw [← List.map_set, List.getElem?_map, d]; rfl
  exact k v x b c (fun g hh => (List.getElem?_eq_some_iff.1 (key g)).2) key ⟨r, e, hk⟩
theorem zun {α : Type} {xs : List α} {l u : Int} {f : List α → Option ρ} (k : ∀ v : List α, 0 ≤ l → l ≤ u → u ≤ xs.length → 0 ≤ u → l ≤ (u.toNat : Int) → l ≤ max u 0 → (∀ g : α → T, ((xs.map g).drop l.toNat).take (u.toNat - l.toNat) = v.map g) → (∀ g : α → T, T.sl (u.toNat - l.toNat) (v.map g) = T.sl v.length (v.map g)) → Run (f v) K → G) (h : Run ((z7b xs l u).bind f) K) : G := by
  obtain ⟨r, e, hk⟩ := h
  obtain ⟨v, e1, e2⟩ := z1y e
  obtain ⟨a, b, c, -⟩ := z4r e1
  obtain ⟨d, g⟩ := zhL a b
  exact k v a b c d g (by omega) (fun g => zqq e1) (fun g => zqo e1 g) ⟨r, e2, hk⟩
theorem zuo {α : Type} [IsS α] {xs : List α} {l u : Int} {f : List α → Option ρ} (k : ∀ v : List α, 0 ≤ l → l ≤ u → u ≤ xs.length → 0 ≤ u → l ≤ (u.toNat : Int) → l ≤ max u 0 → (∀ (g : α → List T) (m : Nat), (∀ x, (g x).length = m) → ((xs.flatMap g).drop (l.toNat * m)).take ((u.toNat - l.toNat) * m) = v.flatMap g) → (∀ g : α → List T, T.sl (u.toNat - l.toNat) (v.flatMap g) = T.sl v.length (v.flatMap g)) → Run (f v) K → G) (h : Run ((z7b xs l u).bind f) K) : G := by
  obtain ⟨r, e, hk⟩ := h
  obtain ⟨v, e1, e2⟩ := z1y e
  obtain ⟨a, b, c, -⟩ := z4r e1
  obtain ⟨d, g⟩ := zhL a b
  exact k v a b c d g (by omega) (fun g m hg => zmg hg e1) (fun g => zqp e1 g) ⟨r, e2, hk⟩
theorem zum {s : ByteArray} {l u : Int} {f : ByteArray → Option ρ} (k : ∀ v, 0 ≤ l → l ≤ u → u ≤ s.size → 0 ≤ u → l ≤ (u.toNat : Int) → l ≤ max u 0 → s.extract l.toNat u.toNat = v → Run (f v) K → G) (h : Run ((zsv s l u).bind f) K) : G := by
  obtain ⟨r, e, hk⟩ := h
  obtain ⟨v, e1, e2⟩ := z1y e
  obtain ⟨a, b, c, d⟩ := zmf e1
  obtain ⟨d1, g⟩ := zhL a b
  exact k v a b c d1 g (by omega) d.symm ⟨r, e2, hk⟩
theorem zvZ {α β : Type} {e : Option (α ⊕ β)} {S : α ⊕ β → Prop} [Ok e S] {f : α ⊕ β → Option ρ} (k : ∀ v, S (.inl v) → Run (f (.inl v)) K → G) (k2 : ∀ v, S (.inr v) → Run (f (.inr v)) K → G) (h : Run (e.bind f) K) : G := by
  obtain ⟨r, e1, hk⟩ := h
  obtain ⟨v, e2, e3⟩ := z1y e1
  cases v with
  | inl v => exact k v (Ok.ok _ e2) ⟨r, e3, hk⟩
  | inr v => exact k2 v (Ok.ok _ e2) ⟨r, e3, hk⟩
theorem zyI {α : Type} {m : Option α} {x y : Option ρ} (k : m.isSome = true → Run x K → G) (k2 : m = none → Run y K → G) (h : Run (if m.isSome = true then x else y) K) : G := by
  cases m with
  | some v => exact k rfl (by simpa using h)
  | none => exact k2 rfl (by simpa using h)
theorem zyJ {b : Bool} {x y : Option ρ} (k : b = true → Run x K → G) (k2 : b = false → Run y K → G) (h : Run (if b = true then x else y) K) : G := by
  cases b with
  | true => exact k rfl (by simpa using h)
  | false => exact k2 rfl (by simpa using h)
theorem zyK {α : Type} {xs : List α} {x y : Option ρ} (k : ((xs.length : Int) = 0) = True → xs = [] → Run x K → G) (k2 : ((xs.length : Int) = 0) = False → xs ≠ [] → Run y K → G) (h : Run (if (xs.length : Int) = 0 then x else y) K) : G := by
  by_cases c : (xs.length : Int) = 0
  · rw [if_pos c] at h; exact k (eq_true c) (List.eq_nil_of_length_eq_zero (by omega)) h
  · rw [if_neg c] at h; exact k2 (eq_false c) (fun e => c (by rw [e]; rfl)) h
theorem zyH {α : Type} {xs : List α} {x y : Option ρ} (k : ((0 : Int) < (xs.length : Int)) = True → xs ≠ [] → 0 < xs.length → Run x K → G) (k2 : ((0 : Int) < (xs.length : Int)) = False → xs = [] → Run y K → G) (h : Run (if (0 : Int) < (xs.length : Int) then x else y) K) : G := by
  by_cases c : (0 : Int) < (xs.length : Int)
  · rw [if_pos c] at h; exact k (eq_true c) (fun e => by subst e; simp at c) (by omega) h
  · rw [if_neg c] at h; exact k2 (eq_false c) (List.eq_nil_of_length_eq_zero (by omega)) h
theorem zxf {v : ρ} (k : K v → G) (h : Run (some v) K) : G := by
  obtain ⟨r, e, hk⟩ := h
  cases e; exact k hk
theorem zxh (h : Run none K) : G := by
  obtain ⟨r, e, hk⟩ := h
  cases e
theorem z5B {x : Option ρ} {r : ρ} (h : x = some r) : Run x (· = r) := ⟨r, h, rfl⟩
theorem zqm {α β : Type} {P : α × β → Prop} (h : ∀ a, ∀ b, P (a, b)) : ∀ s : α × β, P s := fun s => h s.1 s.2
end
section
variable {P : Program} {C : z0j} {cf : Cfg} {LF : Nat} {c : Code} {fr : Fr} {Q : X → Fr → Prop} {σ ρ : Type} {K : ρ → Prop} {o : σ ⊕ ρ} {H : σ → Fr} {cn : Fr → Fr}
theorem zBL {s : σ} (h : Run (z0n s : Option (σ ⊕ ρ)) (RK o K)) (e : cn fr = H s) : za8 H cn o Q .n fr := by
  obtain ⟨r, e1, e2⟩ := h
  have := z1P e1
  exact z2z (e2.eq.symm.trans this) e
theorem zBJ {i : Nat} {x : Option ρ} (k : Run x K → Q (.x i) fr) (h : Run (z0A x : Option (σ ⊕ ρ)) (RK o K)) : za8 H cn o Q (.x i) fr := by
  obtain ⟨r, e1, e2⟩ := h
  obtain ⟨v, e3, rfl⟩ := z2d e1
  exact z3g (e2.eq.symm) (k ⟨v, e3, e2.k _ rfl⟩)
theorem zBK {x : Option ρ} (k : Run x K → Q .r fr) (h : Run (z0A x : Option (σ ⊕ ρ)) (RK o K)) : za8 H cn o Q .r fr := by
  obtain ⟨r, e1, e2⟩ := h
  obtain ⟨v, e3, rfl⟩ := z2d e1
  exact znz (e2.eq.symm) (k ⟨v, e3, e2.k _ rfl⟩)
end
def zx9 {α : Type} (k : Nat) (v : α) : List (Nat × α) → List (Nat × α)
  | [] => []
  | (j, u) :: r => if j = k then (j, v) :: r else (j, u) :: zx9 k v r
def zwH {α : Type} : List (Nat × α) → List (Nat × α) → List (Nat × α)
  | [], l => l
  | (k, v) :: r, l => zwH r (zx9 k v l)
def zvD (x : List (Nat × E) × List (Nat × T)) (fr : Fr) : Fr := { fr with tm := zwH x.1 fr.tm, ob := zwH x.2 fr.ob }
class Hd {σ ρ : Type} (b : σ → Option (σ ⊕ ρ)) where
  H : σ → List (Nat × E) × List (Nat × T)
section
variable {P : Program} {C : z0j} {cf : Cfg} {LF : Nat} {c : Code} {fr fr0 : Fr} {Q : X → Fr → Prop} {σ ρ : Type} {K : ρ → Prop}
theorem zvU {lv : List Nat} {body : σ → Option (σ ⊕ ρ)} [hd : Hd body] {s0 : σ} (hk : zct c = 5) (hv : cf.live (z8v (lpC c)) = some lv) (h : Run (z0u body LF s0) K)
    (hf : z8x (some lv) fr = fr0) (h0 : fr0 = zvD (Hd.H body s0) fr0) (round : ∀ s, ∀ o, Run (body s) (RK o K) → wpC P C cf LF (lpC c) (zvD (Hd.H body s) fr0) (za8 (fun s => zvD (Hd.H body s) fr0) (z8x (some lv)) o Q)) : wpC P C cf LF c fr Q := by
  obtain ⟨r, e, hk2⟩ := h
  exact z4a e (fun s => zvD (Hd.H body s) fr0) hk hv (hf.trans h0) fun s o h1 h2 => round s o ⟨o, h1, rfl, fun r' e' => by rw [h2 r' e']; exact hk2⟩
end
@[simp] theorem zu7 {α : Type} (c : Nat) : ∀ l : List α, (l.map fun _ => c).sum = l.length * c
  | [] => by simp
  | x :: l => by simp only [List.map_cons, List.sum_cons, zu7 c l, List.length_cons, Nat.add_mul]; omega
abbrev xI (x : Int) : E := .one (.t none (.sc (.int .i64 x)))
theorem zBH {a b : Fr} (h : z5y a b) : z5y a b := h
section
variable {P : Program} {C : z0j} {cf : Cfg} {LF : Nat} {c : Code} {fr : Fr}
theorem zB2 {Q : X → Fr → Prop} {id i : Nat} (h : z5G id Q (.x i) fr) : z5G id Q (.x i) fr := h
theorem zyv {Q : X → Fr → Prop} (h : wpC P C cf LF c fr Q) : wpC P C cf LF c fr Q := h
theorem zz6 {wio : FuncId → Nat → Bool} {M : List Nat} {ops : Array Oper} {l : List (Nat × Nat)} {Q : Fr → Prop} (h : z6i P C wio M ops l fr Q) : z6i P C wio M ops l fr Q := h
theorem zyy {l : List Oper} {Q : Fr → Prop} (h : ∃ fr2, z4n P l fr = some fr2 ∧ Q fr2) : ∃ fr2, z4n P l fr = some fr2 ∧ Q fr2 := h
theorem tpN {i : Nat} {t : SchT} {Q : Fr → Prop} (e : t = .nil) (h : Q fr) : z4x P C cf c i t fr Q := by subst e; exact z5n h
theorem tpA {i : Nat} {t a b : SchT} {Q : Fr → Prop} (e : t = .alt a b) (h : z4x P C cf c i a fr (fun x => z4x P C cf c i b fr (fun y => z5y x y) ∧ Q x)) : z4x P C cf c i t fr Q := by subst e; exact z5o h
theorem tpO {i k m : Nat} {t rest : SchT} {o : Oper} {fr1 : Fr} {Q : Fr → Prop} (e : t = .op k m rest) (ho : zkw c k = some o) (hg : o.guard = none) (hs : z0d P C cf.wio (cf.wr i).isEmpty (cf.wr i).contains fr o m = some fr1) (h : z4x P C cf c i rest fr1 Q) : z4x P C cf c i t fr Q := by subst e; exact z0P ho hg hs h
theorem tpT {i k m : Nat} {t rest : SchT} {o : Oper} {g : Option (Option Nat × Bool)} {fr1 : Fr} {Q : Fr → Prop} (e : t = .op k m rest) (ho : zkw c k = some o) (hg : zwn c o = some g) (hv : zvn g fr = some true) (hs : z0d P C cf.wio (cf.wr i).isEmpty (cf.wr i).contains fr o m = some fr1) (h : z4x P C cf c i rest fr1 Q) : z4x P C cf c i t fr Q := by subst e; exact zyw ho hg hv hs h
theorem tpF {i k m : Nat} {t rest : SchT} {o : Oper} {g : Option (Option Nat × Bool)} {fr1 : Fr} {Q : Fr → Prop} (e : t = .op k m rest) (ho : zkw c k = some o) (hg : zwn c o = some g) (hv : zvn g fr = some false) (hs : nrmO? (putF fr o.dst (.one (.k undef))) = some fr1) (h : z4x P C cf c i rest fr1 Q) : z4x P C cf c i t fr Q := by subst e; exact zyx ho hg hv hs h
theorem zz8 {i : Nat} {t : SchT} {Q : Fr → Prop} (h : z4x P C cf c i t fr Q) : z4x P C cf c i t fr Q := h
end
theorem zrk {G : Prop} (g : G := by
  repeat' (first
    | with_reducible refine z0c ?_
    | with_reducible refine z3R ?_
    | with_reducible refine z8T ?_
    | with_reducible refine z2A ?_
    | ((with_reducible refine zB2 ?_); first | refine z1C rfl ?_ | refine zf5 rfl ?_)
    | with_reducible refine zih ?_
    | (revert h; with_reducible refine zBJ fun h => ?_)
    | (revert h; with_reducible refine zBK fun h => ?_)
    | ((with_reducible refine zBL h ?_); simp [*, zvD, zwH, zx9, Hd.H]; done)
    | (revert h; first
      | with_reducible refine zxh
      | with_reducible refine zxj fun _ _ h => ?_
      | with_reducible refine zxk fun _ _ h => ?_
      | with_reducible refine zyF fun _ _ _ h => ?_
      | with_reducible refine zBb fun _ _ _ _ h => ?_
      | with_reducible refine zyD fun _ _ _ _ h => ?_
      | with_reducible refine zxg fun _ _ _ _ h => ?_
      | with_reducible refine zyL fun _ h => ?_
      | with_reducible refine zw0 (by assumption) (by assumption) fun h => ?_
      | with_reducible refine zxi (by assumption) fun h => ?_
      | with_reducible refine zBO (by assumption) fun h => ?_
      | with_reducible refine zvY (by assumption) fun h => ?_
      | with_reducible refine zyN fun _ _ _ _ _ _ k k1 k2 h => ?_
      | with_reducible refine zyM fun _ _ _ _ k k1 h => ?_
      | with_reducible refine p_0 fun _ _ _ _ _ h => ?_
      | with_reducible refine zyG fun _ _ _ _ _ h => ?_
      | with_reducible refine zyE fun _ _ _ _ _ h => ?_
      | with_reducible refine zBN fun _ _ _ _ _ _ h => ?_
      | with_reducible refine zxm fun _ _ _ _ _ h => ?_
      | ((with_reducible refine zuo fun _ _ _ _ _ _ _ k k2 h => ?_); try simp at k; try simp only [Int.reduceToNat, Int.toNat_natCast, Nat.sub_zero] at k2)
      | ((with_reducible refine zun fun _ _ _ _ _ _ _ k k2 h => ?_); try simp at k; try simp only [Int.reduceToNat, Int.toNat_natCast, Nat.sub_zero] at k2)
      | ((with_reducible refine zum fun _ _ _ _ _ _ _ k h => ?_); try simp only [Int.reduceToNat, Int.toNat_natCast] at k)
      | ((with_reducible refine zvZ (fun _ k h => ?_) fun _ k h => ?_) <;> (try simp at k))
      | ((with_reducible refine zxl fun _ _ k h => ?_); try simp at k))
    | ((with_reducible refine zyv ?_); first
      | refine zq rfl ?_
      | refine zb rfl ?_
      | refine zvT rfl ?_
      | refine z3G rfl ?_
      | refine zvV rfl ?_
      | refine z5q rfl ?_
      | refine zhI rfl ?_
      | refine zr rfl rfl rfl (by simp [*]; with_reducible rfl) ?_
      | refine z6w rfl rfl rfl rfl ?_
      | refine zhf rfl rfl rfl rfl ?_
      | refine z5z rfl (by first | (simp [*]; done) | fail) ?_
      | refine z5A rfl (by first | (simp [*]; done) | fail) ?_
      | refine zsu rfl rfl (by simp [*]; rfl) ?_
      | (refine zvU rfl rfl h (by simp [*]; rfl) (by first | (simp [*, zvD, zwH, zx9, Hd.H]; done) | fail) ?_; clear h; (repeat' refine zqm fun _ => ?_); intro _ _ h; simp only [zvD, zwH, zx9, Hd.H, Nat.reduceEqDiff, if_true, if_false]))
    | ((with_reducible refine zz6 ?_); first
      | (refine z3A rfl rfl fun Q' hQ => ?_; simp [*]; refine hQ.out _ ?_; clear hQ; clear Q')
      | (refine zhJ rfl rfl fun Q1 Q2 h1 h2 => ?_; simp [*, zrp]; (first | refine h1.out ?_ | refine h2.out ?_); clear h1 h2; clear Q1 Q2; intro Q' hQ; simp [*]; refine hQ.out _ ?_; clear hQ; clear Q')
      | (refine z3h rfl fun Q' hQ => ?_; simp [*]; refine hQ.out _ ?_; clear hQ; clear Q'))
    | ((with_reducible refine zz8 ?_); first
      | refine tpN rfl ?_
      | refine tpA rfl ?_
      | refine tpO rfl rfl rfl (by simp [*, z0d, z0f]; rfl) ?_
      | refine tpT rfl rfl rfl (by first | (simp [*]; done) | fail) (by simp [*, z0d, z0f]; rfl) ?_
      | refine tpF rfl rfl rfl (by first | (simp [*]; done) | fail) (by simp [*]; rfl) ?_)
    | ((with_reducible refine zyy ?_); refine zh7 rfl (by simp [*]; rfl) ?_)
    | ((with_reducible refine And.intro ?_ ?_); rotate_left)
    | ((with_reducible refine zBH ?_); simp [*, z5y]; done)
    | (revert h; first
      | with_reducible refine zyI (fun _ h => ?_) fun _ h => ?_
      | with_reducible refine zyJ (fun _ h => ?_) fun _ h => ?_
      | with_reducible refine zyK (fun _ _ h => ?_) fun _ _ h => ?_
      | with_reducible refine zyH (fun _ _ _ h => ?_) fun _ _ h => ?_
      | with_reducible refine zBM (fun _ h => ?_) fun _ h => ?_
      | ((with_reducible refine zxf fun h => ?_); cases h; simp [*]; done)))) : G := g
end Go.Proofs.Ytodliknibbafeaa
end
section
namespace Go.Proofs.Ytodliknibbafeaa
open Go
structure Tape where
  l : List Int
  at_ : Int
deriving Inhabited
structure DFA where
  letters : Int
  start : Int
  final : List Bool
  next : List (List Int)
deriving Inhabited
structure Imgs where
  sets : List Int
  class_ : List Int
  height : List Int
  tiles : List (List Int)
  words : List ByteArray
  back : List ByteArray
deriving Inhabited
structure Dgm where
  sets : List Int
  next : List (List Int)
  below : List (List Bool)
deriving Inhabited
structure Hol where
  set : Int
  tiles : List Int
  words : List ByteArray
  perms : List (List Int)
deriving Inhabited
instance : IsS Hol := ⟨⟩
end Go.Proofs.Ytodliknibbafeaa
end
section
namespace Go.Proofs.Ytodliknibbafeaa
attribute [simp] undef scB ext z2x z3W Function.comp_def zhs zl9 zcu zmt nav sub upd z3H z5m z2q zhA z1B zr0 z5e zxC z5K z8w zoe zqZ onA kill z3z zhe zff z3Y z9n zc4 zwp z4i zkF zaa zuC z9b zcc setT moveT zqn znA plugL' zqU zqv z5F zxu zxt zvg zxJ zxI nrmO? plugL putR z7q explode cellsE z3K rdV scE zuX zuW ztF zqN zqC zqG zqE zqD zqM zt1 zqB zhX zqL zqF zqH zqI zqJ zqK zqg zqd zqe zqf zqh zo6 zo7 zo8 zo9 zsh zsi zsj zsk zuK zta zuc zud List.map_flatMap znE zkv zoj z3S zxH unS zyS zyT zof opE zwQ zmJ zqy zqr ztS zBV z8h znW ztY znv zcG zyb z8y zt0 zuS zwy z6Z z7h z8n z5I zcv ztV zut zot zyp zfh zsY z7g z7n z8m z3T z4z z5f zs6 zkc z5y ztJ zil zBc zx8 zsy zvj zfa zim zwh zuy zok zyl zr5 zy3 opn zfd z4U znq zwB ztN zyq z3o zfo z6E zeW clB ioF zyA zy6 zar z7a putF opF zmU z4P zvn zmd z8q z8v onE ids zfl zfk z6C zqQ z8x z4n z6D z4Q z4J z5v zxb zsr zkf z8p zcm zxp zqs zkt zmu zsz zyc zxo zl0 zxn zfm zl3 zBS zBU zBR zBT zz7 z7p z0f wrF zab noM zyr zyh zxO zwP znR zxc zhS zhP zkG zeH zwm zcA zyo ztw zac z9i zmn zmG zhr zws zwr Option.map_some zid ztk
end Go.Proofs.Ytodliknibbafeaa
end
section
namespace Go.Proofs.Ytodliknibbafeaa
open Go
def zmv : List T → Option (List Int)
  | [] => some []
  | .sc (.int .i64 x) :: l => (zmv l).map (x :: ·)
  | _ => none
theorem zkJ : ∀ xs : List Int, zmv (xs.map fun x => .sc (.int .i64 x)) = some xs
  | [] => rfl
  | x :: xs => by simp [zmv, zkJ xs]
theorem zkK : ∀ {cs : List T} {xs : List Int}, zmv cs = some xs → cs = xs.map fun x => .sc (.int .i64 x)
  | [], xs, h => by simp [zmv] at h; subst h; rfl
  | c :: cs, xs, h => by
    unfold zmv at h
    split at h
    · rename_i he; cases he
    · rename_i x l he
      cases he
      simp only [Option.map_eq_some_iff] at h
      obtain ⟨ys, hy, rfl⟩ := h
      simp [← zkK hy]
    · cases h
def szN (s : Nat) : Nat := (List.range 7).countP fun q => s.testBit q
def zvy (p r : Nat) : Bool := decide (szN r < szN p) || (decide (szN p = szN r) && decide (p ≤ r))
def leI (a b : Int) : Bool := zvy a.toNat b.toNat
def zuF (x : Int) : List Int → List Int
  | [] => [x]
  | y :: l => if leI x y = true then x :: y :: l else y :: zuF x l
def za7 : List Int → List Int
  | [] => []
  | x :: l => zuF x (za7 l)
def zld (xs : List Int) : Option (List Int) := if xs ≠ [] ∧ xs.length < 4611686018427387904 ∧ xs.all (fun x => decide (0 ≤ x ∧ x < 128)) = true then some (za7 xs) else none
def zvz (fn : FuncId) (args : List T) : Option (T × List T) := match args with
  | [.os 1 n cs, .sc (.func (.func f) fs gs)] => if f = fn ∧ fs.isEmpty ∧ gs.isEmpty then (match zmv cs with | some xs => if xs.length = n then (zld xs).map fun ys => (.tup [], [.os 1 ys.length (ys.map fun x => .sc (.int .i64 x)), .dead]) else none | none => none) else none
  | _ => none
def xtC : z0j := fun f args => if f = 68 then zvz 69 args else none
end Go.Proofs.Ytodliknibbafeaa
end
section
namespace Go.Proofs.Ytodliknibbafeaa
open Go
set_option maxRecDepth 100000
@[simp] theorem ty3 : z2D Try.prog 3 = some ⟨.int .i64, 1, 8, (some [(.sc (.int .i64 0))])⟩ := by kernel_rfl
@[simp] theorem ty4 : z2D Try.prog 4 = some ⟨.bool, 1, 1, (some [(.sc (.bool false))])⟩ := by kernel_rfl
@[simp] theorem ty5 : z2D Try.prog 5 = some ⟨.int .u8, 1, 1, (some [(.sc (.int .u8 0))])⟩ := by kernel_rfl
@[simp] theorem ty9 : z2D Try.prog 9 = some ⟨.string, 1, 16, (some [(.sc (.string ByteArray.empty))])⟩ := by kernel_rfl
@[simp] theorem ty22 : z2D Try.prog 22 = some ⟨.slice 3, 1, 24, (some [(.os 1 0 [])])⟩ := by kernel_rfl
@[simp] theorem ty23 : z2D Try.prog 23 = some ⟨.pointer 48, 1, 8, (some [(.sc (.pointer none))])⟩ := by kernel_rfl
@[simp] theorem ty25 : z2D Try.prog 25 = some ⟨.slice 4, 1, 24, (some [(.os 1 0 [])])⟩ := by kernel_rfl
@[simp] theorem ty26 : z2D Try.prog 26 = some ⟨.slice 22, 1, 24, (some [(.os 1 0 [])])⟩ := by kernel_rfl
noncomputable def zC0 : Array Field := match Try.prog.underlying 28 with | some (.struct fs) => fs | _ => #[]
@[simp] theorem ty28 : z2D Try.prog 28 = some ⟨.struct zC0, 4, 64, (some [(.sc (.int .i64 0)), (.sc (.int .i64 0)), (.os 1 0 []), (.os 1 0 [])])⟩ := by kernel_rfl
@[simp] theorem fi28_0 : z2w Try.prog 28 0 = some (0, 1, false) := by kernel_rfl
@[simp] theorem fi28_1 : z2w Try.prog 28 1 = some (1, 1, false) := by kernel_rfl
@[simp] theorem fi28_2 : z2w Try.prog 28 2 = some (2, 1, false) := by kernel_rfl
@[simp] theorem fi28_3 : z2w Try.prog 28 3 = some (3, 1, false) := by kernel_rfl
@[simp] theorem zBG : z8U Try.prog 28 = (some [(.sc (.int .i64 0)), (.sc (.int .i64 0)), (.os 1 0 []), (.os 1 0 [])]) := by kernel_rfl
@[simp] theorem bs28 (fr : Fr) (parts : List (Nat × Operand)) : z8z Try.prog fr 28 parts = match z7n fr (z2w Try.prog 28) ([(.sc (.int .i64 0)), (.sc (.int .i64 0)), (.os 1 0 []), (.os 1 0 [])].map (A.t none)) parts with | some xs => some (E.ag xs) | none => none := z4j zBG fr parts
@[simp] theorem ty31 : z2D Try.prog 31 = some ⟨.slice 40, 1, 24, (some [(.os 4 0 [])])⟩ := by kernel_rfl
@[simp] theorem ty32 : z2D Try.prog 32 = some ⟨.int .i64, 1, 8, (some [(.sc (.int .i64 0))])⟩ := by kernel_rfl
@[simp] theorem ty38 : z2D Try.prog 38 = some ⟨.slice 9, 1, 24, (some [(.os 1 0 [])])⟩ := by kernel_rfl
noncomputable def zBZ : Array Field := match Try.prog.underlying 40 with | some (.struct fs) => fs | _ => #[]
@[simp] theorem ty40 : z2D Try.prog 40 = some ⟨.struct zBZ, 4, 80, (some [(.sc (.int .i64 0)), (.os 1 0 []), (.os 1 0 []), (.os 1 0 [])])⟩ := by kernel_rfl
@[simp] theorem fi40_0 : z2w Try.prog 40 0 = some (0, 1, false) := by kernel_rfl
@[simp] theorem fi40_1 : z2w Try.prog 40 1 = some (1, 1, false) := by kernel_rfl
@[simp] theorem fi40_2 : z2w Try.prog 40 2 = some (2, 1, false) := by kernel_rfl
@[simp] theorem fi40_3 : z2w Try.prog 40 3 = some (3, 1, false) := by kernel_rfl
@[simp] theorem zBF : z8U Try.prog 40 = (some [(.sc (.int .i64 0)), (.os 1 0 []), (.os 1 0 []), (.os 1 0 [])]) := by kernel_rfl
@[simp] theorem bs40 (fr : Fr) (parts : List (Nat × Operand)) : z8z Try.prog fr 40 parts = match z7n fr (z2w Try.prog 40) ([(.sc (.int .i64 0)), (.os 1 0 []), (.os 1 0 []), (.os 1 0 [])].map (A.t none)) parts with | some xs => some (E.ag xs) | none => none := z4j zBF fr parts
noncomputable def zBY : Array Field := match Try.prog.underlying 48 with | some (.struct fs) => fs | _ => #[]
@[simp] theorem ty48 : z2D Try.prog 48 = some ⟨.struct zBY, 2, 32, (some [(.os 1 0 []), (.sc (.int .i64 0))])⟩ := by kernel_rfl
@[simp] theorem fi48_0 : z2w Try.prog 48 0 = some (0, 1, false) := by kernel_rfl
@[simp] theorem fi48_1 : z2w Try.prog 48 1 = some (1, 1, false) := by kernel_rfl
@[simp] theorem zBE : z8U Try.prog 48 = (some [(.os 1 0 []), (.sc (.int .i64 0))]) := by kernel_rfl
@[simp] theorem bs48 (fr : Fr) (parts : List (Nat × Operand)) : z8z Try.prog fr 48 parts = match z7n fr (z2w Try.prog 48) ([(.os 1 0 []), (.sc (.int .i64 0))].map (A.t none)) parts with | some xs => some (E.ag xs) | none => none := z4j zBE fr parts
noncomputable def zBX : Array Field := match Try.prog.underlying 52 with | some (.struct fs) => fs | _ => #[]
@[simp] theorem ty52 : z2D Try.prog 52 = some ⟨.struct zBX, 6, 144, (some [(.os 1 0 []), (.os 1 0 []), (.os 1 0 []), (.os 1 0 []), (.os 1 0 []), (.os 1 0 [])])⟩ := by kernel_rfl
@[simp] theorem fi52_0 : z2w Try.prog 52 0 = some (0, 1, false) := by kernel_rfl
@[simp] theorem fi52_1 : z2w Try.prog 52 1 = some (1, 1, false) := by kernel_rfl
@[simp] theorem fi52_2 : z2w Try.prog 52 2 = some (2, 1, false) := by kernel_rfl
@[simp] theorem fi52_3 : z2w Try.prog 52 3 = some (3, 1, false) := by kernel_rfl
@[simp] theorem fi52_4 : z2w Try.prog 52 4 = some (4, 1, false) := by kernel_rfl
@[simp] theorem fi52_5 : z2w Try.prog 52 5 = some (5, 1, false) := by kernel_rfl
@[simp] theorem zBD : z8U Try.prog 52 = (some [(.os 1 0 []), (.os 1 0 []), (.os 1 0 []), (.os 1 0 []), (.os 1 0 []), (.os 1 0 [])]) := by kernel_rfl
@[simp] theorem bs52 (fr : Fr) (parts : List (Nat × Operand)) : z8z Try.prog fr 52 parts = match z7n fr (z2w Try.prog 52) ([(.os 1 0 []), (.os 1 0 []), (.os 1 0 []), (.os 1 0 []), (.os 1 0 []), (.os 1 0 [])].map (A.t none)) parts with | some xs => some (E.ag xs) | none => none := z4j zBD fr parts
@[simp] theorem ty55 : z2D Try.prog 55 = some ⟨.map 3 3, 1, 8, (some [(.sc (.map none))])⟩ := by kernel_rfl
@[simp] theorem mt55 : zhO Try.prog 55 = some ((some .i64), 3) := by kernel_rfl
@[simp] theorem zv55 : zow Try.prog 3 = some (.int .i64 0) := by kernel_rfl
@[simp] theorem ty63 : z2D Try.prog 63 = some ⟨.slice 5, 1, 24, (some [(.os 1 0 [])])⟩ := by kernel_rfl
@[simp] theorem ty77 : z2D Try.prog 77 = some ⟨.slice 25, 1, 24, (some [(.os 1 0 [])])⟩ := by kernel_rfl
noncomputable def zBW : Array Field := match Try.prog.underlying 79 with | some (.struct fs) => fs | _ => #[]
@[simp] theorem ty79 : z2D Try.prog 79 = some ⟨.struct zBW, 3, 72, (some [(.os 1 0 []), (.os 1 0 []), (.os 1 0 [])])⟩ := by kernel_rfl
@[simp] theorem fi79_0 : z2w Try.prog 79 0 = some (0, 1, false) := by kernel_rfl
@[simp] theorem fi79_1 : z2w Try.prog 79 1 = some (1, 1, false) := by kernel_rfl
@[simp] theorem fi79_2 : z2w Try.prog 79 2 = some (2, 1, false) := by kernel_rfl
@[simp] theorem zBC : z8U Try.prog 79 = (some [(.os 1 0 []), (.os 1 0 []), (.os 1 0 [])]) := by kernel_rfl
@[simp] theorem bs79 (fr : Fr) (parts : List (Nat × Operand)) : z8z Try.prog fr 79 parts = match z7n fr (z2w Try.prog 79) ([(.os 1 0 []), (.os 1 0 []), (.os 1 0 [])].map (A.t none)) parts with | some xs => some (E.ag xs) | none => none := z4j zBC fr parts
@[simp] theorem ty88 : z2D Try.prog 88 = some ⟨.map 9 4, 1, 8, (some [(.sc (.map none))])⟩ := by kernel_rfl
@[simp] theorem mt88 : zhO Try.prog 88 = some (none, 4) := by kernel_rfl
@[simp] theorem zv88 : zow Try.prog 4 = some (.bool false) := by kernel_rfl
@[simp] theorem ty92 : z2D Try.prog 92 = some ⟨.int .u64, 1, 8, (some [(.sc (.int .u64 0))])⟩ := by kernel_rfl
@[simp] theorem ty97 : z2D Try.prog 97 = some ⟨.map 3 4, 1, 8, (some [(.sc (.map none))])⟩ := by kernel_rfl
@[simp] theorem mt97 : zhO Try.prog 97 = some ((some .i64), 4) := by kernel_rfl
@[simp] theorem zv97 : zow Try.prog 4 = some (.bool false) := by kernel_rfl
@[simp] theorem ty111 : z2D Try.prog 111 = some ⟨.int .u32, 1, 4, (some [(.sc (.int .u32 0))])⟩ := by kernel_rfl
@[simp] theorem ty113 : z2D Try.prog 113 = some ⟨.int .u64, 1, 8, (some [(.sc (.int .u64 0))])⟩ := by kernel_rfl
def cf3 : Cfg := { wio := fun f i => (f == 20 && (i == 0)) || (f == 7 && (i == 0)) || (f == 8 && (i == 0)) || (f == 18 && (i == 0)) || (f == 13 && (i == 0)) || (f == 999999 && (i == 0)), live := fun r => none, dr := fun r => none }
@[simp] theorem wio3 : cf3.wio = fun f i => (f == 20 && (i == 0)) || (f == 7 && (i == 0)) || (f == 8 && (i == 0)) || (f == 18 && (i == 0)) || (f == 13 && (i == 0)) || (f == 999999 && (i == 0)) := rfl
@[simp] theorem live3 : cf3.live = fun r => none := rfl
@[simp] theorem wr3 : cf3.wr = fun _ => [] := rfl
def cf4 : Cfg := { wio := fun f i => (f == 20 && (i == 0)) || (f == 7 && (i == 0)) || (f == 8 && (i == 0)) || (f == 18 && (i == 0)) || (f == 13 && (i == 0)) || (f == 999999 && (i == 0)) || (f == 777777 && (i == 9)), live := fun r => if r = 6 then some [20, 21, 22] else none, dr := fun r => none }
@[simp] theorem wio4 : cf4.wio = fun f i => (f == 20 && (i == 0)) || (f == 7 && (i == 0)) || (f == 8 && (i == 0)) || (f == 18 && (i == 0)) || (f == 13 && (i == 0)) || (f == 999999 && (i == 0)) || (f == 777777 && (i == 9)) := rfl
@[simp] theorem live4 : cf4.live = fun r => if r = 6 then some [20, 21, 22] else none := rfl
@[simp] theorem wr4 : cf4.wr = fun _ => [] := rfl
def ziL : SchT := .nil
def ziM : SchT := .op 16 2 ziL
def ziN : SchT := .op 15 0 ziM
def ziO : SchT := .op 14 2 ziN
def ziP : SchT := .op 13 0 ziO
def ziQ : SchT := .op 12 2 ziP
def zd7 : SchT := .op 10 1 ziQ
def zd8 : SchT := .op 7 2 zd7
def ziR : SchT := .op 11 0 zd7
def ziS : SchT := .op 4 1 zd8
def z9J : SchT := .op 11 3 zd8
def ziT : SchT := .op 9 1 ziR
def z6P : SchT := .op 3 2 z9J
def z9K : SchT := .op 11 3 ziS
def z9L : SchT := .op 6 1 z9J
def z9M : SchT := .alt (.op 7 2 ziT) (.op 9 1 z9J)
def z9N : SchT := .op 0 1 z6P
def z9O : SchT := .alt (.op 3 2 z9K) (.op 4 1 z6P)
def z9P : SchT := .alt (.op 3 2 z9L) (.op 6 1 z6P)
def z9Q : SchT := .alt (.op 3 2 z9M) (.op 9 1 z6P)
def zd9 : SchT := .alt (.op 4 1 z9L) (.op 6 1 z9K)
def zda : SchT := .alt (.op 4 1 z9M) (.op 9 1 z9K)
def zdb : SchT := .alt (.op 6 1 z9M) (.op 9 1 z9L)
def zdc : SchT := .alt (.op 0 1 z9O) (.op 4 1 z9N)
def zdd : SchT := .alt (.op 0 1 z9P) (.op 6 1 z9N)
def zde : SchT := .alt (.op 0 1 z9Q) (.op 9 1 z9N)
def zdf : SchT := .alt (.op 3 2 zd9) (.alt (.op 4 1 z9P) (.op 6 1 z9O))
def zdg : SchT := .alt (.op 3 2 zda) (.alt (.op 4 1 z9Q) (.op 9 1 z9O))
def zdh : SchT := .alt (.op 3 2 zdb) (.alt (.op 6 1 z9Q) (.op 9 1 z9P))
def zn6 : SchT := .alt (.op 4 1 zdb) (.alt (.op 6 1 zda) (.op 9 1 zd9))
def zn7 : SchT := .alt (.op 0 1 zdf) (.alt (.op 4 1 zdd) (.op 6 1 zdc))
def zn8 : SchT := .alt (.op 0 1 zdg) (.alt (.op 4 1 zde) (.op 9 1 zdc))
def zn9 : SchT := .alt (.op 0 1 zdh) (.alt (.op 6 1 zde) (.op 9 1 zdd))
def zna : SchT := .alt (.op 3 2 zn6) (.alt (.op 4 1 zdh) (.alt (.op 6 1 zdg) (.op 9 1 zdf)))
def znb : SchT := .alt (.op 0 1 zna) (.alt (.op 4 1 zn9) (.alt (.op 6 1 zn8) (.op 9 1 zn7)))
def znc : SchT := .op 8 3 znb
def znd : SchT := .op 5 3 znc
def zne : SchT := .op 2 0 znd
def znf : SchT := .op 1 0 zne
def ziy : SchT := .nil
def ziz : SchT := .op 19 2 ziy
def ziA : SchT := .op 18 0 ziz
def ziB : SchT := .op 17 2 ziA
def zcN : SchT := .op 15 2 ziB
def zcO : SchT := .op 14 1 zcN
def ziC : SchT := .op 16 3 zcN
def ziD : SchT := .op 9 1 ziC
def zcP : SchT := .op 13 2 zcO
def ziE : SchT := .op 16 3 zcO
def ziF : SchT := .alt (.op 9 1 ziE) (.op 14 1 ziD)
def ziG : SchT := .op 10 1 zcP
def z9p : SchT := .op 16 3 zcP
def z5S : SchT := .op 7 2 z9p
def z9q : SchT := .alt (.op 9 1 z9p) (.op 13 2 ziF)
def z9r : SchT := .op 16 3 ziG
def z9s : SchT := .op 12 1 z9p
def z6G : SchT := .op 1 1 z5S
def z5T : SchT := .op 6 1 z5S
def z6H : SchT := .alt (.op 7 2 z9q) (.op 9 1 z5S)
def z6I : SchT := .alt (.op 7 2 z9r) (.op 10 1 z5S)
def z6J : SchT := .alt (.op 7 2 z9s) (.op 12 1 z5S)
def zcQ : SchT := .alt (.op 9 1 z9r) (.op 10 1 z9q)
def zcR : SchT := .alt (.op 9 1 z9s) (.op 12 1 z9q)
def zcS : SchT := .alt (.op 10 1 z9s) (.op 12 1 z9r)
def z6K : SchT := .alt (.op 1 1 z5T) (.op 6 1 z6G)
def z9t : SchT := .alt (.op 1 1 z6H) (.op 9 1 z6G)
def z9u : SchT := .alt (.op 1 1 z6I) (.op 10 1 z6G)
def z9v : SchT := .alt (.op 1 1 z6J) (.op 12 1 z6G)
def z6L : SchT := .op 5 2 z5T
def z6M : SchT := .alt (.op 6 1 z6H) (.op 9 1 z5T)
def z6N : SchT := .alt (.op 6 1 z6I) (.op 10 1 z5T)
def z6O : SchT := .alt (.op 6 1 z6J) (.op 12 1 z5T)
def z9w : SchT := .alt (.op 7 2 zcQ) (.alt (.op 9 1 z6I) (.op 10 1 z6H))
def z9x : SchT := .alt (.op 7 2 zcR) (.alt (.op 9 1 z6J) (.op 12 1 z6H))
def z9y : SchT := .alt (.op 7 2 zcS) (.alt (.op 10 1 z6J) (.op 12 1 z6I))
def ziH : SchT := .alt (.op 9 1 zcS) (.alt (.op 10 1 zcR) (.op 12 1 zcQ))
def z9z : SchT := .alt (.op 1 1 z6L) (.op 5 2 z6K)
def z9A : SchT := .alt (.op 1 1 z6M) (.alt (.op 6 1 z9t) (.op 9 1 z6K))
def z9B : SchT := .alt (.op 1 1 z6N) (.alt (.op 6 1 z9u) (.op 10 1 z6K))
def z9C : SchT := .alt (.op 1 1 z6O) (.alt (.op 6 1 z9v) (.op 12 1 z6K))
def zcT : SchT := .alt (.op 1 1 z9w) (.alt (.op 9 1 z9u) (.op 10 1 z9t))
def zcU : SchT := .alt (.op 1 1 z9x) (.alt (.op 9 1 z9v) (.op 12 1 z9t))
def zcV : SchT := .alt (.op 1 1 z9y) (.alt (.op 10 1 z9v) (.op 12 1 z9u))
def z9D : SchT := .alt (.op 5 2 z6M) (.op 9 1 z6L)
def z9E : SchT := .alt (.op 5 2 z6N) (.op 10 1 z6L)
def z9F : SchT := .alt (.op 5 2 z6O) (.op 12 1 z6L)
def z9G : SchT := .alt (.op 6 1 z9w) (.alt (.op 9 1 z6N) (.op 10 1 z6M))
def z9H : SchT := .alt (.op 6 1 z9x) (.alt (.op 9 1 z6O) (.op 12 1 z6M))
def z9I : SchT := .alt (.op 6 1 z9y) (.alt (.op 10 1 z6O) (.op 12 1 z6N))
def zcW : SchT := .alt (.op 7 2 ziH) (.alt (.op 9 1 z9y) (.alt (.op 10 1 z9x) (.op 12 1 z9w)))
def zcX : SchT := .alt (.op 1 1 z9D) (.alt (.op 5 2 z9A) (.op 9 1 z9z))
def zcY : SchT := .alt (.op 1 1 z9E) (.alt (.op 5 2 z9B) (.op 10 1 z9z))
def zcZ : SchT := .alt (.op 1 1 z9F) (.alt (.op 5 2 z9C) (.op 12 1 z9z))
def zd0 : SchT := .alt (.op 1 1 z9G) (.alt (.op 6 1 zcT) (.alt (.op 9 1 z9B) (.op 10 1 z9A)))
def zd1 : SchT := .alt (.op 1 1 z9H) (.alt (.op 6 1 zcU) (.alt (.op 9 1 z9C) (.op 12 1 z9A)))
def zd2 : SchT := .alt (.op 1 1 z9I) (.alt (.op 6 1 zcV) (.alt (.op 10 1 z9C) (.op 12 1 z9B)))
def ziI : SchT := .alt (.op 1 1 zcW) (.alt (.op 9 1 zcV) (.alt (.op 10 1 zcU) (.op 12 1 zcT)))
def zd3 : SchT := .alt (.op 5 2 z9G) (.alt (.op 9 1 z9E) (.op 10 1 z9D))
def zd4 : SchT := .alt (.op 5 2 z9H) (.alt (.op 9 1 z9F) (.op 12 1 z9D))
def zd5 : SchT := .alt (.op 5 2 z9I) (.alt (.op 10 1 z9F) (.op 12 1 z9E))
def zd6 : SchT := .alt (.op 6 1 zcW) (.alt (.op 9 1 z9I) (.alt (.op 10 1 z9H) (.op 12 1 z9G)))
def ziJ : SchT := .alt (.op 1 1 zd3) (.alt (.op 5 2 zd0) (.alt (.op 9 1 zcY) (.op 10 1 zcX)))
def ziK : SchT := .alt (.op 1 1 zd4) (.alt (.op 5 2 zd1) (.alt (.op 9 1 zcZ) (.op 12 1 zcX)))
def zmW : SchT := .alt (.op 1 1 zd5) (.alt (.op 5 2 zd2) (.alt (.op 10 1 zcZ) (.op 12 1 zcY)))
def zmX : SchT := .alt (.op 1 1 zd6) (.alt (.op 6 1 ziI) (.alt (.op 9 1 zd2) (.alt (.op 10 1 zd1) (.op 12 1 zd0))))
def zmY : SchT := .alt (.op 5 2 zd6) (.alt (.op 9 1 zd5) (.alt (.op 10 1 zd4) (.op 12 1 zd3)))
def zmZ : SchT := .alt (.op 1 1 zmY) (.alt (.op 5 2 zmX) (.alt (.op 9 1 zmW) (.alt (.op 10 1 ziK) (.op 12 1 ziJ))))
def zn0 : SchT := .op 11 3 zmZ
def zn1 : SchT := .op 8 3 zn0
def zn2 : SchT := .op 4 0 zn1
def zn3 : SchT := .op 3 0 zn2
def zn4 : SchT := .op 2 0 zn3
def zn5 : SchT := .op 0 3 zn4
def cf5 : Cfg := { wio := fun f i => (f == 20 && (i == 0)) || (f == 7 && (i == 0)) || (f == 8 && (i == 0)) || (f == 18 && (i == 0)) || (f == 13 && (i == 0)) || (f == 999999 && (i == 0)), live := fun r => if r = 23 then some [10, 13, 113, 114] else none, dr := fun r => if r = 17 then some [(0, 0), (1, 0), (2, 0), (3, 0), (4, 1), (5, 0), (6, 0), (7, 2)] else if r = 19 then some [(0, 0), (1, 0), (2, 0), (3, 0), (4, 0), (5, 1), (6, 1), (7, 2), (8, 0), (9, 2)] else if r = 29 then some [(0, 0), (1, 0), (2, 0), (3, 0), (4, 0), (5, 0), (6, 0), (7, 0), (8, 0), (9, 0), (10, 1), (11, 0), (12, 2)] else if r = 33 then some [(0, 0), (1, 0), (3, 0), (4, 0), (2, 1), (5, 1), (6, 0), (7, 0), (8, 1), (9, 0), (10, 0)] else none, wr := fun r => if r = 19 then [17] else [], fz := fun r => if r = 3 then some [10] else none, dt := fun r => if r = 11 then some (znf) else if r = 21 then some (zn5) else none }
@[simp] theorem wio5 : cf5.wio = fun f i => (f == 20 && (i == 0)) || (f == 7 && (i == 0)) || (f == 8 && (i == 0)) || (f == 18 && (i == 0)) || (f == 13 && (i == 0)) || (f == 999999 && (i == 0)) := rfl
@[simp] theorem live5 : cf5.live = fun r => if r = 23 then some [10, 13, 113, 114] else none := rfl
@[simp] theorem wr5 : cf5.wr = fun r => if r = 19 then [17] else [] := rfl
def cf6 : Cfg := { wio := fun f i => (f == 999999 && (i == 0)), live := fun r => none, dr := fun r => none }
@[simp] theorem wio6 : cf6.wio = fun f i => (f == 999999 && (i == 0)) := rfl
@[simp] theorem live6 : cf6.live = fun r => none := rfl
@[simp] theorem wr6 : cf6.wr = fun _ => [] := rfl
def cf7 : Cfg := { wio := fun f i => (f == 20 && (i == 0)) || (f == 23 && (i == 0)) || (f == 13 && (i == 0)) || (f == 21 && (i == 0)) || (f == 22 && (i == 0)) || (f == 999999 && (i == 0)), live := fun r => none, dr := fun r => none, fz := fun r => if r = 999998 then some [] else none }
@[simp] theorem wio7 : cf7.wio = fun f i => (f == 20 && (i == 0)) || (f == 23 && (i == 0)) || (f == 13 && (i == 0)) || (f == 21 && (i == 0)) || (f == 22 && (i == 0)) || (f == 999999 && (i == 0)) := rfl
@[simp] theorem live7 : cf7.live = fun r => none := rfl
@[simp] theorem wr7 : cf7.wr = fun _ => [] := rfl
def cf8 : Cfg := { wio := fun f i => (f == 20 && (i == 0)) || (f == 999999 && (i == 0)), live := fun r => none, dr := fun r => none }
@[simp] theorem wio8 : cf8.wio = fun f i => (f == 20 && (i == 0)) || (f == 999999 && (i == 0)) := rfl
@[simp] theorem live8 : cf8.live = fun r => none := rfl
@[simp] theorem wr8 : cf8.wr = fun _ => [] := rfl
def cf9 : Cfg := { wio := fun f i => (f == 999999 && (i == 0)), live := fun r => if r = 6 then some [1, 4, 6, 29, 30, 31] else if r = 13 then some [1, 4, 6, 10, 11, 48, 49, 50] else none, dr := fun r => none, fz := fun r => if r = 11 then some [6] else if r = 999998 then some [] else none, dt := fun r => if r = 15 then some (.op 0 0 (.op 1 0 (.op 2 0 (.op 3 0 (.op 4 0 (.op 5 0 (.op 6 0 (.alt (.op 7 1 (.op 8 0 (.op 9 0 (.op 10 3 (.op 11 1 (.op 12 2 (.op 13 0 .nil))))))) (.op 11 1 (.op 7 1 (.op 8 0 (.op 9 0 (.op 10 3 (.op 12 2 (.op 13 0 .nil))))))))))))))) else none }
@[simp] theorem wio9 : cf9.wio = fun f i => (f == 999999 && (i == 0)) := rfl
@[simp] theorem live9 : cf9.live = fun r => if r = 6 then some [1, 4, 6, 29, 30, 31] else if r = 13 then some [1, 4, 6, 10, 11, 48, 49, 50] else none := rfl
@[simp] theorem wr9 : cf9.wr = fun _ => [] := rfl
def zh2 : SchT := .nil
def zh3 : SchT := .op 13 2 zh2
def zh4 : SchT := .op 12 0 zh3
def zh5 : SchT := .op 11 2 zh4
def zbQ : SchT := .op 9 2 zh5
def zh6 : SchT := .op 8 1 zbQ
def zbR : SchT := .op 10 3 zbQ
def z8b : SchT := .op 4 2 zbR
def zbS : SchT := .op 6 1 zbR
def zbT : SchT := .op 10 3 zh6
def zbU : SchT := .op 3 1 z8b
def zbV : SchT := .alt (.op 4 2 zbS) (.op 6 1 z8b)
def zbW : SchT := .alt (.op 4 2 zbT) (.op 8 1 z8b)
def zk1 : SchT := .alt (.op 6 1 zbT) (.op 8 1 zbS)
def zk2 : SchT := .alt (.op 3 1 zbV) (.op 6 1 zbU)
def zk3 : SchT := .alt (.op 3 1 zbW) (.op 8 1 zbU)
def zk4 : SchT := .alt (.op 4 2 zk1) (.alt (.op 6 1 zbW) (.op 8 1 zbV))
def zk5 : SchT := .alt (.op 3 1 zk4) (.alt (.op 6 1 zk3) (.op 8 1 zk2))
def zk6 : SchT := .op 7 3 zk5
def zk7 : SchT := .op 5 3 zk6
def zk8 : SchT := .op 2 0 zk7
def zk9 : SchT := .op 1 0 zk8
def zka : SchT := .op 0 0 zk9
def cf10 : Cfg := { wio := fun f i => (f == 999999 && (i == 0)), live := fun r => if r = 6 then some [1, 4, 6, 40, 41, 42] else if r = 12 then some [1, 4, 6, 9, 52, 53, 54] else if r = 17 then some [1, 4, 6, 9, 11, 13, 52, 53, 54, 71, 72, 73] else if r = 22 then some [1, 4, 6, 9, 11, 13, 52, 53, 54, 89, 90, 91] else if r = 25 then some [1, 4, 6, 9, 11, 13, 16, 17, 18, 52, 53, 54, 89, 90, 91] else if r = 35 then some [1, 4, 6, 9, 11, 13, 16, 17, 18, 20, 21, 23, 52, 53, 54, 89, 90, 91, 152, 153, 154] else if r = 40 then some [1, 4, 6, 9, 11, 13, 16, 17, 18, 20, 21, 23, 52, 53, 54, 89, 90, 91, 167, 168, 169] else if r = 44 then some [1, 4, 6, 9, 11, 13, 16, 17, 18, 20, 21, 23, 27, 28, 52, 53, 54, 89, 90, 91, 167, 168, 169, 174, 175] else none, dr := fun r => if r = 19 then some [(0, 0), (1, 0), (2, 0), (3, 0), (4, 0), (5, 0), (6, 0), (7, 1), (8, 2), (9, 0), (10, 2)] else if r = 29 then some [(0, 0), (1, 0), (2, 0), (3, 0), (4, 0), (5, 0), (6, 0), (7, 0), (11, 0), (12, 0), (13, 0), (14, 0), (15, 0), (8, 1), (9, 0), (10, 0), (16, 0), (17, 0)] else if r = 46 then some [(0, 0), (1, 0), (2, 0), (3, 0), (4, 0), (5, 0), (6, 0), (7, 0), (8, 0), (9, 0), (10, 0), (11, 0), (12, 0)] else none, fz := fun r => if r = 4 then some [4] else if r = 999998 then some [] else none, dt := fun r => if r = 51 then some (zka) else none }
@[simp] theorem wio10 : cf10.wio = fun f i => (f == 999999 && (i == 0)) := rfl
@[simp] theorem live10 : cf10.live = fun r => if r = 6 then some [1, 4, 6, 40, 41, 42] else if r = 12 then some [1, 4, 6, 9, 52, 53, 54] else if r = 17 then some [1, 4, 6, 9, 11, 13, 52, 53, 54, 71, 72, 73] else if r = 22 then some [1, 4, 6, 9, 11, 13, 52, 53, 54, 89, 90, 91] else if r = 25 then some [1, 4, 6, 9, 11, 13, 16, 17, 18, 52, 53, 54, 89, 90, 91] else if r = 35 then some [1, 4, 6, 9, 11, 13, 16, 17, 18, 20, 21, 23, 52, 53, 54, 89, 90, 91, 152, 153, 154] else if r = 40 then some [1, 4, 6, 9, 11, 13, 16, 17, 18, 20, 21, 23, 52, 53, 54, 89, 90, 91, 167, 168, 169] else if r = 44 then some [1, 4, 6, 9, 11, 13, 16, 17, 18, 20, 21, 23, 27, 28, 52, 53, 54, 89, 90, 91, 167, 168, 169, 174, 175] else none := rfl
@[simp] theorem wr10 : cf10.wr = fun _ => [] := rfl
def cf11 : Cfg := { wio := fun f i => (f == 999999 && (i == 0)), live := fun r => if r = 4 then some [0, 1, 17, 18] else if r = 10 then some [0, 1, 6, 7, 17, 18, 62, 63] else if r = 16 then some [0, 1, 6, 7, 17, 18, 80, 81] else if r = 21 then some [0, 1, 6, 7, 9, 17, 18, 80, 81, 102, 103] else none, dr := fun r => if r = 12 then some [(0, 0), (1, 0), (2, 0), (3, 0), (4, 0), (5, 0), (6, 0), (7, 0), (8, 0), (9, 0), (10, 0)] else if r = 18 then some [(0, 0), (1, 0), (2, 0), (3, 0), (4, 0), (5, 0), (6, 0), (7, 0), (8, 0), (9, 0), (10, 0), (11, 0), (12, 0)] else if r = 23 then some [(0, 0), (1, 0), (2, 0), (3, 0), (4, 0), (5, 0), (6, 0), (7, 0), (8, 0), (9, 0), (10, 0), (11, 0), (12, 0), (13, 0), (14, 0), (15, 0), (16, 0)] else none, dt := fun r => if r = 6 then some (.op 0 0 (.op 1 0 (.op 2 0 (.op 3 0 (.op 4 3 (.op 5 3 (.op 6 3 (.op 7 3 (.alt (.op 8 1 (.op 9 1 (.op 10 2 (.op 11 2 .nil)))) (.op 9 1 (.op 8 1 (.op 10 2 (.op 11 2 .nil))))))))))))) else none }
@[simp] theorem wio11 : cf11.wio = fun f i => (f == 999999 && (i == 0)) := rfl
@[simp] theorem live11 : cf11.live = fun r => if r = 4 then some [0, 1, 17, 18] else if r = 10 then some [0, 1, 6, 7, 17, 18, 62, 63] else if r = 16 then some [0, 1, 6, 7, 17, 18, 80, 81] else if r = 21 then some [0, 1, 6, 7, 9, 17, 18, 80, 81, 102, 103] else none := rfl
@[simp] theorem wr11 : cf11.wr = fun _ => [] := rfl
def cf12 : Cfg := { wio := fun f i => (f == 999999 && (i == 0)), live := fun r => none, dr := fun r => none }
@[simp] theorem wio12 : cf12.wio = fun f i => (f == 999999 && (i == 0)) := rfl
@[simp] theorem live12 : cf12.live = fun r => none := rfl
@[simp] theorem wr12 : cf12.wr = fun _ => [] := rfl
def cf13 : Cfg := { wio := fun f i => (f == 23 && (i == 0)) || (f == 999999 && (i == 0)), live := fun r => if r = 3 then some [6, 7, 17, 18] else if r = 6 then some [6, 7, 8, 17, 18, 25, 26, 27] else none, dr := fun r => none, fz := fun r => if r = 999998 then some [] else none }
@[simp] theorem wio13 : cf13.wio = fun f i => (f == 23 && (i == 0)) || (f == 999999 && (i == 0)) := rfl
@[simp] theorem live13 : cf13.live = fun r => if r = 3 then some [6, 7, 17, 18] else if r = 6 then some [6, 7, 8, 17, 18, 25, 26, 27] else none := rfl
@[simp] theorem wr13 : cf13.wr = fun _ => [] := rfl
def cf14 : Cfg := { wio := fun f i => (f == 999999 && (i == 0)), live := fun r => none, dr := fun r => none }
@[simp] theorem wio14 : cf14.wio = fun f i => (f == 999999 && (i == 0)) := rfl
@[simp] theorem live14 : cf14.live = fun r => none := rfl
@[simp] theorem wr14 : cf14.wr = fun _ => [] := rfl
def cf15 : Cfg := { wio := fun f i => (f == 999999 && (i == 0)), live := fun r => none, dr := fun r => none }
@[simp] theorem wio15 : cf15.wio = fun f i => (f == 999999 && (i == 0)) := rfl
@[simp] theorem live15 : cf15.live = fun r => none := rfl
@[simp] theorem wr15 : cf15.wr = fun _ => [] := rfl
def cf16 : Cfg := { wio := fun f i => (f == 999999 && (i == 0)), live := fun r => if r = 7 then some [2, 3, 5, 59, 60, 61] else if r = 13 then some [2, 3, 71, 72, 73] else if r = 21 then some [2, 3, 8, 10, 71, 72, 73, 94, 95, 96] else none, dr := fun r => if r = 18 then some [(0, 0), (1, 0), (2, 0), (4, 0), (5, 0), (3, 1), (6, 0)] else if r = 23 then some [(0, 0), (1, 0), (3, 0), (4, 0), (5, 0), (6, 0), (7, 0), (8, 0), (9, 0), (10, 0), (11, 0), (12, 0), (13, 0), (14, 0), (2, 1), (15, 0)] else none }
@[simp] theorem wio16 : cf16.wio = fun f i => (f == 999999 && (i == 0)) := rfl
@[simp] theorem live16 : cf16.live = fun r => if r = 7 then some [2, 3, 5, 59, 60, 61] else if r = 13 then some [2, 3, 71, 72, 73] else if r = 21 then some [2, 3, 8, 10, 71, 72, 73, 94, 95, 96] else none := rfl
@[simp] theorem wr16 : cf16.wr = fun _ => [] := rfl
def cf17 : Cfg := { wio := fun f i => (f == 999999 && (i == 0)), live := fun r => if r = 3 then some [3, 6, 7, 8] else none, dr := fun r => none }
@[simp] theorem wio17 : cf17.wio = fun f i => (f == 999999 && (i == 0)) := rfl
@[simp] theorem live17 : cf17.live = fun r => if r = 3 then some [3, 6, 7, 8] else none := rfl
@[simp] theorem wr17 : cf17.wr = fun _ => [] := rfl
def cf18 : Cfg := { wio := fun f i => (f == 20 && (i == 0)) || (f == 999999 && (i == 0)), live := fun r => if r = 3 then some [0, 1, 7, 8] else none, dr := fun r => none }
@[simp] theorem wio18 : cf18.wio = fun f i => (f == 20 && (i == 0)) || (f == 999999 && (i == 0)) := rfl
@[simp] theorem live18 : cf18.live = fun r => if r = 3 then some [0, 1, 7, 8] else none := rfl
@[simp] theorem wr18 : cf18.wr = fun _ => [] := rfl
def cf19 : Cfg := { wio := fun f i => (f == 999999 && (i == 0)), live := fun r => if r = 4 then some [2, 3, 43, 44, 45] else if r = 10 then some [2, 3, 55, 56, 57] else if r = 15 then some [2, 3, 7, 8, 55, 56, 57, 99, 100, 101] else none, dr := fun r => if r = 12 then some [(0, 0), (1, 0), (2, 0), (3, 1), (4, 0), (5, 0), (6, 0), (7, 0), (8, 0), (9, 0), (10, 0), (11, 0), (12, 0), (13, 0), (14, 0), (15, 0), (16, 0), (17, 0), (18, 0), (19, 0), (20, 0), (21, 0), (22, 0), (23, 1), (24, 0), (25, 0), (26, 0), (27, 0), (28, 0), (29, 0), (30, 0), (32, 0), (33, 0), (31, 1), (34, 0), (35, 0)] else if r = 17 then some [(0, 0), (1, 0), (2, 0), (4, 0), (5, 0), (6, 0), (7, 0), (8, 0), (9, 0), (10, 0), (11, 0), (12, 0), (13, 0), (14, 0), (15, 0), (3, 1), (16, 0)] else none }
@[simp] theorem wio19 : cf19.wio = fun f i => (f == 999999 && (i == 0)) := rfl
@[simp] theorem live19 : cf19.live = fun r => if r = 4 then some [2, 3, 43, 44, 45] else if r = 10 then some [2, 3, 55, 56, 57] else if r = 15 then some [2, 3, 7, 8, 55, 56, 57, 99, 100, 101] else none := rfl
@[simp] theorem wr19 : cf19.wr = fun _ => [] := rfl
def cf20 : Cfg := { wio := fun f i => (f == 999999 && (i == 0)), live := fun r => none, dr := fun r => if r = 1 then some [(0, 0), (1, 0), (2, 0), (3, 0), (4, 0), (5, 0), (6, 0), (7, 0), (8, 0), (9, 0)] else if r = 4 then some [(0, 0), (1, 0), (2, 0), (3, 0), (4, 0), (5, 0), (6, 0), (7, 0), (8, 0), (9, 0), (10, 0), (11, 0), (12, 1), (13, 0)] else none }
@[simp] theorem wio20 : cf20.wio = fun f i => (f == 999999 && (i == 0)) := rfl
@[simp] theorem live20 : cf20.live = fun r => none := rfl
@[simp] theorem wr20 : cf20.wr = fun _ => [] := rfl
def zjI : SchT := .nil
def zjJ : SchT := .op 16 2 zjI
def zjK : SchT := .op 15 0 zjJ
def zjL : SchT := .op 14 2 zjK
def ze0 : SchT := .op 12 2 zjL
def ze1 : SchT := .op 11 1 ze0
def ze2 : SchT := .op 13 3 ze0
def z6Q : SchT := .op 6 2 ze2
def ze3 : SchT := .op 8 2 ze2
def zjM : SchT := .op 10 1 ze1
def ze4 : SchT := .op 13 3 ze1
def z9R : SchT := .op 1 2 z6Q
def z6R : SchT := .op 5 1 z6Q
def z9S : SchT := .alt (.op 6 2 ze3) (.op 8 2 z6Q)
def z6S : SchT := .alt (.op 6 2 ze4) (.op 11 1 z6Q)
def ze5 : SchT := .alt (.op 8 2 ze4) (.op 11 1 ze3)
def ze6 : SchT := .op 13 3 zjM
def z9T : SchT := .alt (.op 1 2 z6R) (.op 5 1 z9R)
def ze7 : SchT := .alt (.op 1 2 z9S) (.op 8 2 z9R)
def z9U : SchT := .alt (.op 1 2 z6S) (.op 11 1 z9R)
def zjN : SchT := .op 4 0 z6R
def z9V : SchT := .alt (.op 5 1 z9S) (.op 8 2 z6R)
def z6T : SchT := .alt (.op 5 1 z6S) (.op 11 1 z6R)
def z9W : SchT := .alt (.op 6 2 ze5) (.alt (.op 8 2 z6S) (.op 11 1 z9S))
def z9X : SchT := .alt (.op 6 2 ze6) (.op 10 1 z6S)
def zjO : SchT := .alt (.op 8 2 ze6) (.op 10 1 ze5)
def zjP : SchT := .op 4 3 z9T
def ze8 : SchT := .alt (.op 1 2 z9V) (.alt (.op 5 1 ze7) (.op 8 2 z9T))
def z9Y : SchT := .alt (.op 1 2 z6T) (.alt (.op 5 1 z9U) (.op 11 1 z9T))
def ze9 : SchT := .alt (.op 1 2 z9W) (.alt (.op 8 2 z9U) (.op 11 1 ze7))
def zea : SchT := .alt (.op 1 2 z9X) (.op 10 1 z9U)
def z9Z : SchT := .op 3 1 zjN
def zjQ : SchT := .op 4 3 z9V
def zjR : SchT := .op 4 0 z6T
def za0 : SchT := .alt (.op 5 1 z9W) (.alt (.op 8 2 z6T) (.op 11 1 z9V))
def za1 : SchT := .alt (.op 5 1 z9X) (.op 10 1 z6T)
def zeb : SchT := .alt (.op 6 2 zjO) (.alt (.op 8 2 z9X) (.op 10 1 z9W))
def zec : SchT := .alt (.op 1 2 z9Z) (.op 3 1 zjP)
def zjS : SchT := .op 4 3 ze8
def zjT : SchT := .op 4 3 z9Y
def zed : SchT := .alt (.op 1 2 za0) (.alt (.op 5 1 ze9) (.alt (.op 8 2 z9Y) (.op 11 1 ze8)))
def zee : SchT := .alt (.op 1 2 za1) (.alt (.op 5 1 zea) (.op 10 1 z9Y))
def zjU : SchT := .alt (.op 1 2 zeb) (.alt (.op 8 2 zea) (.op 10 1 ze9))
def zef : SchT := .alt (.op 3 1 zjQ) (.op 8 2 z9Z)
def za2 : SchT := .alt (.op 3 1 zjR) (.op 11 1 z9Z)
def zjV : SchT := .op 4 3 za0
def zjW : SchT := .op 4 0 za1
def zeg : SchT := .alt (.op 5 1 zeb) (.alt (.op 8 2 za1) (.op 10 1 za0))
def zjX : SchT := .alt (.op 1 2 zef) (.alt (.op 3 1 zjS) (.op 8 2 zec))
def zeh : SchT := .alt (.op 1 2 za2) (.alt (.op 3 1 zjT) (.op 11 1 zec))
def zjY : SchT := .op 4 3 zed
def zjZ : SchT := .op 4 3 zee
def zk0 : SchT := .alt (.op 1 2 zeg) (.alt (.op 5 1 zjU) (.alt (.op 8 2 zee) (.op 10 1 zed)))
def zei : SchT := .alt (.op 3 1 zjV) (.alt (.op 8 2 za2) (.op 11 1 zef))
def zej : SchT := .alt (.op 3 1 zjW) (.op 10 1 za2)
def zng : SchT := .op 4 3 zeg
def znh : SchT := .alt (.op 1 2 zei) (.alt (.op 3 1 zjY) (.alt (.op 8 2 zeh) (.op 11 1 zjX)))
def zni : SchT := .alt (.op 1 2 zej) (.alt (.op 3 1 zjZ) (.op 10 1 zeh))
def znj : SchT := .op 4 3 zk0
def znk : SchT := .alt (.op 3 1 zng) (.alt (.op 8 2 zej) (.op 10 1 zei))
def znl : SchT := .alt (.op 1 2 znk) (.alt (.op 3 1 znj) (.alt (.op 8 2 zni) (.op 10 1 znh)))
def znm : SchT := .op 9 3 znl
def znn : SchT := .op 7 3 znm
def zno : SchT := .op 2 3 znn
def znp : SchT := .op 0 3 zno
def cf21 : Cfg := { wio := fun f i => (f == 20 && (i == 0)) || (f == 999999 && (i == 0)), live := fun r => if r = 5 then some [0, 1, 6, 7, 8, 9] else if r = 9 then some [0, 1, 6, 7, 8, 10] else if r = 13 then some [0, 1, 6, 7, 8, 10, 11, 12] else if r = 17 then some [0, 1, 6, 7, 8, 10, 11, 13] else none, dr := fun r => if r = 20 then some [(0, 0), (1, 0), (2, 0), (3, 0), (4, 0), (5, 0), (6, 0), (7, 0), (8, 0), (9, 0), (10, 0), (11, 2)] else if r = 21 then some [(1, 0), (2, 0), (3, 0), (5, 3), (6, 3), (7, 3), (8, 3), (0, 1), (4, 2), (9, 2), (10, 0)] else none, wr := fun r => if r = 7 then [0] else [], dt := fun r => if r = 7 then some (znp) else none }
@[simp] theorem wio21 : cf21.wio = fun f i => (f == 20 && (i == 0)) || (f == 999999 && (i == 0)) := rfl
@[simp] theorem live21 : cf21.live = fun r => if r = 5 then some [0, 1, 6, 7, 8, 9] else if r = 9 then some [0, 1, 6, 7, 8, 10] else if r = 13 then some [0, 1, 6, 7, 8, 10, 11, 12] else if r = 17 then some [0, 1, 6, 7, 8, 10, 11, 13] else none := rfl
@[simp] theorem wr21 : cf21.wr = fun r => if r = 7 then [0] else [] := rfl
def cf22 : Cfg := { wio := fun f i => (f == 20 && (i == 0)) || (f == 999999 && (i == 0)), live := fun r => if r = 4 then some [0, 1, 4, 5, 6, 22, 23, 24] else if r = 9 then some [0, 1, 4, 5, 6, 8, 9, 10, 22, 23, 24] else if r = 13 then some [0, 1, 4, 5, 6, 8, 9, 10, 11, 12, 22, 23, 24] else if r = 15 then some [0, 1, 4, 5, 6, 8, 9, 10, 11, 12, 22, 23, 24, 50, 51, 52] else none, dr := fun r => if r = 6 then some [(0, 0), (1, 0), (2, 0), (3, 1), (4, 0), (5, 1), (6, 2), (7, 0), (8, 2)] else none, wr := fun r => if r = 6 then [0] else [] }
@[simp] theorem wio22 : cf22.wio = fun f i => (f == 20 && (i == 0)) || (f == 999999 && (i == 0)) := rfl
@[simp] theorem live22 : cf22.live = fun r => if r = 4 then some [0, 1, 4, 5, 6, 22, 23, 24] else if r = 9 then some [0, 1, 4, 5, 6, 8, 9, 10, 22, 23, 24] else if r = 13 then some [0, 1, 4, 5, 6, 8, 9, 10, 11, 12, 22, 23, 24] else if r = 15 then some [0, 1, 4, 5, 6, 8, 9, 10, 11, 12, 22, 23, 24, 50, 51, 52] else none := rfl
@[simp] theorem wr22 : cf22.wr = fun r => if r = 6 then [0] else [] := rfl
def cf23 : Cfg := { wio := fun f i => (f == 20 && (i == 0)) || (f == 999999 && (i == 0)), live := fun r => if r = 5 then some [0, 1, 6, 7, 8, 9] else if r = 10 then some [0, 1, 6, 7, 8, 9, 10, 11] else none, dr := fun r => if r = 7 then some [(0, 0), (1, 0), (2, 0), (3, 1), (4, 0), (5, 1), (6, 2), (7, 0), (8, 2)] else none, wr := fun r => if r = 7 then [0] else [] }
@[simp] theorem wio23 : cf23.wio = fun f i => (f == 20 && (i == 0)) || (f == 999999 && (i == 0)) := rfl
@[simp] theorem live23 : cf23.live = fun r => if r = 5 then some [0, 1, 6, 7, 8, 9] else if r = 10 then some [0, 1, 6, 7, 8, 9, 10, 11] else none := rfl
@[simp] theorem wr23 : cf23.wr = fun r => if r = 7 then [0] else [] := rfl
def zgD : SchT := .nil
def zbt : SchT := .op 13 2 zgD
def z5V : SchT := .op 11 0 zbt
def zgE : SchT := .op 12 1 zbt
def z5W : SchT := .op 4 1 z5V
def z5X : SchT := .op 6 1 z5V
def z5Y : SchT := .op 8 1 z5V
def z5Z : SchT := .op 10 1 z5V
def z6a : SchT := .op 11 0 zgE
def z7N : SchT := .alt (.op 4 1 z5X) (.op 6 1 z5W)
def z7O : SchT := .alt (.op 4 1 z5Y) (.op 8 1 z5W)
def z7P : SchT := .alt (.op 4 1 z5Z) (.op 10 1 z5W)
def z7Q : SchT := .alt (.op 4 1 z6a) (.op 12 1 z5W)
def z7R : SchT := .alt (.op 6 1 z5Y) (.op 8 1 z5X)
def z7S : SchT := .alt (.op 6 1 z5Z) (.op 10 1 z5X)
def z7T : SchT := .alt (.op 6 1 z6a) (.op 12 1 z5X)
def z7U : SchT := .alt (.op 8 1 z5Z) (.op 10 1 z5Y)
def z7V : SchT := .alt (.op 8 1 z6a) (.op 12 1 z5Y)
def z7W : SchT := .alt (.op 10 1 z6a) (.op 12 1 z5Z)
def zbu : SchT := .alt (.op 4 1 z7R) (.alt (.op 6 1 z7O) (.op 8 1 z7N))
def zbv : SchT := .alt (.op 4 1 z7S) (.alt (.op 6 1 z7P) (.op 10 1 z7N))
def zbw : SchT := .alt (.op 4 1 z7T) (.alt (.op 6 1 z7Q) (.op 12 1 z7N))
def zbx : SchT := .alt (.op 4 1 z7U) (.alt (.op 8 1 z7P) (.op 10 1 z7O))
def zby : SchT := .alt (.op 4 1 z7V) (.alt (.op 8 1 z7Q) (.op 12 1 z7O))
def zbz : SchT := .alt (.op 4 1 z7W) (.alt (.op 10 1 z7Q) (.op 12 1 z7P))
def zbA : SchT := .alt (.op 6 1 z7U) (.alt (.op 8 1 z7S) (.op 10 1 z7R))
def zbB : SchT := .alt (.op 6 1 z7V) (.alt (.op 8 1 z7T) (.op 12 1 z7R))
def zbC : SchT := .alt (.op 6 1 z7W) (.alt (.op 10 1 z7T) (.op 12 1 z7S))
def zbD : SchT := .alt (.op 8 1 z7W) (.alt (.op 10 1 z7V) (.op 12 1 z7U))
def zgF : SchT := .alt (.op 4 1 zbA) (.alt (.op 6 1 zbx) (.alt (.op 8 1 zbv) (.op 10 1 zbu)))
def zgG : SchT := .alt (.op 4 1 zbB) (.alt (.op 6 1 zby) (.alt (.op 8 1 zbw) (.op 12 1 zbu)))
def zgH : SchT := .alt (.op 4 1 zbC) (.alt (.op 6 1 zbz) (.alt (.op 10 1 zbw) (.op 12 1 zbv)))
def zjy : SchT := .alt (.op 4 1 zbD) (.alt (.op 8 1 zbz) (.alt (.op 10 1 zby) (.op 12 1 zbx)))
def zjz : SchT := .alt (.op 6 1 zbD) (.alt (.op 8 1 zbC) (.alt (.op 10 1 zbB) (.op 12 1 zbA)))
def zjA : SchT := .alt (.op 4 1 zjz) (.alt (.op 6 1 zjy) (.alt (.op 8 1 zgH) (.alt (.op 10 1 zgG) (.op 12 1 zgF))))
def zjB : SchT := .op 9 0 zjA
def zjC : SchT := .op 7 0 zjB
def zjD : SchT := .op 5 0 zjC
def zjE : SchT := .op 3 0 zjD
def zjF : SchT := .op 2 0 zjE
def zjG : SchT := .op 1 0 zjF
def zjH : SchT := .op 0 0 zjG
def cf24 : Cfg := { wio := fun f i => (f == 999999 && (i == 0)), live := fun r => if r = 12 then some [2, 5, 7, 8, 9, 10, 53, 54] else if r = 19 then some [2, 5, 7, 8, 10, 85, 86, 87] else if r = 23 then some [2, 5, 7, 8, 10, 14, 17, 85, 86, 87, 99, 100] else none, dr := fun r => if r = 14 then some [(0, 0), (1, 0), (2, 0), (3, 0), (4, 0), (5, 1), (6, 0), (7, 2)] else if r = 16 then some [(0, 0), (1, 0), (2, 0), (3, 0), (4, 0), (5, 0), (6, 0), (7, 0), (8, 0), (9, 0), (10, 0), (11, 0), (12, 0), (13, 0), (14, 2)] else if r = 26 then some [(0, 0), (1, 0), (2, 0), (3, 0), (4, 0), (5, 0), (6, 0), (7, 0), (8, 2)] else none, fz := fun r => if r = 8 then some [5] else if r = 10 then some [8] else if r = 999998 then some [] else none, dt := fun r => if r = 10 then some (zjH) else none }
@[simp] theorem wio24 : cf24.wio = fun f i => (f == 999999 && (i == 0)) := rfl
@[simp] theorem live24 : cf24.live = fun r => if r = 12 then some [2, 5, 7, 8, 9, 10, 53, 54] else if r = 19 then some [2, 5, 7, 8, 10, 85, 86, 87] else if r = 23 then some [2, 5, 7, 8, 10, 14, 17, 85, 86, 87, 99, 100] else none := rfl
@[simp] theorem wr24 : cf24.wr = fun _ => [] := rfl
def cf25 : Cfg := { wio := fun f i => (f == 52 && (i == 0)) || (f == 999999 && (i == 0)), live := fun r => if r = 3 then some [1, 4, 11, 12, 13] else if r = 11 then some [1, 4, 7, 36, 37, 38] else none, dr := fun r => if r = 13 then some [(0, 0), (1, 0), (2, 0), (3, 0), (4, 0), (5, 0), (6, 0), (7, 0)] else if r = 17 then some [(0, 0), (1, 0), (2, 0), (3, 0)] else none, fz := fun r => if r = 16 then some [1, 4] else if r = 999998 then some [] else none, dt := fun r => if r = 7 then some (.op 1 3 (.op 2 0 (.op 3 0 (.op 4 0 (.op 5 0 (.op 6 0 (.alt (.op 0 1 (.op 7 1 (.op 8 2 (.op 9 0 (.op 10 2 .nil))))) (.op 7 1 (.alt (.op 0 1 (.op 8 2 (.op 9 0 (.op 10 2 .nil)))) (.op 8 2 (.op 0 1 (.op 9 0 (.op 10 2 .nil))))))))))))) else none }
@[simp] theorem wio25 : cf25.wio = fun f i => (f == 52 && (i == 0)) || (f == 999999 && (i == 0)) := rfl
@[simp] theorem live25 : cf25.live = fun r => if r = 3 then some [1, 4, 11, 12, 13] else if r = 11 then some [1, 4, 7, 36, 37, 38] else none := rfl
@[simp] theorem wr25 : cf25.wr = fun _ => [] := rfl
def cf26 : Cfg := { wio := fun f i => (f == 999999 && (i == 0)), live := fun r => if r = 4 then some [2, 3, 4, 5, 8, 10, 11, 35, 36, 37] else if r = 10 then some [2, 4, 5, 8, 10, 11, 14, 53, 54, 55] else if r = 13 then some [2, 4, 5, 8, 10, 11, 14, 16, 53, 54, 55, 60, 61] else none, dr := fun r => if r = 6 then some [(0, 0), (1, 0), (2, 0), (3, 0), (4, 0), (5, 0), (6, 0), (7, 1), (8, 2), (9, 0), (10, 2)] else if r = 16 then some [(0, 0), (1, 0), (2, 0), (4, 0), (5, 0), (6, 0), (7, 0), (8, 0), (3, 1), (9, 1), (10, 0), (11, 0)] else if r = 17 then some [(0, 0), (1, 0), (2, 0), (3, 0), (4, 0), (5, 0), (6, 0), (7, 0), (8, 0), (9, 0), (10, 0)] else if r = 18 then some [(0, 0), (1, 0), (2, 0), (3, 0), (4, 0), (5, 0), (6, 0), (7, 0), (8, 0), (9, 0), (10, 0), (11, 0), (12, 0), (13, 0)] else if r = 19 then some [(0, 0), (1, 0), (3, 0), (4, 0), (2, 1), (5, 1), (6, 0)] else none, fz := fun r => if r = 999998 then some [] else none }
@[simp] theorem wio26 : cf26.wio = fun f i => (f == 999999 && (i == 0)) := rfl
@[simp] theorem live26 : cf26.live = fun r => if r = 4 then some [2, 3, 4, 5, 8, 10, 11, 35, 36, 37] else if r = 10 then some [2, 4, 5, 8, 10, 11, 14, 53, 54, 55] else if r = 13 then some [2, 4, 5, 8, 10, 11, 14, 16, 53, 54, 55, 60, 61] else none := rfl
@[simp] theorem wr26 : cf26.wr = fun _ => [] := rfl
def zgp : SchT := .nil
def zgq : SchT := .op 15 2 zgp
def zba : SchT := .op 14 0 zgq
def zgr : SchT := .op 7 1 zba
def zbb : SchT := .op 13 2 zba
def zgs : SchT := .alt (.op 7 1 zbb) (.op 13 2 zgr)
def zbc : SchT := .op 12 0 zbb
def zbd : SchT := .op 5 1 zbc
def zbe : SchT := .op 12 0 zgs
def z7H : SchT := .op 11 2 zbc
def zgt : SchT := .alt (.op 5 1 zbe) (.op 7 1 zbd)
def zbf : SchT := .alt (.op 5 1 z7H) (.op 11 2 zbd)
def zbg : SchT := .alt (.op 7 1 z7H) (.op 11 2 zbe)
def zbh : SchT := .op 10 0 z7H
def z7I : SchT := .op 3 1 zbh
def zgu : SchT := .alt (.op 5 1 zbg) (.alt (.op 7 1 zbf) (.op 11 2 zgt))
def zbi : SchT := .op 10 0 zbf
def zbj : SchT := .op 10 0 zbg
def z5U : SchT := .op 9 2 zbh
def zbk : SchT := .alt (.op 3 1 zbi) (.op 5 1 z7I)
def zbl : SchT := .alt (.op 3 1 zbj) (.op 7 1 z7I)
def z7J : SchT := .alt (.op 3 1 z5U) (.op 9 2 z7I)
def zbm : SchT := .op 10 0 zgu
def z7K : SchT := .alt (.op 5 1 z5U) (.op 9 2 zbi)
def z7L : SchT := .alt (.op 7 1 z5U) (.op 9 2 zbj)
def zgv : SchT := .op 8 0 z5U
def z7M : SchT := .op 1 1 zgv
def zgw : SchT := .alt (.op 3 1 zbm) (.alt (.op 5 1 zbl) (.op 7 1 zbk))
def zbn : SchT := .alt (.op 3 1 z7K) (.alt (.op 5 1 z7J) (.op 9 2 zbk))
def zbo : SchT := .alt (.op 3 1 z7L) (.alt (.op 7 1 z7J) (.op 9 2 zbl))
def zgx : SchT := .op 8 0 z7J
def zbp : SchT := .alt (.op 5 1 z7L) (.alt (.op 7 1 z7K) (.op 9 2 zbm))
def zgy : SchT := .op 8 0 z7K
def zgz : SchT := .op 8 0 z7L
def zbq : SchT := .alt (.op 1 1 zgx) (.op 3 1 z7M)
def zbr : SchT := .alt (.op 1 1 zgy) (.op 5 1 z7M)
def zbs : SchT := .alt (.op 1 1 zgz) (.op 7 1 z7M)
def zgA : SchT := .alt (.op 3 1 zbp) (.alt (.op 5 1 zbo) (.alt (.op 7 1 zbn) (.op 9 2 zgw)))
def zgB : SchT := .op 8 0 zbn
def zgC : SchT := .op 8 0 zbo
def zjo : SchT := .op 8 0 zbp
def zjp : SchT := .alt (.op 1 1 zgB) (.alt (.op 3 1 zbr) (.op 5 1 zbq))
def zjq : SchT := .alt (.op 1 1 zgC) (.alt (.op 3 1 zbs) (.op 7 1 zbq))
def zjr : SchT := .alt (.op 1 1 zjo) (.alt (.op 5 1 zbs) (.op 7 1 zbr))
def zjs : SchT := .op 8 0 zgA
def zjt : SchT := .alt (.op 1 1 zjs) (.alt (.op 3 1 zjr) (.alt (.op 5 1 zjq) (.op 7 1 zjp)))
def zju : SchT := .op 6 3 zjt
def zjv : SchT := .op 4 3 zju
def zjw : SchT := .op 2 3 zjv
def zjx : SchT := .op 0 0 zjw
def zgi : SchT := .nil
def zgj : SchT := .op 12 2 zgi
def zb4 : SchT := .op 11 0 zgj
def zgk : SchT := .op 1 2 zb4
def z7F : SchT := .op 10 2 zb4
def zb5 : SchT := .alt (.op 1 2 z7F) (.op 10 2 zgk)
def z7G : SchT := .op 7 2 z7F
def zb6 : SchT := .op 9 1 z7F
def zb7 : SchT := .alt (.op 1 2 z7G) (.op 7 2 zb5)
def zgl : SchT := .alt (.op 1 2 zb6) (.op 9 1 zb5)
def zgm : SchT := .op 6 0 z7G
def zb8 : SchT := .alt (.op 7 2 zb6) (.op 9 1 z7G)
def zgn : SchT := .op 6 3 zb7
def zgo : SchT := .alt (.op 1 2 zb8) (.alt (.op 7 2 zgl) (.op 9 1 zb7))
def zb9 : SchT := .op 4 2 zgm
def zje : SchT := .op 6 0 zb8
def zjf : SchT := .alt (.op 1 2 zb9) (.op 4 2 zgn)
def zjg : SchT := .op 6 3 zgo
def zjh : SchT := .alt (.op 4 2 zje) (.op 9 1 zb9)
def zji : SchT := .alt (.op 1 2 zjh) (.alt (.op 4 2 zjg) (.op 9 1 zjf))
def zjj : SchT := .op 8 3 zji
def zjk : SchT := .op 5 3 zjj
def zjl : SchT := .op 3 3 zjk
def zjm : SchT := .op 2 3 zjl
def zjn : SchT := .op 0 3 zjm
def cf27 : Cfg := { wio := fun f i => (f == 999999 && (i == 0)), live := fun r => if r = 10 then some [1, 2, 5, 6, 7, 57, 58, 59] else if r = 16 then some [1, 2, 5, 6, 10, 71, 72] else if r = 21 then some [1, 2, 5, 6, 10, 82, 83, 84] else if r = 25 then some [1, 2, 5, 6, 10, 12, 82, 83, 84, 95, 96, 97] else if r = 28 then some [1, 2, 5, 6, 10, 12, 17, 82, 83, 84, 95, 96, 97, 102, 103, 104] else if r = 37 then some [1, 2, 5, 6, 10, 20, 126, 127] else if r = 41 then some [1, 2, 5, 6, 10, 20, 21, 22, 126, 127] else if r = 49 then some [1, 2, 5, 10, 23] else if r = 52 then some [1, 2, 5, 10, 23, 181, 182] else if r = 55 then some [1, 2, 5, 10, 23, 24, 181, 182, 187, 188] else if r = 63 then some [1, 2, 5, 244, 245] else if r = 67 then some [1, 2, 5, 26, 244, 245, 256, 257, 258] else if r = 72 then some [1, 2, 5, 26, 27, 28, 29, 244, 245, 256, 257, 258, 278, 279, 280] else if r = 81 then some [1, 2, 5, 333, 334] else if r = 84 then some [1, 2, 5, 32, 33, 333, 334] else if r = 88 then some [1, 2, 5, 32, 33, 35, 333, 334, 360, 361, 362] else if r = 95 then some [1, 2, 5, 32, 33, 35, 333, 334, 393, 394, 395] else none, dr := fun r => if r = 57 then some [(0, 0), (1, 0), (2, 0), (3, 0), (4, 0), (5, 1), (6, 0), (7, 0), (8, 0), (9, 0), (10, 0), (11, 0), (12, 0), (13, 0), (14, 0), (15, 0), (16, 0), (17, 0), (18, 0), (19, 0), (20, 0), (21, 0), (22, 0), (23, 0), (24, 0), (25, 0), (26, 0), (27, 0), (28, 0), (29, 0), (30, 0), (31, 0), (32, 0), (33, 0), (34, 0), (35, 0), (36, 0), (37, 0), (38, 0)] else if r = 58 then some [(0, 0), (1, 0), (2, 0), (3, 0), (4, 0), (5, 0), (6, 0), (7, 0), (8, 0), (9, 0), (10, 2)] else if r = 84 then some [(0, 0), (1, 0), (2, 0), (3, 0), (4, 0), (5, 0), (6, 0), (7, 0), (8, 0), (9, 0), (10, 0)] else if r = 86 then some [(0, 0), (1, 0), (2, 0), (3, 0), (4, 0), (5, 0), (6, 1), (7, 0), (8, 0), (9, 0), (10, 0), (11, 0)] else if r = 91 then some [(0, 0), (1, 0), (2, 0), (3, 0), (4, 0), (5, 0), (6, 0), (7, 0), (8, 2)] else if r = 93 then some [(0, 0), (1, 0), (2, 0), (3, 0), (4, 0), (5, 0), (6, 1), (7, 0), (8, 0), (9, 0), (10, 0), (11, 0)] else if r = 98 then some [(0, 0), (1, 0), (2, 0), (3, 0), (4, 0), (5, 0), (6, 0), (7, 0), (8, 2)] else none, dt := fun r => if r = 47 then some (zjx) else if r = 77 then some (zjn) else none }
@[simp] theorem wio27 : cf27.wio = fun f i => (f == 999999 && (i == 0)) := rfl
@[simp] theorem live27 : cf27.live = fun r => if r = 10 then some [1, 2, 5, 6, 7, 57, 58, 59] else if r = 16 then some [1, 2, 5, 6, 10, 71, 72] else if r = 21 then some [1, 2, 5, 6, 10, 82, 83, 84] else if r = 25 then some [1, 2, 5, 6, 10, 12, 82, 83, 84, 95, 96, 97] else if r = 28 then some [1, 2, 5, 6, 10, 12, 17, 82, 83, 84, 95, 96, 97, 102, 103, 104] else if r = 37 then some [1, 2, 5, 6, 10, 20, 126, 127] else if r = 41 then some [1, 2, 5, 6, 10, 20, 21, 22, 126, 127] else if r = 49 then some [1, 2, 5, 10, 23] else if r = 52 then some [1, 2, 5, 10, 23, 181, 182] else if r = 55 then some [1, 2, 5, 10, 23, 24, 181, 182, 187, 188] else if r = 63 then some [1, 2, 5, 244, 245] else if r = 67 then some [1, 2, 5, 26, 244, 245, 256, 257, 258] else if r = 72 then some [1, 2, 5, 26, 27, 28, 29, 244, 245, 256, 257, 258, 278, 279, 280] else if r = 81 then some [1, 2, 5, 333, 334] else if r = 84 then some [1, 2, 5, 32, 33, 333, 334] else if r = 88 then some [1, 2, 5, 32, 33, 35, 333, 334, 360, 361, 362] else if r = 95 then some [1, 2, 5, 32, 33, 35, 333, 334, 393, 394, 395] else none := rfl
@[simp] theorem wr27 : cf27.wr = fun _ => [] := rfl
def zg9 : SchT := .nil
def zga : SchT := .op 13 0 zg9
def zgb : SchT := .op 12 0 zga
def zb0 : SchT := .op 11 2 zgb
def zb1 : SchT := .op 3 2 zb0
def zb2 : SchT := .op 10 1 zb0
def zgc : SchT := .op 2 1 zb1
def zb3 : SchT := .alt (.op 3 2 zb2) (.op 10 1 zb1)
def zgd : SchT := .op 9 0 zb2
def zge : SchT := .alt (.op 2 1 zb3) (.op 10 1 zgc)
def zgf : SchT := .op 9 3 zb3
def zgg : SchT := .op 8 0 zgd
def zgh : SchT := .op 9 3 zge
def zj4 : SchT := .op 8 3 zgf
def zj5 : SchT := .op 6 1 zgg
def zj6 : SchT := .op 8 3 zgh
def zj7 : SchT := .alt (.op 3 2 zj5) (.op 6 1 zj4)
def zj8 : SchT := .alt (.op 2 1 zj7) (.op 6 1 zj6)
def zj9 : SchT := .op 7 3 zj8
def zja : SchT := .op 5 3 zj9
def zjb : SchT := .op 4 3 zja
def zjc : SchT := .op 1 0 zjb
def zjd : SchT := .op 0 0 zjc
def cf28 : Cfg := { wio := fun f i => (f == 999999 && (i == 0)), live := fun r => if r = 3 then some [1, 3, 4, 13, 14, 15] else if r = 7 then some [1, 3, 4, 5, 6, 7, 13, 14, 15, 20, 21, 22] else if r = 15 then some [3, 4, 57, 58] else if r = 18 then some [3, 4, 11, 57, 58] else none, dr := fun r => if r = 18 then some [(0, 0), (1, 0), (2, 0), (3, 0), (4, 0), (5, 0), (6, 0), (7, 0), (8, 0), (9, 0), (10, 0), (11, 0), (12, 0), (13, 0), (14, 0), (15, 0), (16, 0), (17, 0), (18, 0), (19, 0), (20, 0), (21, 0), (22, 0), (23, 0), (24, 0), (25, 0), (26, 0), (27, 0), (28, 0), (29, 0), (30, 0), (31, 0), (32, 0), (33, 0), (34, 0), (35, 0), (36, 0), (37, 0)] else if r = 20 then some [(0, 0), (1, 0), (2, 3), (3, 3), (4, 3), (5, 3), (6, 3), (7, 3), (8, 3), (9, 3), (10, 0), (11, 0), (12, 0), (13, 0), (14, 0), (15, 0), (16, 0), (17, 0), (18, 0), (19, 0), (20, 0), (21, 0), (22, 0), (23, 0), (24, 0), (25, 0), (26, 0), (27, 0), (28, 0), (29, 2), (30, 0), (31, 2), (32, 0), (33, 2), (34, 0), (35, 2)] else none, dt := fun r => if r = 12 then some (zjd) else none }
@[simp] theorem wio28 : cf28.wio = fun f i => (f == 999999 && (i == 0)) := rfl
@[simp] theorem live28 : cf28.live = fun r => if r = 3 then some [1, 3, 4, 13, 14, 15] else if r = 7 then some [1, 3, 4, 5, 6, 7, 13, 14, 15, 20, 21, 22] else if r = 15 then some [3, 4, 57, 58] else if r = 18 then some [3, 4, 11, 57, 58] else none := rfl
@[simp] theorem wr28 : cf28.wr = fun _ => [] := rfl
def cf29 : Cfg := { wio := fun f i => (f == 999999 && (i == 0)), live := fun r => if r = 2 then some [1, 2, 5] else none, dr := fun r => none }
@[simp] theorem wio29 : cf29.wio = fun f i => (f == 999999 && (i == 0)) := rfl
@[simp] theorem live29 : cf29.live = fun r => if r = 2 then some [1, 2, 5] else none := rfl
@[simp] theorem wr29 : cf29.wr = fun _ => [] := rfl
def cf30 : Cfg := { wio := fun f i => (f == 999999 && (i == 0)), live := fun r => if r = 3 then some [1, 2, 3, 7, 11, 12] else none, dr := fun r => none }
@[simp] theorem wio30 : cf30.wio = fun f i => (f == 999999 && (i == 0)) := rfl
@[simp] theorem live30 : cf30.live = fun r => if r = 3 then some [1, 2, 3, 7, 11, 12] else none := rfl
@[simp] theorem wr30 : cf30.wr = fun _ => [] := rfl
def cf31 : Cfg := { wio := fun f i => (f == 999999 && (i == 0)), live := fun r => if r = 3 then some [1, 2, 3, 8, 15, 16, 17] else if r = 7 then some [1, 2, 3, 8, 11, 12, 15, 16, 17, 25, 26, 27] else none, dr := fun r => none }
@[simp] theorem wio31 : cf31.wio = fun f i => (f == 999999 && (i == 0)) := rfl
@[simp] theorem live31 : cf31.live = fun r => if r = 3 then some [1, 2, 3, 8, 15, 16, 17] else if r = 7 then some [1, 2, 3, 8, 11, 12, 15, 16, 17, 25, 26, 27] else none := rfl
@[simp] theorem wr31 : cf31.wr = fun _ => [] := rfl
def cf32 : Cfg := { wio := fun f i => (f == 999999 && (i == 0)), live := fun r => if r = 4 then some [0, 1, 12, 13] else none, dr := fun r => if r = 6 then some [(0, 0), (1, 0), (2, 0), (3, 0), (4, 0), (5, 0), (6, 0), (7, 0), (8, 0)] else none }
@[simp] theorem wio32 : cf32.wio = fun f i => (f == 999999 && (i == 0)) := rfl
@[simp] theorem live32 : cf32.live = fun r => if r = 4 then some [0, 1, 12, 13] else none := rfl
@[simp] theorem wr32 : cf32.wr = fun _ => [] := rfl
def cf33 : Cfg := { wio := fun f i => (f == 999999 && (i == 0)), live := fun r => if r = 9 then some [1, 3, 38, 39, 40] else if r = 14 then some [1, 3, 38, 39, 40, 49, 50, 51] else none, dr := fun r => none }
@[simp] theorem wio33 : cf33.wio = fun f i => (f == 999999 && (i == 0)) := rfl
@[simp] theorem live33 : cf33.live = fun r => if r = 9 then some [1, 3, 38, 39, 40] else if r = 14 then some [1, 3, 38, 39, 40, 49, 50, 51] else none := rfl
@[simp] theorem wr33 : cf33.wr = fun _ => [] := rfl
def cf34 : Cfg := { wio := fun f i => (f == 999999 && (i == 0)), live := fun r => none, dr := fun r => none }
@[simp] theorem wio34 : cf34.wio = fun f i => (f == 999999 && (i == 0)) := rfl
@[simp] theorem live34 : cf34.live = fun r => none := rfl
@[simp] theorem wr34 : cf34.wr = fun _ => [] := rfl
def cf35 : Cfg := { wio := fun f i => (f == 999999 && (i == 0)), live := fun r => if r = 2 then some [1, 10, 11, 12] else if r = 8 then some [1, 7, 10, 11, 12, 22, 23, 24] else none, dr := fun r => none }
@[simp] theorem wio35 : cf35.wio = fun f i => (f == 999999 && (i == 0)) := rfl
@[simp] theorem live35 : cf35.live = fun r => if r = 2 then some [1, 10, 11, 12] else if r = 8 then some [1, 7, 10, 11, 12, 22, 23, 24] else none := rfl
@[simp] theorem wr35 : cf35.wr = fun _ => [] := rfl
def cf36 : Cfg := { wio := fun f i => (f == 999999 && (i == 0)), live := fun r => if r = 4 then some [0, 1, 18, 19] else none, dr := fun r => none }
@[simp] theorem wio36 : cf36.wio = fun f i => (f == 999999 && (i == 0)) := rfl
@[simp] theorem live36 : cf36.live = fun r => if r = 4 then some [0, 1, 18, 19] else none := rfl
@[simp] theorem wr36 : cf36.wr = fun _ => [] := rfl
def cf37 : Cfg := { wio := fun f i => (f == 999999 && (i == 0)), live := fun r => if r = 3 then some [1, 2, 5, 15, 16] else if r = 8 then some [1, 2, 5, 25, 26] else if r = 11 then some [1, 2, 5, 7, 25, 26, 29, 30, 31] else none, dr := fun r => if r = 13 then some [(0, 0), (1, 0), (2, 0), (3, 0), (4, 0), (5, 0), (6, 0), (7, 0), (8, 0), (9, 0), (10, 0), (11, 0), (12, 0), (13, 0), (14, 2)] else none }
@[simp] theorem wio37 : cf37.wio = fun f i => (f == 999999 && (i == 0)) := rfl
@[simp] theorem live37 : cf37.live = fun r => if r = 3 then some [1, 2, 5, 15, 16] else if r = 8 then some [1, 2, 5, 25, 26] else if r = 11 then some [1, 2, 5, 7, 25, 26, 29, 30, 31] else none := rfl
@[simp] theorem wr37 : cf37.wr = fun _ => [] := rfl
def cf38 : Cfg := { wio := fun f i => (f == 999999 && (i == 0)), live := fun r => if r = 3 then some [1, 5, 8, 9, 10] else none, dr := fun r => none }
@[simp] theorem wio38 : cf38.wio = fun f i => (f == 999999 && (i == 0)) := rfl
@[simp] theorem live38 : cf38.live = fun r => if r = 3 then some [1, 5, 8, 9, 10] else none := rfl
@[simp] theorem wr38 : cf38.wr = fun _ => [] := rfl
def cf39 : Cfg := { wio := fun f i => (f == 999999 && (i == 0)), live := fun r => none, dr := fun r => none }
@[simp] theorem wio39 : cf39.wio = fun f i => (f == 999999 && (i == 0)) := rfl
@[simp] theorem live39 : cf39.live = fun r => none := rfl
@[simp] theorem wr39 : cf39.wr = fun _ => [] := rfl
def cf40 : Cfg := { wio := fun f i => (f == 999999 && (i == 0)), live := fun r => none, dr := fun r => none }
@[simp] theorem wio40 : cf40.wio = fun f i => (f == 999999 && (i == 0)) := rfl
@[simp] theorem live40 : cf40.live = fun r => none := rfl
@[simp] theorem wr40 : cf40.wr = fun _ => [] := rfl
def cf41 : Cfg := { wio := fun f i => (f == 999999 && (i == 0)), live := fun r => if r = 4 then some [0, 1, 5] else none, dr := fun r => none }
@[simp] theorem wio41 : cf41.wio = fun f i => (f == 999999 && (i == 0)) := rfl
@[simp] theorem live41 : cf41.live = fun r => if r = 4 then some [0, 1, 5] else none := rfl
@[simp] theorem wr41 : cf41.wr = fun _ => [] := rfl
def cf42 : Cfg := { wio := fun f i => (f == 999999 && (i == 0)), live := fun r => none, dr := fun r => none }
@[simp] theorem wio42 : cf42.wio = fun f i => (f == 999999 && (i == 0)) := rfl
@[simp] theorem live42 : cf42.live = fun r => none := rfl
@[simp] theorem wr42 : cf42.wr = fun _ => [] := rfl
def cf43 : Cfg := { wio := fun f i => (f == 999999 && (i == 0)), live := fun r => if r = 2 then some [1, 2, 3, 7] else none, dr := fun r => if r = 4 then some [(0, 0), (1, 0), (2, 0), (3, 0), (4, 0), (5, 0), (6, 0), (7, 1), (8, 0)] else none }
@[simp] theorem wio43 : cf43.wio = fun f i => (f == 999999 && (i == 0)) := rfl
@[simp] theorem live43 : cf43.live = fun r => if r = 2 then some [1, 2, 3, 7] else none := rfl
@[simp] theorem wr43 : cf43.wr = fun _ => [] := rfl
def cf44 : Cfg := { wio := fun f i => (f == 999999 && (i == 0)), live := fun r => if r = 3 then some [0, 1, 5, 6] else if r = 6 then some [0, 1, 5, 6, 7] else none, dr := fun r => if r = 8 then some [(0, 0), (1, 0), (2, 0), (3, 0), (4, 0), (5, 0), (6, 0), (7, 0), (8, 1), (9, 0), (10, 0), (11, 1), (12, 2), (13, 0)] else none }
@[simp] theorem wio44 : cf44.wio = fun f i => (f == 999999 && (i == 0)) := rfl
@[simp] theorem live44 : cf44.live = fun r => if r = 3 then some [0, 1, 5, 6] else if r = 6 then some [0, 1, 5, 6, 7] else none := rfl
@[simp] theorem wr44 : cf44.wr = fun _ => [] := rfl
def cf45 : Cfg := { wio := fun f i => (f == 999999 && (i == 0)), live := fun r => none, dr := fun r => none }
@[simp] theorem wio45 : cf45.wio = fun f i => (f == 999999 && (i == 0)) := rfl
@[simp] theorem live45 : cf45.live = fun r => none := rfl
@[simp] theorem wr45 : cf45.wr = fun _ => [] := rfl
def cf46 : Cfg := { wio := fun f i => (f == 68 && (i == 0)) || (f == 999999 && (i == 0)), live := fun r => if r = 3 then some [3, 18, 19] else none, dr := fun r => if r = 1 then some [(0, 0), (1, 0), (2, 0), (3, 0), (4, 0), (5, 0), (6, 1), (7, 0), (8, 0), (9, 0), (10, 0), (11, 0)] else none }
@[simp] theorem wio46 : cf46.wio = fun f i => (f == 68 && (i == 0)) || (f == 999999 && (i == 0)) := rfl
@[simp] theorem live46 : cf46.live = fun r => if r = 3 then some [3, 18, 19] else none := rfl
@[simp] theorem wr46 : cf46.wr = fun _ => [] := rfl
def cf47 : Cfg := { wio := fun f i => (f == 999999 && (i == 0)), live := fun r => if r = 3 then some [1, 2, 4, 5, 24, 25, 26] else if r = 9 then some [1, 2, 4, 5, 8, 44, 45, 46] else if r = 13 then some [1, 2, 4, 5, 8, 9, 10, 44, 45, 46, 59, 60] else if r = 20 then some [1, 4, 8, 87, 88] else if r = 24 then some [1, 4, 8, 12, 13, 87, 88, 97, 98, 99] else if r = 27 then some [1, 4, 8, 12, 13, 15, 16, 87, 88, 97, 98, 99, 104, 105, 106] else none, dr := fun r => if r = 11 then some [(0, 0), (1, 0), (2, 0), (3, 0), (4, 0), (5, 1), (6, 0), (7, 2)] else if r = 15 then some [(0, 0), (1, 0), (2, 0), (3, 0), (4, 0), (5, 0), (6, 0), (7, 0), (8, 0), (9, 0), (10, 1), (11, 0), (12, 0), (13, 0), (14, 2)] else if r = 17 then some [(0, 0), (1, 0), (2, 0), (3, 0), (4, 0), (5, 1), (6, 0), (7, 2)] else none, dt := fun r => if r = 7 then some (.op 0 0 (.op 1 0 (.op 2 0 (.op 4 0 (.op 5 0 (.alt (.op 3 1 (.alt (.op 6 1 (.op 7 0 (.op 8 1 (.op 9 2 .nil)))) (.op 8 1 (.op 6 1 (.op 7 0 (.op 9 2 .nil)))))) (.alt (.op 6 1 (.alt (.op 3 1 (.op 7 0 (.op 8 1 (.op 9 2 .nil)))) (.op 8 1 (.op 3 1 (.op 7 0 (.op 9 2 .nil)))))) (.op 8 1 (.alt (.op 3 1 (.op 6 1 (.op 7 0 (.op 9 2 .nil)))) (.op 6 1 (.op 3 1 (.op 7 0 (.op 9 2 .nil))))))))))))) else none }
@[simp] theorem wio47 : cf47.wio = fun f i => (f == 999999 && (i == 0)) := rfl
@[simp] theorem live47 : cf47.live = fun r => if r = 3 then some [1, 2, 4, 5, 24, 25, 26] else if r = 9 then some [1, 2, 4, 5, 8, 44, 45, 46] else if r = 13 then some [1, 2, 4, 5, 8, 9, 10, 44, 45, 46, 59, 60] else if r = 20 then some [1, 4, 8, 87, 88] else if r = 24 then some [1, 4, 8, 12, 13, 87, 88, 97, 98, 99] else if r = 27 then some [1, 4, 8, 12, 13, 15, 16, 87, 88, 97, 98, 99, 104, 105, 106] else none := rfl
@[simp] theorem wr47 : cf47.wr = fun _ => [] := rfl
def cf48 : Cfg := { wio := fun f i => (f == 999999 && (i == 0)), live := fun r => if r = 4 then some [1, 4, 5, 15, 16] else if r = 8 then some [1, 4, 5, 6, 15, 16, 24, 25, 26] else none, dr := fun r => none }
@[simp] theorem wio48 : cf48.wio = fun f i => (f == 999999 && (i == 0)) := rfl
@[simp] theorem live48 : cf48.live = fun r => if r = 4 then some [1, 4, 5, 15, 16] else if r = 8 then some [1, 4, 5, 6, 15, 16, 24, 25, 26] else none := rfl
@[simp] theorem wr48 : cf48.wr = fun _ => [] := rfl
def cf49 : Cfg := { wio := fun f i => (f == 52 && (i == 0)) || (f == 999999 && (i == 0)), live := fun r => if r = 4 then some [1, 2, 5, 6, 23, 24] else if r = 8 then some [1, 2, 5, 6, 7, 23, 24, 33, 34] else if r = 17 then some [1, 2, 9, 60, 61, 62] else if r = 21 then some [1, 2, 9, 11, 60, 61, 62, 75, 76] else none, dr := fun r => if r = 23 then some [(0, 0), (1, 0), (2, 0), (3, 0), (4, 0), (5, 0), (6, 0), (7, 0), (8, 0), (9, 0), (10, 0), (11, 0), (12, 0), (13, 0), (14, 0), (15, 0), (16, 0), (17, 0), (18, 0)] else if r = 24 then some [(0, 0), (1, 0), (2, 0), (3, 0), (4, 0), (5, 0), (6, 0), (7, 0), (8, 0), (9, 0), (10, 0), (11, 0), (12, 0), (13, 2)] else none, fz := fun r => if r = 14 then some [5] else none }
@[simp] theorem wio49 : cf49.wio = fun f i => (f == 52 && (i == 0)) || (f == 999999 && (i == 0)) := rfl
@[simp] theorem live49 : cf49.live = fun r => if r = 4 then some [1, 2, 5, 6, 23, 24] else if r = 8 then some [1, 2, 5, 6, 7, 23, 24, 33, 34] else if r = 17 then some [1, 2, 9, 60, 61, 62] else if r = 21 then some [1, 2, 9, 11, 60, 61, 62, 75, 76] else none := rfl
@[simp] theorem wr49 : cf49.wr = fun _ => [] := rfl
def cf50 : Cfg := { wio := fun f i => (f == 999999 && (i == 0)), live := fun r => if r = 5 then some [1, 2, 5, 21, 22, 23] else if r = 12 then some [2, 5, 8, 45, 46, 47] else if r = 15 then some [2, 5, 8, 10, 45, 46, 47, 51, 52, 53] else none, dr := fun r => if r = 17 then some [(0, 0), (1, 0), (2, 0), (3, 0), (4, 0), (5, 0), (6, 0), (7, 0), (8, 0), (9, 0), (10, 0), (11, 0), (12, 0), (13, 0), (14, 1), (15, 0)] else none }
@[simp] theorem wio50 : cf50.wio = fun f i => (f == 999999 && (i == 0)) := rfl
@[simp] theorem live50 : cf50.live = fun r => if r = 5 then some [1, 2, 5, 21, 22, 23] else if r = 12 then some [2, 5, 8, 45, 46, 47] else if r = 15 then some [2, 5, 8, 10, 45, 46, 47, 51, 52, 53] else none := rfl
@[simp] theorem wr50 : cf50.wr = fun _ => [] := rfl
def cf51 : Cfg := { wio := fun f i => (f == 999999 && (i == 0)), live := fun r => if r = 6 then some [2, 6, 7, 8, 9] else if r = 9 then some [2, 6, 7, 8, 9, 38, 39, 40] else none, dr := fun r => if r = 8 then some [(0, 0), (1, 0), (2, 0), (3, 0), (4, 0), (5, 0), (6, 0), (7, 0), (8, 0), (9, 0)] else if r = 13 then some [(0, 0), (1, 0), (2, 0), (3, 0), (4, 0), (5, 0), (6, 0), (7, 0), (8, 0), (9, 0), (10, 0), (11, 0), (12, 1), (13, 0), (14, 0), (15, 0), (16, 2)] else none }
@[simp] theorem wio51 : cf51.wio = fun f i => (f == 999999 && (i == 0)) := rfl
@[simp] theorem live51 : cf51.live = fun r => if r = 6 then some [2, 6, 7, 8, 9] else if r = 9 then some [2, 6, 7, 8, 9, 38, 39, 40] else none := rfl
@[simp] theorem wr51 : cf51.wr = fun _ => [] := rfl
def cf52 : Cfg := { wio := fun f i => (f == 75 && (i == 0)) || (f == 999999 && (i == 0)), live := fun r => none, dr := fun r => none }
@[simp] theorem wio52 : cf52.wio = fun f i => (f == 75 && (i == 0)) || (f == 999999 && (i == 0)) := rfl
@[simp] theorem live52 : cf52.live = fun r => none := rfl
@[simp] theorem wr52 : cf52.wr = fun _ => [] := rfl
def cf53 : Cfg := { wio := fun f i => (f == 999999 && (i == 0)), live := fun r => none, dr := fun r => if r = 1 then some [(0, 0), (1, 0), (2, 0), (3, 0), (4, 0), (5, 0), (6, 0), (7, 0), (8, 0), (9, 0), (10, 0), (11, 0), (12, 0), (13, 0), (14, 0), (15, 0), (16, 0), (17, 0), (18, 0), (19, 0), (20, 1), (21, 0)] else none }
@[simp] theorem wio53 : cf53.wio = fun f i => (f == 999999 && (i == 0)) := rfl
@[simp] theorem live53 : cf53.live = fun r => none := rfl
@[simp] theorem wr53 : cf53.wr = fun _ => [] := rfl
def cf54 : Cfg := { wio := fun f i => (f == 999999 && (i == 0)), live := fun r => none, dr := fun r => none }
@[simp] theorem wio54 : cf54.wio = fun f i => (f == 999999 && (i == 0)) := rfl
@[simp] theorem live54 : cf54.live = fun r => none := rfl
@[simp] theorem wr54 : cf54.wr = fun _ => [] := rfl
def cf55 : Cfg := { wio := fun f i => (f == 999999 && (i == 0)), live := fun r => if r = 3 then some [0, 1, 5, 14, 15, 16] else if r = 9 then some [0, 5, 8, 28, 29, 30] else none, dr := fun r => none }
@[simp] theorem wio55 : cf55.wio = fun f i => (f == 999999 && (i == 0)) := rfl
@[simp] theorem live55 : cf55.live = fun r => if r = 3 then some [0, 1, 5, 14, 15, 16] else if r = 9 then some [0, 5, 8, 28, 29, 30] else none := rfl
@[simp] theorem wr55 : cf55.wr = fun _ => [] := rfl
def cf56 : Cfg := { wio := fun f i => (f == 999999 && (i == 0)), live := fun r => if r = 2 then some [5, 6, 7] else none, dr := fun r => none }
@[simp] theorem wio56 : cf56.wio = fun f i => (f == 999999 && (i == 0)) := rfl
@[simp] theorem live56 : cf56.live = fun r => if r = 2 then some [5, 6, 7] else none := rfl
@[simp] theorem wr56 : cf56.wr = fun _ => [] := rfl
def cf57 : Cfg := { wio := fun f i => (f == 999999 && (i == 0)), live := fun r => if r = 3 then some [3, 10, 11, 12] else none, dr := fun r => none }
@[simp] theorem wio57 : cf57.wio = fun f i => (f == 999999 && (i == 0)) := rfl
@[simp] theorem live57 : cf57.live = fun r => if r = 3 then some [3, 10, 11, 12] else none := rfl
@[simp] theorem wr57 : cf57.wr = fun _ => [] := rfl
def cf58 : Cfg := { wio := fun f i => (f == 999999 && (i == 0)), live := fun r => if r = 3 then some [3, 22, 23] else if r = 8 then some [3, 6, 7, 22, 23, 29, 30, 31] else if r = 17 then some [10, 53, 54] else if r = 20 then some [10, 12, 53, 54] else none, dr := fun r => if r = 1 then some [(0, 0), (1, 0), (2, 1), (3, 1), (4, 0), (5, 0), (6, 0), (7, 0), (8, 0)] else if r = 20 then some [(0, 0), (1, 0), (2, 0), (3, 0), (4, 0), (5, 0), (6, 0), (7, 0), (8, 0), (9, 0), (10, 0), (11, 0), (12, 1), (13, 0)] else if r = 22 then some [(0, 0), (1, 0), (2, 3), (3, 3), (4, 3), (5, 0), (6, 0), (7, 0), (8, 0), (9, 0), (10, 0), (11, 0), (12, 0), (13, 0), (14, 0), (15, 2), (16, 0), (17, 2)] else none }
@[simp] theorem wio58 : cf58.wio = fun f i => (f == 999999 && (i == 0)) := rfl
@[simp] theorem live58 : cf58.live = fun r => if r = 3 then some [3, 22, 23] else if r = 8 then some [3, 6, 7, 22, 23, 29, 30, 31] else if r = 17 then some [10, 53, 54] else if r = 20 then some [10, 12, 53, 54] else none := rfl
@[simp] theorem wr58 : cf58.wr = fun _ => [] := rfl
def zfV : SchT := .nil
def zfW : SchT := .op 18 0 zfV
def zfX : SchT := .op 17 0 zfW
def zaW : SchT := .op 16 2 zfX
def zaX : SchT := .op 3 1 zaW
def zaY : SchT := .op 15 1 zaW
def zfY : SchT := .op 2 1 zaX
def zaZ : SchT := .alt (.op 3 1 zaY) (.op 15 1 zaX)
def zfZ : SchT := .op 14 0 zaY
def zg0 : SchT := .alt (.op 2 1 zaZ) (.op 15 1 zfY)
def zg1 : SchT := .op 14 0 zaZ
def zg2 : SchT := .op 13 0 zfZ
def zg3 : SchT := .op 14 0 zg0
def zg4 : SchT := .op 13 0 zg1
def zg5 : SchT := .op 12 1 zg2
def zg6 : SchT := .op 13 0 zg3
def zg7 : SchT := .alt (.op 3 1 zg5) (.op 12 1 zg4)
def zg8 : SchT := .alt (.op 2 1 zg7) (.op 12 1 zg6)
def ziU : SchT := .op 11 0 zg8
def ziV : SchT := .op 10 0 ziU
def ziW : SchT := .op 9 0 ziV
def ziX : SchT := .op 8 0 ziW
def ziY : SchT := .op 7 0 ziX
def ziZ : SchT := .op 6 0 ziY
def zj0 : SchT := .op 5 0 ziZ
def zj1 : SchT := .op 4 0 zj0
def zj2 : SchT := .op 1 0 zj1
def zj3 : SchT := .op 0 0 zj2
def cf59 : Cfg := { wio := fun f i => (f == 999999 && (i == 0)), live := fun r => if r = 4 then some [2, 6, 7, 8, 9] else if r = 7 then some [2, 6, 7, 8, 9, 10] else none, dr := fun r => if r = 9 then some [(0, 0), (1, 0), (2, 0), (3, 0), (4, 0), (5, 0), (6, 1), (7, 0)] else none, wr := fun r => if r = 12 then [6, 46] else [], dt := fun r => if r = 12 then some (zj3) else none }
@[simp] theorem wio59 : cf59.wio = fun f i => (f == 999999 && (i == 0)) := rfl
@[simp] theorem live59 : cf59.live = fun r => if r = 4 then some [2, 6, 7, 8, 9] else if r = 7 then some [2, 6, 7, 8, 9, 10] else none := rfl
@[simp] theorem wr59 : cf59.wr = fun r => if r = 12 then [6, 46] else [] := rfl
def cf60 : Cfg := { wio := fun f i => (f == 999999 && (i == 0)), live := fun r => if r = 7 then some [3, 4, 5, 17, 18, 19] else none, dr := fun r => none }
@[simp] theorem wio60 : cf60.wio = fun f i => (f == 999999 && (i == 0)) := rfl
@[simp] theorem live60 : cf60.live = fun r => if r = 7 then some [3, 4, 5, 17, 18, 19] else none := rfl
@[simp] theorem wr60 : cf60.wr = fun _ => [] := rfl
def cf61 : Cfg := { wio := fun f i => (f == 999999 && (i == 0)), live := fun r => if r = 2 then some [0, 3] else none, dr := fun r => none }
@[simp] theorem wio61 : cf61.wio = fun f i => (f == 999999 && (i == 0)) := rfl
@[simp] theorem live61 : cf61.live = fun r => if r = 2 then some [0, 3] else none := rfl
@[simp] theorem wr61 : cf61.wr = fun _ => [] := rfl
def cf62 : Cfg := { wio := fun f i => (f == 999999 && (i == 0)), live := fun r => if r = 9 then some [1, 3, 38, 39, 40] else if r = 14 then some [1, 3, 38, 39, 40, 49, 50, 51] else none, dr := fun r => none }
@[simp] theorem wio62 : cf62.wio = fun f i => (f == 999999 && (i == 0)) := rfl
@[simp] theorem live62 : cf62.live = fun r => if r = 9 then some [1, 3, 38, 39, 40] else if r = 14 then some [1, 3, 38, 39, 40, 49, 50, 51] else none := rfl
@[simp] theorem wr62 : cf62.wr = fun _ => [] := rfl
def cf63 : Cfg := { wio := fun f i => (f == 999999 && (i == 0)), live := fun r => none, dr := fun r => none }
@[simp] theorem wio63 : cf63.wio = fun f i => (f == 999999 && (i == 0)) := rfl
@[simp] theorem live63 : cf63.live = fun r => none := rfl
@[simp] theorem wr63 : cf63.wr = fun _ => [] := rfl
def cf64 : Cfg := { wio := fun f i => (f == 999999 && (i == 0)), live := fun r => if r = 4 then some [0, 13, 14, 15] else none, dr := fun r => none }
@[simp] theorem wio64 : cf64.wio = fun f i => (f == 999999 && (i == 0)) := rfl
@[simp] theorem live64 : cf64.live = fun r => if r = 4 then some [0, 13, 14, 15] else none := rfl
@[simp] theorem wr64 : cf64.wr = fun _ => [] := rfl
def cf65 : Cfg := { wio := fun f i => (f == 999999 && (i == 0)), live := fun r => none, dr := fun r => none }
@[simp] theorem wio65 : cf65.wio = fun f i => (f == 999999 && (i == 0)) := rfl
@[simp] theorem live65 : cf65.live = fun r => none := rfl
@[simp] theorem wr65 : cf65.wr = fun _ => [] := rfl
def cf66 : Cfg := { wio := fun f i => (f == 999999 && (i == 0)), live := fun r => if r = 5 then some [2, 6, 7, 8, 9] else if r = 8 then some [2, 6, 7, 8, 9, 30, 31] else none, dr := fun r => if r = 10 then some [(0, 0), (1, 0), (2, 0), (3, 0), (4, 0), (5, 0), (6, 1), (7, 0)] else if r = 14 then some [(0, 0), (1, 0), (2, 0), (3, 0), (4, 0), (5, 0), (6, 0), (7, 0), (8, 1), (9, 0), (10, 0), (11, 1), (12, 2), (13, 0)] else none }
@[simp] theorem wio66 : cf66.wio = fun f i => (f == 999999 && (i == 0)) := rfl
@[simp] theorem live66 : cf66.live = fun r => if r = 5 then some [2, 6, 7, 8, 9] else if r = 8 then some [2, 6, 7, 8, 9, 30, 31] else none := rfl
@[simp] theorem wr66 : cf66.wr = fun _ => [] := rfl
def cf67 : Cfg := { wio := fun f i => (f == 999999 && (i == 0)), live := fun r => none, dr := fun r => none }
@[simp] theorem wio67 : cf67.wio = fun f i => (f == 999999 && (i == 0)) := rfl
@[simp] theorem live67 : cf67.live = fun r => none := rfl
@[simp] theorem wr67 : cf67.wr = fun _ => [] := rfl
def cf69 : Cfg := { wio := fun f i => (f == 999999 && (i == 0)), live := fun r => none, dr := fun r => none }
@[simp] theorem wio69 : cf69.wio = fun f i => (f == 999999 && (i == 0)) := rfl
@[simp] theorem live69 : cf69.live = fun r => none := rfl
@[simp] theorem wr69 : cf69.wr = fun _ => [] := rfl
def cf70 : Cfg := { wio := fun f i => (f == 999999 && (i == 0)), live := fun r => if r = 3 then some [3, 6, 7, 8] else none, dr := fun r => none }
@[simp] theorem wio70 : cf70.wio = fun f i => (f == 999999 && (i == 0)) := rfl
@[simp] theorem live70 : cf70.live = fun r => if r = 3 then some [3, 6, 7, 8] else none := rfl
@[simp] theorem wr70 : cf70.wr = fun _ => [] := rfl
def cf71 : Cfg := { wio := fun f i => (f == 999999 && (i == 0)), live := fun r => none, dr := fun r => none }
@[simp] theorem wio71 : cf71.wio = fun f i => (f == 999999 && (i == 0)) := rfl
@[simp] theorem live71 : cf71.live = fun r => none := rfl
@[simp] theorem wr71 : cf71.wr = fun _ => [] := rfl
def cf72 : Cfg := { wio := fun f i => (f == 999999 && (i == 0)), live := fun r => if r = 3 then some [1, 2, 7, 11, 12, 13] else none, dr := fun r => none }
@[simp] theorem wio72 : cf72.wio = fun f i => (f == 999999 && (i == 0)) := rfl
@[simp] theorem live72 : cf72.live = fun r => if r = 3 then some [1, 2, 7, 11, 12, 13] else none := rfl
@[simp] theorem wr72 : cf72.wr = fun _ => [] := rfl
def cf73 : Cfg := { wio := fun f i => (f == 999999 && (i == 0)), live := fun r => none, dr := fun r => none }
@[simp] theorem wio73 : cf73.wio = fun f i => (f == 999999 && (i == 0)) := rfl
@[simp] theorem live73 : cf73.live = fun r => none := rfl
@[simp] theorem wr73 : cf73.wr = fun _ => [] := rfl
def cf74 : Cfg := { wio := fun f i => (f == 999999 && (i == 0)), live := fun r => none, dr := fun r => if r = 1 then some [(0, 0), (1, 0), (2, 0), (3, 0), (4, 0), (5, 0), (6, 0), (7, 0), (8, 1), (9, 0)] else none }
@[simp] theorem wio74 : cf74.wio = fun f i => (f == 999999 && (i == 0)) := rfl
@[simp] theorem live74 : cf74.live = fun r => none := rfl
@[simp] theorem wr74 : cf74.wr = fun _ => [] := rfl
def cf75 : Cfg := { wio := fun f i => (f == 84 && (i == 0)) || (f == 85 && (i == 0)) || (f == 999999 && (i == 0)), live := fun r => if r = 2 then some [0, 1, 2, 6, 7, 8] else if r = 7 then some [0, 1, 2, 6] else if r = 9 then some [0, 1, 2, 6, 7, 8] else none, dr := fun r => none }
@[simp] theorem wio75 : cf75.wio = fun f i => (f == 84 && (i == 0)) || (f == 85 && (i == 0)) || (f == 999999 && (i == 0)) := rfl
@[simp] theorem live75 : cf75.live = fun r => if r = 2 then some [0, 1, 2, 6, 7, 8] else if r = 7 then some [0, 1, 2, 6] else if r = 9 then some [0, 1, 2, 6, 7, 8] else none := rfl
@[simp] theorem wr75 : cf75.wr = fun _ => [] := rfl
def cf76 : Cfg := { wio := fun f i => (f == 999999 && (i == 0)), live := fun r => none, dr := fun r => none }
@[simp] theorem wio76 : cf76.wio = fun f i => (f == 999999 && (i == 0)) := rfl
@[simp] theorem live76 : cf76.live = fun r => none := rfl
@[simp] theorem wr76 : cf76.wr = fun _ => [] := rfl
def cf77 : Cfg := { wio := fun f i => (f == 999999 && (i == 0)), live := fun r => none, dr := fun r => none }
@[simp] theorem wio77 : cf77.wio = fun f i => (f == 999999 && (i == 0)) := rfl
@[simp] theorem live77 : cf77.live = fun r => none := rfl
@[simp] theorem wr77 : cf77.wr = fun _ => [] := rfl
def cf78 : Cfg := { wio := fun f i => (f == 999999 && (i == 0)), live := fun r => if r = 3 then some [3, 6, 7, 8] else none, dr := fun r => none }
@[simp] theorem wio78 : cf78.wio = fun f i => (f == 999999 && (i == 0)) := rfl
@[simp] theorem live78 : cf78.live = fun r => if r = 3 then some [3, 6, 7, 8] else none := rfl
@[simp] theorem wr78 : cf78.wr = fun _ => [] := rfl
def cf79 : Cfg := { wio := fun f i => (f == 999999 && (i == 0)), live := fun r => if r = 3 then some [1, 5, 10, 11, 12] else none, dr := fun r => none }
@[simp] theorem wio79 : cf79.wio = fun f i => (f == 999999 && (i == 0)) := rfl
@[simp] theorem live79 : cf79.live = fun r => if r = 3 then some [1, 5, 10, 11, 12] else none := rfl
@[simp] theorem wr79 : cf79.wr = fun _ => [] := rfl
def cf80 : Cfg := { wio := fun f i => (f == 999999 && (i == 0)), live := fun r => if r = 2 then some [0, 1, 7, 8] else none, dr := fun r => none }
@[simp] theorem wio80 : cf80.wio = fun f i => (f == 999999 && (i == 0)) := rfl
@[simp] theorem live80 : cf80.live = fun r => if r = 2 then some [0, 1, 7, 8] else none := rfl
@[simp] theorem wr80 : cf80.wr = fun _ => [] := rfl
def cf82 : Cfg := { wio := fun f i => (f == 999999 && (i == 0)), live := fun r => none, dr := fun r => none }
@[simp] theorem wio82 : cf82.wio = fun f i => (f == 999999 && (i == 0)) := rfl
@[simp] theorem live82 : cf82.live = fun r => none := rfl
@[simp] theorem wr82 : cf82.wr = fun _ => [] := rfl
def cf83 : Cfg := { wio := fun f i => (f == 999999 && (i == 0)), live := fun r => none, dr := fun r => none }
@[simp] theorem wio83 : cf83.wio = fun f i => (f == 999999 && (i == 0)) := rfl
@[simp] theorem live83 : cf83.live = fun r => none := rfl
@[simp] theorem wr83 : cf83.wr = fun _ => [] := rfl
def cf84 : Cfg := { wio := fun f i => (f == 999999 && (i == 0)), live := fun r => if r = 1 then some [0, 1, 2, 3, 8] else if r = 4 then some [0, 1, 2, 3, 8, 9] else none, dr := fun r => if r = 4 then some [(0, 0), (1, 0), (2, 0), (3, 0), (4, 0), (5, 0), (6, 0), (7, 0), (8, 0), (9, 0), (10, 0), (11, 0), (12, 0), (13, 0), (14, 1), (15, 0), (16, 0)] else if r = 6 then some [(0, 0), (1, 0), (2, 3), (3, 3), (4, 3), (5, 0), (6, 0), (7, 0), (8, 0), (9, 0), (10, 0), (11, 0), (12, 0), (13, 0), (14, 0), (15, 2), (16, 0), (17, 2)] else none }
@[simp] theorem wio84 : cf84.wio = fun f i => (f == 999999 && (i == 0)) := rfl
@[simp] theorem live84 : cf84.live = fun r => if r = 1 then some [0, 1, 2, 3, 8] else if r = 4 then some [0, 1, 2, 3, 8, 9] else none := rfl
@[simp] theorem wr84 : cf84.wr = fun _ => [] := rfl
def cf85 : Cfg := { wio := fun f i => (f == 97 && (i == 0)) || (f == 85 && (i == 0)) || (f == 999999 && (i == 0)), live := fun r => if r = 3 then some [0, 1, 4, 10, 11] else if r = 9 then some [0, 10, 13] else if r = 15 then some [0, 2, 4, 14, 15] else if r = 21 then some [0, 14, 17] else if r = 33 then some [0, 1, 2, 3, 4, 18, 19, 20, 21, 22] else none, dr := fun r => if r = 5 then some [(0, 0), (1, 0), (2, 0), (3, 0), (4, 0), (5, 0), (6, 0), (7, 0), (8, 0), (9, 1), (10, 0)] else if r = 11 then some [(0, 0), (1, 0), (2, 3), (3, 3), (4, 3), (5, 0), (6, 0), (7, 0), (8, 0), (9, 0), (10, 0), (11, 0), (12, 0), (13, 0), (14, 0), (15, 2), (16, 0), (17, 2)] else if r = 17 then some [(0, 0), (1, 0), (2, 0), (3, 0), (4, 0), (5, 0), (6, 0), (7, 0), (8, 0), (9, 1), (10, 0), (11, 0)] else if r = 23 then some [(0, 0), (1, 0), (2, 3), (3, 3), (4, 3), (5, 0), (6, 0), (7, 0), (8, 0), (9, 0), (10, 0), (11, 0), (12, 0), (13, 0), (14, 0), (15, 2), (16, 0), (17, 2)] else if r = 35 then some [(0, 0), (1, 0), (2, 0), (3, 0), (4, 0), (5, 0), (6, 0), (7, 0), (8, 0), (9, 0), (10, 0), (11, 1), (12, 0), (13, 0)] else none }
@[simp] theorem wio85 : cf85.wio = fun f i => (f == 97 && (i == 0)) || (f == 85 && (i == 0)) || (f == 999999 && (i == 0)) := rfl
@[simp] theorem live85 : cf85.live = fun r => if r = 3 then some [0, 1, 4, 10, 11] else if r = 9 then some [0, 10, 13] else if r = 15 then some [0, 2, 4, 14, 15] else if r = 21 then some [0, 14, 17] else if r = 33 then some [0, 1, 2, 3, 4, 18, 19, 20, 21, 22] else none := rfl
@[simp] theorem wr85 : cf85.wr = fun _ => [] := rfl
def cf93 : Cfg := { wio := fun f i => (f == 999999 && (i == 0)), live := fun r => none, dr := fun r => none }
@[simp] theorem wio93 : cf93.wio = fun f i => (f == 999999 && (i == 0)) := rfl
@[simp] theorem live93 : cf93.live = fun r => none := rfl
@[simp] theorem wr93 : cf93.wr = fun _ => [] := rfl
def cf94 : Cfg := { wio := fun f i => (f == 999999 && (i == 0)), live := fun r => none, dr := fun r => none }
@[simp] theorem wio94 : cf94.wio = fun f i => (f == 999999 && (i == 0)) := rfl
@[simp] theorem live94 : cf94.live = fun r => none := rfl
@[simp] theorem wr94 : cf94.wr = fun _ => [] := rfl
def cf95 : Cfg := { wio := fun f i => (f == 999999 && (i == 0)), live := fun r => none, dr := fun r => if r = 1 then some [(0, 0), (1, 0), (2, 0), (3, 0), (4, 0), (5, 0), (6, 0), (7, 0), (8, 0), (9, 0), (10, 0), (11, 0), (12, 0), (13, 0), (14, 0), (15, 0), (16, 0), (17, 0), (18, 0)] else none }
@[simp] theorem wio95 : cf95.wio = fun f i => (f == 999999 && (i == 0)) := rfl
@[simp] theorem live95 : cf95.live = fun r => none := rfl
@[simp] theorem wr95 : cf95.wr = fun _ => [] := rfl
def cf96 : Cfg := { wio := fun f i => (f == 999999 && (i == 0)), live := fun r => none, dr := fun r => none }
@[simp] theorem wio96 : cf96.wio = fun f i => (f == 999999 && (i == 0)) := rfl
@[simp] theorem live96 : cf96.live = fun r => none := rfl
@[simp] theorem wr96 : cf96.wr = fun _ => [] := rfl
def cf97 : Cfg := { wio := fun f i => (f == 103 && (i == 0)) || (f == 999999 && (i == 0)), live := fun r => if r = 2 then some [0, 2, 4, 10, 11] else none, dr := fun r => none }
@[simp] theorem wio97 : cf97.wio = fun f i => (f == 103 && (i == 0)) || (f == 999999 && (i == 0)) := rfl
@[simp] theorem live97 : cf97.live = fun r => if r = 2 then some [0, 2, 4, 10, 11] else none := rfl
@[simp] theorem wr97 : cf97.wr = fun _ => [] := rfl
def cf103 : Cfg := { wio := fun f i => (f == 999999 && (i == 0)), live := fun r => if r = 1 then some [0, 1, 2, 3, 10] else none, dr := fun r => if r = 3 then some [(0, 0), (1, 0), (2, 0), (3, 0), (4, 3), (5, 3), (6, 3), (7, 3), (8, 0), (9, 0), (10, 0), (11, 0), (12, 0), (13, 0), (14, 0), (15, 0), (16, 0), (17, 0), (18, 0), (19, 0), (20, 0), (21, 2), (22, 0), (23, 2)] else none }
@[simp] theorem wio103 : cf103.wio = fun f i => (f == 999999 && (i == 0)) := rfl
@[simp] theorem live103 : cf103.live = fun r => if r = 1 then some [0, 1, 2, 3, 10] else none := rfl
@[simp] theorem wr103 : cf103.wr = fun _ => [] := rfl
def z1J (f : FuncId) : Option Cfg :=
  if f = 3 then some cf3 else
  if f = 4 then some cf4 else
  if f = 5 then some cf5 else
  if f = 6 then some cf6 else
  if f = 7 then some cf7 else
  if f = 8 then some cf8 else
  if f = 9 then some cf9 else
  if f = 10 then some cf10 else
  if f = 11 then some cf11 else
  if f = 12 then some cf12 else
  if f = 13 then some cf13 else
  if f = 14 then some cf14 else
  if f = 15 then some cf15 else
  if f = 16 then some cf16 else
  if f = 17 then some cf17 else
  if f = 18 then some cf18 else
  if f = 19 then some cf19 else
  if f = 20 then some cf20 else
  if f = 21 then some cf21 else
  if f = 22 then some cf22 else
  if f = 23 then some cf23 else
  if f = 24 then some cf24 else
  if f = 25 then some cf25 else
  if f = 26 then some cf26 else
  if f = 27 then some cf27 else
  if f = 28 then some cf28 else
  if f = 29 then some cf29 else
  if f = 30 then some cf30 else
  if f = 31 then some cf31 else
  if f = 32 then some cf32 else
  if f = 33 then some cf33 else
  if f = 34 then some cf34 else
  if f = 35 then some cf35 else
  if f = 36 then some cf36 else
  if f = 37 then some cf37 else
  if f = 38 then some cf38 else
  if f = 39 then some cf39 else
  if f = 40 then some cf40 else
  if f = 41 then some cf41 else
  if f = 42 then some cf42 else
  if f = 43 then some cf43 else
  if f = 44 then some cf44 else
  if f = 45 then some cf45 else
  if f = 46 then some cf46 else
  if f = 47 then some cf47 else
  if f = 48 then some cf48 else
  if f = 49 then some cf49 else
  if f = 50 then some cf50 else
  if f = 51 then some cf51 else
  if f = 52 then some cf52 else
  if f = 53 then some cf53 else
  if f = 54 then some cf54 else
  if f = 55 then some cf55 else
  if f = 56 then some cf56 else
  if f = 57 then some cf57 else
  if f = 58 then some cf58 else
  if f = 59 then some cf59 else
  if f = 60 then some cf60 else
  if f = 61 then some cf61 else
  if f = 62 then some cf62 else
  if f = 63 then some cf63 else
  if f = 64 then some cf64 else
  if f = 65 then some cf65 else
  if f = 66 then some cf66 else
  if f = 67 then some cf67 else
  if f = 69 then some cf69 else
  if f = 70 then some cf70 else
  if f = 71 then some cf71 else
  if f = 72 then some cf72 else
  if f = 73 then some cf73 else
  if f = 74 then some cf74 else
  if f = 75 then some cf75 else
  if f = 76 then some cf76 else
  if f = 77 then some cf77 else
  if f = 78 then some cf78 else
  if f = 79 then some cf79 else
  if f = 80 then some cf80 else
  if f = 82 then some cf82 else
  if f = 83 then some cf83 else
  if f = 84 then some cf84 else
  if f = 85 then some cf85 else
  if f = 93 then some cf93 else
  if f = 94 then some cf94 else
  if f = 95 then some cf95 else
  if f = 96 then some cf96 else
  if f = 97 then some cf97 else
  if f = 103 then some cf103 else none
theorem zCM : z1J 4 = some cf4 := rfl
theorem zCL : z1J 6 = some cf6 := rfl
theorem zCK : z1J 8 = some cf8 := rfl
theorem zCJ : z1J 9 = some cf9 := rfl
theorem zAZ : z1J 13 = some cf13 := rfl
theorem zAY : z1J 14 = some cf14 := rfl
theorem zAX : z1J 15 = some cf15 := rfl
theorem zAW : z1J 20 = some cf20 := rfl
theorem zAV : z1J 23 = some cf23 := rfl
theorem zAU : z1J 24 = some cf24 := rfl
theorem zAT : z1J 25 = some cf25 := rfl
theorem zAS : z1J 26 = some cf26 := rfl
theorem zAR : z1J 33 = some cf33 := rfl
theorem zAQ : z1J 37 = some cf37 := rfl
theorem zAP : z1J 38 = some cf38 := rfl
theorem zAO : z1J 45 = some cf45 := rfl
theorem zAN : z1J 46 = some cf46 := rfl
theorem zAM : z1J 47 = some cf47 := rfl
theorem zAL : z1J 48 = some cf48 := rfl
theorem zAK : z1J 49 = some cf49 := rfl
theorem zAJ : z1J 50 = some cf50 := rfl
theorem zAI : z1J 51 = some cf51 := rfl
theorem zy1 : z1J 52 = some cf52 := rfl
theorem zAH : z1J 53 = some cf53 := rfl
theorem zAG : z1J 54 = some cf54 := rfl
theorem zAF : z1J 55 = some cf55 := rfl
theorem zAE : z1J 56 = some cf56 := rfl
theorem zAD : z1J 57 = some cf57 := rfl
theorem zAC : z1J 66 = some cf66 := rfl
theorem zAB : z1J 67 = some cf67 := rfl
theorem zAA : z1J 71 = some cf71 := rfl
theorem zAz : z1J 72 = some cf72 := rfl
theorem zAy : z1J 73 = some cf73 := rfl
theorem zAx : z1J 74 = some cf74 := rfl
theorem zy0 : z1J 75 = some cf75 := rfl
theorem zAw : z1J 76 = some cf76 := rfl
theorem zAv : z1J 80 = some cf80 := rfl
theorem zAu : z1J 83 = some cf83 := rfl
theorem zxZ : z1J 84 = some cf84 := rfl
theorem zxY : z1J 85 = some cf85 := rfl
theorem zAt : z1J 96 = some cf96 := rfl
theorem zxX : z1J 97 = some cf97 := rfl
theorem zvv : z1J 103 = some cf103 := rfl
theorem fn4 : Try.prog.funcs[4]? = some Try.f4 := by kernel_rfl
theorem fn5 : Try.prog.funcs[5]? = some Try.f5 := by kernel_rfl
theorem fn6 : Try.prog.funcs[6]? = some Try.f6 := by kernel_rfl
theorem fn8 : Try.prog.funcs[8]? = some Try.f8 := by kernel_rfl
theorem fn9 : Try.prog.funcs[9]? = some Try.f9 := by kernel_rfl
theorem zCB : Try.prog.funcs[10]? = some Try.f10 := by kernel_rfl
theorem zCA : Try.prog.funcs[13]? = some Try.f13 := by kernel_rfl
theorem zCz : Try.prog.funcs[14]? = some Try.f14 := by kernel_rfl
theorem zCy : Try.prog.funcs[15]? = some Try.f15 := by kernel_rfl
theorem zCx : Try.prog.funcs[20]? = some Try.f20 := by kernel_rfl
theorem zCw : Try.prog.funcs[21]? = some Try.f21 := by kernel_rfl
theorem zCv : Try.prog.funcs[23]? = some Try.f23 := by kernel_rfl
theorem zBj : Try.prog.funcs[24]? = some Try.f24 := by kernel_rfl
theorem zCu : Try.prog.funcs[25]? = some Try.f25 := by kernel_rfl
theorem zCt : Try.prog.funcs[26]? = some Try.f26 := by kernel_rfl
theorem zCs : Try.prog.funcs[27]? = some Try.f27 := by kernel_rfl
theorem zCr : Try.prog.funcs[28]? = some Try.f28 := by kernel_rfl
theorem zCq : Try.prog.funcs[33]? = some Try.f33 := by kernel_rfl
theorem zCp : Try.prog.funcs[37]? = some Try.f37 := by kernel_rfl
theorem zCo : Try.prog.funcs[38]? = some Try.f38 := by kernel_rfl
theorem zCn : Try.prog.funcs[45]? = some Try.f45 := by kernel_rfl
theorem zCm : Try.prog.funcs[46]? = some Try.f46 := by kernel_rfl
theorem zCl : Try.prog.funcs[47]? = some Try.f47 := by kernel_rfl
theorem zCk : Try.prog.funcs[48]? = some Try.f48 := by kernel_rfl
theorem zCj : Try.prog.funcs[49]? = some Try.f49 := by kernel_rfl
theorem zCi : Try.prog.funcs[50]? = some Try.f50 := by kernel_rfl
theorem zCh : Try.prog.funcs[51]? = some Try.f51 := by kernel_rfl
theorem zBi : Try.prog.funcs[52]? = some Try.f52 := by kernel_rfl
theorem zCg : Try.prog.funcs[53]? = some Try.f53 := by kernel_rfl
theorem zCf : Try.prog.funcs[54]? = some Try.f54 := by kernel_rfl
theorem zCe : Try.prog.funcs[55]? = some Try.f55 := by kernel_rfl
theorem zCd : Try.prog.funcs[56]? = some Try.f56 := by kernel_rfl
theorem zCc : Try.prog.funcs[57]? = some Try.f57 := by kernel_rfl
theorem zCb : Try.prog.funcs[59]? = some Try.f59 := by kernel_rfl
theorem zCa : Try.prog.funcs[66]? = some Try.f66 := by kernel_rfl
theorem zC9 : Try.prog.funcs[67]? = some Try.f67 := by kernel_rfl
theorem zC8 : Try.prog.funcs[71]? = some Try.f71 := by kernel_rfl
theorem zC7 : Try.prog.funcs[72]? = some Try.f72 := by kernel_rfl
theorem zC6 : Try.prog.funcs[73]? = some Try.f73 := by kernel_rfl
theorem zC5 : Try.prog.funcs[74]? = some Try.f74 := by kernel_rfl
theorem zBh : Try.prog.funcs[75]? = some Try.f75 := by kernel_rfl
theorem zC4 : Try.prog.funcs[76]? = some Try.f76 := by kernel_rfl
theorem zC3 : Try.prog.funcs[80]? = some Try.f80 := by kernel_rfl
theorem zC2 : Try.prog.funcs[83]? = some Try.f83 := by kernel_rfl
theorem zBg : Try.prog.funcs[84]? = some Try.f84 := by kernel_rfl
theorem zBf : Try.prog.funcs[85]? = some Try.f85 := by kernel_rfl
theorem zC1 : Try.prog.funcs[96]? = some Try.f96 := by kernel_rfl
theorem zBe : Try.prog.funcs[97]? = some Try.f97 := by kernel_rfl
theorem zxP : Try.prog.funcs[103]? = some Try.f103 := by kernel_rfl
noncomputable def cd4 : Code := match Try.f4.body with | some c => c | none => .skip
theorem bd4 : Try.f4.body = some cd4 := by kernel_rfl
noncomputable def cd5 : Code := match Try.f5.body with | some c => c | none => .skip
theorem bd5 : Try.f5.body = some cd5 := by kernel_rfl
noncomputable def cd6 : Code := match Try.f6.body with | some c => c | none => .skip
theorem bd6 : Try.f6.body = some cd6 := by kernel_rfl
noncomputable def cd8 : Code := match Try.f8.body with | some c => c | none => .skip
theorem bd8 : Try.f8.body = some cd8 := by kernel_rfl
noncomputable def cd9 : Code := match Try.f9.body with | some c => c | none => .skip
theorem bd9 : Try.f9.body = some cd9 := by kernel_rfl
noncomputable def zBp : Code := match Try.f10.body with | some c => c | none => .skip
theorem zE1 : Try.f10.body = some zBp := by kernel_rfl
noncomputable def zDo : Code := match Try.f13.body with | some c => c | none => .skip
theorem zE0 : Try.f13.body = some zDo := by kernel_rfl
noncomputable def zDn : Code := match Try.f14.body with | some c => c | none => .skip
theorem zDZ : Try.f14.body = some zDn := by kernel_rfl
noncomputable def zDm : Code := match Try.f15.body with | some c => c | none => .skip
theorem zDY : Try.f15.body = some zDm := by kernel_rfl
noncomputable def zDl : Code := match Try.f20.body with | some c => c | none => .skip
theorem zDX : Try.f20.body = some zDl := by kernel_rfl
noncomputable def zBo : Code := match Try.f21.body with | some c => c | none => .skip
theorem zDW : Try.f21.body = some zBo := by kernel_rfl
noncomputable def zDk : Code := match Try.f23.body with | some c => c | none => .skip
theorem zDV : Try.f23.body = some zDk := by kernel_rfl
noncomputable def zBn : Code := match Try.f24.body with | some c => c | none => .skip
theorem zBv : Try.f24.body = some zBn := by kernel_rfl
noncomputable def zDj : Code := match Try.f25.body with | some c => c | none => .skip
theorem zDU : Try.f25.body = some zDj := by kernel_rfl
noncomputable def zDi : Code := match Try.f26.body with | some c => c | none => .skip
theorem zDT : Try.f26.body = some zDi := by kernel_rfl
noncomputable def zB0 : Code := match Try.f27.body with | some c => c | none => .skip
theorem zDS : Try.f27.body = some zB0 := by kernel_rfl
noncomputable def zBm : Code := match Try.f28.body with | some c => c | none => .skip
theorem zDR : Try.f28.body = some zBm := by kernel_rfl
noncomputable def zDh : Code := match Try.f33.body with | some c => c | none => .skip
theorem zDQ : Try.f33.body = some zDh := by kernel_rfl
noncomputable def zDg : Code := match Try.f37.body with | some c => c | none => .skip
theorem zDP : Try.f37.body = some zDg := by kernel_rfl
noncomputable def zDf : Code := match Try.f38.body with | some c => c | none => .skip
theorem zDO : Try.f38.body = some zDf := by kernel_rfl
noncomputable def zDe : Code := match Try.f45.body with | some c => c | none => .skip
theorem zDN : Try.f45.body = some zDe := by kernel_rfl
noncomputable def zDd : Code := match Try.f46.body with | some c => c | none => .skip
theorem zDM : Try.f46.body = some zDd := by kernel_rfl
noncomputable def zDc : Code := match Try.f47.body with | some c => c | none => .skip
theorem zDL : Try.f47.body = some zDc := by kernel_rfl
noncomputable def zDb : Code := match Try.f48.body with | some c => c | none => .skip
theorem zDK : Try.f48.body = some zDb := by kernel_rfl
noncomputable def zDa : Code := match Try.f49.body with | some c => c | none => .skip
theorem zDJ : Try.f49.body = some zDa := by kernel_rfl
noncomputable def zD9 : Code := match Try.f50.body with | some c => c | none => .skip
theorem zDI : Try.f50.body = some zD9 := by kernel_rfl
noncomputable def zD8 : Code := match Try.f51.body with | some c => c | none => .skip
theorem zDH : Try.f51.body = some zD8 := by kernel_rfl
noncomputable def zD7 : Code := match Try.f52.body with | some c => c | none => .skip
theorem zBu : Try.f52.body = some zD7 := by kernel_rfl
noncomputable def zD6 : Code := match Try.f53.body with | some c => c | none => .skip
theorem zDG : Try.f53.body = some zD6 := by kernel_rfl
noncomputable def zD5 : Code := match Try.f54.body with | some c => c | none => .skip
theorem zDF : Try.f54.body = some zD5 := by kernel_rfl
noncomputable def zD4 : Code := match Try.f55.body with | some c => c | none => .skip
theorem zDE : Try.f55.body = some zD4 := by kernel_rfl
noncomputable def zD3 : Code := match Try.f56.body with | some c => c | none => .skip
theorem zDD : Try.f56.body = some zD3 := by kernel_rfl
noncomputable def zD2 : Code := match Try.f57.body with | some c => c | none => .skip
theorem zDC : Try.f57.body = some zD2 := by kernel_rfl
noncomputable def zBl : Code := match Try.f59.body with | some c => c | none => .skip
theorem zDB : Try.f59.body = some zBl := by kernel_rfl
noncomputable def zD1 : Code := match Try.f66.body with | some c => c | none => .skip
theorem zDA : Try.f66.body = some zD1 := by kernel_rfl
noncomputable def zD0 : Code := match Try.f67.body with | some c => c | none => .skip
theorem zDz : Try.f67.body = some zD0 := by kernel_rfl
noncomputable def zCZ : Code := match Try.f71.body with | some c => c | none => .skip
theorem zDy : Try.f71.body = some zCZ := by kernel_rfl
noncomputable def zCY : Code := match Try.f72.body with | some c => c | none => .skip
theorem zDx : Try.f72.body = some zCY := by kernel_rfl
noncomputable def zCX : Code := match Try.f73.body with | some c => c | none => .skip
theorem zDw : Try.f73.body = some zCX := by kernel_rfl
noncomputable def zCW : Code := match Try.f74.body with | some c => c | none => .skip
theorem zDv : Try.f74.body = some zCW := by kernel_rfl
noncomputable def zCV : Code := match Try.f75.body with | some c => c | none => .skip
theorem zBt : Try.f75.body = some zCV := by kernel_rfl
noncomputable def zCU : Code := match Try.f76.body with | some c => c | none => .skip
theorem zDu : Try.f76.body = some zCU := by kernel_rfl
noncomputable def zCT : Code := match Try.f80.body with | some c => c | none => .skip
theorem zDt : Try.f80.body = some zCT := by kernel_rfl
noncomputable def zCS : Code := match Try.f83.body with | some c => c | none => .skip
theorem zDs : Try.f83.body = some zCS := by kernel_rfl
noncomputable def zCR : Code := match Try.f84.body with | some c => c | none => .skip
theorem zBs : Try.f84.body = some zCR := by kernel_rfl
noncomputable def zCQ : Code := match Try.f85.body with | some c => c | none => .skip
theorem zBr : Try.f85.body = some zCQ := by kernel_rfl
noncomputable def zCP : Code := match Try.f96.body with | some c => c | none => .skip
theorem zDr : Try.f96.body = some zCP := by kernel_rfl
noncomputable def zCO : Code := match Try.f97.body with | some c => c | none => .skip
theorem zBq : Try.f97.body = some zCO := by kernel_rfl
noncomputable def zB1 : Code := match Try.f103.body with | some c => c | none => .skip
theorem zy2 : Try.f103.body = some zB1 := by kernel_rfl
def xt : z0j := xtC
noncomputable def L : z0j := Lim Try.prog xt z1J
theorem zra {f : FuncId} {c : Cfg} {fn : Func} {args : List T} {o : T × List T} (hc : z1J f = some c) (hfn : Try.prog.funcs[f]? = some fn) (h : ziq Try.prog L c LFm fn args = some o) : L f args = some o := zsS hc hfn h
end Go.Proofs.Ytodliknibbafeaa
end
section
namespace Go.Proofs.Ytodliknibbafeaa
open Go
theorem z5O {f : FuncId} {cf : Cfg} {fn : Func} {c : Code} {args : List T} {r : T} {outs : List T} (hc : z1J f = some cf) (hfn : Try.prog.funcs[f]? = some fn) (hb : fn.body = some c) (ha : args.length ≤ fn.ntmps ∧ (args.filter z4U).length ≤ 1 := by exact ⟨of_decide_eq_true rfl, of_decide_eq_true rfl⟩) (hz : cf.fz 999998 = none := by rfl) (g : wpC Try.prog L cf LFm c (z5v fn.ntmps args) (zws Try.prog fn args r outs) := by simp only [z5v, z4Q, z4J, z6D, z4U]; exact zrk) : L f args = some (r, outs) := zra hc hfn (zso hb ha g hz)
theorem zy5 {f : FuncId} {cf : Cfg} {fn : Func} {c : Code} {args : List T} {r : T} {outs : List T} (hc : z1J f = some cf) (hfn : Try.prog.funcs[f]? = some fn) (hb : fn.body = some c) (ha : args.length ≤ fn.ntmps ∧ (args.filter z4U).length ≤ 1 := by exact ⟨of_decide_eq_true rfl, of_decide_eq_true rfl⟩) (hz : (cf.fz 999998).isSome = true := by rfl) (g : wpC Try.prog L cf LFm c (z5v fn.ntmps args) (zwr Try.prog fn args r outs) := by simp only [z5v, z4Q, z4J, z6D, z4U]; exact zrk) : L f args = some (r, outs) := zra hc hfn (zcx hb ha hz g)
end Go.Proofs.Ytodliknibbafeaa
end
section
namespace Go.Proofs.Ytodliknibbafeaa
open Go.RowKit
def Cells (w : World) (ga : Option Addr) (n : Nat) (F : Nat → Value) : Prop := ∀ j, j < n → ∃ g o, ga = some ⟨g, o, none⟩ ∧ w.cell? ⟨g, o + j, none⟩ = some (F j)
theorem zcb {w w' : World} (hb : Below w.heap.size w w') {a : Addr} {v : Value} (h : w.cell? a = some v) : w'.cell? a = some v := by
  rw [hb.cell (World.block_lt_of_cell? w a h)]; exact h
theorem Cells.below {w w' : World} {ga : Option Addr} {n : Nat} {F : Nat → Value} (h : Cells w ga n F) (hb : Below w.heap.size w w') : Cells w' ga n F := fun j hj => by
  obtain ⟨g, o, e, hc⟩ := h j hj
  exact ⟨g, o, e, zcb hb hc⟩
theorem Cells.mono {w : World} {ga : Option Addr} {n m : Nat} {F : Nat → Value} (h : Cells w ga n F) (hm : m ≤ n) : Cells w ga m F := fun j hj => h j (by omega)
theorem Cells.congr {w : World} {ga : Option Addr} {n : Nat} {F G : Nat → Value} (h : Cells w ga n F) (e : ∀ j, j < n → F j = G j) : Cells w ga n G := fun j hj => by
  obtain ⟨g, o, e1, hc⟩ := h j hj
  exact ⟨g, o, e1, by rw [hc, e j hj]⟩
def IntsAt (w : World) (v : Value) (xs : List Int) : Prop :=
  ∃ ga cap, v = .slice ga xs.length cap ∧ xs.length ≤ cap ∧ cap ≤ maxLen ∧ Cells w ga xs.length (fun j => .int .i64 (xs.getD j 0))
theorem IntsAt.below {w w' : World} {v : Value} {xs : List Int} (h : IntsAt w v xs) (hb : Below w.heap.size w w') : IntsAt w' v xs := by
  obtain ⟨ga, cap, e, h1, h2, h3⟩ := h
  exact ⟨ga, cap, e, h1, h2, h3.below hb⟩
def RowsAt (w : World) (v : Value) (rows : List (List Int)) : Prop :=
  ∃ ga cap, ∃ F : Nat → Value, v = .slice ga rows.length cap ∧ rows.length ≤ cap ∧ cap ≤ maxLen ∧ Cells w ga rows.length F ∧ ∀ j, j < rows.length → IntsAt w (F j) (rows.getD j [])
theorem RowsAt.below {w w' : World} {v : Value} {rows : List (List Int)} (h : RowsAt w v rows) (hb : Below w.heap.size w w') : RowsAt w' v rows := by
  obtain ⟨ga, cap, F, e, h1, h2, h3, h4⟩ := h
  exact ⟨ga, cap, F, e, h1, h2, h3.below hb, fun j hj => (h4 j hj).below hb⟩
structure CRow where
  pre : List Int
  maps : List (List Int)
deriving Inhabited
structure Casc where
  letters : Int
  sizes : List Int
  rows : List CRow
deriving Inhabited
def CRowsAt (w : World) (v : Value) (rows : List CRow) : Prop :=
  ∃ ga cap, ∃ F G : Nat → Value, v = .slice ga rows.length cap ∧ rows.length ≤ cap ∧ cap ≤ maxLen ∧ ∀ j, (h : j < rows.length) → ∃ g o, ga = some ⟨g, o, none⟩ ∧ w.cell? ⟨g, o + j * 2, none⟩ = some (F j) ∧ w.cell? ⟨g, o + j * 2 + 1, none⟩ = some (G j) ∧ IntsAt w (F j) rows[j].pre ∧ RowsAt w (G j) rows[j].maps
theorem CRowsAt.below {w w' : World} {v : Value} {rows : List CRow} (h : CRowsAt w v rows) (hb : Below w.heap.size w w') : CRowsAt w' v rows := by
  obtain ⟨ga, cap, F, G, e, h1, h2, h3⟩ := h
  refine ⟨ga, cap, F, G, e, h1, h2, fun j hj => ?_⟩
  obtain ⟨g, o, e1, c1, c2, i1, i2⟩ := h3 j hj
  exact ⟨g, o, e1, zcb hb c1, zcb hb c2, i1.below hb, i2.below hb⟩
def CascAt (w : World) (v : Value) (c : Casc) : Prop :=
  ∃ s r, v = .agg #[.int .i64 c.letters, s, r] ∧ IntsAt w s c.sizes ∧ CRowsAt w r c.rows
theorem CascAt.below {w w' : World} {v : Value} {c : Casc} (h : CascAt w v c) (hb : Below w.heap.size w w') : CascAt w' v c := by
  obtain ⟨s, r, e, h1, h2⟩ := h
  exact ⟨s, r, e, h1.below hb, h2.below hb⟩
end Go.Proofs.Ytodliknibbafeaa
end
section
namespace Go.Proofs.Ytodliknibbafeaa
open Go
noncomputable section
set_option maxRecDepth 100000
set_option maxHeartbeats 6000000
def zae (a0 : Int) (a1 : Int) : Option (Int) :=
  if a1 < 1 then
    some 0
  else
    chk (¬ a1 = 0) <|
    if (Int.tmod a0 a1) < 0 then
      some (IntKind.i64.wrap ((Int.tmod a0 a1) + a1))
    else
      some (Int.tmod a0 a1)
instance made_Mod_ok {a0 : Int} {a1 : Int} : Ok (zae a0 a1) (fun r => L 15 [.sc (.int .i64 a0), .sc (.int .i64 a1)] = some (.sc (.int .i64 r), [.dead, .dead])) := ⟨fun r h => by have h := z5B h; unfold zae at h; exact z5O zAX zCy zDY⟩
def z1U (a0 : Tape) (a1 : Int) : Option (Int × Tape) :=
  if (a0.l.length : Int) ≤ a0.at_ then
    some (0, a0)
  else
    (atI a0.l (IntKind.i64.wrap ((IntKind.i64.wrap (a0.at_ + 1)) - 1))).bind fun v3 =>
    (zae v3 a1).bind fun v4 =>
    some (v4, (⟨a0.l, IntKind.i64.wrap (a0.at_ + 1)⟩ : Tape))
instance made_Tape_Next_ok {a0 : Tape} {a1 : Int} : Ok (z1U a0 a1) (fun r => L 20 [.vr [.sl a0.l.length (a0.l.map fun x0 => .sc (.int .i64 x0)), .sc (.int .i64 a0.at_)], .sc (.int .i64 a1)] = some (.sc (.int .i64 r.1), [.vr [.sl r.2.l.length (r.2.l.map fun x0 => .sc (.int .i64 x0)), .sc (.int .i64 r.2.at_)], .dead])) := ⟨fun r h => by have h := z5B h; unfold z1U at h; exact z5O zAW zCx zDX⟩
def zad (a0 : List Int) : Option (Tape) :=
  if 80 < (a0.length : Int) then
    (z7b a0 0 80).bind fun v2 =>
    some (⟨v2, 0⟩ : Tape)
  else
    some (⟨a0, 0⟩ : Tape)
instance made_New_ok {a0 : List Int} : Ok (zad a0) (fun r => L 6 [.sl a0.length (a0.map fun x0 => .sc (.int .i64 x0))] = some (.vr [.sl r.l.length (r.l.map fun x0 => .sc (.int .i64 x0)), .sc (.int .i64 r.at_)], [.dead])) := ⟨fun r h => by have h := z5B h; unfold zad at h; exact z5O zCL fn6 bd6⟩
def z3b (a0 : Tape) : Option (Int × Tape) :=
  (z1U a0 8).bind fun v2 =>
  some (IntKind.i64.wrap (2 - (zy8 .i64 v2.1 7)), v2.2)
instance made_Tape_Letters_ok {a0 : Tape} : Ok (z3b a0) (fun r => L 8 [.vr [.sl a0.l.length (a0.l.map fun x0 => .sc (.int .i64 x0)), .sc (.int .i64 a0.at_)]] = some (.sc (.int .i64 r.1), [.vr [.sl r.2.l.length (r.2.l.map fun x0 => .sc (.int .i64 x0)), .sc (.int .i64 r.2.at_)]])) := ⟨fun r h => by have h := z5B h; unfold z3b at h; exact z5O zCK fn8 bd8⟩
abbrev z3B (a1 : Int) (v32 : Int × Tape) (w42 : Int) (w45 : List Bool) (w46 : List (List Int)) (v55 : Int × Tape) : Int × List Int × Int × List Int → Option ((Int × List Int × Int × List Int) ⊕ ((Int × List Int × Int × List Bool × List (List Int)) ⊕ (DFA × Tape)))
  | (w57, w58, w59, w60) =>
  if w57 < a1 then
    (z1U (⟨w58, w59⟩ : Tape) (IntKind.i64.wrap (1 + v32.1))).bind fun v62 =>
    chk (z2Q 8 (w60.length + 1)) <|
    z0n (IntKind.i64.wrap (w57 + 1), v62.2.l, v62.2.at_, w60 ++ [v62.1])
  else
    z0A <|
    chk (z2Q 24 (w46.length + 1)) <|
    z0n (IntKind.i64.wrap (w42 + 1), w58, w59, w45 ++ [decide (v55.1 = 1)], w46 ++ [w60])
instance {a1 : Int} {v32 : Int × Tape} {w42 : Int} {w45 : List Bool} {w46 : List (List Int)} {v55 : Int × Tape} : Hd (z3B a1 v32 w42 w45 w46 v55) := ⟨fun (w57, w58, w59, w60) => ([(11, xI w57)], [(0, .vr [.sl w58.length (w58.map fun x0 => .sc (.int .i64 x0)), .sc (.int .i64 w59)]), (10, .os 1 w60.length (w60.map fun x0 => .sc (.int .i64 x0)))])⟩
abbrev z3O (a1 : Int) (v32 : Int × Tape) (v33 : Int × Tape) : Int × List Int × Int × List Bool × List (List Int) → Option ((Int × List Int × Int × List Bool × List (List Int)) ⊕ (DFA × Tape))
  | (w42, w43, w44, w45, w46) =>
  if w42 < (IntKind.i64.wrap (1 + v32.1)) then
    (z1U (⟨w43, w44⟩ : Tape) 2).bind fun v55 =>
    chk (z2Q 1 (w45.length + 1)) <|
    z0u (z3B a1 v32 w42 w45 w46 v55) LFm (0, v55.2.l, v55.2.at_, [])
  else
    z0A <|
    some ((⟨a1, v33.1, w45, w46⟩ : DFA), (⟨w43, w44⟩ : Tape))
instance {a1 : Int} {v32 : Int × Tape} {v33 : Int × Tape} : Hd (z3O a1 v32 v33) := ⟨fun (w42, w43, w44, w45, w46) => ([(9, xI w42)], [(0, .vr [.sl w43.length (w43.map fun x0 => .sc (.int .i64 x0)), .sc (.int .i64 w44)]), (7, .vr [.sc (.int .i64 a1), .sc (.int .i64 v33.1), .os 1 w45.length (w45.map fun x0 => .sc (.bool x0)), .os 1 w46.length (w46.map fun x0 => .os 1 x0.length (x0.map fun x1 => .sc (.int .i64 x1)))])])⟩
def z4d (a0 : Tape) (a1 : Int) (a2 : Int) : Option (DFA × Tape) :=
  (z1U a0 a2).bind fun v32 =>
  (z1U v32.2 (IntKind.i64.wrap (1 + v32.1))).bind fun v33 =>
  z0u (z3O a1 v32 v33) LFm (0, v33.2.l, v33.2.at_, [], [])
instance made_Tape_Dfa_ok {a0 : Tape} {a1 : Int} {a2 : Int} : Ok (z4d a0 a1 a2) (fun r => L 23 [.vr [.sl a0.l.length (a0.l.map fun x0 => .sc (.int .i64 x0)), .sc (.int .i64 a0.at_)], .sc (.int .i64 a1), .sc (.int .i64 a2)] = some (.agg [.sc (.int .i64 r.1.letters), .sc (.int .i64 r.1.start), .os 1 r.1.final.length (r.1.final.map fun x0 => .sc (.bool x0)), .os 1 r.1.next.length (r.1.next.map fun x0 => .os 1 x0.length (x0.map fun x1 => .sc (.int .i64 x1)))], [.vr [.sl r.2.l.length (r.2.l.map fun x0 => .sc (.int .i64 x0)), .sc (.int .i64 r.2.at_)], .dead, .dead])) := ⟨fun r h => by have h := z5B h; unfold z4d at h; exact z5O zAV zCv zDV⟩
abbrev z2S (w61 : Int) (v77 : List Int) (v46 : DFA × Tape) : Int × List (List Int) → Option ((Int × List (List Int)) ⊕ ((Int × List (List Int)) ⊕ (DFA × Tape)))
  | (w81, w82) =>
  (atI w82 w61).bind fun v87 =>
  if w81 < (v77.length : Int) then
    (atI v87 w81).bind fun v88 =>
    z0n (IntKind.i64.wrap (w81 + 1), (w82.set w61.toNat (v87.set w81.toNat (if w61 < v88 then v88 else w61))))
  else
    z0A <|
    z0n (IntKind.i64.wrap (w61 + 1), w82)
instance {w61 : Int} {v77 : List Int} {v46 : DFA × Tape} : Hd (z2S w61 v77 v46) := ⟨fun (w81, w82) => ([(27, xI w81)], [(7, .vr [.sc (.int .i64 v46.1.letters), .sc (.int .i64 v46.1.start), .os 1 v46.1.final.length (v46.1.final.map fun x0 => .sc (.bool x0)), .os 1 w82.length (w82.map fun x0 => .os 1 x0.length (x0.map fun x1 => .sc (.int .i64 x1)))])])⟩
abbrev z2T (v46 : DFA × Tape) : Int × List (List Int) → Option ((Int × List (List Int)) ⊕ (DFA × Tape))
  | (w61, w62) =>
  if w61 < (v46.1.next.length : Int) then
    (atI w62 w61).bind fun v77 =>
    z0u (z2S w61 v77 v46) LFm (0, w62)
  else
    z0A <|
    some ((⟨v46.1.letters, 0, v46.1.final, w62⟩ : DFA), v46.2)
instance {v46 : DFA × Tape} : Hd (z2T v46) := ⟨fun (w61, w62) => ([(18, xI w61)], [(7, .vr [.sc (.int .i64 v46.1.letters), .sc (.int .i64 v46.1.start), .os 1 v46.1.final.length (v46.1.final.map fun x0 => .sc (.bool x0)), .os 1 w62.length (w62.map fun x0 => .os 1 x0.length (x0.map fun x1 => .sc (.int .i64 x1)))])])⟩
def z2r (a0 : Tape) (a1 : Int) (a2 : Int) : Option (DFA × Tape) :=
  (z4d a0 a1 a2).bind fun v46 =>
  z0u (z2T v46) LFm (0, v46.1.next)
instance made_Tape_Ordered_ok {a0 : Tape} {a1 : Int} {a2 : Int} : Ok (z2r a0 a1 a2) (fun r => L 13 [.vr [.sl a0.l.length (a0.l.map fun x0 => .sc (.int .i64 x0)), .sc (.int .i64 a0.at_)], .sc (.int .i64 a1), .sc (.int .i64 a2)] = some (.agg [.sc (.int .i64 r.1.letters), .sc (.int .i64 r.1.start), .sl r.1.final.length (r.1.final.map fun x0 => .sc (.bool x0)), .sl r.1.next.length (r.1.next.map fun x0 => .sl x0.length (x0.map fun x1 => .sc (.int .i64 x1)))], [.vr [.sl r.2.l.length (r.2.l.map fun x0 => .sc (.int .i64 x0)), .sc (.int .i64 r.2.at_)], .dead, .dead])) := ⟨fun r h => by have h := z5B h; unfold z2r at h; exact zy5 zAZ zCA zE0⟩
end
end Go.Proofs.Ytodliknibbafeaa
end
section
namespace Go.Proofs.Ytodliknibbafeaa
open Go
noncomputable section
set_option maxRecDepth 100000
set_option maxHeartbeats 6000000
def z4M (a0 : Int) : Option (Bool) :=
  if 1 ≤ a0 then
    some (decide (a0 ≤ 6))
  else
    some false
instance ref01_MayLetters_ok {a0 : Int} : Ok (z4M a0) (fun r => L 14 [.sc (.int .i64 a0)] = some (.sc (.bool r), [.dead])) := ⟨fun r h => by have h := z5B h; unfold z4M at h; exact z5O zAY zCz zDZ⟩
abbrev z3Q (a0 : DFA) (w22 : Int) (v28 : List Int) : Int → Option (Int ⊕ (Int ⊕ Int))
  | w30 =>
  if w30 < (v28.length : Int) then
    (atI v28 w30).bind fun v32 =>
    if v32 < 0 then
      z0A <|
      z0A <|
      some 4
    else
      if (a0.final.length : Int) ≤ v32 then
        z0A <|
        z0A <|
        some 4
      else
        z0n (IntKind.i64.wrap (w30 + 1))
  else
    z0A <|
    z0n (IntKind.i64.wrap (w22 + 1))
instance {a0 : DFA} {w22 : Int} {v28 : List Int} : Hd (z3Q a0 w22 v28) := ⟨fun w30 => ([(51, xI w30)], [])⟩
abbrev z3w (a0 : DFA) : Int → Option (Int ⊕ Int)
  | w22 =>
  if w22 < (a0.next.length : Int) then
    (atI a0.next w22).bind fun v28 =>
    if (v28.length : Int) = a0.letters then
      z0u (z3Q a0 w22 v28) LFm 0
    else
      z0A <|
      some 4
  else
    z0A <|
    some 0
instance {a0 : DFA} : Hd (z3w a0) := ⟨fun w22 => ([(40, xI w22)], [])⟩
def z4K (a0 : DFA) : Option (Int) :=
  if a0.letters < 1 then
    some 1
  else
    if 6 < a0.letters then
      some 1
    else
      if 512 < (a0.final.length : Int) then
        some 3
      else
        if (a0.next.length : Int) = (a0.final.length : Int) then
          if a0.start < 0 then
            some 4
          else
            if (a0.final.length : Int) ≤ a0.start then
              some 4
            else
              z0u (z3w a0) LFm 0
        else
          some 4
instance dfa_Validate_ok {a0 : DFA} : Ok (z4K a0) (fun r => L 33 [.agg [.sc (.int .i64 a0.letters), .sc (.int .i64 a0.start), .sl a0.final.length (a0.final.map fun x0 => .sc (.bool x0)), .sl a0.next.length (a0.next.map fun x0 => .sl x0.length (x0.map fun x1 => .sc (.int .i64 x1)))]] = some (.sc (.int .i64 r), [.dead])) := ⟨fun r h => by have h := z5B h; unfold z4K at h; exact z5O zAR zCq zDQ⟩
def z3t (a0 : DFA) : Option (Int) :=
  (z4K a0).bind fun v2 =>
  if v2 = 0 then
    if 12 < (a0.final.length : Int) then
      some 3
    else
      some 0
  else
    some v2
instance images_validate_ok {a0 : DFA} : Ok (z3t a0) (fun r => L 45 [.agg [.sc (.int .i64 a0.letters), .sc (.int .i64 a0.start), .sl a0.final.length (a0.final.map fun x0 => .sc (.bool x0)), .sl a0.next.length (a0.next.map fun x0 => .sl x0.length (x0.map fun x1 => .sc (.int .i64 x1)))]] = some (.sc (.int .i64 r), [.dead])) := ⟨fun r h => by have h := z5B h; unfold z3t at h; exact z5O zAO zCn zDN⟩
abbrev z4C (a0 : DFA) (a1 : Int) (a2 : Int) : Int × Int → Option ((Int × Int) ⊕ Int)
  | (w11, w12) =>
  if w12 < (a0.next.length : Int) then
    (atI a0.next w12).bind fun v15 =>
    chk (¬ w12 < 0) <|
    if (z1T .i64 (z0e .i64 a1 w12) 1) = 1 then
      (atI v15 a2).bind fun v16 =>
      chk (¬ v16 < 0) <|
      z0n (orI .i64 w11 (zqi .i64 1 v16), IntKind.i64.wrap (w12 + 1))
    else
      z0n (w11, IntKind.i64.wrap (w12 + 1))
  else
    z0A <|
    some w11
instance {a0 : DFA} {a1 : Int} {a2 : Int} : Hd (z4C a0 a1 a2) := ⟨fun (w11, w12) => ([(7, xI w11), (13, xI w12)], [])⟩
def z4u (a0 : DFA) (a1 : Int) (a2 : Int) : Option (Int) :=
  z0u (z4C a0 a1 a2) LFm (0, 0)
instance images_move_ok {a0 : DFA} {a1 : Int} {a2 : Int} : Ok (z4u a0 a1 a2) (fun r => L 72 [.agg [.sc (.int .i64 a0.letters), .sc (.int .i64 a0.start), .sl a0.final.length (a0.final.map fun x0 => .sc (.bool x0)), .sl a0.next.length (a0.next.map fun x0 => .sl x0.length (x0.map fun x1 => .sc (.int .i64 x1)))], .sc (.int .i64 a1), .sc (.int .i64 a2)] = some (.sc (.int .i64 r), [.dead, .dead, .dead])) := ⟨fun r h => by have h := z5B h; unfold z4u at h; exact z5O zAz zC7 zDx⟩
def z2t (a0 : Int) (a1 : Int) : Option (Bool) :=
  some (decide ((zin .i64 a1 a0) = 0))
instance images_contains_ok {a0 : Int} {a1 : Int} : Ok (z2t a0 a1) (fun r => L 73 [.sc (.int .i64 a0), .sc (.int .i64 a1)] = some (.sc (.bool r), [.dead, .dead])) := ⟨fun r h => by have h := z5B h; unfold z2t at h; exact z5O zAy zC6 zDw⟩
abbrev z3u (a0 : DFA) (w77 : Int) : Int × List Bool × List Int × List ByteArray → Option ((Int × List Bool × List Int × List ByteArray) ⊕ ((Int × List Bool × List Int × List ByteArray) ⊕ (List Int × List ByteArray)))
  | (w105, w106, w107, w108) =>
  if w105 < a0.letters then
    (atI w107 w77).bind fun v114 =>
    (z4u a0 v114 w105).bind fun v115 =>
    (atI w106 v115).bind fun v116 =>
    if v116 = true then
      z0n (IntKind.i64.wrap (w105 + 1), w106, w107, w108)
    else
      chk (z2Q 8 (w107.length + 1)) <|
      (atI w108 w77).bind fun v118 =>
      chk (zap v118 ⟨#[UInt8.ofNat (IntKind.u8.wrap (IntKind.i64.wrap (97 + w105))).toNat]⟩) <|
      chk (z2Q 16 (w108.length + 1)) <|
      z0n (IntKind.i64.wrap (w105 + 1), (w106.set v115.toNat true), w107 ++ [v115], w108 ++ [v118 ++ ⟨#[UInt8.ofNat (IntKind.u8.wrap (IntKind.i64.wrap (97 + w105))).toNat]⟩])
  else
    z0A <|
    z0n (IntKind.i64.wrap (w77 + 1), w106, w107, w108)
instance {a0 : DFA} {w77 : Int} : Hd (z3u a0 w77) := ⟨fun (w105, w106, w107, w108) => ([(31, xI w105)], [(6, .os 1 w106.length (w106.map fun x0 => .sc (.bool x0))), (7, .os 1 w107.length (w107.map fun x0 => .sc (.int .i64 x0))), (8, .os 1 w108.length (w108.map fun x0 => .sc (.string x0)))])⟩
abbrev z5s (a0 : DFA) : Int × List Bool × List Int × List ByteArray → Option ((Int × List Bool × List Int × List ByteArray) ⊕ (List Int × List ByteArray))
  | (w77, w78, w79, w80) =>
  if w77 < (w79.length : Int) then
    z0u (z3u a0 w77) LFm (0, w78, w79, w80)
  else
    z0A <|
    some (w79, w80)
instance {a0 : DFA} : Hd (z5s a0) := ⟨fun (w77, w78, w79, w80) => ([(9, xI w77)], [(6, .os 1 w78.length (w78.map fun x0 => .sc (.bool x0))), (7, .os 1 w79.length (w79.map fun x0 => .sc (.int .i64 x0))), (8, .os 1 w80.length (w80.map fun x0 => .sc (.string x0)))])⟩
def z4I (a0 : DFA) (a1 : Int) : Option (List Int × List ByteArray) :=
  chk (¬ (a0.final.length : Int) < 0) <|
  chk (z1L 1 (zqi .i64 1 (a0.final.length : Int))) <|
  chk (0 ≤ a1 ∧ a1 < (zqi .i64 1 (a0.final.length : Int))) <|
  z0u (z5s a0) LFm (0, ((List.replicate (zqi .i64 1 (a0.final.length : Int)).toNat (false : Bool)).set a1.toNat true), [a1], [ByteArray.empty])
instance images_reach_ok {a0 : DFA} {a1 : Int} : Ok (z4I a0 a1) (fun r => L 66 [.agg [.sc (.int .i64 a0.letters), .sc (.int .i64 a0.start), .sl a0.final.length (a0.final.map fun x0 => .sc (.bool x0)), .sl a0.next.length (a0.next.map fun x0 => .sl x0.length (x0.map fun x1 => .sc (.int .i64 x1)))], .sc (.int .i64 a1)] = some (.tup [.os 1 r.1.length (r.1.map fun x0 => .sc (.int .i64 x0)), .os 1 r.2.length (r.2.map fun x0 => .sc (.string x0))], [.dead, .dead])) := ⟨fun r h => by have h := z5B h; unfold z4I at h; exact z5O zAC zCa zDA⟩
def z1Y (a0 : Int) : Option (Int) :=
  chk (¬ 1 < 0) <|
  chk (¬ 2 < 0) <|
  chk (¬ 4 < 0) <|
  chk (¬ 8 < 0) <|
  chk (¬ 16 < 0) <|
  chk (¬ 32 < 0) <|
  some (z1T .i64 (IntKind.i64.wrap (IntKind.u64.wrap ((IntKind.u64.wrap ((IntKind.u64.wrap ((z1T .u64 (IntKind.u64.wrap ((z0e .u64 (IntKind.u64.wrap ((z1T .u64 (z0e .u64 (IntKind.u64.wrap ((z1T .u64 (z0e .u64 a0 1) 6148914691236517205) + (z1T .u64 a0 6148914691236517205))) 2) 3689348814741910323) + (z1T .u64 (IntKind.u64.wrap ((z1T .u64 (z0e .u64 a0 1) 6148914691236517205) + (z1T .u64 a0 6148914691236517205))) 3689348814741910323))) 4) + (IntKind.u64.wrap ((z1T .u64 (z0e .u64 (IntKind.u64.wrap ((z1T .u64 (z0e .u64 a0 1) 6148914691236517205) + (z1T .u64 a0 6148914691236517205))) 2) 3689348814741910323) + (z1T .u64 (IntKind.u64.wrap ((z1T .u64 (z0e .u64 a0 1) 6148914691236517205) + (z1T .u64 a0 6148914691236517205))) 3689348814741910323))))) 1085102592571150095) + (z0e .u64 (z1T .u64 (IntKind.u64.wrap ((z0e .u64 (IntKind.u64.wrap ((z1T .u64 (z0e .u64 (IntKind.u64.wrap ((z1T .u64 (z0e .u64 a0 1) 6148914691236517205) + (z1T .u64 a0 6148914691236517205))) 2) 3689348814741910323) + (z1T .u64 (IntKind.u64.wrap ((z1T .u64 (z0e .u64 a0 1) 6148914691236517205) + (z1T .u64 a0 6148914691236517205))) 3689348814741910323))) 4) + (IntKind.u64.wrap ((z1T .u64 (z0e .u64 (IntKind.u64.wrap ((z1T .u64 (z0e .u64 a0 1) 6148914691236517205) + (z1T .u64 a0 6148914691236517205))) 2) 3689348814741910323) + (z1T .u64 (IntKind.u64.wrap ((z1T .u64 (z0e .u64 a0 1) 6148914691236517205) + (z1T .u64 a0 6148914691236517205))) 3689348814741910323))))) 1085102592571150095) 8))) + (z0e .u64 (IntKind.u64.wrap ((z1T .u64 (IntKind.u64.wrap ((z0e .u64 (IntKind.u64.wrap ((z1T .u64 (z0e .u64 (IntKind.u64.wrap ((z1T .u64 (z0e .u64 a0 1) 6148914691236517205) + (z1T .u64 a0 6148914691236517205))) 2) 3689348814741910323) + (z1T .u64 (IntKind.u64.wrap ((z1T .u64 (z0e .u64 a0 1) 6148914691236517205) + (z1T .u64 a0 6148914691236517205))) 3689348814741910323))) 4) + (IntKind.u64.wrap ((z1T .u64 (z0e .u64 (IntKind.u64.wrap ((z1T .u64 (z0e .u64 a0 1) 6148914691236517205) + (z1T .u64 a0 6148914691236517205))) 2) 3689348814741910323) + (z1T .u64 (IntKind.u64.wrap ((z1T .u64 (z0e .u64 a0 1) 6148914691236517205) + (z1T .u64 a0 6148914691236517205))) 3689348814741910323))))) 1085102592571150095) + (z0e .u64 (z1T .u64 (IntKind.u64.wrap ((z0e .u64 (IntKind.u64.wrap ((z1T .u64 (z0e .u64 (IntKind.u64.wrap ((z1T .u64 (z0e .u64 a0 1) 6148914691236517205) + (z1T .u64 a0 6148914691236517205))) 2) 3689348814741910323) + (z1T .u64 (IntKind.u64.wrap ((z1T .u64 (z0e .u64 a0 1) 6148914691236517205) + (z1T .u64 a0 6148914691236517205))) 3689348814741910323))) 4) + (IntKind.u64.wrap ((z1T .u64 (z0e .u64 (IntKind.u64.wrap ((z1T .u64 (z0e .u64 a0 1) 6148914691236517205) + (z1T .u64 a0 6148914691236517205))) 2) 3689348814741910323) + (z1T .u64 (IntKind.u64.wrap ((z1T .u64 (z0e .u64 a0 1) 6148914691236517205) + (z1T .u64 a0 6148914691236517205))) 3689348814741910323))))) 1085102592571150095) 8))) 16))) + (z0e .u64 (IntKind.u64.wrap ((IntKind.u64.wrap ((z1T .u64 (IntKind.u64.wrap ((z0e .u64 (IntKind.u64.wrap ((z1T .u64 (z0e .u64 (IntKind.u64.wrap ((z1T .u64 (z0e .u64 a0 1) 6148914691236517205) + (z1T .u64 a0 6148914691236517205))) 2) 3689348814741910323) + (z1T .u64 (IntKind.u64.wrap ((z1T .u64 (z0e .u64 a0 1) 6148914691236517205) + (z1T .u64 a0 6148914691236517205))) 3689348814741910323))) 4) + (IntKind.u64.wrap ((z1T .u64 (z0e .u64 (IntKind.u64.wrap ((z1T .u64 (z0e .u64 a0 1) 6148914691236517205) + (z1T .u64 a0 6148914691236517205))) 2) 3689348814741910323) + (z1T .u64 (IntKind.u64.wrap ((z1T .u64 (z0e .u64 a0 1) 6148914691236517205) + (z1T .u64 a0 6148914691236517205))) 3689348814741910323))))) 1085102592571150095) + (z0e .u64 (z1T .u64 (IntKind.u64.wrap ((z0e .u64 (IntKind.u64.wrap ((z1T .u64 (z0e .u64 (IntKind.u64.wrap ((z1T .u64 (z0e .u64 a0 1) 6148914691236517205) + (z1T .u64 a0 6148914691236517205))) 2) 3689348814741910323) + (z1T .u64 (IntKind.u64.wrap ((z1T .u64 (z0e .u64 a0 1) 6148914691236517205) + (z1T .u64 a0 6148914691236517205))) 3689348814741910323))) 4) + (IntKind.u64.wrap ((z1T .u64 (z0e .u64 (IntKind.u64.wrap ((z1T .u64 (z0e .u64 a0 1) 6148914691236517205) + (z1T .u64 a0 6148914691236517205))) 2) 3689348814741910323) + (z1T .u64 (IntKind.u64.wrap ((z1T .u64 (z0e .u64 a0 1) 6148914691236517205) + (z1T .u64 a0 6148914691236517205))) 3689348814741910323))))) 1085102592571150095) 8))) + (z0e .u64 (IntKind.u64.wrap ((z1T .u64 (IntKind.u64.wrap ((z0e .u64 (IntKind.u64.wrap ((z1T .u64 (z0e .u64 (IntKind.u64.wrap ((z1T .u64 (z0e .u64 a0 1) 6148914691236517205) + (z1T .u64 a0 6148914691236517205))) 2) 3689348814741910323) + (z1T .u64 (IntKind.u64.wrap ((z1T .u64 (z0e .u64 a0 1) 6148914691236517205) + (z1T .u64 a0 6148914691236517205))) 3689348814741910323))) 4) + (IntKind.u64.wrap ((z1T .u64 (z0e .u64 (IntKind.u64.wrap ((z1T .u64 (z0e .u64 a0 1) 6148914691236517205) + (z1T .u64 a0 6148914691236517205))) 2) 3689348814741910323) + (z1T .u64 (IntKind.u64.wrap ((z1T .u64 (z0e .u64 a0 1) 6148914691236517205) + (z1T .u64 a0 6148914691236517205))) 3689348814741910323))))) 1085102592571150095) + (z0e .u64 (z1T .u64 (IntKind.u64.wrap ((z0e .u64 (IntKind.u64.wrap ((z1T .u64 (z0e .u64 (IntKind.u64.wrap ((z1T .u64 (z0e .u64 a0 1) 6148914691236517205) + (z1T .u64 a0 6148914691236517205))) 2) 3689348814741910323) + (z1T .u64 (IntKind.u64.wrap ((z1T .u64 (z0e .u64 a0 1) 6148914691236517205) + (z1T .u64 a0 6148914691236517205))) 3689348814741910323))) 4) + (IntKind.u64.wrap ((z1T .u64 (z0e .u64 (IntKind.u64.wrap ((z1T .u64 (z0e .u64 a0 1) 6148914691236517205) + (z1T .u64 a0 6148914691236517205))) 2) 3689348814741910323) + (z1T .u64 (IntKind.u64.wrap ((z1T .u64 (z0e .u64 a0 1) 6148914691236517205) + (z1T .u64 a0 6148914691236517205))) 3689348814741910323))))) 1085102592571150095) 8))) 16))) 32)))) 127)
instance math_bits_OnesCount64_ok {a0 : Int} : Ok (z1Y a0) (fun r => L 96 [.sc (.int .u64 a0)] = some (.sc (.int .i64 r), [.dead])) := ⟨fun r h => by have h := z5B h; unfold z1Y at h; exact z5O zAt zC1 zDr⟩
def z3i (a0 : Int) : Option (Int) :=
  (z1Y a0).bind fun v2 =>
  some v2
instance math_bits_OnesCount_ok {a0 : Int} : Ok (z3i a0) (fun r => L 83 [.sc (.int .u64 a0)] = some (.sc (.int .i64 r), [.dead])) := ⟨fun r h => by have h := z5B h; unfold z3i at h; exact z5O zAu zC2 zDs⟩
def z4t (a0 : Int) : Option (Int) :=
  (z3i (IntKind.u64.wrap a0)).bind fun v2 =>
  some v2
instance images_size_ok {a0 : Int} : Ok (z4t a0) (fun r => L 71 [.sc (.int .i64 a0)] = some (.sc (.int .i64 r), [.dead])) := ⟨fun r h => by have h := z5B h; unfold z4t at h; exact z5O zAA zC8 zDy⟩
end
end Go.Proofs.Ytodliknibbafeaa
end
section
namespace Go.Proofs.Ytodliknibbafeaa
open Go
noncomputable section
set_option maxRecDepth 100000
set_option maxHeartbeats 6000000
def cmp_isNaN_int (a0 : Int) : Option (Bool) :=
  some (!decide (a0 = a0))
instance cmp_isNaN_int_ok {a0 : Int} : Ok (cmp_isNaN_int a0) (fun r => L 76 [.sc (.int .i64 a0)] = some (.sc (.bool r), [.dead])) := ⟨fun r h => by have h := z5B h; unfold cmp_isNaN_int at h; exact z5O zAw zC4 zDu⟩
def cmp_Compare_int (a0 : Int) (a1 : Int) : Option (Int) :=
  (cmp_isNaN_int a0).bind fun v3 =>
  (cmp_isNaN_int a1).bind fun v4 =>
  if v3 = true then
    if v4 = true then
      some 0
    else
      some (-1)
  else
    if v4 = true then
      some 1
    else
      if a0 < a1 then
        some (-1)
      else
        if a1 < a0 then
          some 1
        else
          some 0
instance cmp_Compare_int_ok {a0 : Int} {a1 : Int} : Ok (cmp_Compare_int a0 a1) (fun r => L 54 [.sc (.int .i64 a0), .sc (.int .i64 a1)] = some (.sc (.int .i64 r), [.dead, .dead])) := ⟨fun r h => by have h := z5B h; unfold cmp_Compare_int at h; exact z5O zAG zCf zDF⟩
def z0K (a0 : Int) (a1 : Int) (a2_0 : List Int) : Option (Int) :=
  (atI a2_0 a0).bind fun v4 =>
  (atI a2_0 a1).bind fun v5 =>
  (cmp_Compare_int v4 v5).bind fun v6 =>
  some v6
instance images_diagram_heights_1_ok {a0 : Int} {a1 : Int} {a2_0 : List Int} : Ok (z0K a0 a1 a2_0) (fun r => L 74 [.sc (.int .i64 a0), .sc (.int .i64 a1), .pr [.sl a2_0.length (a2_0.map fun x0 => .sc (.int .i64 x0))]] = some (.sc (.int .i64 r), [.dead, .dead, .dead])) := ⟨fun r h => by have h := z5B h; unfold z0K at h; exact z5O zAx zC5 zDv⟩
abbrev z0S (a1 : Int) (a3_0_0 : List Int) (w95 : Int) : Int × List Int → Option ((Int × List Int) ⊕ ((Int × List Int) ⊕ List Int))
  | (w127, w128) =>
  if a1 < w127 then
    (atI w128 w127).bind fun v136 =>
    (atI w128 (IntKind.i64.wrap (w127 - 1))).bind fun v137 =>
    (z0K v136 v137 a3_0_0).bind fun v138 =>
    if v138 < 0 then
      (atI (w128.set w127.toNat v137) (IntKind.i64.wrap (w127 - 1))).bind fun v142 =>
      z0n (IntKind.i64.wrap (w127 - 1), ((w128.set w127.toNat v137).set (IntKind.i64.wrap (w127 - 1)).toNat v136))
    else
      z0A <|
      z0n (IntKind.i64.wrap (w95 + 1), w128)
  else
    z0A <|
    z0n (IntKind.i64.wrap (w95 + 1), w128)
instance {a1 : Int} {a3_0_0 : List Int} {w95 : Int} : Hd (z0S a1 a3_0_0 w95) := ⟨fun (w127, w128) => ([(9, xI w127)], [(0, .os 1 w128.length (w128.map fun x0 => .sc (.int .i64 x0)))])⟩
abbrev z0T (a1 : Int) (a2 : Int) (a3_0_0 : List Int) : Int × List Int → Option ((Int × List Int) ⊕ List Int)
  | (w95, w96) =>
  if w95 < a2 then
    z0u (z0S a1 a3_0_0 w95) LFm (w95, w96)
  else
    z0A <|
    some w96
instance {a1 : Int} {a2 : Int} {a3_0_0 : List Int} : Hd (z0T a1 a2 a3_0_0) := ⟨fun (w95, w96) => ([(8, xI w95)], [(0, .os 1 w96.length (w96.map fun x0 => .sc (.int .i64 x0)))])⟩
def z0r (a0 : List Int) (a1 : Int) (a2 : Int) (a3_0_0 : List Int) : Option (List Int) :=
  z0u (z0T a1 a2 a3_0_0) LFm (IntKind.i64.wrap (a1 + 1), a0)
instance slices_insertionSortCmpFunc_int_images_diagram_heights_1_ok {a0 : List Int} {a1 : Int} {a2 : Int} {a3_0_0 : List Int} : Ok (z0r a0 a1 a2 a3_0_0) (fun r => L 84 [.os 1 a0.length (a0.map fun x0 => .sc (.int .i64 x0)), .sc (.int .i64 a1), .sc (.int .i64 a2), .cl 74 [.pr [.sl a3_0_0.length (a3_0_0.map fun x0 => .sc (.int .i64 x0))]]] = some (.tup [], [.os 1 r.length (r.map fun x0 => .sc (.int .i64 x0)), .dead, .dead, .dead])) := ⟨fun r h => by have h := z5B h; unfold z0r at h; exact z5O zxZ zBg zBs⟩
abbrev z0Z (a1 : Int) (a2 : Int) (a3 : Int) : Int × List Int → Option ((Int × List Int) ⊕ List Int)
  | (w19, w20) =>
  if w19 < a3 then
    (atI w20 (IntKind.i64.wrap (a2 + w19))).bind fun v25 =>
    (atI w20 (IntKind.i64.wrap (a1 + w19))).bind fun v26 =>
    (atI (w20.set (IntKind.i64.wrap (a1 + w19)).toNat v25) (IntKind.i64.wrap (a2 + w19))).bind fun v28 =>
    z0n (IntKind.i64.wrap (w19 + 1), ((w20.set (IntKind.i64.wrap (a1 + w19)).toNat v25).set (IntKind.i64.wrap (a2 + w19)).toNat v26))
  else
    z0A <|
    some w20
instance {a1 : Int} {a2 : Int} {a3 : Int} : Hd (z0Z a1 a2 a3) := ⟨fun (w19, w20) => ([(10, xI w19)], [(0, .os 1 w20.length (w20.map fun x0 => .sc (.int .i64 x0)))])⟩
def z0p (a0 : List Int) (a1 : Int) (a2 : Int) (a3 : Int) (a4_0_0 : List Int) : Option (List Int) :=
  z0u (z0Z a1 a2 a3) LFm (0, a0)
instance slices_swapRangeCmpFunc_int_images_diagram_heights_1_ok {a0 : List Int} {a1 : Int} {a2 : Int} {a3 : Int} {a4_0_0 : List Int} : Ok (z0p a0 a1 a2 a3 a4_0_0) (fun r => L 103 [.os 1 a0.length (a0.map fun x0 => .sc (.int .i64 x0)), .sc (.int .i64 a1), .sc (.int .i64 a2), .sc (.int .i64 a3), .cl 74 [.pr [.sl a4_0_0.length (a4_0_0.map fun x0 => .sc (.int .i64 x0))]]] = some (.tup [], [.os 1 r.length (r.map fun x0 => .sc (.int .i64 x0)), .dead, .dead, .dead, .dead])) := ⟨fun r h => by have h := z5B h; unfold z0p at h; exact z5O zvv zxP zy2⟩
abbrev z1j (a2 : Int) (a4_0_0 : List Int) : Int × Int × List Int → Option ((Int × Int × List Int) ⊕ List Int)
  | (w13, w15, w14) =>
  if w13 = w15 then
    z0A <|
    (z0p w14 (IntKind.i64.wrap (a2 - w13)) a2 w13 a4_0_0).bind fun v18 =>
    some v18
  else
    if w15 < w13 then
      (z0p w14 (IntKind.i64.wrap (a2 - w13)) a2 w15 a4_0_0).bind fun v19 =>
      z0n (IntKind.i64.wrap (w13 - w15), w15, v19)
    else
      (z0p w14 (IntKind.i64.wrap (a2 - w13)) (IntKind.i64.wrap ((IntKind.i64.wrap (a2 + w15)) - w13)) w13 a4_0_0).bind fun v20 =>
      z0n (w13, IntKind.i64.wrap (w15 - w13), v20)
instance {a2 : Int} {a4_0_0 : List Int} : Hd (z1j a2 a4_0_0) := ⟨fun (w13, w15, w14) => ([(10, xI w13), (11, xI w15)], [(0, .os 1 w14.length (w14.map fun x0 => .sc (.int .i64 x0)))])⟩
def z0D (a0 : List Int) (a1 : Int) (a2 : Int) (a3 : Int) (a4_0_0 : List Int) : Option (List Int) :=
  z0u (z1j a2 a4_0_0) LFm (IntKind.i64.wrap (a2 - a1), IntKind.i64.wrap (a3 - a2), a0)
instance slices_rotateCmpFunc_int_images_diagram_heights_1_ok {a0 : List Int} {a1 : Int} {a2 : Int} {a3 : Int} {a4_0_0 : List Int} : Ok (z0D a0 a1 a2 a3 a4_0_0) (fun r => L 97 [.os 1 a0.length (a0.map fun x0 => .sc (.int .i64 x0)), .sc (.int .i64 a1), .sc (.int .i64 a2), .sc (.int .i64 a3), .cl 74 [.pr [.sl a4_0_0.length (a4_0_0.map fun x0 => .sc (.int .i64 x0))]]] = some (.tup [], [.os 1 r.length (r.map fun x0 => .sc (.int .i64 x0)), .dead, .dead, .dead, .dead])) := ⟨fun r h => by have h := z5B h; unfold z0D at h; exact z5O zxX zBe zBq⟩
abbrev z1b (w102 : Int) : Int × List Int → Option ((Int × List Int) ⊕ List Int)
  | (w114, w115) =>
  if w114 < (IntKind.i64.wrap (w102 - 1)) then
    (atI w115 (IntKind.i64.wrap (w114 + 1))).bind fun v120 =>
    (atI w115 w114).bind fun v121 =>
    (atI (w115.set w114.toNat v120) (IntKind.i64.wrap (w114 + 1))).bind fun v123 =>
    z0n (IntKind.i64.wrap (w114 + 1), ((w115.set w114.toNat v120).set (IntKind.i64.wrap (w114 + 1)).toNat v121))
  else
    z0A <|
    some w115
instance {w102 : Int} : Hd (z1b w102) := ⟨fun (w114, w115) => ([(13, xI w114)], [(0, .os 1 w115.length (w115.map fun x0 => .sc (.int .i64 x0)))])⟩
abbrev z1c (a0 : List Int) (a1 : Int) (a4_0_0 : List Int) : Int × Int → Option ((Int × Int) ⊕ List Int)
  | (w102, w103) =>
  if w102 < w103 then
    chk (¬ 1 < 0) <|
    (atI a0 (IntKind.i64.wrap (z0e .u64 (IntKind.u64.wrap (IntKind.i64.wrap (w102 + w103))) 1))).bind fun v107 =>
    (atI a0 a1).bind fun v108 =>
    (z0K v107 v108 a4_0_0).bind fun v109 =>
    if v109 < 0 then
      z0n (IntKind.i64.wrap ((IntKind.i64.wrap (z0e .u64 (IntKind.u64.wrap (IntKind.i64.wrap (w102 + w103))) 1)) + 1), w103)
    else
      z0n (w102, IntKind.i64.wrap (z0e .u64 (IntKind.u64.wrap (IntKind.i64.wrap (w102 + w103))) 1))
  else
    z0A <|
    z0u (z1b w102) LFm (a1, a0)
instance {a0 : List Int} {a1 : Int} {a4_0_0 : List Int} : Hd (z1c a0 a1 a4_0_0) := ⟨fun (w102, w103) => ([(10, xI w102), (11, xI w103)], [])⟩
abbrev z0X (w128 : Int) : Int × List Int → Option ((Int × List Int) ⊕ List Int)
  | (w139, w140) =>
  if w128 < w139 then
    (atI w140 (IntKind.i64.wrap (w139 - 1))).bind fun v145 =>
    (atI w140 w139).bind fun v146 =>
    (atI (w140.set w139.toNat v145) (IntKind.i64.wrap (w139 - 1))).bind fun v148 =>
    z0n (IntKind.i64.wrap (w139 - 1), ((w140.set w139.toNat v145).set (IntKind.i64.wrap (w139 - 1)).toNat v146))
  else
    z0A <|
    some w140
instance {w128 : Int} : Hd (z0X w128) := ⟨fun (w139, w140) => ([(17, xI w139)], [(0, .os 1 w140.length (w140.map fun x0 => .sc (.int .i64 x0)))])⟩
abbrev z0Y (a0 : List Int) (a2 : Int) (a4_0_0 : List Int) : Int × Int → Option ((Int × Int) ⊕ List Int)
  | (w128, w127) =>
  if w128 < w127 then
    chk (¬ 1 < 0) <|
    (atI a0 a2).bind fun v132 =>
    (atI a0 (IntKind.i64.wrap (z0e .u64 (IntKind.u64.wrap (IntKind.i64.wrap (w128 + w127))) 1))).bind fun v133 =>
    (z0K v132 v133 a4_0_0).bind fun v134 =>
    if v134 < 0 then
      z0n (w128, IntKind.i64.wrap (z0e .u64 (IntKind.u64.wrap (IntKind.i64.wrap (w128 + w127))) 1))
    else
      z0n (IntKind.i64.wrap ((IntKind.i64.wrap (z0e .u64 (IntKind.u64.wrap (IntKind.i64.wrap (w128 + w127))) 1)) + 1), w127)
  else
    z0A <|
    z0u (z0X w128) LFm (a2, a0)
instance {a0 : List Int} {a2 : Int} {a4_0_0 : List Int} : Hd (z0Y a0 a2 a4_0_0) := ⟨fun (w128, w127) => ([(14, xI w128), (15, xI w127)], [])⟩
abbrev z0W (a0 : List Int) (a1 : Int) (a2 : Int) (a3 : Int) (a4_0_0 : List Int) (rf : List Int → Int → Int → Int → List Int → Option (List Int)) : Int × Int → Option ((Int × Int) ⊕ List Int)
  | (w153, w152) =>
  if w153 < w152 then
    chk (¬ 1 < 0) <|
    (atI a0 (IntKind.i64.wrap ((IntKind.i64.wrap ((IntKind.i64.wrap ((IntKind.i64.wrap (z0e .u64 (IntKind.u64.wrap (IntKind.i64.wrap (a1 + a3))) 1)) + a2)) - 1)) - (IntKind.i64.wrap (z0e .u64 (IntKind.u64.wrap (IntKind.i64.wrap (w153 + w152))) 1))))).bind fun v157 =>
    (atI a0 (IntKind.i64.wrap (z0e .u64 (IntKind.u64.wrap (IntKind.i64.wrap (w153 + w152))) 1))).bind fun v158 =>
    (z0K v157 v158 a4_0_0).bind fun v159 =>
    if v159 < 0 then
      z0n (w153, IntKind.i64.wrap (z0e .u64 (IntKind.u64.wrap (IntKind.i64.wrap (w153 + w152))) 1))
    else
      z0n (IntKind.i64.wrap ((IntKind.i64.wrap (z0e .u64 (IntKind.u64.wrap (IntKind.i64.wrap (w153 + w152))) 1)) + 1), w152)
  else
    z0A <|
    if w153 < a2 then
      if a2 < (IntKind.i64.wrap ((IntKind.i64.wrap ((IntKind.i64.wrap (z0e .u64 (IntKind.u64.wrap (IntKind.i64.wrap (a1 + a3))) 1)) + a2)) - w153)) then
        (z0D a0 w153 a2 (IntKind.i64.wrap ((IntKind.i64.wrap ((IntKind.i64.wrap (z0e .u64 (IntKind.u64.wrap (IntKind.i64.wrap (a1 + a3))) 1)) + a2)) - w153)) a4_0_0).bind fun v160 =>
        if a1 < w153 then
          if w153 < (IntKind.i64.wrap (z0e .u64 (IntKind.u64.wrap (IntKind.i64.wrap (a1 + a3))) 1)) then
            (rf v160 a1 w153 (IntKind.i64.wrap (z0e .u64 (IntKind.u64.wrap (IntKind.i64.wrap (a1 + a3))) 1)) a4_0_0).bind fun v161 =>
            if (IntKind.i64.wrap (z0e .u64 (IntKind.u64.wrap (IntKind.i64.wrap (a1 + a3))) 1)) < (IntKind.i64.wrap ((IntKind.i64.wrap ((IntKind.i64.wrap (z0e .u64 (IntKind.u64.wrap (IntKind.i64.wrap (a1 + a3))) 1)) + a2)) - w153)) then
              if (IntKind.i64.wrap ((IntKind.i64.wrap ((IntKind.i64.wrap (z0e .u64 (IntKind.u64.wrap (IntKind.i64.wrap (a1 + a3))) 1)) + a2)) - w153)) < a3 then
                (rf v161 (IntKind.i64.wrap (z0e .u64 (IntKind.u64.wrap (IntKind.i64.wrap (a1 + a3))) 1)) (IntKind.i64.wrap ((IntKind.i64.wrap ((IntKind.i64.wrap (z0e .u64 (IntKind.u64.wrap (IntKind.i64.wrap (a1 + a3))) 1)) + a2)) - w153)) a3 a4_0_0).bind fun v162 =>
                some v162
              else
                some v161
            else
              some v161
          else
            if (IntKind.i64.wrap (z0e .u64 (IntKind.u64.wrap (IntKind.i64.wrap (a1 + a3))) 1)) < (IntKind.i64.wrap ((IntKind.i64.wrap ((IntKind.i64.wrap (z0e .u64 (IntKind.u64.wrap (IntKind.i64.wrap (a1 + a3))) 1)) + a2)) - w153)) then
              if (IntKind.i64.wrap ((IntKind.i64.wrap ((IntKind.i64.wrap (z0e .u64 (IntKind.u64.wrap (IntKind.i64.wrap (a1 + a3))) 1)) + a2)) - w153)) < a3 then
                (rf v160 (IntKind.i64.wrap (z0e .u64 (IntKind.u64.wrap (IntKind.i64.wrap (a1 + a3))) 1)) (IntKind.i64.wrap ((IntKind.i64.wrap ((IntKind.i64.wrap (z0e .u64 (IntKind.u64.wrap (IntKind.i64.wrap (a1 + a3))) 1)) + a2)) - w153)) a3 a4_0_0).bind fun v163 =>
                some v163
              else
                some v160
            else
              some v160
        else
          if (IntKind.i64.wrap (z0e .u64 (IntKind.u64.wrap (IntKind.i64.wrap (a1 + a3))) 1)) < (IntKind.i64.wrap ((IntKind.i64.wrap ((IntKind.i64.wrap (z0e .u64 (IntKind.u64.wrap (IntKind.i64.wrap (a1 + a3))) 1)) + a2)) - w153)) then
            if (IntKind.i64.wrap ((IntKind.i64.wrap ((IntKind.i64.wrap (z0e .u64 (IntKind.u64.wrap (IntKind.i64.wrap (a1 + a3))) 1)) + a2)) - w153)) < a3 then
              (rf v160 (IntKind.i64.wrap (z0e .u64 (IntKind.u64.wrap (IntKind.i64.wrap (a1 + a3))) 1)) (IntKind.i64.wrap ((IntKind.i64.wrap ((IntKind.i64.wrap (z0e .u64 (IntKind.u64.wrap (IntKind.i64.wrap (a1 + a3))) 1)) + a2)) - w153)) a3 a4_0_0).bind fun v164 =>
              some v164
            else
              some v160
          else
            some v160
      else
        if a1 < w153 then
          if w153 < (IntKind.i64.wrap (z0e .u64 (IntKind.u64.wrap (IntKind.i64.wrap (a1 + a3))) 1)) then
            (rf a0 a1 w153 (IntKind.i64.wrap (z0e .u64 (IntKind.u64.wrap (IntKind.i64.wrap (a1 + a3))) 1)) a4_0_0).bind fun v165 =>
            if (IntKind.i64.wrap (z0e .u64 (IntKind.u64.wrap (IntKind.i64.wrap (a1 + a3))) 1)) < (IntKind.i64.wrap ((IntKind.i64.wrap ((IntKind.i64.wrap (z0e .u64 (IntKind.u64.wrap (IntKind.i64.wrap (a1 + a3))) 1)) + a2)) - w153)) then
              if (IntKind.i64.wrap ((IntKind.i64.wrap ((IntKind.i64.wrap (z0e .u64 (IntKind.u64.wrap (IntKind.i64.wrap (a1 + a3))) 1)) + a2)) - w153)) < a3 then
                (rf v165 (IntKind.i64.wrap (z0e .u64 (IntKind.u64.wrap (IntKind.i64.wrap (a1 + a3))) 1)) (IntKind.i64.wrap ((IntKind.i64.wrap ((IntKind.i64.wrap (z0e .u64 (IntKind.u64.wrap (IntKind.i64.wrap (a1 + a3))) 1)) + a2)) - w153)) a3 a4_0_0).bind fun v166 =>
                some v166
              else
                some v165
            else
              some v165
          else
            if (IntKind.i64.wrap (z0e .u64 (IntKind.u64.wrap (IntKind.i64.wrap (a1 + a3))) 1)) < (IntKind.i64.wrap ((IntKind.i64.wrap ((IntKind.i64.wrap (z0e .u64 (IntKind.u64.wrap (IntKind.i64.wrap (a1 + a3))) 1)) + a2)) - w153)) then
              if (IntKind.i64.wrap ((IntKind.i64.wrap ((IntKind.i64.wrap (z0e .u64 (IntKind.u64.wrap (IntKind.i64.wrap (a1 + a3))) 1)) + a2)) - w153)) < a3 then
                (rf a0 (IntKind.i64.wrap (z0e .u64 (IntKind.u64.wrap (IntKind.i64.wrap (a1 + a3))) 1)) (IntKind.i64.wrap ((IntKind.i64.wrap ((IntKind.i64.wrap (z0e .u64 (IntKind.u64.wrap (IntKind.i64.wrap (a1 + a3))) 1)) + a2)) - w153)) a3 a4_0_0).bind fun v167 =>
                some v167
              else
                some a0
            else
              some a0
        else
          if (IntKind.i64.wrap (z0e .u64 (IntKind.u64.wrap (IntKind.i64.wrap (a1 + a3))) 1)) < (IntKind.i64.wrap ((IntKind.i64.wrap ((IntKind.i64.wrap (z0e .u64 (IntKind.u64.wrap (IntKind.i64.wrap (a1 + a3))) 1)) + a2)) - w153)) then
            if (IntKind.i64.wrap ((IntKind.i64.wrap ((IntKind.i64.wrap (z0e .u64 (IntKind.u64.wrap (IntKind.i64.wrap (a1 + a3))) 1)) + a2)) - w153)) < a3 then
              (rf a0 (IntKind.i64.wrap (z0e .u64 (IntKind.u64.wrap (IntKind.i64.wrap (a1 + a3))) 1)) (IntKind.i64.wrap ((IntKind.i64.wrap ((IntKind.i64.wrap (z0e .u64 (IntKind.u64.wrap (IntKind.i64.wrap (a1 + a3))) 1)) + a2)) - w153)) a3 a4_0_0).bind fun v168 =>
              some v168
            else
              some a0
          else
            some a0
    else
      if a1 < w153 then
        if w153 < (IntKind.i64.wrap (z0e .u64 (IntKind.u64.wrap (IntKind.i64.wrap (a1 + a3))) 1)) then
          (rf a0 a1 w153 (IntKind.i64.wrap (z0e .u64 (IntKind.u64.wrap (IntKind.i64.wrap (a1 + a3))) 1)) a4_0_0).bind fun v169 =>
          if (IntKind.i64.wrap (z0e .u64 (IntKind.u64.wrap (IntKind.i64.wrap (a1 + a3))) 1)) < (IntKind.i64.wrap ((IntKind.i64.wrap ((IntKind.i64.wrap (z0e .u64 (IntKind.u64.wrap (IntKind.i64.wrap (a1 + a3))) 1)) + a2)) - w153)) then
            if (IntKind.i64.wrap ((IntKind.i64.wrap ((IntKind.i64.wrap (z0e .u64 (IntKind.u64.wrap (IntKind.i64.wrap (a1 + a3))) 1)) + a2)) - w153)) < a3 then
              (rf v169 (IntKind.i64.wrap (z0e .u64 (IntKind.u64.wrap (IntKind.i64.wrap (a1 + a3))) 1)) (IntKind.i64.wrap ((IntKind.i64.wrap ((IntKind.i64.wrap (z0e .u64 (IntKind.u64.wrap (IntKind.i64.wrap (a1 + a3))) 1)) + a2)) - w153)) a3 a4_0_0).bind fun v170 =>
              some v170
            else
              some v169
          else
            some v169
        else
          if (IntKind.i64.wrap (z0e .u64 (IntKind.u64.wrap (IntKind.i64.wrap (a1 + a3))) 1)) < (IntKind.i64.wrap ((IntKind.i64.wrap ((IntKind.i64.wrap (z0e .u64 (IntKind.u64.wrap (IntKind.i64.wrap (a1 + a3))) 1)) + a2)) - w153)) then
            if (IntKind.i64.wrap ((IntKind.i64.wrap ((IntKind.i64.wrap (z0e .u64 (IntKind.u64.wrap (IntKind.i64.wrap (a1 + a3))) 1)) + a2)) - w153)) < a3 then
              (rf a0 (IntKind.i64.wrap (z0e .u64 (IntKind.u64.wrap (IntKind.i64.wrap (a1 + a3))) 1)) (IntKind.i64.wrap ((IntKind.i64.wrap ((IntKind.i64.wrap (z0e .u64 (IntKind.u64.wrap (IntKind.i64.wrap (a1 + a3))) 1)) + a2)) - w153)) a3 a4_0_0).bind fun v171 =>
              some v171
            else
              some a0
          else
            some a0
      else
        if (IntKind.i64.wrap (z0e .u64 (IntKind.u64.wrap (IntKind.i64.wrap (a1 + a3))) 1)) < (IntKind.i64.wrap ((IntKind.i64.wrap ((IntKind.i64.wrap (z0e .u64 (IntKind.u64.wrap (IntKind.i64.wrap (a1 + a3))) 1)) + a2)) - w153)) then
          if (IntKind.i64.wrap ((IntKind.i64.wrap ((IntKind.i64.wrap (z0e .u64 (IntKind.u64.wrap (IntKind.i64.wrap (a1 + a3))) 1)) + a2)) - w153)) < a3 then
            (rf a0 (IntKind.i64.wrap (z0e .u64 (IntKind.u64.wrap (IntKind.i64.wrap (a1 + a3))) 1)) (IntKind.i64.wrap ((IntKind.i64.wrap ((IntKind.i64.wrap (z0e .u64 (IntKind.u64.wrap (IntKind.i64.wrap (a1 + a3))) 1)) + a2)) - w153)) a3 a4_0_0).bind fun v172 =>
            some v172
          else
            some a0
        else
          some a0
instance {a0 : List Int} {a1 : Int} {a2 : Int} {a3 : Int} {a4_0_0 : List Int} {rf : List Int → Int → Int → Int → List Int → Option (List Int)} : Hd (z0W a0 a1 a2 a3 a4_0_0 rf) := ⟨fun (w153, w152) => ([(20, xI w153), (21, xI w152)], [])⟩
abbrev z0U (a0 : List Int) (a1 : Int) (a2 : Int) (a3 : Int) (a4_0_0 : List Int) (rf : List Int → Int → Int → Int → List Int → Option (List Int)) : Int × Int → Option ((Int × Int) ⊕ List Int)
  | (w177, w176) =>
  if w177 < w176 then
    chk (¬ 1 < 0) <|
    (atI a0 (IntKind.i64.wrap ((IntKind.i64.wrap ((IntKind.i64.wrap ((IntKind.i64.wrap (z0e .u64 (IntKind.u64.wrap (IntKind.i64.wrap (a1 + a3))) 1)) + a2)) - 1)) - (IntKind.i64.wrap (z0e .u64 (IntKind.u64.wrap (IntKind.i64.wrap (w177 + w176))) 1))))).bind fun v181 =>
    (atI a0 (IntKind.i64.wrap (z0e .u64 (IntKind.u64.wrap (IntKind.i64.wrap (w177 + w176))) 1))).bind fun v182 =>
    (z0K v181 v182 a4_0_0).bind fun v183 =>
    if v183 < 0 then
      z0n (w177, IntKind.i64.wrap (z0e .u64 (IntKind.u64.wrap (IntKind.i64.wrap (w177 + w176))) 1))
    else
      z0n (IntKind.i64.wrap ((IntKind.i64.wrap (z0e .u64 (IntKind.u64.wrap (IntKind.i64.wrap (w177 + w176))) 1)) + 1), w176)
  else
    z0A <|
    if w177 < a2 then
      if a2 < (IntKind.i64.wrap ((IntKind.i64.wrap ((IntKind.i64.wrap (z0e .u64 (IntKind.u64.wrap (IntKind.i64.wrap (a1 + a3))) 1)) + a2)) - w177)) then
        (z0D a0 w177 a2 (IntKind.i64.wrap ((IntKind.i64.wrap ((IntKind.i64.wrap (z0e .u64 (IntKind.u64.wrap (IntKind.i64.wrap (a1 + a3))) 1)) + a2)) - w177)) a4_0_0).bind fun v184 =>
        if a1 < w177 then
          if w177 < (IntKind.i64.wrap (z0e .u64 (IntKind.u64.wrap (IntKind.i64.wrap (a1 + a3))) 1)) then
            (rf v184 a1 w177 (IntKind.i64.wrap (z0e .u64 (IntKind.u64.wrap (IntKind.i64.wrap (a1 + a3))) 1)) a4_0_0).bind fun v185 =>
            if (IntKind.i64.wrap (z0e .u64 (IntKind.u64.wrap (IntKind.i64.wrap (a1 + a3))) 1)) < (IntKind.i64.wrap ((IntKind.i64.wrap ((IntKind.i64.wrap (z0e .u64 (IntKind.u64.wrap (IntKind.i64.wrap (a1 + a3))) 1)) + a2)) - w177)) then
              if (IntKind.i64.wrap ((IntKind.i64.wrap ((IntKind.i64.wrap (z0e .u64 (IntKind.u64.wrap (IntKind.i64.wrap (a1 + a3))) 1)) + a2)) - w177)) < a3 then
                (rf v185 (IntKind.i64.wrap (z0e .u64 (IntKind.u64.wrap (IntKind.i64.wrap (a1 + a3))) 1)) (IntKind.i64.wrap ((IntKind.i64.wrap ((IntKind.i64.wrap (z0e .u64 (IntKind.u64.wrap (IntKind.i64.wrap (a1 + a3))) 1)) + a2)) - w177)) a3 a4_0_0).bind fun v186 =>
                some v186
              else
                some v185
            else
              some v185
          else
            if (IntKind.i64.wrap (z0e .u64 (IntKind.u64.wrap (IntKind.i64.wrap (a1 + a3))) 1)) < (IntKind.i64.wrap ((IntKind.i64.wrap ((IntKind.i64.wrap (z0e .u64 (IntKind.u64.wrap (IntKind.i64.wrap (a1 + a3))) 1)) + a2)) - w177)) then
              if (IntKind.i64.wrap ((IntKind.i64.wrap ((IntKind.i64.wrap (z0e .u64 (IntKind.u64.wrap (IntKind.i64.wrap (a1 + a3))) 1)) + a2)) - w177)) < a3 then
                (rf v184 (IntKind.i64.wrap (z0e .u64 (IntKind.u64.wrap (IntKind.i64.wrap (a1 + a3))) 1)) (IntKind.i64.wrap ((IntKind.i64.wrap ((IntKind.i64.wrap (z0e .u64 (IntKind.u64.wrap (IntKind.i64.wrap (a1 + a3))) 1)) + a2)) - w177)) a3 a4_0_0).bind fun v187 =>
                some v187
              else
                some v184
            else
              some v184
        else
          if (IntKind.i64.wrap (z0e .u64 (IntKind.u64.wrap (IntKind.i64.wrap (a1 + a3))) 1)) < (IntKind.i64.wrap ((IntKind.i64.wrap ((IntKind.i64.wrap (z0e .u64 (IntKind.u64.wrap (IntKind.i64.wrap (a1 + a3))) 1)) + a2)) - w177)) then
            if (IntKind.i64.wrap ((IntKind.i64.wrap ((IntKind.i64.wrap (z0e .u64 (IntKind.u64.wrap (IntKind.i64.wrap (a1 + a3))) 1)) + a2)) - w177)) < a3 then
              (rf v184 (IntKind.i64.wrap (z0e .u64 (IntKind.u64.wrap (IntKind.i64.wrap (a1 + a3))) 1)) (IntKind.i64.wrap ((IntKind.i64.wrap ((IntKind.i64.wrap (z0e .u64 (IntKind.u64.wrap (IntKind.i64.wrap (a1 + a3))) 1)) + a2)) - w177)) a3 a4_0_0).bind fun v188 =>
              some v188
            else
              some v184
          else
            some v184
      else
        if a1 < w177 then
          if w177 < (IntKind.i64.wrap (z0e .u64 (IntKind.u64.wrap (IntKind.i64.wrap (a1 + a3))) 1)) then
            (rf a0 a1 w177 (IntKind.i64.wrap (z0e .u64 (IntKind.u64.wrap (IntKind.i64.wrap (a1 + a3))) 1)) a4_0_0).bind fun v189 =>
            if (IntKind.i64.wrap (z0e .u64 (IntKind.u64.wrap (IntKind.i64.wrap (a1 + a3))) 1)) < (IntKind.i64.wrap ((IntKind.i64.wrap ((IntKind.i64.wrap (z0e .u64 (IntKind.u64.wrap (IntKind.i64.wrap (a1 + a3))) 1)) + a2)) - w177)) then
              if (IntKind.i64.wrap ((IntKind.i64.wrap ((IntKind.i64.wrap (z0e .u64 (IntKind.u64.wrap (IntKind.i64.wrap (a1 + a3))) 1)) + a2)) - w177)) < a3 then
                (rf v189 (IntKind.i64.wrap (z0e .u64 (IntKind.u64.wrap (IntKind.i64.wrap (a1 + a3))) 1)) (IntKind.i64.wrap ((IntKind.i64.wrap ((IntKind.i64.wrap (z0e .u64 (IntKind.u64.wrap (IntKind.i64.wrap (a1 + a3))) 1)) + a2)) - w177)) a3 a4_0_0).bind fun v190 =>
                some v190
              else
                some v189
            else
              some v189
          else
            if (IntKind.i64.wrap (z0e .u64 (IntKind.u64.wrap (IntKind.i64.wrap (a1 + a3))) 1)) < (IntKind.i64.wrap ((IntKind.i64.wrap ((IntKind.i64.wrap (z0e .u64 (IntKind.u64.wrap (IntKind.i64.wrap (a1 + a3))) 1)) + a2)) - w177)) then
              if (IntKind.i64.wrap ((IntKind.i64.wrap ((IntKind.i64.wrap (z0e .u64 (IntKind.u64.wrap (IntKind.i64.wrap (a1 + a3))) 1)) + a2)) - w177)) < a3 then
                (rf a0 (IntKind.i64.wrap (z0e .u64 (IntKind.u64.wrap (IntKind.i64.wrap (a1 + a3))) 1)) (IntKind.i64.wrap ((IntKind.i64.wrap ((IntKind.i64.wrap (z0e .u64 (IntKind.u64.wrap (IntKind.i64.wrap (a1 + a3))) 1)) + a2)) - w177)) a3 a4_0_0).bind fun v191 =>
                some v191
              else
                some a0
            else
              some a0
        else
          if (IntKind.i64.wrap (z0e .u64 (IntKind.u64.wrap (IntKind.i64.wrap (a1 + a3))) 1)) < (IntKind.i64.wrap ((IntKind.i64.wrap ((IntKind.i64.wrap (z0e .u64 (IntKind.u64.wrap (IntKind.i64.wrap (a1 + a3))) 1)) + a2)) - w177)) then
            if (IntKind.i64.wrap ((IntKind.i64.wrap ((IntKind.i64.wrap (z0e .u64 (IntKind.u64.wrap (IntKind.i64.wrap (a1 + a3))) 1)) + a2)) - w177)) < a3 then
              (rf a0 (IntKind.i64.wrap (z0e .u64 (IntKind.u64.wrap (IntKind.i64.wrap (a1 + a3))) 1)) (IntKind.i64.wrap ((IntKind.i64.wrap ((IntKind.i64.wrap (z0e .u64 (IntKind.u64.wrap (IntKind.i64.wrap (a1 + a3))) 1)) + a2)) - w177)) a3 a4_0_0).bind fun v192 =>
              some v192
            else
              some a0
          else
            some a0
    else
      if a1 < w177 then
        if w177 < (IntKind.i64.wrap (z0e .u64 (IntKind.u64.wrap (IntKind.i64.wrap (a1 + a3))) 1)) then
          (rf a0 a1 w177 (IntKind.i64.wrap (z0e .u64 (IntKind.u64.wrap (IntKind.i64.wrap (a1 + a3))) 1)) a4_0_0).bind fun v193 =>
          if (IntKind.i64.wrap (z0e .u64 (IntKind.u64.wrap (IntKind.i64.wrap (a1 + a3))) 1)) < (IntKind.i64.wrap ((IntKind.i64.wrap ((IntKind.i64.wrap (z0e .u64 (IntKind.u64.wrap (IntKind.i64.wrap (a1 + a3))) 1)) + a2)) - w177)) then
            if (IntKind.i64.wrap ((IntKind.i64.wrap ((IntKind.i64.wrap (z0e .u64 (IntKind.u64.wrap (IntKind.i64.wrap (a1 + a3))) 1)) + a2)) - w177)) < a3 then
              (rf v193 (IntKind.i64.wrap (z0e .u64 (IntKind.u64.wrap (IntKind.i64.wrap (a1 + a3))) 1)) (IntKind.i64.wrap ((IntKind.i64.wrap ((IntKind.i64.wrap (z0e .u64 (IntKind.u64.wrap (IntKind.i64.wrap (a1 + a3))) 1)) + a2)) - w177)) a3 a4_0_0).bind fun v194 =>
              some v194
            else
              some v193
          else
            some v193
        else
          if (IntKind.i64.wrap (z0e .u64 (IntKind.u64.wrap (IntKind.i64.wrap (a1 + a3))) 1)) < (IntKind.i64.wrap ((IntKind.i64.wrap ((IntKind.i64.wrap (z0e .u64 (IntKind.u64.wrap (IntKind.i64.wrap (a1 + a3))) 1)) + a2)) - w177)) then
            if (IntKind.i64.wrap ((IntKind.i64.wrap ((IntKind.i64.wrap (z0e .u64 (IntKind.u64.wrap (IntKind.i64.wrap (a1 + a3))) 1)) + a2)) - w177)) < a3 then
              (rf a0 (IntKind.i64.wrap (z0e .u64 (IntKind.u64.wrap (IntKind.i64.wrap (a1 + a3))) 1)) (IntKind.i64.wrap ((IntKind.i64.wrap ((IntKind.i64.wrap (z0e .u64 (IntKind.u64.wrap (IntKind.i64.wrap (a1 + a3))) 1)) + a2)) - w177)) a3 a4_0_0).bind fun v195 =>
              some v195
            else
              some a0
          else
            some a0
      else
        if (IntKind.i64.wrap (z0e .u64 (IntKind.u64.wrap (IntKind.i64.wrap (a1 + a3))) 1)) < (IntKind.i64.wrap ((IntKind.i64.wrap ((IntKind.i64.wrap (z0e .u64 (IntKind.u64.wrap (IntKind.i64.wrap (a1 + a3))) 1)) + a2)) - w177)) then
          if (IntKind.i64.wrap ((IntKind.i64.wrap ((IntKind.i64.wrap (z0e .u64 (IntKind.u64.wrap (IntKind.i64.wrap (a1 + a3))) 1)) + a2)) - w177)) < a3 then
            (rf a0 (IntKind.i64.wrap (z0e .u64 (IntKind.u64.wrap (IntKind.i64.wrap (a1 + a3))) 1)) (IntKind.i64.wrap ((IntKind.i64.wrap ((IntKind.i64.wrap (z0e .u64 (IntKind.u64.wrap (IntKind.i64.wrap (a1 + a3))) 1)) + a2)) - w177)) a3 a4_0_0).bind fun v196 =>
            some v196
          else
            some a0
        else
          some a0
instance {a0 : List Int} {a1 : Int} {a2 : Int} {a3 : Int} {a4_0_0 : List Int} {rf : List Int → Int → Int → Int → List Int → Option (List Int)} : Hd (z0U a0 a1 a2 a3 a4_0_0 rf) := ⟨fun (w177, w176) => ([(20, xI w177), (21, xI w176)], [])⟩
def z0v (rf : List Int → Int → Int → Int → List Int → Option (List Int)) (a0 : List Int) (a1 : Int) (a2 : Int) (a3 : Int) (a4_0_0 : List Int) : Option (List Int) :=
  if (IntKind.i64.wrap (a2 - a1)) = 1 then
    z0u (z1c a0 a1 a4_0_0) LFm (a2, a3)
  else
    if (IntKind.i64.wrap (a3 - a2)) = 1 then
      z0u (z0Y a0 a2 a4_0_0) LFm (a1, a2)
    else
      chk (¬ 1 < 0) <|
      if (IntKind.i64.wrap (z0e .u64 (IntKind.u64.wrap (IntKind.i64.wrap (a1 + a3))) 1)) < a2 then
        z0u (z0W a0 a1 a2 a3 a4_0_0 rf) LFm (IntKind.i64.wrap ((IntKind.i64.wrap ((IntKind.i64.wrap (z0e .u64 (IntKind.u64.wrap (IntKind.i64.wrap (a1 + a3))) 1)) + a2)) - a3), IntKind.i64.wrap (z0e .u64 (IntKind.u64.wrap (IntKind.i64.wrap (a1 + a3))) 1))
      else
        z0u (z0U a0 a1 a2 a3 a4_0_0 rf) LFm (a1, a2)
theorem z2i {rf : List Int → Int → Int → Int → List Int → Option (List Int)} [ih : ∀ (a0 : List Int) (a1 : Int) (a2 : Int) (a3 : Int) (a4_0_0 : List Int), Ok (rf a0 a1 a2 a3 a4_0_0) (fun r => L 85 [.os 1 a0.length (a0.map fun x0 => .sc (.int .i64 x0)), .sc (.int .i64 a1), .sc (.int .i64 a2), .sc (.int .i64 a3), .cl 74 [.pr [.sl a4_0_0.length (a4_0_0.map fun x0 => .sc (.int .i64 x0))]]] = some (.tup [], [.os 1 r.length (r.map fun x0 => .sc (.int .i64 x0)), .dead, .dead, .dead, .dead]))] {a0 : List Int} {a1 : Int} {a2 : Int} {a3 : Int} {a4_0_0 : List Int} : Ok (z0v rf a0 a1 a2 a3 a4_0_0) (fun r => L 85 [.os 1 a0.length (a0.map fun x0 => .sc (.int .i64 x0)), .sc (.int .i64 a1), .sc (.int .i64 a2), .sc (.int .i64 a3), .cl 74 [.pr [.sl a4_0_0.length (a4_0_0.map fun x0 => .sc (.int .i64 x0))]]] = some (.tup [], [.os 1 r.length (r.map fun x0 => .sc (.int .i64 x0)), .dead, .dead, .dead, .dead])) := ⟨fun r h => by have h := z5B h; unfold z0v at h; exact z5O zxY zBf zBr⟩
def z0g : Nat → List Int → Int → Int → Int → List Int → Option (List Int)
  | 0 => fun _ _ _ _ _ => none
  | k + 1 => z0v (z0g k)
instance slices_symMergeCmpFunc_int_images_diagram_heights_1_ok : ∀ {k : Nat} {a0 : List Int} {a1 : Int} {a2 : Int} {a3 : Int} {a4_0_0 : List Int}, Ok (z0g k a0 a1 a2 a3 a4_0_0) (fun r => L 85 [.os 1 a0.length (a0.map fun x0 => .sc (.int .i64 x0)), .sc (.int .i64 a1), .sc (.int .i64 a2), .sc (.int .i64 a3), .cl 74 [.pr [.sl a4_0_0.length (a4_0_0.map fun x0 => .sc (.int .i64 x0))]]] = some (.tup [], [.os 1 r.length (r.map fun x0 => .sc (.int .i64 x0)), .dead, .dead, .dead, .dead])) := by
  intro k
  induction k with
  | zero => intros; exact ⟨fun r h => by cases h⟩
  | succ k ih => intros; have ih2 := @ih; exact z2i (rf := z0g k)
abbrev z0x (a1 : Int) (a2_0_0 : List Int) (w45 : Int) : Int × Int × List Int → Option ((Int × Int × List Int) ⊕ ((Int × List Int) ⊕ List Int))
  | (w55, w56, w57) =>
  if w56 ≤ a1 then
    (z0g 5000 w57 w55 (IntKind.i64.wrap (w55 + w45)) w56 a2_0_0).bind fun v59 =>
    z0n (w56, IntKind.i64.wrap (w56 + (IntKind.i64.wrap (2 * w45))), v59)
  else
    z0A <|
    if (IntKind.i64.wrap (w55 + w45)) < a1 then
      (z0g 5000 w57 w55 (IntKind.i64.wrap (w55 + w45)) a1 a2_0_0).bind fun v60 =>
      z0n (IntKind.i64.wrap (w45 * 2), v60)
    else
      z0n (IntKind.i64.wrap (w45 * 2), w57)
instance {a1 : Int} {a2_0_0 : List Int} {w45 : Int} : Hd (z0x a1 a2_0_0 w45) := ⟨fun (w55, w56, w57) => ([(7, xI w55), (8, xI w56)], [(0, .os 1 w57.length (w57.map fun x0 => .sc (.int .i64 x0)))])⟩
abbrev z0y (a1 : Int) (a2_0_0 : List Int) : Int × List Int → Option ((Int × List Int) ⊕ List Int)
  | (w45, w46) =>
  if w45 < a1 then
    z0u (z0x a1 a2_0_0 w45) LFm (0, IntKind.i64.wrap (2 * w45), w46)
  else
    z0A <|
    some w46
instance {a1 : Int} {a2_0_0 : List Int} : Hd (z0y a1 a2_0_0) := ⟨fun (w45, w46) => ([(6, xI w45)], [(0, .os 1 w46.length (w46.map fun x0 => .sc (.int .i64 x0)))])⟩
abbrev z0z (a1 : Int) (a2_0_0 : List Int) : Int × Int × List Int → Option ((Int × Int × List Int) ⊕ List Int)
  | (w32, w33, w34) =>
  if w33 ≤ a1 then
    (z0r w34 w32 w33 a2_0_0).bind fun v36 =>
    z0n (w33, IntKind.i64.wrap (w33 + 20), v36)
  else
    z0A <|
    (z0r w34 w32 a1 a2_0_0).bind fun v37 =>
    z0u (z0y a1 a2_0_0) LFm (20, v37)
instance {a1 : Int} {a2_0_0 : List Int} : Hd (z0z a1 a2_0_0) := ⟨fun (w32, w33, w34) => ([(7, xI w32), (8, xI w33)], [(0, .os 1 w34.length (w34.map fun x0 => .sc (.int .i64 x0)))])⟩
def z0C (a0 : List Int) (a1 : Int) (a2_0_0 : List Int) : Option (List Int) :=
  z0u (z0z a1 a2_0_0) LFm (0, 20, a0)
instance slices_stableCmpFunc_int_images_diagram_heights_1_ok {a0 : List Int} {a1 : Int} {a2_0_0 : List Int} : Ok (z0C a0 a1 a2_0_0) (fun r => L 75 [.os 1 a0.length (a0.map fun x0 => .sc (.int .i64 x0)), .sc (.int .i64 a1), .cl 74 [.pr [.sl a2_0_0.length (a2_0_0.map fun x0 => .sc (.int .i64 x0))]]] = some (.tup [], [.os 1 r.length (r.map fun x0 => .sc (.int .i64 x0)), .dead, .dead])) := ⟨fun r h => by have h := z5B h; unfold z0C at h; exact z5O zy0 zBh zBt⟩
def z0i (a0 : List Int) (a1_0_0 : List Int) : Option (List Int) :=
  (z0C a0 (a0.length : Int) a1_0_0).bind fun v2 =>
  some v2
instance slices_SortStableFunc_Lint_int_images_diagram_heights_1_ok {a0 : List Int} {a1_0_0 : List Int} : Ok (z0i a0 a1_0_0) (fun r => L 52 [.os 1 a0.length (a0.map fun x0 => .sc (.int .i64 x0)), .cl 74 [.pr [.sl a1_0_0.length (a1_0_0.map fun x0 => .sc (.int .i64 x0))]]] = some (.tup [], [.os 1 r.length (r.map fun x0 => .sc (.int .i64 x0)), .dead])) := ⟨fun r h => by have h := z5B h; unfold z0i at h; exact z5O zy1 zBi zBu⟩
abbrev z1x (a0 : Dgm) (w136 : Int) (w138 : List Int) : Int × List Int → Option ((Int × List Int) ⊕ ((Int × List Int × List Int) ⊕ List Int))
  | (w159, w160) =>
  if w159 < (a0.sets.length : Int) then
    (atI a0.below w159).bind fun v165 =>
    (atI v165 w136).bind fun v166 =>
    if v166 = true then
      (atI w160 w136).bind fun v167 =>
      z0n (IntKind.i64.wrap (w159 + 1), (w160.set w136.toNat (IntKind.i64.wrap (v167 + 1))))
    else
      z0n (IntKind.i64.wrap (w159 + 1), w160)
  else
    z0A <|
    z0n (IntKind.i64.wrap (w136 + 1), w160, (w138.set w136.toNat w136))
instance {a0 : Dgm} {w136 : Int} {w138 : List Int} : Hd (z1x a0 w136 w138) := ⟨fun (w159, w160) => ([(34, xI w159)], [(5, .vr [.os 1 w160.length (w160.map fun x0 => .sc (.int .i64 x0))])])⟩
abbrev z1s (a0 : Dgm) (a1 : List Int) (w193 : Int) (v221 : Int) : Int × List Int → Option ((Int × List Int) ⊕ ((Int × List Int) ⊕ List Int))
  | (w231, w232) =>
  if w231 < (a0.sets.length : Int) then
    (atI a0.below w231).bind fun v240 =>
    (atI v240 v221).bind fun v241 =>
    if v241 = true then
      (atI a1 w231).bind fun v242 =>
      (atI a1 v221).bind fun v243 =>
      if v242 = v243 then
        z0n (IntKind.i64.wrap (w231 + 1), w232)
      else
        (atI w232 v221).bind fun v244 =>
        (atI w232 w231).bind fun v245 =>
        z0n (IntKind.i64.wrap (w231 + 1), (w232.set v221.toNat (if v244 < (IntKind.i64.wrap (v245 + 1)) then (IntKind.i64.wrap (v245 + 1)) else v244)))
    else
      z0n (IntKind.i64.wrap (w231 + 1), w232)
  else
    z0A <|
    z0n (IntKind.i64.wrap (w193 + 1), w232)
instance {a0 : Dgm} {a1 : List Int} {w193 : Int} {v221 : Int} : Hd (z1s a0 a1 w193 v221) := ⟨fun (w231, w232) => ([(76, xI w231)], [(9, .os 1 w232.length (w232.map fun x0 => .sc (.int .i64 x0)))])⟩
abbrev z1N (a0 : Dgm) (a1 : List Int) (v169 : List Int) : Int × List Int → Option ((Int × List Int) ⊕ List Int)
  | (w193, w194) =>
  if w193 < (v169.length : Int) then
    (atI v169 w193).bind fun v221 =>
    (atI a0.sets v221).bind fun v222 =>
    (z4t v222).bind fun v223 =>
    if v223 = 1 then
      z0n (IntKind.i64.wrap (w193 + 1), w194)
    else
      z0u (z1s a0 a1 w193 v221) LFm (0, w194)
  else
    z0A <|
    some w194
instance {a0 : Dgm} {a1 : List Int} {v169 : List Int} : Hd (z1N a0 a1 v169) := ⟨fun (w193, w194) => ([(62, xI w193)], [(9, .os 1 w194.length (w194.map fun x0 => .sc (.int .i64 x0)))])⟩
abbrev z1V (a0 : Dgm) (a1 : List Int) : Int × List Int × List Int → Option ((Int × List Int × List Int) ⊕ List Int)
  | (w136, w137, w138) =>
  if w136 < (a0.sets.length : Int) then
    (atI w138 w136).bind fun v154 =>
    z0u (z1x a0 w136 w138) LFm (0, w137)
  else
    z0A <|
    (z0i w138 w137).bind fun v169 =>
    chk (z1L 8 (a0.sets.length : Int)) <|
    z0u (z1N a0 a1 v169) LFm (0, List.replicate (a0.sets.length : Int).toNat (0 : Int))
instance {a0 : Dgm} {a1 : List Int} : Hd (z1V a0 a1) := ⟨fun (w136, w137, w138) => ([(24, xI w136)], [(5, .vr [.os 1 w137.length (w137.map fun x0 => .sc (.int .i64 x0))]), (6, .os 1 w138.length (w138.map fun x0 => .sc (.int .i64 x0)))])⟩
def z1Q (a0 : Dgm) (a1 : List Int) : Option (List Int) :=
  chk (z1L 8 (a0.sets.length : Int)) <|
  z0u (z1V a0 a1) LFm (0, List.replicate (a0.sets.length : Int).toNat (0 : Int), List.replicate (a0.sets.length : Int).toNat (0 : Int))
instance images_diagram_heights_ok {a0 : Dgm} {a1 : List Int} : Ok (z1Q a0 a1) (fun r => L 49 [.agg [.sl a0.sets.length (a0.sets.map fun x0 => .sc (.int .i64 x0)), .sl a0.next.length (a0.next.map fun x0 => .sl x0.length (x0.map fun x1 => .sc (.int .i64 x1))), .sl a0.below.length (a0.below.map fun x0 => .sl x0.length (x0.map fun x1 => .sc (.bool x1)))], .sl a1.length (a1.map fun x0 => .sc (.int .i64 x0))] = some (.os 1 r.length (r.map fun x0 => .sc (.int .i64 x0)), [.dead, .dead])) := ⟨fun r h => by have h := z5B h; unfold z1Q at h; exact z5O zAK zCj zDJ⟩
end
end Go.Proofs.Ytodliknibbafeaa
end
section
namespace Go.Proofs.Ytodliknibbafeaa
open Go
structure TapeOk (t : Tape) : Prop where
  a0 : 0 ≤ t.at_
  a1 : t.at_ ≤ t.l.length
  a2 : t.l.length ≤ 80
theorem zmp (x n : Int) (h1 : 1 ≤ n) (h2 : n < 4611686018427387904) : ∃ v, zae x n = some v ∧ 0 ≤ v ∧ v < n := by
  have hx : x.tmod n < n := Int.tmod_lt_of_pos _ (by omega)
  have hy : -n < x.tmod n := Int.lt_tmod_of_pos x (by omega)
  unfold zae
  rw [if_neg (by omega), z0w _ (by omega)]
  split
  · rw [z2B (by omega) (by omega)]; exact ⟨_, rfl, by omega, by omega⟩
  · exact ⟨_, rfl, by omega, by omega⟩
theorem zeD {t : Tape} (ht : TapeOk t) (n : Int) (h1 : 1 ≤ n) (h2 : n < 4611686018427387904) : ∃ v t', z1U t n = some (v, t') ∧ 0 ≤ v ∧ v < n ∧ TapeOk t' := by
  obtain ⟨a0, a1, a2⟩ := ht
  unfold z1U
  split
  · exact ⟨_, _, rfl, by omega, by omega, a0, a1, a2⟩
  · rename_i hlt
    rw [z2B (x := t.at_ + 1) (by omega) (by omega), z2B (by omega) (by omega)]
    obtain ⟨k, hk⟩ := Int.eq_ofNat_of_zero_le a0
    have e : t.at_ + 1 - 1 = (k : Int) := by omega
    rw [e, z2y (by omega)]
    obtain ⟨v, hv, h3, h4⟩ := zmp t.l[k] n h1 h2
    simp only [Option.bind_some, hv]
    exact ⟨_, _, rfl, h3, h4, by simp only; omega, by simp only; omega, a2⟩
theorem zxv (l : List Int) : ∃ t, zad l = some t ∧ TapeOk t := by
  unfold zad
  split
  · rename_i h
    have := zsw (xs := l) (k := 80) (by omega)
    simp only [Int.cast_ofNat_Int] at this
    rw [this]
    exact ⟨_, rfl, by simp, by simp, by simp only [List.length_take]; omega⟩
  · exact ⟨_, rfl, by simp, by simp, by simp; omega⟩
end Go.Proofs.Ytodliknibbafeaa
end
section
namespace Go.Proofs.Ytodliknibbafeaa
open Go
def zch (m n : Nat) (r : List Int) : Prop := r.length = m ∧ ∀ x ∈ r, 0 ≤ x ∧ x < n
structure DfaOk (d : DFA) (m n : Nat) : Prop where
  lt : d.letters = m
  m1 : 1 ≤ m
  m6 : m ≤ 6
  n1 : 1 ≤ n
  fin : d.final.length = n
  nl : d.next.length = n
  s0 : 0 ≤ d.start
  s1 : d.start < n
  row : ∀ r ∈ d.next, zch m n r
theorem zsR {σ τ ρ : Type} {b : σ → Option (σ ⊕ (τ ⊕ ρ))} (I : σ → Prop) (m : σ → Nat) (Post : τ → Prop) {s : σ} (hI : I s) (hm : m s < LFm)
    (step : ∀ s, I s → (∃ s', b s = some (.inl s') ∧ I s' ∧ m s' < m s) ∨ (∃ r, b s = some (.inr (.inl r)) ∧ Post r)) : ∃ r, z0u b LFm s = some (.inl r) ∧ Post r := by
  obtain ⟨r, h1, r', h2, h3⟩ := z3c I m (fun r => ∃ t, r = .inl t ∧ Post t) (fun s hs => (step s hs).imp id fun ⟨r, h, hp⟩ => ⟨_, h, r, rfl, hp⟩) LFm s hI hm
  exact ⟨r', by rw [h1, h2], h3⟩
theorem znJ {α : Type} {l : List α} {x y : α} : y ∈ l ++ [x] ↔ y ∈ l ∨ y = x := by simp
theorem zxT {t : Tape} (ht : TapeOk t) (m most : Nat) (hm : 1 ≤ m ∧ m ≤ 6) (hk : 1 ≤ most ∧ most ≤ 1000) : ∃ d t' n, z4d t m most = some (d, t') ∧ DfaOk d m n ∧ n ≤ most ∧ TapeOk t' := by
  unfold z4d
  obtain ⟨v, t1, e1, v0, v1, ht1⟩ := zeD ht (most : Int) (by omega) (by omega)
  simp only [e1, Option.bind_some]
  obtain ⟨k, rfl⟩ := Int.eq_ofNat_of_zero_le v0
  have hw : IntKind.i64.wrap (1 + (k : Int)) = ((k + 1 : Nat) : Int) := by rw [z2B (by omega) (by omega)]; omega
  rw [hw]
  obtain ⟨s, t2, e2, s0, s1, ht2⟩ := zeD ht1 ((k + 1 : Nat) : Int) (by omega) (by omega)
  simp only [e2, Option.bind_some]
  refine Exists.elim (z3c (b := z3O m ((k : Int), t1) (s, t2)) (fun z => 0 ≤ z.1 ∧ z.1 ≤ (k + 1 : Nat) ∧ TapeOk ⟨z.2.1, z.2.2.1⟩ ∧ (z.2.2.2.1.length : Int) = z.1 ∧ (z.2.2.2.2.length : Int) = z.1 ∧ ∀ r ∈ z.2.2.2.2, zch m (k + 1) r) (fun z => k + 2 - z.1.toNat)
    (fun r => DfaOk r.1 m (k + 1) ∧ TapeOk r.2) ?_ LFm (0, t2.l, t2.at_, [], []) ⟨by simp, by simp; omega, ht2, by simp, by simp, by simp⟩ (by simp only [LFm]; omega)) fun r h => ⟨r.1, r.2, k + 1, h.1, h.2.1, by omega, h.2.2⟩
  rintro ⟨i, tl, ta, fs, rs⟩ ⟨i0, i1, i2, i3, i4, i5⟩
  simp only at i0 i1 i2 i3 i4 i5 ⊢
  simp only [z3O, hw]
  by_cases hi : i < ((k + 1 : Nat) : Int)
  · left
    rw [if_pos hi]
    obtain ⟨u, t3, e3, u0, u1, ht3⟩ := zeD i2 2 (by omega) (by omega)
    simp only [e3, Option.bind_some]
    rw [z0w _ (by unfold z2Q; omega)]
    refine Exists.elim (zsR (b := z3B m ((k : Int), t1) i fs rs (u, t3)) (fun z => 0 ≤ z.1 ∧ z.1 ≤ m ∧ TapeOk ⟨z.2.1, z.2.2.1⟩ ∧ (z.2.2.2.length : Int) = z.1 ∧ ∀ x ∈ z.2.2.2, 0 ≤ x ∧ x < (k + 1 : Nat)) (fun z => m + 1 - z.1.toNat)
      (fun z => z.1 = i + 1 ∧ TapeOk ⟨z.2.1, z.2.2.1⟩ ∧ (z.2.2.2.1.length : Int) = i + 1 ∧ (z.2.2.2.2.length : Int) = i + 1 ∧ ∀ r ∈ z.2.2.2.2, zch m (k + 1) r) (s := (0, t3.l, t3.at_, [])) ⟨by simp, by simp, ht3, by simp, by simp⟩ (by simp only [LFm]; omega) ?_) fun r h => ⟨_, h.1, ⟨by have := h.2.1; omega, by have := h.2.1; omega, h.2.2.1, by have := h.2.1; have := h.2.2.2.1; omega, by have := h.2.1; have := h.2.2.2.2.1; omega, h.2.2.2.2.2⟩, by have := h.2.1; omega⟩
    rintro ⟨j, ul, ua, row⟩ ⟨j0, j1, j2, j3, j4⟩
    simp only at j0 j1 j2 j3 j4 ⊢
    simp only [z3B, hw]
    by_cases hj : j < (m : Int)
    · left
      rw [if_pos hj]
      obtain ⟨x, t4, e4, x0, x1, ht4⟩ := zeD j2 ((k + 1 : Nat) : Int) (by omega) (by omega)
      simp only [e4, Option.bind_some]
      rw [z0w _ (by unfold z2Q; omega), z2B (by omega) (by omega)]
      refine ⟨_, rfl, ⟨by simp only; omega, by simp only; omega, ht4, by simp only [List.length_append, List.length_singleton]; omega, fun y hy => ?_⟩, by simp only; omega⟩
      rcases znJ.1 hy with h | rfl
      · exact j4 y h
      · exact ⟨x0, x1⟩
    · right
      rw [if_neg hj, z0w _ (by unfold z2Q; omega), z2B (by omega) (by omega)]
      refine ⟨_, rfl, by simp only, j2, by simp only [List.length_append, List.length_singleton]; omega, by simp only [List.length_append, List.length_singleton]; omega, fun y hy => ?_⟩
      rcases znJ.1 hy with h | rfl
      · exact i5 y h
      · exact ⟨by omega, j4⟩
  · right
    rw [if_neg hi]
    exact ⟨_, rfl, ⟨rfl, hm.1, hm.2, by omega, by simp only; omega, by simp only; omega, s0, s1, i5⟩, i2⟩
theorem zqz {t : Tape} (ht : TapeOk t) : ∃ m t', z3b t = some (((m : Nat) : Int), t') ∧ 1 ≤ m ∧ m ≤ 2 ∧ TapeOk t' := by
  unfold z3b
  obtain ⟨v, t1, e1, v0, v1, ht1⟩ := zeD ht 8 (by omega) (by omega)
  simp only [e1, Option.bind_some]
  obtain ⟨k, rfl⟩ := Int.eq_ofNat_of_zero_le v0
  have : zy8 .i64 (k : Int) 7 = ((k / 7 : Nat) : Int) := by
    unfold zy8
    rw [show ((k : Int).tdiv 7) = ((k / 7 : Nat) : Int) by rfl, z2B (by omega) (by omega)]
  rw [this, z2B (by omega) (by omega)]
  exact ⟨2 - k / 7, t1, by congr 2; omega, by omega, by omega, ht1⟩
end Go.Proofs.Ytodliknibbafeaa
end
section
namespace Go.Proofs.Ytodliknibbafeaa
open Go
set_option maxRecDepth 100000
theorem zui {m n : Nat} {rs : List (List Int)} (h : ∀ r ∈ rs, zch m n r) {r' : List Int} (hr : zch m n r') (i : Nat) : ∀ r ∈ rs.set i r', zch m n r := fun r hm => by
  rcases List.mem_or_eq_of_mem_set hm with h' | rfl
  · exact h r h'
  · exact hr
theorem zvR {m n : Nat} {r : List Int} (h : zch m n r) {x : Int} (hx : 0 ≤ x ∧ x < n) (j : Nat) : zch m n (r.set j x) := ⟨by simp [h.1], fun y hy => by
  rcases List.mem_or_eq_of_mem_set hy with h' | rfl
  · exact h.2 y h'
  · exact hx⟩
theorem zvc {m n : Nat} {rs : List (List Int)} (h : ∀ r ∈ rs, zch m n r) {k : Nat} (hk : k < rs.length) : zch m n rs[k] := h _ (List.getElem_mem hk)
end Go.Proofs.Ytodliknibbafeaa
end
section
namespace Go.Proofs.Ytodliknibbafeaa
open Go
set_option maxRecDepth 100000
theorem zcw {a : Nat} (h : a < 2 ^ 62) : IntKind.i64.wrap (a : Int) = (a : Int) := z2B (by omega) (by omega)
theorem zv3 {a b : Nat} (ha : a < 2 ^ 62) (hb : b < 2 ^ 62) : z1T .i64 (a : Int) (b : Int) = ((a &&& b : Nat) : Int) := by
  unfold z1T
  have e : (BitVec.ofInt IntKind.i64.bits (a : Int) &&& BitVec.ofInt IntKind.i64.bits (b : Int)).toNat = a &&& b := by
    show (BitVec.ofInt 64 (a : Int) &&& BitVec.ofInt 64 (b : Int)).toNat = _
    rw [BitVec.toNat_and, BitVec.toNat_ofInt, BitVec.toNat_ofInt]
    have h1 : ((a : Int) % ((2 ^ 64 : Nat) : Int)).toNat = a := by omega
    have h2 : ((b : Int) % ((2 ^ 64 : Nat) : Int)).toNat = b := by omega
    rw [h1, h2]
  rw [e]
  exact zcw (Nat.lt_of_le_of_lt Nat.and_le_left ha)
theorem zw2 {a b k : Nat} (ha : a < 2 ^ k) (hb : b < 2 ^ k) : a ||| b < 2 ^ k := Nat.or_lt_two_pow ha hb
theorem zsE {a b : Nat} (ha : a < 2 ^ 62) (hb : b < 2 ^ 62) : orI .i64 (a : Int) (b : Int) = ((a ||| b : Nat) : Int) := by
  unfold orI
  have e : (BitVec.ofInt IntKind.i64.bits (a : Int) ||| BitVec.ofInt IntKind.i64.bits (b : Int)).toNat = a ||| b := by
    show (BitVec.ofInt 64 (a : Int) ||| BitVec.ofInt 64 (b : Int)).toNat = _
    rw [BitVec.toNat_or, BitVec.toNat_ofInt, BitVec.toNat_ofInt]
    have h1 : ((a : Int) % ((2 ^ 64 : Nat) : Int)).toNat = a := by omega
    have h2 : ((b : Int) % ((2 ^ 64 : Nat) : Int)).toNat = b := by omega
    rw [h1, h2]
  rw [e]
  exact zcw (zw2 ha hb)
theorem zmS {a b : Nat} (ha : a < 2 ^ 62) (hb : b < 2 ^ 62) : zin .i64 (a : Int) (b : Int) = 0 ↔ a &&& b = a := by
  unfold zin
  have e : (BitVec.ofInt IntKind.i64.bits (a : Int) &&& ~~~ BitVec.ofInt IntKind.i64.bits (b : Int)).toNat = (BitVec.ofNat 64 a &&& ~~~ BitVec.ofNat 64 b).toNat := by
    show (BitVec.ofInt 64 (a : Int) &&& ~~~ BitVec.ofInt 64 (b : Int)).toNat = _
    congr 2
  rw [e]
  have hle : (BitVec.ofNat 64 a &&& ~~~ BitVec.ofNat 64 b).toNat ≤ a := by
    rw [BitVec.toNat_and]
    refine Nat.le_trans Nat.and_le_left ?_
    simp only [BitVec.toNat_ofNat]
    omega
  rw [zcw (by omega)]
  have ta : ∀ i, (BitVec.ofNat 64 a).toNat.testBit i = a.testBit i := fun i => by
    rw [BitVec.toNat_ofNat, Nat.mod_eq_of_lt (by omega)]
  have tb : ∀ i, (BitVec.ofNat 64 b).toNat.testBit i = b.testBit i := fun i => by
    rw [BitVec.toNat_ofNat, Nat.mod_eq_of_lt (by omega)]
  have hz : ∀ i, (BitVec.ofNat 64 a &&& ~~~ BitVec.ofNat 64 b).toNat.testBit i = (a.testBit i && !(b.testBit i)) := fun i => by
    rw [BitVec.testBit_toNat, BitVec.getLsbD_and, BitVec.getLsbD_not]
    by_cases hi : i < 64
    · simp only [hi, decide_true, Bool.true_and]
      rw [← BitVec.testBit_toNat, ← BitVec.testBit_toNat, ta, tb]
    · have : a.testBit i = false := Nat.testBit_lt_two_pow (Nat.lt_of_lt_of_le ha (Nat.pow_le_pow_right (by omega) (by omega)))
      rw [← BitVec.testBit_toNat, ta, this]; simp
  constructor
  · intro h
    have h0 : (BitVec.ofNat 64 a &&& ~~~ BitVec.ofNat 64 b).toNat = 0 := by omega
    apply Nat.eq_of_testBit_eq
    intro i
    have := hz i
    rw [h0, Nat.zero_testBit] at this
    rw [Nat.testBit_and]
    revert this
    cases a.testBit i <;> cases b.testBit i <;> simp
  · intro h
    have : (BitVec.ofNat 64 a &&& ~~~ BitVec.ofNat 64 b).toNat = 0 := by
      apply Nat.eq_of_testBit_eq
      intro i
      have e2 : (a &&& b).testBit i = a.testBit i := by rw [h]
      rw [Nat.testBit_and] at e2
      rw [hz, Nat.zero_testBit]
      revert e2
      cases a.testBit i <;> cases b.testBit i <;> simp
    omega
theorem znw {a q : Nat} (hq : q ≤ 64) : z0e .i64 (a : Int) (q : Int) = ((a >>> q : Nat) : Int) := by
  unfold z0e
  have e : min ((q : Int).toNat) IntKind.i64.bits = q := by
    show min ((q : Int).toNat) 64 = q
    omega
  rw [e, Nat.shiftRight_eq_div_pow, Int.fdiv_eq_ediv_of_nonneg _ (by exact Int.pow_nonneg (by omega))]
  simp
theorem z8c {q : Nat} (hq : q ≤ 61) : zqi .i64 1 (q : Int) = ((2 ^ q : Nat) : Int) := by
  rw [zse]
  have e : min ((q : Int).toNat) IntKind.i64.bits = q := by
    show min ((q : Int).toNat) 64 = q
    omega
  rw [e, Int.one_mul]
  have : ((2 : Int) ^ q) = ((2 ^ q : Nat) : Int) := by simp
  rw [this]
  exact zcw (Nat.pow_lt_pow_right (by omega) (by omega))
theorem zmP {a q : Nat} (ha : a < 2 ^ 62) (hq : q ≤ 64) : (z1T .i64 (z0e .i64 (a : Int) (q : Int)) 1 = 1) ↔ a.testBit q = true := by
  rw [znw hq, show (1 : Int) = ((1 : Nat) : Int) from rfl, zv3 (by rw [Nat.shiftRight_eq_div_pow]; exact Nat.lt_of_le_of_lt (Nat.div_le_self _ _) ha) (by decide), Nat.testBit]
  have : (1 &&& a >>> q) = (a >>> q) &&& 1 := Nat.and_comm ..
  rw [this]
  have h2 := Nat.and_one_is_mod (a >>> q)
  rw [h2]
  simp only [bne_iff_ne, ne_eq]
  omega
theorem zyt {q : Nat} (h : q < 2 ^ 62) : IntKind.u64.wrap (q : Int) = (q : Int) := by rw [IntKind.wrap_u64]; omega
def znI (rows : List (List Int)) (s a : Nat) : Nat → Nat
  | 0 => 0
  | q + 1 => if s.testBit q = true then znI rows s a q ||| 2 ^ ((rows.getD q []).getD a 0).toNat else znI rows s a q
def mvN (d : DFA) (s a : Nat) : Nat := znI d.next s a d.next.length
theorem zc0 {d : DFA} {m n : Nat} (hd : DfaOk d m n) {q a : Nat} (hq : q < n) (ha : a < m) : ∃ h1 : q < d.next.length, ∃ h2 : a < d.next[q].length, (d.next.getD q []).getD a 0 = d.next[q][a] ∧ 0 ≤ d.next[q][a] ∧ d.next[q][a] < n := by
  have h1 : q < d.next.length := by rw [hd.nl]; exact hq
  have hr := hd.row _ (List.getElem_mem h1)
  have h2 : a < d.next[q].length := by rw [hr.1]; exact ha
  exact ⟨h1, h2, by simp [List.getD, h1, h2], hr.2 _ (List.getElem_mem h2)⟩
theorem znH {d : DFA} {m n : Nat} (hd : DfaOk d m n) {s a : Nat} (ha : a < m) (p : Nat) : ∀ q, q ≤ n → ((znI d.next s a q).testBit p = true ↔ ∃ i, i < q ∧ s.testBit i = true ∧ ((d.next.getD i []).getD a 0).toNat = p)
  | 0, _ => by simp [znI]
  | q + 1, hq => by
    have ih := znH hd (s := s) ha p q (by omega)
    unfold znI
    by_cases hb : s.testBit q = true
    · rw [if_pos hb, Nat.testBit_or, Bool.or_eq_true, ih, Nat.testBit_two_pow]
      constructor
      · rintro (⟨i, h1, h2, h3⟩ | h)
        · exact ⟨i, by omega, h2, h3⟩
        · exact ⟨q, by omega, hb, by simpa using h⟩
      · rintro ⟨i, h1, h2, h3⟩
        by_cases e : i = q
        · subst e; right; simpa using h3
        · left; exact ⟨i, by omega, h2, h3⟩
    · rw [if_neg hb, ih]
      constructor
      · rintro ⟨i, h1, h2, h3⟩; exact ⟨i, by omega, h2, h3⟩
      · rintro ⟨i, h1, h2, h3⟩
        by_cases e : i = q
        · subst e; exact absurd h2 hb
        · exact ⟨i, by omega, h2, h3⟩
theorem zhM {d : DFA} {m n : Nat} (hd : DfaOk d m n) {s a : Nat} (ha : a < m) : ∀ q, q ≤ n → znI d.next s a q < 2 ^ n
  | 0, _ => Nat.two_pow_pos n
  | q + 1, hq => by
    have ih := zhM hd (s := s) ha q (by omega)
    unfold znI
    split
    · obtain ⟨h1, h2, e, h3, h4⟩ := zc0 hd (q := q) (by omega) ha
      refine zw2 ih (Nat.pow_lt_pow_right (by omega) ?_)
      rw [e]; omega
    · exact ih
theorem z7c {d : DFA} {m n : Nat} (hd : DfaOk d m n) {s a : Nat} (ha : a < m) (p : Nat) : (mvN d s a).testBit p = true ↔ ∃ i, i < n ∧ s.testBit i = true ∧ ((d.next.getD i []).getD a 0).toNat = p := by
  unfold mvN; rw [hd.nl]; exact znH hd ha p n (Nat.le_refl _)
theorem zhi {d : DFA} {m n : Nat} (hd : DfaOk d m n) {s a : Nat} (ha : a < m) : mvN d s a < 2 ^ n := by
  unfold mvN; rw [hd.nl]; exact zhM hd ha n (Nat.le_refl _)
theorem zhK {n : Nat} (h : n ≤ 12) : 2 ^ n ≤ 4096 := Nat.pow_le_pow_right (n := 2) (by omega) h
theorem zsJ {d : DFA} {m n : Nat} (hd : DfaOk d m n) (hn : n ≤ 12) {s a : Nat} (hs : s < 2 ^ n) (ha : a < m) : z4u d (s : Int) (a : Int) = some ((mvN d s a : Nat) : Int) := by
  have h12 := zhK hn
  unfold z4u mvN
  refine z1a (s := ((0 : Int), (0 : Int))) n (fun q => (((znI d.next s a q : Nat) : Int), (q : Int))) rfl (by simp only [LFm]; omega) (fun q hq => ?_) ?_
  · have hlt := zhM hd (s := s) ha q (by omega)
    obtain ⟨h1, h2, e, h3, h4⟩ := zc0 hd (q := q) hq ha
    simp only [z4C]
    rw [if_pos (by omega), z2y h1]
    simp only [Option.bind_some]
    rw [z0w _ (by omega), z1O (by omega)]
    by_cases hb : s.testBit q = true
    · rw [if_pos ((zmP (by omega) (by omega)).2 hb), z2y h2]
      simp only [Option.bind_some]
      obtain ⟨v, hv⟩ := Int.eq_ofNat_of_zero_le h3
      rw [z0w _ (by omega), hv, z8c (by omega), zsE (by omega) (Nat.pow_lt_pow_right (by omega) (by omega))]
      simp only [znI]
      rw [if_pos hb, e, hv, Int.toNat_natCast]
    · rw [if_neg (fun h => hb ((zmP (by omega) (by omega)).1 h))]
      simp only [znI]
      rw [if_neg hb]
  · simp only [z4C]
    rw [if_neg (by rw [hd.nl]; omega), hd.nl]
end Go.Proofs.Ytodliknibbafeaa
end
section
namespace Go.Proofs.Ytodliknibbafeaa
open Go
set_option maxRecDepth 100000
def zwI (d : DFA) (r : List Int) : Bool := decide ((r.length : Int) = d.letters) && r.all fun x => decide (0 ≤ x ∧ x < (d.final.length : Int))
def zhc (d : DFA) : Bool := decide (d.next.length = d.final.length) && decide (0 ≤ d.start ∧ d.start < (d.final.length : Int)) && d.next.all (zwI d)
def zwF (d : DFA) : Int := if d.letters < 1 ∨ 6 < d.letters then 1 else if 512 < d.final.length then 3 else if zhc d = true then 0 else 4
def zym (d : DFA) : Prop := d.final.length < 2 ^ 61 ∧ d.next.length < 2 ^ 61 ∧ ∀ r ∈ d.next, r.length < 2 ^ 61
theorem zu1 {d : DFA} (hc : zym d) : z0u (z3w d) LFm 0 = some (if d.next.all (zwI d) = true then 0 else 4) := by
  rw [zkA (l := d.next) ([] : List Int) (zwI d) (A := some 4) (B := some 0) (by have := hc.2.1; omega) (fun k hk => ?_) ?_]
  · split <;> rfl
  · simp only [z3w]
    rw [if_neg (by omega)]
  · simp only [z3w]
    have hkl := hc.2.1
    have hrl := hc.2.2 _ (List.getElem_mem hk)
    rw [if_pos (by omega), z2y hk]
    simp only [Option.bind_some, List.getD, List.getElem?_eq_getElem hk, Option.getD_some]
    by_cases hl : (d.next[k].length : Int) = d.letters
    · rw [if_pos hl]
      rw [zkA (l := d.next[k]) (0 : Int) (fun x => decide (0 ≤ x ∧ x < (d.final.length : Int))) (A := z0A (some 4)) (B := z0n ((k + 1 : Nat) : Int)) (by omega) (fun j hj => ?_) ?_]
      · simp only [zwI, hl, decide_true, Bool.true_and]
      · simp only [z3Q]
        rw [if_neg (by omega), z1O (by omega)]
      · simp only [z3Q]
        rw [if_pos (by omega), z2y hj]
        simp only [Option.bind_some, List.getD, List.getElem?_eq_getElem hj, Option.getD_some]
        by_cases h1 : d.next[k][j] < 0
        · rw [if_pos h1, if_neg (by simp; omega)]
        · rw [if_neg h1]
          by_cases h2 : (d.final.length : Int) ≤ d.next[k][j]
          · rw [if_pos h2, if_neg (by simp; omega)]
          · rw [if_neg h2, if_pos (by simp; omega), z1O (by omega)]
    · rw [if_neg hl]
      rw [if_neg (by simp [zwI, hl])]
theorem ztr {d : DFA} (hc : zym d) : z4K d = some (zwF d) := by
  unfold z4K zwF
  by_cases h1 : d.letters < 1
  · rw [if_pos h1, if_pos (.inl h1)]
  rw [if_neg h1]
  by_cases h2 : 6 < d.letters
  · rw [if_pos h2, if_pos (.inr h2)]
  have hno : ¬ (d.letters < 1 ∨ 6 < d.letters) := by omega
  rw [if_neg h2, if_neg hno]
  by_cases h3 : 512 < (d.final.length : Int)
  · have h3' : 512 < d.final.length := by omega
    rw [if_pos h3, if_pos h3']
  have h3' : ¬ 512 < d.final.length := by omega
  rw [if_neg h3, if_neg h3']
  by_cases h4 : (d.next.length : Int) = (d.final.length : Int)
  · rw [if_pos h4]
    by_cases h5 : d.start < 0
    · rw [if_pos h5, if_neg (by simp [zhc]; omega)]
    rw [if_neg h5]
    by_cases h6 : (d.final.length : Int) ≤ d.start
    · rw [if_pos h6, if_neg (by simp [zhc]; omega)]
    rw [if_neg h6, zu1 hc]
    congr 1
    have e1 : decide (d.next.length = d.final.length) = true := by simp; omega
    have e2 : decide (0 ≤ d.start ∧ d.start < (d.final.length : Int)) = true := by simp; omega
    simp only [zhc, e1, e2, Bool.true_and]
  · rw [if_neg h4, if_neg (by simp [zhc]; omega)]
def zya (d : DFA) : Int := if zwF d = 0 then (if 12 < d.final.length then 3 else 0) else zwF d
theorem zlc {d : DFA} (hc : zym d) : z3t d = some (zya d) := by
  unfold z3t zya
  rw [ztr hc]
  simp only [Option.bind_some]
  split
  · split
    · rw [if_pos (by omega)]
    · rw [if_neg (by omega)]
  · rfl
theorem zwY {d : DFA} {m n : Nat} (hd : DfaOk d m n) (hn : n ≤ 512) : zwF d = 0 := by
  have h1 := hd.lt
  have h2 := hd.m1
  have h3 := hd.m6
  have hf := hd.fin
  have hl := hd.nl
  unfold zwF
  rw [if_neg (by omega), if_neg (by omega), if_pos]
  have e1 : decide (d.next.length = d.final.length) = true := by simp; omega
  have e2 : decide (0 ≤ d.start ∧ d.start < (d.final.length : Int)) = true := by have := hd.s0; have := hd.s1; simp; omega
  simp only [zhc, e1, e2, Bool.true_and, List.all_eq_true]
  intro r hr
  obtain ⟨a, b⟩ := hd.row r hr
  have e3 : decide ((r.length : Int) = d.letters) = true := by simp; omega
  simp only [zwI, e3, Bool.true_and, List.all_eq_true, decide_eq_true_eq]
  intro x hx
  have := b x hx
  omega
theorem zxB {d : DFA} {m n : Nat} (hd : DfaOk d m n) (hn : n ≤ 12) : zya d = 0 := by
  have hf := hd.fin
  unfold zya
  rw [zwY hd (by omega), if_pos rfl, if_neg (by omega)]
theorem zxV {d : DFA} {m n : Nat} (hd : DfaOk d m n) (hn : n ≤ 12) : zym d := ⟨by rw [hd.fin]; omega, by rw [hd.nl]; omega, fun r hr => by have := (hd.row r hr).1; have := hd.m6; omega⟩
theorem ztB {w : ByteArray} {k : Nat} (h : k < w.size) : w[k] = w.data.toList.getD k 0 := by
  have h' : k < w.data.toList.length := by rw [Array.length_toList]; exact h
  rw [List.getD, List.getElem?_eq_getElem h', Option.getD_some, Array.getElem_toList]
  rfl
def zwX (m : Nat) (w : ByteArray) : Prop := w.size ≤ 2048 ∧ ∀ c ∈ w.data.toList, 97 ≤ c.toNat ∧ c.toNat < 97 + m
instance (m : Nat) (w : ByteArray) : Decidable (zwX m w) := by unfold zwX; exact inferInstance
theorem z9g {r p : Nat} (hr : r < 2 ^ 62) (hp : p < 2 ^ 62) : z2t (r : Int) (p : Int) = some (decide (p &&& r = p)) := by
  unfold z2t
  congr 1
  rw [Bool.eq_iff_iff]; simp only [decide_eq_true_eq]
  exact zmS hp hr
def z4q (d : DFA) : Nat → List UInt8 → Nat
  | s, [] => s
  | s, c :: w => z4q d (mvN d s (c.toNat - 97)) w
theorem z6v (d : DFA) : ∀ (s : Nat) (u v : List UInt8), z4q d s (u ++ v) = z4q d (z4q d s u) v
  | s, [], v => rfl
  | s, c :: u, v => by simp only [List.cons_append, z4q, z6v]
theorem zhE {d : DFA} {m n : Nat} (hd : DfaOk d m n) : ∀ {w : List UInt8} {s : Nat}, s < 2 ^ n → (∀ c ∈ w, 97 ≤ c.toNat ∧ c.toNat < 97 + m) → z4q d s w < 2 ^ n
  | [], s, hs, _ => hs
  | c :: w, s, hs, hw => by
    have hc := hw c (List.mem_cons_self ..)
    exact zhE (w := w) (s := mvN d s (c.toNat - 97)) hd (zhi hd (by omega)) fun c' hc' => hw c' (List.mem_cons_of_mem _ hc')
theorem zrZ {α : Type} {l : List α} {k : Nat} (h : k < l.length) : l.take (k + 1) = l.take k ++ [l[k]] := by rw [List.take_succ_eq_append_getElem h]
end Go.Proofs.Ytodliknibbafeaa
end

/- Proved here: the law HolonomyClosed returns true for every input, and its arguments read afterwards as before. No condition. -/
import Derived.Test.YtodliknibbafeaaGreatMCL6
import Derived.ChangeOld
import Derived.ChangeReads
import Derived.Below
import Derived.ChangeSlices
import Derived.Deep.Grids
import Derived.WideShapes
import Derived.WalkKit
import Derived.ProofKit
import Derived.Test.YtodliknibbafeaaGreatRows
import Derived.Test.YtodliknibbafeaaGreatChecked
import Derived.OpenShut
import Derived.ShutString
import Derived.Deep.DeepHandedRow
set_option linter.unusedVariables false
set_option linter.unusedSimpArgs false
namespace Go.Proofs.YtodliknibbafeaaGreat
section
open Go
set_option maxRecDepth 100000
def exT : T := .agg [.sc (.int .i64 2), .sc (.int .i64 0), .sl 3 [.sc (.bool true), .sc (.bool false), .sc (.bool false)], .sl 3 [.sl 2 [.sc (.int .i64 1), .sc (.int .i64 0)], .sl 2 [.sc (.int .i64 2), .sc (.int .i64 0)], .sl 2 [.sc (.int .i64 0), .sc (.int .i64 2)]]]
def ziG : List T := [.sc (.int .i64 7), .sc (.int .i64 3), .sc (.int .i64 5), .sc (.int .i64 6), .sc (.int .i64 1), .sc (.int .i64 2), .sc (.int .i64 4)]
def dgT : T := .agg [.sl 7 [.sc (.int .i64 7), .sc (.int .i64 3), .sc (.int .i64 5), .sc (.int .i64 6), .sc (.int .i64 1), .sc (.int .i64 2), .sc (.int .i64 4)], .sl 7 [.sl 2 [.sc (.int .i64 0), .sc (.int .i64 2)], .sl 2 [.sc (.int .i64 3), .sc (.int .i64 4)], .sl 2 [.sc (.int .i64 1), .sc (.int .i64 2)], .sl 2 [.sc (.int .i64 2), .sc (.int .i64 2)], .sl 2 [.sc (.int .i64 5), .sc (.int .i64 4)], .sl 2 [.sc (.int .i64 6), .sc (.int .i64 4)], .sl 2 [.sc (.int .i64 4), .sc (.int .i64 6)]], .sl 7 [.sl 7 [.sc (.bool true), .sc (.bool false), .sc (.bool false), .sc (.bool false), .sc (.bool false), .sc (.bool false), .sc (.bool false)], .sl 7 [.sc (.bool true), .sc (.bool true), .sc (.bool true), .sc (.bool true), .sc (.bool false), .sc (.bool false), .sc (.bool false)], .sl 7 [.sc (.bool true), .sc (.bool true), .sc (.bool true), .sc (.bool true), .sc (.bool false), .sc (.bool false), .sc (.bool false)], .sl 7 [.sc (.bool true), .sc (.bool true), .sc (.bool true), .sc (.bool true), .sc (.bool false), .sc (.bool false), .sc (.bool false)], .sl 7 [.sc (.bool true), .sc (.bool true), .sc (.bool true), .sc (.bool true), .sc (.bool true), .sc (.bool true), .sc (.bool true)], .sl 7 [.sc (.bool true), .sc (.bool true), .sc (.bool true), .sc (.bool true), .sc (.bool true), .sc (.bool true), .sc (.bool true)], .sl 7 [.sc (.bool true), .sc (.bool true), .sc (.bool true), .sc (.bool true), .sc (.bool true), .sc (.bool true), .sc (.bool true)]]]
theorem e36 : z2S Tryz.prog xt z1c 10 51 [exT] = some (.os 1 7 ziG, [.dead]) := by kernel_rfl
theorem e37 : z2S Tryz.prog xt z1c 10 52 [exT, .sl 7 ziG] = some (.agg [.sl 7 [.sc (.int .i64 7), .sc (.int .i64 3), .sc (.int .i64 5), .sc (.int .i64 6), .sc (.int .i64 1), .sc (.int .i64 2), .sc (.int .i64 4)], .os 1 7 [.os 1 2 [.sc (.int .i64 0), .sc (.int .i64 2)], .os 1 2 [.sc (.int .i64 3), .sc (.int .i64 4)], .os 1 2 [.sc (.int .i64 1), .sc (.int .i64 2)], .os 1 2 [.sc (.int .i64 2), .sc (.int .i64 2)], .os 1 2 [.sc (.int .i64 5), .sc (.int .i64 4)], .os 1 2 [.sc (.int .i64 6), .sc (.int .i64 4)], .os 1 2 [.sc (.int .i64 4), .sc (.int .i64 6)]], .os 1 7 [.os 1 7 [.sc (.bool true), .sc (.bool false), .sc (.bool false), .sc (.bool false), .sc (.bool false), .sc (.bool false), .sc (.bool false)], .os 1 7 [.sc (.bool true), .sc (.bool true), .sc (.bool true), .sc (.bool true), .sc (.bool false), .sc (.bool false), .sc (.bool false)], .os 1 7 [.sc (.bool true), .sc (.bool true), .sc (.bool true), .sc (.bool true), .sc (.bool false), .sc (.bool false), .sc (.bool false)], .os 1 7 [.sc (.bool true), .sc (.bool true), .sc (.bool true), .sc (.bool true), .sc (.bool false), .sc (.bool false), .sc (.bool false)], .os 1 7 [.sc (.bool true), .sc (.bool true), .sc (.bool true), .sc (.bool true), .sc (.bool true), .sc (.bool true), .sc (.bool true)], .os 1 7 [.sc (.bool true), .sc (.bool true), .sc (.bool true), .sc (.bool true), .sc (.bool true), .sc (.bool true), .sc (.bool true)], .os 1 7 [.sc (.bool true), .sc (.bool true), .sc (.bool true), .sc (.bool true), .sc (.bool true), .sc (.bool true), .sc (.bool true)]]], [.dead, .dead]) := by kernel_rfl
def sr0 : T := .tup [.os 1 7 [.sc (.int .i64 0), .sc (.int .i64 2), .sc (.int .i64 1), .sc (.int .i64 3), .sc (.int .i64 4), .sc (.int .i64 5), .sc (.int .i64 6)], .os 1 7 [.sc (.string ByteArray.empty), .sc (.string ⟨#[98, 97]⟩), .sc (.string ⟨#[98]⟩), .sc (.string ⟨#[98, 97, 97]⟩), .sc (.string ⟨#[98, 97, 98]⟩), .sc (.string ⟨#[98, 97, 98, 97]⟩), .sc (.string ⟨#[98, 97, 98, 97, 97]⟩)]]
theorem zto : z2S Tryz.prog xt z1c 6 56 [dgT, .sc (.int .i64 0)] = some (sr0, [.dead, .dead]) := by kernel_rfl
def sr1 : T := .tup [.os 1 6 [.sc (.int .i64 1), .sc (.int .i64 3), .sc (.int .i64 4), .sc (.int .i64 2), .sc (.int .i64 5), .sc (.int .i64 6)], .os 1 7 [.sc (.string ByteArray.empty), .sc (.string ByteArray.empty), .sc (.string ⟨#[97, 97]⟩), .sc (.string ⟨#[97]⟩), .sc (.string ⟨#[98]⟩), .sc (.string ⟨#[98, 97]⟩), .sc (.string ⟨#[98, 97, 97]⟩)]]
theorem ztn : z2S Tryz.prog xt z1c 6 56 [dgT, .sc (.int .i64 1)] = some (sr1, [.dead, .dead]) := by kernel_rfl
def sr2 : T := .tup [.os 1 6 [.sc (.int .i64 2), .sc (.int .i64 1), .sc (.int .i64 3), .sc (.int .i64 4), .sc (.int .i64 5), .sc (.int .i64 6)], .os 1 7 [.sc (.string ByteArray.empty), .sc (.string ⟨#[97]⟩), .sc (.string ByteArray.empty), .sc (.string ⟨#[97, 97]⟩), .sc (.string ⟨#[97, 98]⟩), .sc (.string ⟨#[97, 98, 97]⟩), .sc (.string ⟨#[97, 98, 97, 97]⟩)]]
theorem ztm : z2S Tryz.prog xt z1c 6 56 [dgT, .sc (.int .i64 2)] = some (sr2, [.dead, .dead]) := by kernel_rfl
def sr3 : T := .tup [.os 1 6 [.sc (.int .i64 3), .sc (.int .i64 2), .sc (.int .i64 1), .sc (.int .i64 4), .sc (.int .i64 5), .sc (.int .i64 6)], .os 1 7 [.sc (.string ByteArray.empty), .sc (.string ⟨#[97, 97]⟩), .sc (.string ⟨#[97]⟩), .sc (.string ByteArray.empty), .sc (.string ⟨#[97, 97, 98]⟩), .sc (.string ⟨#[97, 97, 98, 97]⟩), .sc (.string ⟨#[97, 97, 98, 97, 97]⟩)]]
theorem ztl : z2S Tryz.prog xt z1c 6 56 [dgT, .sc (.int .i64 3)] = some (sr3, [.dead, .dead]) := by kernel_rfl
def sr4 : T := .tup [.os 1 3 [.sc (.int .i64 4), .sc (.int .i64 5), .sc (.int .i64 6)], .os 1 7 [.sc (.string ByteArray.empty), .sc (.string ByteArray.empty), .sc (.string ByteArray.empty), .sc (.string ByteArray.empty), .sc (.string ByteArray.empty), .sc (.string ⟨#[97]⟩), .sc (.string ⟨#[97, 97]⟩)]]
theorem ztk : z2S Tryz.prog xt z1c 6 56 [dgT, .sc (.int .i64 4)] = some (sr4, [.dead, .dead]) := by kernel_rfl
def sr5 : T := .tup [.os 1 3 [.sc (.int .i64 5), .sc (.int .i64 6), .sc (.int .i64 4)], .os 1 7 [.sc (.string ByteArray.empty), .sc (.string ByteArray.empty), .sc (.string ByteArray.empty), .sc (.string ByteArray.empty), .sc (.string ⟨#[98]⟩), .sc (.string ByteArray.empty), .sc (.string ⟨#[97]⟩)]]
theorem ztj : z2S Tryz.prog xt z1c 6 56 [dgT, .sc (.int .i64 5)] = some (sr5, [.dead, .dead]) := by kernel_rfl
def sr6 : T := .tup [.os 1 3 [.sc (.int .i64 6), .sc (.int .i64 4), .sc (.int .i64 5)], .os 1 7 [.sc (.string ByteArray.empty), .sc (.string ByteArray.empty), .sc (.string ByteArray.empty), .sc (.string ByteArray.empty), .sc (.string ⟨#[97]⟩), .sc (.string ⟨#[97, 97]⟩), .sc (.string ByteArray.empty)]]
theorem zti : z2S Tryz.prog xt z1c 6 56 [dgT, .sc (.int .i64 6)] = some (sr6, [.dead, .dead]) := by kernel_rfl
def zou : List (FuncId × List T × T × List T) := [(51, [exT], .os 1 7 ziG, [.dead]), (52, [exT, .sl 7 ziG], .agg [.sl 7 [.sc (.int .i64 7), .sc (.int .i64 3), .sc (.int .i64 5), .sc (.int .i64 6), .sc (.int .i64 1), .sc (.int .i64 2), .sc (.int .i64 4)], .os 1 7 [.os 1 2 [.sc (.int .i64 0), .sc (.int .i64 2)], .os 1 2 [.sc (.int .i64 3), .sc (.int .i64 4)], .os 1 2 [.sc (.int .i64 1), .sc (.int .i64 2)], .os 1 2 [.sc (.int .i64 2), .sc (.int .i64 2)], .os 1 2 [.sc (.int .i64 5), .sc (.int .i64 4)], .os 1 2 [.sc (.int .i64 6), .sc (.int .i64 4)], .os 1 2 [.sc (.int .i64 4), .sc (.int .i64 6)]], .os 1 7 [.os 1 7 [.sc (.bool true), .sc (.bool false), .sc (.bool false), .sc (.bool false), .sc (.bool false), .sc (.bool false), .sc (.bool false)], .os 1 7 [.sc (.bool true), .sc (.bool true), .sc (.bool true), .sc (.bool true), .sc (.bool false), .sc (.bool false), .sc (.bool false)], .os 1 7 [.sc (.bool true), .sc (.bool true), .sc (.bool true), .sc (.bool true), .sc (.bool false), .sc (.bool false), .sc (.bool false)], .os 1 7 [.sc (.bool true), .sc (.bool true), .sc (.bool true), .sc (.bool true), .sc (.bool false), .sc (.bool false), .sc (.bool false)], .os 1 7 [.sc (.bool true), .sc (.bool true), .sc (.bool true), .sc (.bool true), .sc (.bool true), .sc (.bool true), .sc (.bool true)], .os 1 7 [.sc (.bool true), .sc (.bool true), .sc (.bool true), .sc (.bool true), .sc (.bool true), .sc (.bool true), .sc (.bool true)], .os 1 7 [.sc (.bool true), .sc (.bool true), .sc (.bool true), .sc (.bool true), .sc (.bool true), .sc (.bool true), .sc (.bool true)]]], [.dead, .dead]), (56, [dgT, .sc (.int .i64 0)], sr0, [.dead, .dead]), (56, [dgT, .sc (.int .i64 1)], sr1, [.dead, .dead]), (56, [dgT, .sc (.int .i64 2)], sr2, [.dead, .dead]), (56, [dgT, .sc (.int .i64 3)], sr3, [.dead, .dead]), (56, [dgT, .sc (.int .i64 4)], sr4, [.dead, .dead]), (56, [dgT, .sc (.int .i64 5)], sr5, [.dead, .dead]), (56, [dgT, .sc (.int .i64 6)], sr6, [.dead, .dead])]
theorem zot : ∀ x ∈ zou, L x.1 x.2.1 = some x.2.2 := by
  simp only [zou, List.forall_mem_cons]
  exact ⟨z9H 10 e36, z9H 10 e37, z9H 6 zto, z9H 6 ztn, z9H 6 ztm, z9H 6 ztl, z9H 6 ztk, z9H 6 ztj, z9H 6 zti, fun x h => by cases h⟩
theorem cKl : zfQ Tryz.prog xt z1c (tab zou) 14 12 [] = some (.sc (.bool true), []) := by kernel_rfl
theorem cK : L 12 [] = some (.sc (.bool true), []) := zq3 zou 14 cKl zot
def zoP : Option Bool := some true
instance : Ok zoP (fun r => L 12 [] = some (.sc (.bool r), [])) := ⟨fun r h => by cases h; exact cK⟩
end
section
open Go
noncomputable section
set_option maxRecDepth 100000
set_option maxHeartbeats 6000000
abbrev z2r (v268 : List (List Int) × Int) (w298 : Bool) (w299 : Int) (v309 : List Int) : Bool × Int -> Option ((Bool × Int) ⊕ ((Bool × Int) ⊕ (Int ⊕ Bool)))
  | (w312, w313) =>
  if w313 < (v268.1.length : Int) then
    (atI v268.1 w313).bind fun v316 =>
    if w312 = true then
      z0e (true, IntKind.i64.wrap (w313 + 1))
    else
      (z5F v309 v316).bind fun v317 =>
      z0e (v317, IntKind.i64.wrap (w313 + 1))
  else
    z0l <|
    if w298 = true then
      z0e (w312, IntKind.i64.wrap (w299 + 1))
    else
      z0e (false, IntKind.i64.wrap (w299 + 1))
instance {v268 : List (List Int) × Int} {w298 : Bool} {w299 : Int} {v309 : List Int} : Hd (z2r v268 w298 w299 v309) := ⟨fun (w312, w313) => ([(25, xB w312), (117, xI w313)], [])⟩
abbrev z2s (w215 : Int) (v267 : Hol) (v268 : List (List Int) × Int) : Bool × Int -> Option ((Bool × Int) ⊕ (Int ⊕ Bool))
  | (w298, w299) =>
  if w299 < (v267.perms.length : Int) then
    (atI v267.perms w299).bind fun v309 =>
    z0m (z2r v268 w298 w299 v309) LFm (false, 0)
  else
    z0l <|
    if w298 = true then
      z0e (IntKind.i64.wrap (w215 + 1))
    else
      z0l <|
      some false
instance {w215 : Int} {v267 : Hol} {v268 : List (List Int) × Int} : Hd (z2s w215 v267 v268) := ⟨fun (w298, w299) => ([(20, xB w298), (111, xI w299)], [])⟩
abbrev z2t (w215 : Int) (v267 : Hol) (v268 : List (List Int) × Int) (w276 : List Int) : Bool × Int -> Option ((Bool × Int) ⊕ (Int ⊕ Bool))
  | (w283, w284) =>
  if w284 < (v268.1.length : Int) then
    (atI v268.1 w284).bind fun v287 =>
    if w283 = true then
      z0e (true, IntKind.i64.wrap (w284 + 1))
    else
      (z5F v287 w276).bind fun v288 =>
      z0e (v288, IntKind.i64.wrap (w284 + 1))
  else
    z0l <|
    z0m (z2s w215 v267 v268) LFm (w283, 0)
instance {w215 : Int} {v267 : Hol} {v268 : List (List Int) × Int} {w276 : List Int} : Hd (z2t w215 v267 v268 w276) := ⟨fun (w283, w284) => ([(20, xB w283), (97, xI w284)], [])⟩
abbrev z2u (w215 : Int) (v267 : Hol) (v268 : List (List Int) × Int) (v270 : List Int) (v272 : List Int) : Int × List Int -> Option ((Int × List Int) ⊕ (Int ⊕ Bool))
  | (w275, w276) =>
  if w275 < (v270.length : Int) then
    (atI v270 w275).bind fun v279 =>
    if v279 < 0 then
      z0l <|
      z0l <|
      some false
    else
      if (v272.length : Int) <= v279 then
        z0l <|
        z0l <|
        some false
      else
        (atI v272 v279).bind fun v280 =>
        chk (z1s 8 (w276.length + 1)) <|
        z0e (IntKind.i64.wrap (w275 + 1), w276 ++ [v280])
  else
    z0l <|
    z0m (z2t w215 v267 v268 w276) LFm (false, 0)
instance {w215 : Int} {v267 : Hol} {v268 : List (List Int) × Int} {v270 : List Int} {v272 : List Int} : Hd (z2u w215 v267 v268 v270 v272) := ⟨fun (w275, w276) => ([(75, xI w275)], [(17, .os 1 w276.length (w276.map fun x0 => .sc (.int .i64 x0)))])⟩
abbrev z1M (a1 : Int) (a2 : Int) (v163 : List Hol × Int) : Int -> Option (Int ⊕ Bool)
  | w215 =>
  if w215 < (v163.1.length : Int) then
    (atI v163.1 w215).bind fun v267 =>
    (z2I v267).bind fun v268 =>
    if v268.2 = 0 then
      if (v268.1.length : Int) = 0 then
        z0l <|
        some false
      else
        (z7b a1 (v268.1.length : Int)).bind fun v269 =>
        (atI v268.1 v269).bind fun v270 =>
        (z7b a2 (v268.1.length : Int)).bind fun v271 =>
        (atI v268.1 v271).bind fun v272 =>
        z0m (z2u w215 v267 v268 v270 v272) LFm (0, [])
    else
      z0l <|
      some false
  else
    z0l <|
    (zoP).bind fun v318 =>
    some v318
instance {a1 : Int} {a2 : Int} {v163 : List Hol × Int} : Hd (z1M a1 a2 v163) := ⟨fun w215 => ([(43, xI w215)], [])⟩
def z3l (a0 : List Int) (a1 : Int) (a2 : Int) : Option (Bool) :=
  (z9G a0).bind fun v160 =>
  (z3t v160).bind fun v161 =>
  (z4B v161.2 v161.1 4).bind fun v162 =>
  (z5X v162.1).bind fun v163 =>
  if v163.2 = 0 then
    z0m (z1M a1 a2 v163) LFm 0
  else
    some false
theorem z7c {a0 : List Int} {a1 : Int} {a2 : Int} {r : Bool} (h : z3l a0 a1 a2 = some r) : L 4 [.sl a0.length (a0.map fun x0 => .sc (.int .i64 x0)), .sc (.int .i64 a1), .sc (.int .i64 a2)] = some (.sc (.bool r), [.dead, .dead, .dead]) := by
  have h := z4u h; unfold z3l at h; exact z4X zx1 fn4 bd4
end
end
section
open Go
set_option maxRecDepth 100000
theorem zmP {h : Hol} {E : List (List Nat)} {L : Nat} (hE : EltsOk h E L) (i j : Int) (w : Nat) (hw : w < 100000) (X : List Hol × Int) (hX : w < X.1.length) (hat : atI X.1 (w : Int) = some h) : z1M i j X (w : Int) = z0e (((w + 1 : Nat) : Int)) := by
  have h1 := hE.len
  have h2 := hE.ne
  have h3 := hE.pl
  have hl : (E.map toI).length = E.length := List.length_map _
  obtain ⟨a, a1, a2, a3⟩ := z8X i (E.length : Int) (by omega) (by omega)
  obtain ⟨b, b1, b2, b3⟩ := z8X j (E.length : Int) (by omega) (by omega)
  obtain ⟨a, rfl⟩ := Int.eq_ofNat_of_zero_le a2
  obtain ⟨b, rfl⟩ := Int.eq_ofNat_of_zero_le b2
  have ha : a < E.length := by omega
  have hb : b < E.length := by omega
  have hata : atI (E.map toI) (a : Int) = some (toI E[a]) := by rw [z0Q (by simpa using ha)]; simp
  have hatb : atI (E.map toI) (b : Int) = some (toI E[b]) := by rw [z0Q (by simpa using hb)]; simp
  have pa := hE.pm _ (List.getElem_mem ha)
  have pb := hE.pm _ (List.getElem_mem hb)
  have hL := hE.L32
  have hab := hE.mul _ (List.getElem_mem ha) _ (List.getElem_mem hb)
  simp only [z1M]
  rw [if_pos (by omega), hat, Option.bind_some, hE.el, Option.bind_some, if_pos rfl]
  simp only
  rw [hl, if_neg (by omega), a1, Option.bind_some, hata, Option.bind_some, b1, Option.bind_some, hatb, Option.bind_some]
  generalize E[a] = p at *
  generalize E[b] = q at *
  have hpl := pa.len
  have hql := pb.len
  have hcl := z9W p q
  refine z0L (s := ((0 : Int), ([] : List Int))) p.length (fun k => ((k : Int), toI ((z6L p q).take k))) rfl (by simp only [LFm]; omega) (fun k hk => ?_) ?_
  · have hv := pa.lt _ (z0r hk)
    simp only [z2u]
    rw [z0d, z0d, if_pos (by omega), z2c hk, Option.bind_some, if_neg (by omega), if_neg (by omega), z2c (by omega), Option.bind_some, z0q _ (by unfold z1s; rw [z0d, List.length_take]; omega), z1b (by omega), z7n (show k < (z6L p q).length by omega), z4Z, zqu hk]
  · simp only [z2u]
    rw [z0d, if_neg (by omega), ← hcl, List.take_length]
    congr 1
    generalize z6L p q = r at *
    refine z0L (s := (false, (0 : Int))) E.length (fun k => (decide (toI r ∈ (E.map toI).take k), (k : Int))) (by simp) (by simp only [LFm]; omega) (fun k hk => ?_) ?_
    · have hatk : atI (E.map toI) (k : Int) = some (E.map toI)[k] := z0Q (by simpa using hk)
      have hk' : k < (E.map toI).length := by omega
      simp only [z2t]
      rw [hl, if_pos (by omega), hatk, Option.bind_some, z1b (by omega), zhT hk']
      have hkl : ((E.map toI)[k]).length <= 100000 := by
        have := hE.pm _ (List.getElem_mem hk)
        rw [List.getElem_map, z0d, this.len]; omega
      cases hh : decide (toI r ∈ (E.map toI).take k) with
      | true => rw [if_pos rfl, Bool.true_or]
      | false =>
        rw [if_neg (by simp), zi2 hkl, Option.bind_some, Bool.false_or]
        congr 2
        exact decide_eq_decide.2 ⟨fun e => e.symm, fun e => e.symm⟩
    · simp only [z2t]
      rw [hl, if_neg (by omega), ← hl, List.take_length, decide_eq_true (zm5.2 hab)]
      congr 1
      refine z0L (s := (true, (0 : Int))) h.perms.length (fun k => (true, (k : Int))) rfl (by simp only [LFm]; omega) (fun k hk => ?_) ?_
      · have hy := hE.gn _ (List.getElem_mem hk)
        simp only [z2s]
        rw [if_pos (by omega), z0Q hk, Option.bind_some]
        have hyl : (h.perms[k]).length <= 100000 := by
          obtain ⟨e, he, e2⟩ := List.mem_map.1 hy
          have := hE.pm e he
          rw [← e2, z0d, this.len]; omega
        generalize h.perms[k] = y at *
        refine z0L (s := (false, (0 : Int))) E.length (fun t => (decide (y ∈ (E.map toI).take t), (t : Int))) (by simp) (by simp only [LFm]; omega) (fun t ht => ?_) ?_
        · have hatk : atI (E.map toI) (t : Int) = some (E.map toI)[t] := z0Q (by simpa using ht)
          have hk' : t < (E.map toI).length := by omega
          simp only [z2r]
          rw [hl, if_pos (by omega), hatk, Option.bind_some, z1b (by omega), zhT hk']
          cases hh : decide (y ∈ (E.map toI).take t) with
          | true => rw [if_pos rfl, Bool.true_or]
          | false => rw [if_neg (by simp), zi2 hyl, Option.bind_some, Bool.false_or]
        · simp only [z2r]
          rw [hl, if_neg (by omega), ← hl, List.take_length, decide_eq_true hy, if_pos trivial, z1b (by omega)]
      · simp only [z2s]
        rw [if_neg (by omega), if_pos trivial, z1b (by omega)]
theorem zrJ (l : List Int) (w0 : l.length <= maxLen) (z0 : ∀ x ∈ l, (Lit.int .i64 x).wf = true) (i : Int) (w1 : (Lit.int .i64 i).wf = true) (j : Int) (w2 : (Lit.int .i64 j).wf = true) : ∃ outs, L 4 [.sl l.length (l.map fun x => .sc (.int .i64 x)), .sc (.int .i64 i), .sc (.int .i64 j)] = some (bT true, outs) := by
  obtain ⟨t0, e0, h0⟩ := zrw l
  obtain ⟨m, t1, e1, m1, m2, h1⟩ := zjL h0
  obtain ⟨d, t2, n, e2, hd, hn, h2, h32, hs⟩ := zqE h1 m ⟨m1, m2⟩
  have h128 : 2 ^ n <= 2 ^ 7 := Nat.pow_le_pow_right (n := 2) (by omega) hn
  have hS := zdL hd
  obtain ⟨O, x1, o1, o2⟩ := zrO hd hn
  have hOl : O.length <= 32 := by
    rw [o2.length_eq]; unfold zi9
    refine Nat.le_trans (List.length_filter_le _ _) ?_
    rw [List.length_range]
    have := z7E (z1P d m n (z6m d m n)) (z6m d m n).length
    omega
  have key : z3l l i j = some true := by
    unfold z3l
    rw [e0, Option.bind_some, e1, Option.bind_some]
    simp only
    rw [e2, Option.bind_some]
    simp only
    rw [x1, Option.bind_some, if_pos rfl]
    refine z0L (s := (0 : Int)) O.length (fun k => (k : Int)) rfl (by simp only [LFm]; omega) (fun k hk => ?_) ?_
    · have hm := o2.mem_iff.1 (List.getElem_mem hk)
      unfold zi9 at hm
      obtain ⟨hm1, hm2⟩ := List.mem_filter.1 hm
      have hm3 : 0 < z7C d m n (z6m d m n) (z1I d m n (z6m d m n) O[k]) := of_decide_eq_true hm2
      obtain ⟨E, hE, _⟩ := zov hd hn hS (List.mem_range.1 hm1) (zqe hm3) (fun x hx => znM hd hx) h32 hs
      have hat : atI (O.map (za1 d m n (z6m d m n))) (k : Int) = some (za1 d m n (z6m d m n) O[k]) := by
        rw [z0Q (by simpa using hk)]; simp
      exact zmP hE i j k (by omega) _ (by simpa using hk) hat
    · simp only [z1M]
      rw [if_neg (by rw [List.length_map]; omega)]
      rfl
  exact ⟨_, z7c key⟩
end
section
open Go Go.RowKit Go.Sort
set_option maxRecDepth 100000
set_option maxHeartbeats 4000000
def zks (x : Fin 128) : Value := .int .i64 ((x.val : Nat) : Int)
def cfS (p r : Fin 128) : Int := if Lib.compareInt (szN r.val) (szN p.val) ≠ 0 then Lib.compareInt (szN r.val) (szN p.val) else Lib.compareInt (p.val : Nat) (r.val : Nat)
theorem zt3 (k : Nat) (W : World) (hk : k < 128) : Calls Tryz.prog 114 #[.int .u64 (k : Int)] W fun e w' => e = .returned (.int .i64 (szN k)) /\ w' = W := by
  have h0 : (0 : Int) <= (k : Int) := by omega
  have h1 : (k : Int) < 128 := by omega
  go_enter Tryz.func114, Tryz.ntmps114
  go_wp2
  all_goals go_ret
  all_goals refine ⟨congrArg Ending.returned (congrArg (Value.int IntKind.i64) ?_), rfl⟩
  clear h0 h1
  revert k
  decide +kernel
theorem zrr (k : Nat) (W : World) (hk : k < 128) : Calls Tryz.prog 97 #[.int .u64 (k : Int)] W fun e w' => e = .returned (.int .i64 (szN k)) /\ w' = W := by
  go_enter Tryz.func97, Tryz.ntmps97
  go_wp2_with (go_at_call 114; refine (zt3 k _ hk).mono ?_; rintro e w' ⟨rfl, rfl⟩)
  go_ret
  exact ⟨rfl, rfl⟩
theorem zoV (k : Nat) (W : World) (hk : k < 128) : Calls Tryz.prog 78 #[.int .i64 (k : Int)] W fun e w' => e = .returned (.int .i64 (szN k)) /\ w' = W := by
  have hw : IntKind.u64.wrap (k : Int) = (k : Int) := by rw [IntKind.wrap_u64]; omega
  go_enter Tryz.func78, Tryz.ntmps78
  go_wp2_with (go_at_call 97; refine (zrr k _ hk).mono ?_; rintro e w' ⟨rfl, rfl⟩)
  go_ret
  exact ⟨rfl, rfl⟩
theorem or2 (a b : Int) (g : Nat) (W : World) (ha : W.cell? ⟨g, 0, none⟩ = some (.int .i64 a)) (hb : W.cell? ⟨g, 1, none⟩ = some (.int .i64 b)) : Calls Tryz.prog 77 #[.slice (some ⟨g, 0, none⟩) 2 2] W fun e w' => e = .returned (.int .i64 (if a ≠ 0 then a else b)) /\ w' = W := by
  go_enter Tryz.func77, Tryz.ntmps77
  go_wp2
  go_loop [8] (fun vi => ∃ k : Nat, k <= 2 /\ vi = .int .i64 k /\ (0 < k -> a = 0) /\ (1 < k -> b = 0)) (fun vi => 2 - (intOf vi).toNat)
  case atStart => exact ⟨0, by omega, rfl, by omega, by omega⟩
  case round =>
    obtain ⟨k, hk, rfl, h1, h2⟩ := hrel
    rcases (by omega : k = 0 ∨ k = 1 ∨ k = 2) with rfl | rfl | rfl
    · clear h1 h2
      by_cases h : a = 0
      · subst h
        go_wp2
        go_round
        case rel => exact ⟨1, by omega, by go_num, by simp, by simp⟩
        case measure => simp [intOf]
      · go_wp2
        go_ret
        simp [h]
    · have h1 := h1 (by omega)
      clear h2
      subst h1
      by_cases h : b = 0
      · subst h
        go_wp2
        go_round
        case rel => exact ⟨2, by omega, by go_num, by simp, by simp⟩
        case measure => simp [intOf]
      · go_wp2
        go_ret
        simp
    · have h1 := h1 (by omega)
      have h2 := h2 (by omega)
      subst h1 h2
      go_wp2
      go_ret
      simp
theorem zum (x y : Fin 128) (W : World) : Calls Tryz.prog 76 #[zks x, zks y] W fun e w' => e = .returned (.int .i64 (cfS x y)) /\ ∃ q os', w' = grow (W.drewN q) os' := by
  obtain ⟨x, hx⟩ := x
  obtain ⟨y, hy⟩ := y
  unfold cfS zks
  simp only
  generalize hc1 : Lib.compareInt (szN y) (szN x) = c1
  generalize hc2 : Lib.compareInt (x : Int) (y : Int) = c2
  have H1 := Lib.hid hc1
  have H2 := Lib.hid hc2
  clear hc1 hc2
  go_enter Tryz.func76, Tryz.ntmps76
  go_wp2_with (first | (go_at_call 78; first | (refine (zoV y _ hy).mono ?_; rintro e w' ⟨rfl, rfl⟩) | (refine (zoV x _ hx).mono ?_; rintro e w' ⟨rfl, rfl⟩)) | (go_at_call 59; refine (Tryz.cmp_Compare_int _ _ _).mono ?_; rintro e w' ⟨rfl, rfl⟩; first | rw [H1.out] | rw [H2.out]) | (go_at_call 77; refine (or2 c1 c2 _ _ ?_ ?_).mono ?_))
  · simp
  · simp
  all_goals go_ret
  all_goals exact ⟨rfl, 0, #[_], alloc_eq_grow _ _⟩
theorem zmM (a b : Int) : Lib.compareInt a b < 0 ↔ a < b := by unfold Lib.compareInt; split <;> (try split) <;> omega
theorem zpe (a b : Int) : Lib.compareInt a b = 0 ↔ a = b := by unfold Lib.compareInt; split <;> (try split) <;> omega
theorem zp2 (p r : Fin 128) : ltOf cfS p r = true ↔ (szN r.val < szN p.val ∨ (szN r.val = szN p.val /\ p.val < r.val)) := by
  unfold ltOf cfS
  rw [decide_eq_true_iff]
  split
  · rename_i h
    have := (not_congr (zpe (szN r.val) (szN p.val))).1 h
    rw [zmM]
    omega
  · rename_i h
    have := (zpe (szN r.val) (szN p.val)).1 (by simpa using h)
    rw [zmM]
    omega
theorem zm7 (p r : Fin 128) : ltOf cfS p r = false ↔ ¬ (szN r.val < szN p.val ∨ (szN r.val = szN p.val /\ p.val < r.val)) := by
  rw [← zp2]; simp
theorem zvH : SWO (ltOf cfS) where
  irrefl x := by rw [zm7]; omega
  trans x y z h1 h2 := by rw [zp2] at *; omega
  ntrans x y z h1 h2 := by rw [zm7] at *; omega
theorem ze7 (a b : Int) : leI a b = true ↔ (szN b.toNat < szN a.toNat ∨ (szN a.toNat = szN b.toNat /\ a.toNat <= b.toNat)) := by
  unfold leI zpm; simp
theorem zce (x : Int) : ∀ l : List Int, (zon x l).Perm (x :: l)
  | [] => .refl _
  | y :: l => by
    unfold zon
    split
    · exact .refl _
    · exact ((zce x l).cons y).trans (.swap x y l)
theorem zaj : ∀ l : List Int, (z9t l).Perm l
  | [] => .refl _
  | x :: l => (zce x (z9t l)).trans ((zaj l).cons x)
theorem zcd (x : Int) : ∀ l : List Int, l.Pairwise (fun a b => leI a b = true) -> (zon x l).Pairwise (fun a b => leI a b = true)
  | [], _ => by simp [zon]
  | y :: l, h => by
    unfold zon
    rw [List.pairwise_cons] at h
    split
    · rename_i hxy
      refine List.pairwise_cons.2 ⟨fun z hz => ?_, List.pairwise_cons.2 h⟩
      rcases List.mem_cons.1 hz with rfl | hz
      · exact hxy
      · have := h.1 z hz
        rw [ze7] at *
        omega
    · rename_i hxy
      refine List.pairwise_cons.2 ⟨fun z hz => ?_, zcd x l h.2⟩
      rcases List.mem_cons.1 ((zce x l).mem_iff.1 hz) with rfl | hz
      · rw [ze7] at *
        omega
      · exact h.1 z hz
theorem zaG : ∀ l : List Int, (z9t l).Pairwise (fun a b => leI a b = true)
  | [] => by simp [z9t]
  | x :: l => zcd x _ (zaG l)
theorem z8z : ∀ {l1 l2 : List Int}, l1.Perm l2 -> (∀ x ∈ l1, 0 <= x) -> l1.Pairwise (fun a b => leI a b = true) -> l2.Pairwise (fun a b => leI a b = true) -> l1 = l2
  | [], l2, h, _, _, _ => by rw [List.nil_perm] at h; exact h.symm
  | a :: l1, [], h, _, _, _ => by simp at h
  | a :: l1, b :: l2, h, h0, h1, h2 => by
    have hab : a = b := by
      rcases List.mem_cons.1 (h.mem_iff.1 (List.mem_cons_self ..)) with e | ha
      · exact e
      · rcases List.mem_cons.1 (h.mem_iff.2 (List.mem_cons_self ..)) with e | hb
        · exact e.symm
        · have e1 := (List.pairwise_cons.1 h2).1 a ha
          have e2 := (List.pairwise_cons.1 h1).1 b hb
          have p1 := h0 a (List.mem_cons_self ..)
          have p2 := h0 b (h.mem_iff.2 (List.mem_cons_self ..))
          rw [ze7] at e1 e2
          omega
    subst hab
    rw [z8z (List.perm_cons a |>.1 h) (fun x hx => h0 x (List.mem_cons_of_mem _ hx)) (List.pairwise_cons.1 h1).2 (List.pairwise_cons.1 h2).2]
def toF (x : Int) : Fin 128 := ⟨x.toNat % 128, Nat.mod_lt _ (by decide)⟩
def ofF (f : Fin 128) : Int := (f.val : Int)
theorem zoS {x : Int} (h : 0 <= x /\ x < 128) : ofF (toF x) = x := by simp only [ofF, toF]; omega
def zt4 (B : Nat) (K : Nat -> z0a) (b : Nat) : z0a := if B <= b then [0] else K b
theorem zgG {xs : List Int} (hx : ∀ x ∈ xs, 0 <= x /\ x < 128) {d' : Array (Fin 128)} (hp : PermIn 0 (xs.map toF).toArray.size (xs.map toF).toArray d') (hs : SortedIn (ltOf cfS) 0 (xs.map toF).toArray.size d') : d'.toList.map ofF = z9t xs := by
  obtain ⟨h1, _, h3⟩ := hp
  have hsz : d'.size = xs.length := by simpa using h1
  have e1 : (xs.map toF).map ofF = xs := by
    rw [List.map_map]
    conv => rhs; rw [← List.map_id xs]
    exact List.map_congr_left fun x hxm => zoS (hx x hxm)
  have hp2 : d'.toList.Perm (xs.map toF) := by
    have : (d'.extract 0 (xs.map toF).toArray.size).toList = d'.toList := by
      rw [← h1]; simp
    rw [this] at h3
    simp at h3
    rwa [List.take_of_length_le (by simp)] at h3
  have hp3 : (d'.toList.map ofF).Perm xs := by
    have := hp2.map ofF
    rwa [e1] at this
  refine z8z (hp3.trans (zaj xs).symm) (fun x hxm => (hx x (hp3.mem_iff.1 hxm)).1) ?_ (zaG xs)
  rw [List.pairwise_iff_getElem]
  intro i j hi hj hij
  simp only [List.length_map, Array.length_toList] at hi hj
  have := hs i j (by omega) hij (by simp; omega)
  rw [zm7, getElem!_pos d' i hi, getElem!_pos d' j hj] at this
  rw [ze7]
  simp only [List.getElem_map, Array.getElem_toList, ofF, Int.toNat_natCast]
  omega
theorem zit {w : World} {g n : Nat} {os : Array Obj} {cur : Array Value} {e : TypeId} {fr : Nat × Nat} (d : Array (Fin 128)) (hb : w.heap[g]? = some (.cells cur e fr)) : (sortWorld zks w g 0 n d os).heap[g]? = some (.cells (putCells zks 0 d cur) e fr) := by
  unfold sortWorld
  rw [heap_grow_old _ _ (by rw [size_putRow]; exact z1r hb)]
  simp [putRow, mapBlock, Sort.ahead, Array.getElem?_modify, hb, onCells]
theorem zdd {w : World} {g n : Nat} {os : Array Obj} (d : Array (Fin 128)) {b : Nat} (hb : b < w.heap.size) (hne : b ≠ g) : (sortWorld zks w g 0 n d os).heap[b]? = w.heap[b]? := by
  unfold sortWorld
  rw [heap_grow_old _ _ (by rw [size_putRow]; exact hb)]
  simp [putRow, mapBlock, Sort.ahead, Array.getElem?_modify, Ne.symm hne]
theorem znL {w : World} {g n : Nat} {os : Array Obj} (d : Array (Fin 128)) : w.heap.size <= (sortWorld zks w g 0 n d os).heap.size := by
  unfold sortWorld
  rw [size_grow, size_putRow]
  show w.heap.size <= w.heap.size + _
  omega
theorem zgq {I : World -> (Nat -> z0a) -> Prop} {args : List T} {r : T} {outs : List T} (h : znj 76 args = some (r, outs)) : CallOk Tryz.prog I 75 args r outs := by
  unfold znj at h
  split at h
  case h_2 => cases h
  rename_i n cs f fs gs
  split at h
  case isFalse => cases h
  rename_i hfg
  obtain ⟨rfl, hfs, hgs⟩ := hfg
  simp only [Array.isEmpty_iff] at hfs hgs
  subst hfs hgs
  split at h
  case h_2 => cases h
  rename_i xs hxs
  split at h
  case isFalse => cases h
  rename_i hn
  subst hn
  unfold zgw at h
  split at h
  case isFalse => cases h
  rename_i hc
  obtain ⟨hne, hlen, hall⟩ := hc
  have hx : ∀ x ∈ xs, 0 <= x /\ x < 128 := by simpa using hall
  obtain ⟨rfl, rfl⟩ : T.tup [] = r /\ [T.os 1 (z9t xs).length ((z9t xs).map fun x => .sc (.int .i64 x)), .dead] = outs := by simpa using h
  have hcs := z7z hxs
  subst hcs
  clear h hxs hall
  refine ⟨fun vals w => ?_, fun w K vals hs ha hI => ?_⟩
  · have hb : ∃ c, Tryz.f75.body = some c := ⟨_, rfl⟩
    obtain ⟨c, hb⟩ := hb
    have hname : Tryz.f75.name ≠ "runtime.NumGoroutine" := by decide
    simp [callFunc, program, Sem.run, Tryz.func75, hname, hb]
  · obtain ⟨v, u, rfl⟩ : ∃ v u, vals = #[v, u] := by
      obtain ⟨l⟩ := vals
      match l, hs with
      | [v, u], _ => exact ⟨v, u, rfl⟩
    have hv : TRep w K (col 0) v (.os 1 xs.length (xs.map fun x => .sc (.int .i64 x))) := ha 0 _ rfl
    have hu : TRep w K [] u (.sc (.func (.func 76) #[] #[])) := ha 1 _ rfl
    rw [hu.sc_eq]
    clear hu ha
    have hl0 : 0 < xs.length := List.length_pos_iff.2 hne
    generalize hT : T.os 1 xs.length (xs.map fun x => T.sc (.int .i64 x)) = t at hv
    cases hv with
    | nil => injection hT with _ e _; omega
    | own c g n cap size cs arr e fz F hfz hc0 hK hg hsz hl hz hn hcap hF hh =>
      injection hT with e1 e2 e3
      subst e1 e2 e3
      have hcell : ∀ j (hj : j < xs.length), arr[j]? = some (.int .i64 xs[j]) := fun j hj => by
        rw [hF j (by simpa using hj)]
        have := hh j (.sc (.int .i64 xs[j])) (by simp [hj])
        rw [this.sc_eq]
      have hH : Holds zks w g 0 (xs.map toF).toArray := fun j hj => by
        have hj' : j < xs.length := by simpa using hj
        constructor
        · rw [Nat.zero_add, z3g hg, hcell j hj', getElem!_pos _ j hj]
          simp only [zks, List.getElem_toArray, List.getElem_map]
          have := zoS (hx _ (List.getElem_mem hj'))
          unfold ofF at this
          rw [this]
        · unfold World.frozen?
          rw [Nat.zero_add]
          simp only [hg]
          have := hfz j (by omega)
          obtain ⟨lo, hi⟩ := fz
          simp only at this ⊢
          simp only [Bool.and_eq_false_iff, decide_eq_false_iff_not]
          omega
      have eg : ∀ args w, (callFunc 76 args).run Tryz.prog w = .ok (.enter 76 args) w := enters_of Tryz.func76 (by kernel_rfl) rfl
      have hcmp : CmpLays1 Tryz.prog 76 #[] zks cfS g 0 (xs.map toF).toArray.size w := fun m os dk _ x y => zum x y _
      have hcon := Tryz.slices_SortFunc_f75 zks (fun _ => rfl) cfS zvH 76 #[] g 0 cap (xs.map toF).toArray w eg hcmp hH (z1r hg) (by simpa using hlen)
      have hsize : (xs.map toF).toArray.size = xs.length := by simp
      rw [hsize] at hcon
      refine hcon.mono fun e' w' ⟨he, d', m, os, hp, hso, hw⟩ => ?_
      subst hw
      have hsort := zgG hx (by rw [hsize]; exact hp) (by rw [hsize]; exact hso)
      have hd : d'.size = xs.length := by have := hp.1; simpa using this
      have hys : (z9t xs).length = xs.length := (zaj xs).length_eq
      refine ⟨.tuple #[], zt4 w.heap.size K, he, ?_, fun i t hi hio => ?_, rfl, rfl, rfl, znL d', fun b hb hcb => ⟨by unfold zt4; rw [if_neg (by omega)], zdd d' hb ?_⟩, ?_⟩
      · exact .tup _ #[] [] (fun _ => undef) rfl (fun j hj => by simp at hj) (fun j t ht => by simp at ht)
      · match i, hi with
        | 0, hi =>
          refine ⟨_, rfl, ?_⟩
          show TRep _ _ (col 0) (.slice (some ⟨g, 0, none⟩) xs.length cap) _
          rw [← hys]
          refine .own (col 0) g _ cap 1 _ (putCells zks 0 d' arr) e fz (fun j => .int .i64 ((z9t xs).getD j 0)) (fun i hi => hfz i (by simpa [putCells] using hi)) (by simp [col]) (by unfold zt4; rw [if_neg (by have := z1r hg; omega)]; exact hK) (zit d' hg) (by simpa [putCells] using hsz) (by simp) (by omega) (by omega) hcap (fun j hj => ?_) (fun j t ht => ?_)
          · have hj' : j < xs.length := by simpa [hys] using hj
            have hja : j < arr.size := (Array.getElem?_eq_some_iff.1 (hcell j hj')).1
            have hjd : j < d'.size := by omega
            simp only [putCells, Array.getElem?_mapIdx, hcell j hj', Option.map_some]
            rw [if_pos (by omega), Nat.sub_zero, getElem!_pos d' j hjd]
            have : (z9t xs).getD j 0 = ofF d'[j] := by
              rw [← hsort]; simp [List.getD, hjd]
            rw [this]; rfl
          · simp only [List.getElem?_map, Option.map_eq_some_iff] at ht
            obtain ⟨x, hx', rfl⟩ := ht
            simp only [List.getD, hx']
            exact .sc _ _ rfl
        | 1, hi => cases hi; cases hio
      · rintro rfl
        rw [hK] at hcb
        simp [col] at hcb
      · intro b arr0 e0 fz0 hb0
        by_cases hbg : b = g
        · subst hbg
          rw [hg] at hb0
          cases hb0
          exact ⟨_, _, _, zit d' hg, by simp [putCells]⟩
        · exact ⟨_, _, _, (zdd d' (z1r hb0) hbg).trans hb0, rfl⟩
    | _ => cases hT
theorem zky {I : World -> (Nat -> z0a) -> Prop} : z9g Tryz.prog I xtC := by
  intro f args r outs h
  unfold xtC at h
  split at h
  case isTrue hf => subst hf; exact zgq h
  split at h
  case isTrue hf => subst hf; exact zgr h
  split at h
  case isTrue hf => subst hf; exact zeE h
  split at h
  case isTrue hf => subst hf; exact zeF h
  cases h
end
section
structure StOk (ops : Array Oper) (t : SchT) (L : Array Bool) (d : Nat) (ns : List Nat) : Prop where
  ord : z3i .any ops true t L = true
  dep : t.depth = d
  nx : ∀ z ∈ t.nexts, z ∈ ns
structure BrOk (ops : Array Oper) (t : SchT) (L : Array Bool) (d : Nat) (ns hs : List Nat) : Prop where
  ord : z3i .any ops false t L = true
  dep : t.depth = d
  nx : ∀ z ∈ t.nexts, z ∈ ns
  hd : ∀ i ∈ hs, i ∈ t.heads
theorem zoU {ops : Array Oper} {L : Array Bool} (h : decide (Region.ready .any ops L = []) = true) : StOk ops .nil L 0 [] := ⟨by simp only [z3i, h, Bool.and_true], rfl, fun z hz => by simp [SchT.nexts] at hz⟩
theorem zvJ {ops : Array Oper} {k m : Nat} {rest : SchT} {L L' : Array Bool} {d : Nat} {ns : List Nat} (h : StOk ops rest L' d ns) (hL : L.setIfInBounds k true = L')
    (hc : ((m == 0 || m == 3) && (Region.ready .any ops L).contains k && Region.free .any ops L k && !(ns.contains k) && (m == 3 || ns.all fun z => (zqF .any ops ops.size [z]).contains k)) = true) : StOk ops (.op k m rest) L (d + 1) ns := by
  simp only [Bool.and_eq_true, Bool.or_eq_true, Bool.not_eq_true', beq_iff_eq] at hc
  obtain ⟨⟨⟨⟨h1, h2⟩, h3⟩, h4⟩, h5⟩ := hc
  have hm2 : ¬ m = 2 := by omega
  have hk : k ∉ ns := by simpa using h4
  refine ⟨?_, by simp only [SchT.depth, h.dep], fun z hz => h.nx z (by simpa only [SchT.nexts, if_neg hm2] using hz)⟩
  simp only [z3i]
  rw [if_pos (by simpa using h1), hL, h.ord, h2, h3]
  have h6 : rest.nexts.contains k = false := by
    rw [Bool.eq_false_iff]
    intro hh
    exact hk (h.nx k (by simpa using hh))
  rw [h6]
  simp only [Bool.not_false, Bool.and_self, Bool.true_and, Bool.and_true, Bool.or_eq_true, beq_iff_eq]
  rcases h5 with h5 | h5
  · exact .inl h5
  · exact .inr (List.all_eq_true.2 fun z hz => List.all_eq_true.1 h5 z (h.nx z hz))
theorem zvK {ops : Array Oper} {k m : Nat} {rest : SchT} {L L' : Array Bool} {d : Nat} {ns ns' : List Nat} (h : StOk ops rest L' d ns) (hL : L.setIfInBounds k true = L')
    (hc : ((m == 1 || m == 2) && decide (Region.ready .any ops L = [k])) = true) (hn : (if m = 2 then [k] else ns) = ns') : StOk ops (.op k m rest) L (d + 1) ns' := by
  subst hn
  simp only [Bool.and_eq_true, Bool.or_eq_true, beq_iff_eq] at hc
  obtain ⟨h1, h2⟩ := hc
  refine ⟨?_, by simp only [SchT.depth, h.dep], fun z hz => ?_⟩
  · simp only [z3i]
    rw [if_neg (by omega), hL, h.ord, h2]
    simp [h1]
  · simp only [SchT.nexts] at hz
    split at hz
    · rename_i e; rw [if_pos e]; exact hz
    · rename_i e; rw [if_neg e]; exact h.nx z hz
theorem zxP {ops : Array Oper} {k m : Nat} {rest : SchT} {L L' : Array Bool} {d : Nat} {ns ns' : List Nat} (h : StOk ops rest L' d ns) (hL : L.setIfInBounds k true = L')
    (hc : ((m == 1 || m == 2) && (Region.ready .any ops L).contains k) = true) (hn : (if m = 2 then [k] else ns) = ns') : BrOk ops (.op k m rest) L (d + 1) ns' [k] := by
  subst hn
  simp only [Bool.and_eq_true, Bool.or_eq_true, beq_iff_eq] at hc
  obtain ⟨h1, h2⟩ := hc
  refine ⟨?_, by simp only [SchT.depth, h.dep], fun z hz => ?_, fun i hi => by simpa [SchT.heads] using hi⟩
  · simp only [z3i]
    rw [if_neg (by simp), hL, h.ord, h2]
    simp [h1]
  · simp only [SchT.nexts] at hz
    split at hz
    · rename_i e; rw [if_pos e]; exact hz
    · rename_i e; rw [if_neg e]; exact h.nx z hz
theorem z0p {ops : Array Oper} {a b : SchT} {L : Array Bool} {d : Nat} {n1 n2 h1 h2 : List Nat} (ha : BrOk ops a L d n1 h1) (hb : BrOk ops b L d n2 h2) : BrOk ops (.alt a b) L d (n1 ++ n2) (h1 ++ h2) := by
  refine ⟨?_, by simp only [SchT.depth, ha.dep], fun z hz => ?_, fun i hi => ?_⟩
  · simp only [z3i, ha.ord, hb.ord, ha.dep, hb.dep]; simp
  · simp only [SchT.nexts, List.mem_append] at hz ⊢
    exact hz.imp (ha.nx z) (hb.nx z)
  · simp only [SchT.heads, List.mem_append] at hi ⊢
    exact hi.imp (ha.hd i) (hb.hd i)
theorem zr7 {ops : Array Oper} {a b : SchT} {L : Array Bool} {d : Nat} {ns ns' hs : List Nat} (h : BrOk ops (.alt a b) L d ns hs) (hc : ((Region.ready .any ops L).all fun i => hs.contains i) = true) (hn : (ns.all fun z => ns'.contains z) = true) : StOk ops (.alt a b) L d ns' := by
  refine ⟨?_, h.dep, fun z hz => by simpa using List.all_eq_true.1 hn z (h.nx z hz)⟩
  have := h.ord
  simp only [z3i, Bool.and_eq_true, decide_eq_true_eq] at this ⊢
  obtain ⟨⟨⟨h1, h2⟩, h3⟩, h4⟩ := this
  refine ⟨⟨⟨?_, h2⟩, h3⟩, h4⟩
  simp only [Bool.not_true, Bool.false_or, decide_eq_true_eq]
  intro i hi
  have := List.all_eq_true.1 hc i hi
  exact h.hd i (by simpa using this)
def zcx : Nat -> Nat -> List Bool
  | 0, _ => []
  | n + 1, k => (k % 2 == 1) :: zcx n (k / 2)
def mB (n k : Nat) : Array Bool := ⟨zcx n k⟩
theorem ziU : ∀ n k, (zcx n k).length = n
  | 0, _ => rfl
  | n + 1, k => by simp [zcx, ziU n]
theorem zet : ∀ n k i (h : i < (zcx n k).length), (zcx n k)[i] = k.testBit i
  | 0, k, i, h => by simp [zcx] at h
  | n + 1, k, 0, h => by simp only [zcx, List.getElem_cons_zero, Nat.testBit_zero]; rfl
  | n + 1, k, i + 1, h => by
    simp only [zcx, List.getElem_cons_succ]
    rw [zet n (k / 2) i, Nat.testBit_succ]
theorem zlA {n a k : Nat} : (mB n a).setIfInBounds k true = mB n (a ||| 2 ^ k) := by
  apply Array.ext
  · simp [mB, ziU]
  · intro i h1 h2
    have e1 : i < (zcx n a).length := by simpa [mB] using h1
    have e2 : i < (zcx n (a ||| 2 ^ k)).length := by simpa [mB] using h2
    have b1 := zet n a i e1
    have b2 := zet n (a ||| 2 ^ k) i e2
    rw [Array.getElem_setIfInBounds]
    simp only [mB, List.getElem_toArray] at b1 b2 ⊢
    rw [b1, b2, Nat.testBit_or, Nat.testBit_two_pow]
    · by_cases h : k = i
      · simp [h]
      · simp [h]
    · simpa [mB] using e1
theorem sq {ops : Array Oper} {k m n a : Nat} {rest : SchT} {d : Nat} {ns : List Nat} (h : StOk ops rest (mB n (a ||| 2 ^ k)) d ns)
    (hc : ((m == 0 || m == 3) && (Region.ready .any ops (mB n a)).contains k && Region.free .any ops (mB n a) k && !(ns.contains k) && (m == 3 || ns.all fun z => (zqF .any ops ops.size [z]).contains k)) = true := by kernel_rfl) : StOk ops (.op k m rest) (mB n a) (d + 1) ns := zvJ h zlA hc
theorem se {ops : Array Oper} {k m n a : Nat} {rest : SchT} {d : Nat} {ns ns' : List Nat} (h : StOk ops rest (mB n (a ||| 2 ^ k)) d ns)
    (hc : ((m == 1 || m == 2) && decide (Region.ready .any ops (mB n a) = [k])) = true := by kernel_rfl) (hn : (if m = 2 then [k] else ns) = ns' := by rfl) : StOk ops (.op k m rest) (mB n a) (d + 1) ns' := zvK h zlA hc hn
theorem be {ops : Array Oper} {k m n a : Nat} {rest : SchT} {d : Nat} {ns ns' : List Nat} (h : StOk ops rest (mB n (a ||| 2 ^ k)) d ns)
    (hc : ((m == 1 || m == 2) && (Region.ready .any ops (mB n a)).contains k) = true := by kernel_rfl) (hn : (if m = 2 then [k] else ns) = ns' := by rfl) : BrOk ops (.op k m rest) (mB n a) (d + 1) ns' [k] := zxP h zlA hc hn
theorem sa {ops : Array Oper} {a b : SchT} {L : Array Bool} {d : Nat} {ns ns' hs : List Nat} (h : BrOk ops (.alt a b) L d ns hs) (hc : ((Region.ready .any ops L).all fun i => hs.contains i) = true := by kernel_rfl) (hn : (ns.all fun z => ns'.contains z) = true := by rfl) : StOk ops (.alt a b) L d ns' := zr7 h hc hn
def zgS (cf : Cfg) (sk : Nat -> Bool) : Code -> Bool
  | .region id ops draw => sk id || (!draw || (match cf.dt id with | some t => z8V ops t | none => (match cf.dr id with | some sch => zlZ ops sch | none => true)))
  | .seq a b => zgS cf sk a && zgS cf sk b
  | .cond _ x y => zgS cf sk x && zgS cf sk y
  | .block _ c => zgS cf sk c
  | .loop c => zgS cf sk c
  | .scope c => zgS cf sk c
  | _ => true
def z4i (i : Nat) : Code -> List (Array Oper)
  | .region id ops _ => if Nat.beq id i then [ops] else []
  | .seq a b => z4i i a ++ z4i i b
  | .cond _ x y => z4i i x ++ z4i i y
  | .block _ c => z4i i c
  | .loop c => z4i i c
  | .scope c => z4i i c
  | _ => []
noncomputable def zfw (i : Nat) (c : Code) : Array Oper := match z4i i c with | x :: _ => x | [] => #[]
theorem zaJ {cf : Cfg} {sk : Nat -> Bool} : ∀ (c : Code), zgS cf sk c = true -> (∀ i, sk i = true -> ∃ t, cf.dt i = some t /\ ∀ o ∈ z4i i c, z8V o t = true) -> okC cf c = true
  | .region id ops draw, h, hs => by
    simp only [zgS, Bool.or_eq_true] at h
    simp only [okC, Bool.or_eq_true]
    rcases h with h | h
    · right
      obtain ⟨t, h1, h2⟩ := hs id h
      rw [h1]
      exact h2 ops (by simp [z4i])
    · exact h
  | .seq a b, h, hs => by
    simp only [zgS, Bool.and_eq_true] at h
    simp only [okC, Bool.and_eq_true]
    exact ⟨zaJ a h.1 fun i hi => by obtain ⟨t, h1, h2⟩ := hs i hi; exact ⟨t, h1, fun o ho => h2 o (by simp only [z4i, List.mem_append]; exact .inl ho)⟩,
      zaJ b h.2 fun i hi => by obtain ⟨t, h1, h2⟩ := hs i hi; exact ⟨t, h1, fun o ho => h2 o (by simp only [z4i, List.mem_append]; exact .inr ho)⟩⟩
  | .cond _ a b, h, hs => by
    simp only [zgS, Bool.and_eq_true] at h
    simp only [okC, Bool.and_eq_true]
    exact ⟨zaJ a h.1 fun i hi => by obtain ⟨t, h1, h2⟩ := hs i hi; exact ⟨t, h1, fun o ho => h2 o (by simp only [z4i, List.mem_append]; exact .inl ho)⟩,
      zaJ b h.2 fun i hi => by obtain ⟨t, h1, h2⟩ := hs i hi; exact ⟨t, h1, fun o ho => h2 o (by simp only [z4i, List.mem_append]; exact .inr ho)⟩⟩
  | .block _ c, h, hs => by simp only [okC]; exact zaJ c (by simpa only [zgS] using h) (by simpa only [z4i] using hs)
  | .loop c, h, hs => by simp only [okC]; exact zaJ c (by simpa only [zgS] using h) (by simpa only [z4i] using hs)
  | .scope c, h, hs => by simp only [okC]; exact zaJ c (by simpa only [zgS] using h) (by simpa only [z4i] using hs)
  | .skip, _, _ => rfl
  | .label .., _, _ => rfl
  | .exit .., _, _ => rfl
  | .ret, _, _ => rfl
  | .rangeFunc .., _, _ => rfl
  | .goto _, _, _ => rfl
  | .refuse _, _, _ => rfl
theorem zlt {c : Code} {i : Nat} {t : SchT} {n : Nat} {ns : List Nat} {L : Array Bool} (hr : (z4i i c).length = 1) (hs : StOk (zfw i c) t L n ns) (hL : L = Array.replicate (zfw i c).toList.length false) (hd : (decide (n = (zfw i c).toList.length) && Region.noSelect (zfw i c)) = true) : ∀ o ∈ z4i i c, z8V o t = true := by
  intro o ho
  obtain ⟨x, hx⟩ : ∃ x, z4i i c = [x] := List.length_eq_one_iff.1 hr
  have e : zfw i c = x := by unfold zfw; rw [hx]
  rw [hx] at ho
  obtain rfl : o = x := by simpa using ho
  rw [e] at hs hL hd
  subst hL
  simp only [Bool.and_eq_true, decide_eq_true_eq] at hd
  unfold z8V
  simp only [Bool.and_eq_true, decide_eq_true_eq]
  exact ⟨⟨hs.dep.trans hd.1, hd.2⟩, hs.ord⟩
theorem zlY {P : Program} {f : FuncId} {cf : Cfg} {fn : Func} {c : Code} (l : List Nat) (hf : P.funcs[f]? = some fn) (hb : fn.body = some c) (hn : (fn.name != "runtime.NumGoroutine") = true) (h2 : zgS cf l.contains c = true)
    (ht : ∀ i ∈ l, ∃ t, cf.dt i = some t /\ ∀ o ∈ z4i i c, z8V o t = true) : z3G P f cf = true := by
  unfold z3G
  simp only [hf, hb, hn, Bool.true_and]
  exact zaJ c h2 fun j hj => ht j (by simpa using hj)
end
section
open Go
set_option maxRecDepth 100000
theorem zwW : z3G Tryz.prog 4 cf4 = true := by kernel_rfl
theorem zwV : z3G Tryz.prog 6 cf6 = true := by kernel_rfl
noncomputable abbrev z0v : Array Oper := (zfw 7 cd7)
theorem zkJ : StOk z0v zhz (mB 17 131071) 0 [] := zoU (by kernel_rfl)
theorem zkK : StOk z0v zhA (mB 17 65535) 1 [16] := se zkJ
theorem zkL : StOk z0v zhB (mB 17 32767) 2 [16] := sq zkK
theorem zkM : StOk z0v zhC (mB 17 16383) 3 [14] := se zkL
theorem zeL : StOk z0v zdn (mB 17 12287) 4 [12] := se zkM
theorem zeM : StOk z0v zdo (mB 17 10239) 5 [12] := se zeL
theorem zeN : StOk z0v zdp (mB 17 4095) 5 [12] := sq zeL
theorem z9k : StOk z0v z9o (mB 17 4031) 6 [6] := se zeN
theorem zeO : StOk z0v zdq (mB 17 3839) 6 [8] := se zeN
theorem zkN : StOk z0v zhD (mB 17 9215) 6 [12] := se zeM
theorem zeP : StOk z0v zdr (mB 17 2047) 6 [12] := sq zeM
theorem zbl : StOk z0v zaS (mB 17 4029) 7 [1] := se z9k
theorem z9l : StOk z0v z9p (mB 17 3999) 7 [6] := se z9k
theorem zbm : StOk z0v zaT (mB 17 3775) 7 [6, 8] := sa (z0p (be zeO) (be z9k))
theorem z9m : StOk z0v z9q (mB 17 1983) 7 [6] := sa (z0p (be zeP) (be z9k))
theorem zeQ : StOk z0v zds (mB 17 1791) 7 [8] := sa (z0p (be zeP) (be zeO))
theorem zeR : StOk z0v zdt (mB 17 1023) 7 [12] := sq zkN
theorem zbn : StOk z0v zaU (mB 17 3997) 8 [1] := sa (z0p (be z9l) (be zbl))
theorem zeS : StOk z0v zdu (mB 17 3773) 8 [1, 8] := sa (z0p (be zbm) (be zbl))
theorem zbo : StOk z0v zaV (mB 17 1981) 8 [1] := sa (z0p (be z9m) (be zbl))
theorem zkO : StOk z0v zhE (mB 17 3983) 8 [6] := sq z9l
theorem zbp : StOk z0v zaW (mB 17 3743) 8 [6, 8] := sa (z0p (be zbm) (be z9l))
theorem z9n : StOk z0v z9r (mB 17 1951) 8 [6] := sa (z0p (be z9m) (be z9l))
theorem zbq : StOk z0v zaX (mB 17 1727) 8 [6, 8] := sa (z0p (be zeQ) (z0p (be z9m) (be zbm)))
theorem zbr : StOk z0v zaY (mB 17 959) 8 [6] := sa (z0p (be zeR) (be z9m))
theorem zkP : StOk z0v zhF (mB 17 767) 8 [8] := sa (z0p (be zeR) (be zeQ))
theorem zkQ : StOk z0v zhG (mB 17 3981) 9 [1] := sq zbn
theorem zeT : StOk z0v zdv (mB 17 3741) 9 [1, 8] := sa (z0p (be zbp) (z0p (be zeS) (be zbn)))
theorem zbs : StOk z0v zaZ (mB 17 1949) 9 [1] := sa (z0p (be z9n) (z0p (be zbo) (be zbn)))
theorem zeU : StOk z0v zdw (mB 17 1725) 9 [1, 8] := sa (z0p (be zbq) (z0p (be zbo) (be zeS)))
theorem zeV : StOk z0v zdx (mB 17 957) 9 [1] := sa (z0p (be zbr) (be zbo))
theorem zbt : StOk z0v zb0 (mB 17 3975) 9 [6] := se zkO
theorem zkR : StOk z0v zhH (mB 17 3727) 9 [6, 8] := sq zbp
theorem zkS : StOk z0v zhI (mB 17 1935) 9 [6] := sq z9n
theorem zbu : StOk z0v zb1 (mB 17 1695) 9 [6, 8] := sa (z0p (be zbq) (z0p (be z9n) (be zbp)))
theorem zbv : StOk z0v zb2 (mB 17 927) 9 [6] := sa (z0p (be zbr) (be z9n))
theorem zeW : StOk z0v zdy (mB 17 703) 9 [6, 8] := sa (z0p (be zkP) (z0p (be zbr) (be zbq)))
theorem zeX : StOk z0v zdz (mB 17 3973) 10 [1] := sa (z0p (be zbt) (be zkQ))
theorem zkT : StOk z0v zhJ (mB 17 3725) 10 [1, 8] := sq zeT
theorem zkU : StOk z0v zhK (mB 17 1933) 10 [1] := sq zbs
theorem zeY : StOk z0v zdA (mB 17 1693) 10 [1, 8] := sa (z0p (be zbu) (z0p (be zeU) (z0p (be zbs) (be zeT))))
theorem zeZ : StOk z0v zdB (mB 17 925) 10 [1] := sa (z0p (be zbv) (z0p (be zeV) (be zbs)))
theorem zkV : StOk z0v zhL (mB 17 701) 10 [1, 8] := sa (z0p (be zeW) (z0p (be zeV) (be zeU)))
theorem zf0 : StOk z0v zdC (mB 17 3719) 10 [6, 8] := sa (z0p (be zkR) (be zbt))
theorem zbw : StOk z0v zb3 (mB 17 1927) 10 [6] := sa (z0p (be zkS) (be zbt))
theorem zkW : StOk z0v zhM (mB 17 1679) 10 [6, 8] := sq zbu
theorem zkX : StOk z0v zhN (mB 17 911) 10 [6] := sq zbv
theorem zf1 : StOk z0v zdD (mB 17 671) 10 [6, 8] := sa (z0p (be zeW) (z0p (be zbv) (be zbu)))
theorem zkY : StOk z0v zhO (mB 17 3717) 11 [1, 8] := sa (z0p (be zf0) (z0p (be zkT) (be zeX)))
theorem zf2 : StOk z0v zdE (mB 17 1925) 11 [1] := sa (z0p (be zbw) (z0p (be zkU) (be zeX)))
theorem zkZ : StOk z0v zhP (mB 17 1677) 11 [1, 8] := sq zeY
theorem zl0 : StOk z0v zhQ (mB 17 909) 11 [1] := sq zeZ
theorem zl1 : StOk z0v zhR (mB 17 669) 11 [1, 8] := sa (z0p (be zf1) (z0p (be zkV) (z0p (be zeZ) (be zeY))))
theorem zf3 : StOk z0v zdF (mB 17 1671) 11 [6, 8] := sa (z0p (be zkW) (z0p (be zbw) (be zf0)))
theorem zf4 : StOk z0v zdG (mB 17 903) 11 [6] := sa (z0p (be zkX) (be zbw))
theorem zns : StOk z0v zl2 (mB 17 655) 11 [6, 8] := sq zf1
theorem znt : StOk z0v zl3 (mB 17 1669) 12 [1, 8] := sa (z0p (be zf3) (z0p (be zkZ) (z0p (be zf2) (be zkY))))
theorem znu : StOk z0v zl4 (mB 17 901) 12 [1] := sa (z0p (be zf4) (z0p (be zl0) (be zf2)))
theorem znv : StOk z0v zl5 (mB 17 653) 12 [1, 8] := sq zl1
theorem znw : StOk z0v zl6 (mB 17 647) 12 [6, 8] := sa (z0p (be zns) (z0p (be zf4) (be zf3)))
theorem znx : StOk z0v zl7 (mB 17 645) 13 [1, 8] := sa (z0p (be znw) (z0p (be znv) (z0p (be znu) (be znt))))
theorem zny : StOk z0v zl8 (mB 17 133) 14 [1, 8] := sq znx
theorem znz : StOk z0v zl9 (mB 17 5) 15 [1, 8] := sq zny
theorem znA : StOk z0v zla (mB 17 1) 16 [1, 8] := sq znz
theorem znB : StOk z0v zlb (mB 17 0) 17 [1, 8] := sq znA
set_option maxHeartbeats 0 in
theorem zwU : z3G Tryz.prog 7 cf7 = true := zlY [7] fn7 bd7 rfl (by kernel_rfl) (by simp only [List.forall_mem_cons]; exact ⟨⟨_, rfl, zlt (by kernel_rfl) znB (by kernel_rfl) (by kernel_rfl)⟩, fun _ h => by cases h⟩)
theorem zwT : z3G Tryz.prog 8 cf8 = true := by kernel_rfl
theorem zwS : z3G Tryz.prog 9 cf9 = true := by kernel_rfl
theorem zul : z3G Tryz.prog 12 cf12 = true := by kernel_rfl
theorem zuk : z3G Tryz.prog 13 cf13 = true := by kernel_rfl
theorem zuj : z3G Tryz.prog 14 cf14 = true := by kernel_rfl
theorem zui : z3G Tryz.prog 15 cf15 = true := by kernel_rfl
theorem zuh : z3G Tryz.prog 16 cf16 = true := by kernel_rfl
theorem zug : z3G Tryz.prog 17 cf17 = true := by kernel_rfl
theorem zuf : z3G Tryz.prog 21 cf21 = true := by kernel_rfl
theorem zue : z3G Tryz.prog 22 cf22 = true := by kernel_rfl
theorem zud : z3G Tryz.prog 25 cf25 = true := by kernel_rfl
theorem zuc : z3G Tryz.prog 26 cf26 = true := by kernel_rfl
theorem zub : z3G Tryz.prog 27 cf27 = true := by kernel_rfl
theorem zua : z3G Tryz.prog 28 cf28 = true := by kernel_rfl
noncomputable abbrev z0w : Array Oper := (zfw 10 zvy)
theorem zgx : StOk z0w zcV (mB 14 16383) 0 [] := zoU (by kernel_rfl)
theorem zbx : StOk z0w za3 (mB 14 8191) 1 [13] := se zgx
theorem z6S : StOk z0w z6v (mB 14 6143) 2 [13] := sq zbx
theorem zgy : StOk z0w zcW (mB 14 4095) 2 [13] := se zbx
theorem z6T : StOk z0w z6w (mB 14 6127) 3 [13] := se z6S
theorem z6U : StOk z0w z6x (mB 14 6079) 3 [13] := se z6S
theorem z6V : StOk z0w z6y (mB 14 5887) 3 [13] := se z6S
theorem z6W : StOk z0w z6z (mB 14 5119) 3 [13] := se z6S
theorem z6X : StOk z0w z6A (mB 14 2047) 3 [13] := sq zgy
theorem z8G : StOk z0w z7S (mB 14 6063) 4 [13] := sa (z0p (be z6U) (be z6T))
theorem z8H : StOk z0w z7T (mB 14 5871) 4 [13] := sa (z0p (be z6V) (be z6T))
theorem z8I : StOk z0w z7U (mB 14 5103) 4 [13] := sa (z0p (be z6W) (be z6T))
theorem z8J : StOk z0w z7V (mB 14 2031) 4 [13] := sa (z0p (be z6X) (be z6T))
theorem z8K : StOk z0w z7W (mB 14 5823) 4 [13] := sa (z0p (be z6V) (be z6U))
theorem z8L : StOk z0w z7X (mB 14 5055) 4 [13] := sa (z0p (be z6W) (be z6U))
theorem z8M : StOk z0w z7Y (mB 14 1983) 4 [13] := sa (z0p (be z6X) (be z6U))
theorem z8N : StOk z0w z7Z (mB 14 4863) 4 [13] := sa (z0p (be z6W) (be z6V))
theorem z8O : StOk z0w z8a (mB 14 1791) 4 [13] := sa (z0p (be z6X) (be z6V))
theorem z8P : StOk z0w z8b (mB 14 1023) 4 [13] := sa (z0p (be z6X) (be z6W))
theorem zby : StOk z0w za4 (mB 14 5807) 5 [13] := sa (z0p (be z8K) (z0p (be z8H) (be z8G)))
theorem zbz : StOk z0w za5 (mB 14 5039) 5 [13] := sa (z0p (be z8L) (z0p (be z8I) (be z8G)))
theorem zbA : StOk z0w za6 (mB 14 1967) 5 [13] := sa (z0p (be z8M) (z0p (be z8J) (be z8G)))
theorem zbB : StOk z0w za7 (mB 14 4847) 5 [13] := sa (z0p (be z8N) (z0p (be z8I) (be z8H)))
theorem zbC : StOk z0w za8 (mB 14 1775) 5 [13] := sa (z0p (be z8O) (z0p (be z8J) (be z8H)))
theorem zbD : StOk z0w za9 (mB 14 1007) 5 [13] := sa (z0p (be z8P) (z0p (be z8J) (be z8I)))
theorem zbE : StOk z0w zaa (mB 14 4799) 5 [13] := sa (z0p (be z8N) (z0p (be z8L) (be z8K)))
theorem zbF : StOk z0w zab (mB 14 1727) 5 [13] := sa (z0p (be z8O) (z0p (be z8M) (be z8K)))
theorem zbG : StOk z0w zac (mB 14 959) 5 [13] := sa (z0p (be z8P) (z0p (be z8M) (be z8L)))
theorem zbH : StOk z0w zad (mB 14 767) 5 [13] := sa (z0p (be z8P) (z0p (be z8O) (be z8N)))
theorem zgz : StOk z0w zcX (mB 14 4783) 6 [13] := sa (z0p (be zbE) (z0p (be zbB) (z0p (be zbz) (be zby))))
theorem zgA : StOk z0w zcY (mB 14 1711) 6 [13] := sa (z0p (be zbF) (z0p (be zbC) (z0p (be zbA) (be zby))))
theorem zgB : StOk z0w zcZ (mB 14 943) 6 [13] := sa (z0p (be zbG) (z0p (be zbD) (z0p (be zbA) (be zbz))))
theorem zja : StOk z0w zf5 (mB 14 751) 6 [13] := sa (z0p (be zbH) (z0p (be zbD) (z0p (be zbC) (be zbB))))
theorem zjb : StOk z0w zf6 (mB 14 703) 6 [13] := sa (z0p (be zbH) (z0p (be zbG) (z0p (be zbF) (be zbE))))
theorem zjc : StOk z0w zf7 (mB 14 687) 7 [13] := sa (z0p (be zjb) (z0p (be zja) (z0p (be zgB) (z0p (be zgA) (be zgz)))))
theorem zjd : StOk z0w zf8 (mB 14 175) 8 [13] := sq zjc
theorem zje : StOk z0w zf9 (mB 14 47) 9 [13] := sq zjd
theorem zjf : StOk z0w zfa (mB 14 15) 10 [13] := sq zje
theorem zjg : StOk z0w zfb (mB 14 7) 11 [13] := sq zjf
theorem zjh : StOk z0w zfc (mB 14 3) 12 [13] := sq zjg
theorem zji : StOk z0w zfd (mB 14 1) 13 [13] := sq zjh
theorem zjj : StOk z0w zfe (mB 14 0) 14 [13] := sq zji
set_option maxHeartbeats 0 in
theorem zu9 : z3G Tryz.prog 29 cf29 = true := zlY [10] zvw zvD rfl (by kernel_rfl) (by simp only [List.forall_mem_cons]; exact ⟨⟨_, rfl, zlt (by kernel_rfl) zjj (by kernel_rfl) (by kernel_rfl)⟩, fun _ h => by cases h⟩)
theorem zu8 : z3G Tryz.prog 30 cf30 = true := by kernel_rfl
theorem zu7 : z3G Tryz.prog 31 cf31 = true := by kernel_rfl
theorem zu6 : z3G Tryz.prog 32 cf32 = true := by kernel_rfl
theorem zu5 : z3G Tryz.prog 35 cf35 = true := by kernel_rfl
theorem zu4 : z3G Tryz.prog 37 cf37 = true := by kernel_rfl
theorem zu3 : z3G Tryz.prog 38 cf38 = true := by kernel_rfl
theorem zu2 : z3G Tryz.prog 39 cf39 = true := by kernel_rfl
theorem zu1 : z3G Tryz.prog 40 cf40 = true := by kernel_rfl
theorem zu0 : z3G Tryz.prog 42 cf42 = true := by kernel_rfl
theorem ztZ : z3G Tryz.prog 49 cf49 = true := by kernel_rfl
theorem ztY : z3G Tryz.prog 50 cf50 = true := by kernel_rfl
theorem ztX : z3G Tryz.prog 51 cf51 = true := by kernel_rfl
theorem ztW : z3G Tryz.prog 52 cf52 = true := by kernel_rfl
theorem ztV : z3G Tryz.prog 53 cf53 = true := by kernel_rfl
theorem ztU : z3G Tryz.prog 54 cf54 = true := by kernel_rfl
theorem ztT : z3G Tryz.prog 55 cf55 = true := by kernel_rfl
theorem ztS : z3G Tryz.prog 56 cf56 = true := by kernel_rfl
theorem ztR : z3G Tryz.prog 57 cf57 = true := by kernel_rfl
theorem ztQ : z3G Tryz.prog 58 cf58 = true := by kernel_rfl
theorem ztP : z3G Tryz.prog 59 cf59 = true := by kernel_rfl
theorem ztO : z3G Tryz.prog 60 cf60 = true := by kernel_rfl
theorem ztN : z3G Tryz.prog 61 cf61 = true := by kernel_rfl
theorem ztM : z3G Tryz.prog 62 cf62 = true := by kernel_rfl
theorem ztL : z3G Tryz.prog 63 cf63 = true := by kernel_rfl
theorem ztK : z3G Tryz.prog 64 cf64 = true := by kernel_rfl
theorem ztJ : z3G Tryz.prog 65 cf65 = true := by kernel_rfl
theorem ztI : z3G Tryz.prog 67 cf67 = true := by kernel_rfl
theorem ztH : z3G Tryz.prog 73 cf73 = true := by kernel_rfl
theorem ztG : z3G Tryz.prog 74 cf74 = true := by kernel_rfl
theorem ztF : z3G Tryz.prog 76 cf76 = true := by kernel_rfl
theorem ztE : z3G Tryz.prog 77 cf77 = true := by kernel_rfl
theorem ztD : z3G Tryz.prog 78 cf78 = true := by kernel_rfl
theorem ztC : z3G Tryz.prog 79 cf79 = true := by kernel_rfl
theorem ztB : z3G Tryz.prog 80 cf80 = true := by kernel_rfl
theorem ztA : z3G Tryz.prog 81 cf81 = true := by kernel_rfl
theorem ztz : z3G Tryz.prog 82 cf82 = true := by kernel_rfl
theorem zty : z3G Tryz.prog 83 cf83 = true := by kernel_rfl
theorem ztx : z3G Tryz.prog 84 cf84 = true := by kernel_rfl
theorem ztw : z3G Tryz.prog 95 cf95 = true := by kernel_rfl
theorem ztv : z3G Tryz.prog 97 cf97 = true := by kernel_rfl
theorem ztu : z3G Tryz.prog 98 cf98 = true := by kernel_rfl
theorem ztt : z3G Tryz.prog 99 cf99 = true := by kernel_rfl
theorem zs2 : z3G Tryz.prog 100 cf100 = true := by kernel_rfl
theorem zs1 : z3G Tryz.prog 113 cf113 = true := by kernel_rfl
theorem zs0 : z3G Tryz.prog 114 cf114 = true := by kernel_rfl
theorem zrZ : z3G Tryz.prog 115 cf115 = true := by kernel_rfl
theorem zrY : z3G Tryz.prog 118 cf118 = true := by kernel_rfl
theorem zrX : z3G Tryz.prog 123 cf123 = true := by kernel_rfl
theorem z1v {p : Prop} [Decidable p] {a c : Cfg} {r : Option Cfg} {G : Prop} (h : (if p then some a else r) = some c) (h1 : p -> a = c -> G) (h2 : r = some c -> G) : G := by
  split at h
  · rename_i hp; exact h1 hp (Option.some.inj h)
  · exact h2 h
theorem zx2 : ∀ f c, z1c f = some c -> z3G Tryz.prog f c = true := by
  intro f c h
  unfold z1c at h
  refine z1v h (fun e h => by rw [e, ← h]; exact zwW) fun h => ?_
  refine z1v h (fun e h => by rw [e, ← h]; exact zwV) fun h => ?_
  refine z1v h (fun e h => by rw [e, ← h]; exact zwU) fun h => ?_
  refine z1v h (fun e h => by rw [e, ← h]; exact zwT) fun h => ?_
  refine z1v h (fun e h => by rw [e, ← h]; exact zwS) fun h => ?_
  refine z1v h (fun e h => by rw [e, ← h]; exact zul) fun h => ?_
  refine z1v h (fun e h => by rw [e, ← h]; exact zuk) fun h => ?_
  refine z1v h (fun e h => by rw [e, ← h]; exact zuj) fun h => ?_
  refine z1v h (fun e h => by rw [e, ← h]; exact zui) fun h => ?_
  refine z1v h (fun e h => by rw [e, ← h]; exact zuh) fun h => ?_
  refine z1v h (fun e h => by rw [e, ← h]; exact zug) fun h => ?_
  refine z1v h (fun e h => by rw [e, ← h]; exact zuf) fun h => ?_
  refine z1v h (fun e h => by rw [e, ← h]; exact zue) fun h => ?_
  refine z1v h (fun e h => by rw [e, ← h]; exact zud) fun h => ?_
  refine z1v h (fun e h => by rw [e, ← h]; exact zuc) fun h => ?_
  refine z1v h (fun e h => by rw [e, ← h]; exact zub) fun h => ?_
  refine z1v h (fun e h => by rw [e, ← h]; exact zua) fun h => ?_
  refine z1v h (fun e h => by rw [e, ← h]; exact zu9) fun h => ?_
  refine z1v h (fun e h => by rw [e, ← h]; exact zu8) fun h => ?_
  refine z1v h (fun e h => by rw [e, ← h]; exact zu7) fun h => ?_
  refine z1v h (fun e h => by rw [e, ← h]; exact zu6) fun h => ?_
  refine z1v h (fun e h => by rw [e, ← h]; exact zu5) fun h => ?_
  refine z1v h (fun e h => by rw [e, ← h]; exact zu4) fun h => ?_
  refine z1v h (fun e h => by rw [e, ← h]; exact zu3) fun h => ?_
  refine z1v h (fun e h => by rw [e, ← h]; exact zu2) fun h => ?_
  refine z1v h (fun e h => by rw [e, ← h]; exact zu1) fun h => ?_
  refine z1v h (fun e h => by rw [e, ← h]; exact zu0) fun h => ?_
  refine z1v h (fun e h => by rw [e, ← h]; exact ztZ) fun h => ?_
  refine z1v h (fun e h => by rw [e, ← h]; exact ztY) fun h => ?_
  refine z1v h (fun e h => by rw [e, ← h]; exact ztX) fun h => ?_
  refine z1v h (fun e h => by rw [e, ← h]; exact ztW) fun h => ?_
  refine z1v h (fun e h => by rw [e, ← h]; exact ztV) fun h => ?_
  refine z1v h (fun e h => by rw [e, ← h]; exact ztU) fun h => ?_
  refine z1v h (fun e h => by rw [e, ← h]; exact ztT) fun h => ?_
  refine z1v h (fun e h => by rw [e, ← h]; exact ztS) fun h => ?_
  refine z1v h (fun e h => by rw [e, ← h]; exact ztR) fun h => ?_
  refine z1v h (fun e h => by rw [e, ← h]; exact ztQ) fun h => ?_
  refine z1v h (fun e h => by rw [e, ← h]; exact ztP) fun h => ?_
  refine z1v h (fun e h => by rw [e, ← h]; exact ztO) fun h => ?_
  refine z1v h (fun e h => by rw [e, ← h]; exact ztN) fun h => ?_
  refine z1v h (fun e h => by rw [e, ← h]; exact ztM) fun h => ?_
  refine z1v h (fun e h => by rw [e, ← h]; exact ztL) fun h => ?_
  refine z1v h (fun e h => by rw [e, ← h]; exact ztK) fun h => ?_
  refine z1v h (fun e h => by rw [e, ← h]; exact ztJ) fun h => ?_
  refine z1v h (fun e h => by rw [e, ← h]; exact ztI) fun h => ?_
  refine z1v h (fun e h => by rw [e, ← h]; exact ztH) fun h => ?_
  refine z1v h (fun e h => by rw [e, ← h]; exact ztG) fun h => ?_
  refine z1v h (fun e h => by rw [e, ← h]; exact ztF) fun h => ?_
  refine z1v h (fun e h => by rw [e, ← h]; exact ztE) fun h => ?_
  refine z1v h (fun e h => by rw [e, ← h]; exact ztD) fun h => ?_
  refine z1v h (fun e h => by rw [e, ← h]; exact ztC) fun h => ?_
  refine z1v h (fun e h => by rw [e, ← h]; exact ztB) fun h => ?_
  refine z1v h (fun e h => by rw [e, ← h]; exact ztA) fun h => ?_
  refine z1v h (fun e h => by rw [e, ← h]; exact ztz) fun h => ?_
  refine z1v h (fun e h => by rw [e, ← h]; exact zty) fun h => ?_
  refine z1v h (fun e h => by rw [e, ← h]; exact ztx) fun h => ?_
  refine z1v h (fun e h => by rw [e, ← h]; exact ztw) fun h => ?_
  refine z1v h (fun e h => by rw [e, ← h]; exact ztv) fun h => ?_
  refine z1v h (fun e h => by rw [e, ← h]; exact ztu) fun h => ?_
  refine z1v h (fun e h => by rw [e, ← h]; exact ztt) fun h => ?_
  refine z1v h (fun e h => by rw [e, ← h]; exact zs2) fun h => ?_
  refine z1v h (fun e h => by rw [e, ← h]; exact zs1) fun h => ?_
  refine z1v h (fun e h => by rw [e, ← h]; exact zs0) fun h => ?_
  refine z1v h (fun e h => by rw [e, ← h]; exact zrZ) fun h => ?_
  refine z1v h (fun e h => by rw [e, ← h]; exact zrY) fun h => ?_
  refine z1v h (fun e h => by rw [e, ← h]; exact zrX) fun h => ?_
  cases h
end
section
open Go.RowKit
def zcq (P : Program) : Nat -> TypeId -> Bool
  | 0, _ => false
  | m + 1, t =>
    match P.underlying t with
    | some (.slice e) => P.cellsOf e != 0 && zcq P m e
    | some (.pointer e) => zcq P m e
    | some (.struct fs) => fs.toList.all fun f => zcq P m f.type
    | some (.array _ e) => zcq P m e
    | some (.map _ e) => zcq P m e
    | _ => true
section
variable {H : Type} {enc : TypeId × Value -> H} {P : Program} {w : World} {base : Nat}
theorem zcF {m : Nat} {r r' : TypeId -> List Value -> Option (DataW H × List MemPlace)}
    (hr : ∀ t cs x, zcq P m t = true -> r t cs = some x -> r' t cs = some x) {t : TypeId} {cs : List Value} {x : DataW H × List MemPlace} (hf : zcq P (m + 1) t = true)
    (h : DataW.trodStep enc P w base (fun _ => true) true r t cs = some x) : DataW.trodStep enc P w base (fun b => decide (b < w.heap.size)) true r' t cs = some x := by
  unfold DataW.trodStep at h ⊢
  unfold zcq at hf
  split at h
  case h_1 => exact h
  case h_2 => exact h
  case h_3 => exact h
  case h_4 => exact h
  case h_5 => exact h
  case h_6 e a hu =>
    rw [hu] at hf
    simp only [Option.map_eq_some_iff, Option.bind_eq_some_iff] at h ⊢
    obtain ⟨y, ⟨cs', hc, hy⟩, rfl⟩ := h
    exact ⟨y, ⟨cs', hc, hr _ _ _ hf hy⟩, rfl⟩
  case h_7 => exact h
  case h_8 e a len cap hu =>
    rw [hu] at hf
    simp only [Bool.and_eq_true, bne_iff_ne, ne_eq] at hf
    obtain ⟨hcell, hfe⟩ := hf
    simp only at h ⊢
    split at h
    · rename_i hc
      rw [if_pos hc]
      simp only [Option.map_eq_some_iff, Option.bind_eq_some_iff, if_true] at h ⊢
      obtain ⟨elems, he, rest, hrest, rfl⟩ := h
      have one : ∀ (i : Nat) (y : DataW H × List MemPlace), (w.cells? base (a.add (i * P.cellsOf e)) (P.cellsOf e)).bind (r e) = some y -> (w.cells? base (a.add (i * P.cellsOf e)) (P.cellsOf e)).bind (r' e) = some y := by
        intro i y hv
        simp only [Option.bind_eq_some_iff] at hv ⊢
        obtain ⟨cs', hc', hy'⟩ := hv
        exact ⟨cs', hc', hr _ _ _ hfe hy'⟩
      refine ⟨elems, mapM_carry he (fun i y _ _ hy => one i y hy), rest, ?_, rfl⟩
      by_cases hb : a.block < w.heap.size
      · rw [if_pos (by simpa using hb)]
        exact mapM_carry hrest (fun j y _ _ hy => one (len + j) y hy)
      · rw [if_neg (by simpa using hb)]
        have hz : cap - len = 0 := by
          rcases Nat.eq_zero_or_pos (cap - len) with h0 | h0
          · exact h0
          · exfalso
            have hl : rest.length = cap - len := by simpa using mapM_some_length hrest
            have h1 := mapM_some_get hrest 0 0 (by simp [h0])
            obtain ⟨y, hy⟩ : ∃ y, rest[0]? = some y := ⟨rest[0], List.getElem?_eq_getElem (by omega)⟩
            rw [hy] at h1
            simp only [Option.bind_eq_some_iff] at h1
            obtain ⟨cs', hc', _⟩ := h1
            have h2 := World.cells?_block hc' (by omega)
            have h3 : (a.add ((len + 0) * P.cellsOf e)).block = a.block := by unfold Addr.add; split <;> rfl
            omega
        rw [hz] at hrest
        simpa using hrest
    · cases h
  case h_9 fs _ hu =>
    rw [hu] at hf
    split at h
    · rename_i hc
      rw [if_pos hc]
      simp only [Option.map_eq_some_iff] at h ⊢
      obtain ⟨xs, hx, rfl⟩ := h
      exact ⟨xs, mapM_carry hx (fun f y hin _ hv => hr _ _ _ (List.all_eq_true.1 hf f hin) hv), rfl⟩
    · cases h
  case h_10 n e _ hu =>
    rw [hu] at hf
    split at h
    · rename_i hc
      rw [if_pos hc]
      simp only [Option.map_eq_some_iff] at h ⊢
      obtain ⟨xs, hx, rfl⟩ := h
      exact ⟨xs, mapM_carry hx (fun f y _ _ hv => hr _ _ _ hf hv), rfl⟩
    · cases h
  case h_11 => exact h
  case h_12 => exact h
  case h_13 => exact h
  case h_14 k e b hu =>
    rw [hu] at hf
    split at h
    · rename_i es clock hb
      split at h
      · rename_i hc
        simp only [Option.bind_eq_some_iff] at h
        obtain ⟨entries, he, hd⟩ := h
        split at hd
        · rename_i hris
          have hx := Option.some.inj hd
          subst hx
          simp only [if_pos hc, Option.bind_eq_some_iff]
          refine ⟨entries, mapM_carry he (fun x y _ hy hv => ?_), by simp [hris]⟩
          simp only [Option.bind_eq_some_iff] at hv ⊢
          obtain ⟨key, hk, hz⟩ := hv
          refine ⟨key, hk, ?_⟩
          split at hz
          · rename_i hfm
            rw [if_pos hfm]
            simp only [Option.map_eq_some_iff] at hz ⊢
            obtain ⟨q, hq, rfl⟩ := hz
            exact ⟨q, hr _ _ _ hf hq, rfl⟩
          · cases hz
        · cases hd
      · cases h
    · cases h
  case h_15 => exact h
  case h_16 => exact h
  case h_17 => exact h
  case h_18 => exact h
  case h_19 => exact h
  case h_20 => exact h
  case h_21 => cases h
theorem zj9 : ∀ (n m : Nat) (t : TypeId) (cs : List Value) (x : DataW H × List MemPlace), zcq P m t = true ->
    DataW.trod enc P w base (fun _ => true) true n t cs = some x -> DataW.trod enc P w base (fun b => decide (b < w.heap.size)) true n t cs = some x := by
  intro n
  induction n with
  | zero => intro m t cs x _ h; simp [DataW.trod] at h
  | succ n ih =>
    intro m t cs x hf h
    cases m with
    | zero => simp [zcq] at hf
    | succ m =>
      rw [DataW.trod_step] at h ⊢
      exact zcF (m := m) (fun t cs x hf hx => ih m t cs x hf hx) hf h
theorem zfs {w' : World} (hb : Below w.heap.size w w') {p : MemPlace} (hp : p.block < w.heap.size) : w.sameAt w' p := by
  cases p with
  | cell b off => exact hb.cell (p := ⟨b, off, none⟩) hp
  | map b => exact hb.block b hp
theorem z9j {w' : World} (m : Nat) (hb : Below w.heap.size w w') : ∀ {ts : List TypeId} {vs : List Value} {ds : List (DataW H)} {ps : List MemPlace}, (ts.all (zcq P m)) = true ->
    DataW.TrodAll enc P w 0 (fun _ => true) true ts vs ds ps -> DataW.TrodAll enc P w' 0 (fun b => decide (b < w.heap.size)) true ts vs ds ps
  | [], [], [], ps, _, h => h
  | t :: ts, v :: vs, d :: ds, ps, hf, ⟨p, q, ⟨n, h1⟩, h2, e⟩ => by
    simp only [List.all_cons, Bool.and_eq_true] at hf
    have h3 := zj9 n m t _ _ hf.1 h1
    exact ⟨p, q, ⟨n, DataW.trod_carry n _ _ _ h3 (fun z hz => zfs hb (DataW.trod_lt n _ _ _ h3 z hz))⟩, z9j m hb hf.2 h2, e⟩
  | [], _ :: _, _, _, _, h => by cases h
  | [], [], _ :: _, _, _, h => by cases h
  | _ :: _, [], _, _, _, h => by cases h
  | _ :: _, _ :: _, [], _, _, h => by cases h
end
section
variable {H : Type} {enc : TypeId × Value -> H} {P : Program} {w : World} {r : Reach} {b0 : Nat}
open Go.ChangeShapes Go.WideShapes
open Go.Deep (open_bools)
theorem zna (a : Addr) (j : Nat) : (a.add j).block = a.block := by unfold Addr.add; split <;> rfl
end
end
section
open Go.ChangeShapes Go.WideShapes Go.RowKit
def KZ : Nat -> z0a := fun _ => []
theorem zma {P : Program} {Xc : z0j} {cf : FuncId -> Option Cfg} {f : FuncId} {args : List T} {outs : List T} (hX : z9g P (fun _ _ => True) Xc) (hm : P.follows .mixedOrders = true) (hf : ∀ f c, cf f = some c -> z3G P f c = true)
    (h : Lim P Xc cf f args = some (.sc (.bool true), outs)) (hio : args.all (fun t => !z5u t) = true) (W : World) (vals : Array Value) (hs : vals.size = args.length)
    (ha : ∀ i t, args[i]? = some t -> TRep W KZ [] (vals.getD i undef) t) : Calls P f vals W fun e W' => e = .returned (.bool true) /\ Below W.heap.size W W' := by
  have hc := zrH (I := fun _ _ => True) EnvS.none hX hm hf h
  refine (hc.calls W KZ vals hs (fun i t hi => ?_) trivial).mono fun e W' ⟨v, K', he, hv, _, hst⟩ => ?_
  · have h1 := List.all_eq_true.1 hio t (List.mem_of_getElem? hi)
    unfold zdk
    rw [if_neg (by simpa using h1)]
    exact ha i t hi
  · generalize hT : T.sc (.bool true) = t at hv
    cases hv with
    | sc c v hb => cases hT; exact ⟨he, hst.os, hst.tape, hst.output, hst.size, fun b hb => (hst.old b hb (.inl rfl)).2⟩
    | _ => cases hT
section
variable {H : Type} {enc : TypeId × Value -> H} {P : Program} {w : World} {r : Reach} {b0 : Nat}
theorem zlW {t e : TypeId} {v : Value} {d : DataW H} {ps : List MemPlace} (ht : P.underlying t = some (.slice e)) (he : P.underlying e = some (.int .i64)) (hc : P.cellsOf e = 1)
    (hval : Value.okWide P w r b0 t v) (hd : DataW.Trod enc P w 0 (fun _ => true) true t v d ps) :
    ∃ xs : List Int, TRep w KZ [] v (.sl xs.length (xs.map fun x => .sc (.int .i64 x))) /\ xs.length <= maxLen /\ ∀ x ∈ xs, (Lit.int .i64 x).wf = true := by
  obtain ⟨ga, n, cap, rfl⟩ := okWide_slice ht hval
  obtain ⟨fuel, hf⟩ := hd
  rcases open_ints ht he hc hf with ⟨hcs, _⟩ | ⟨a, len', cap', zs, hcs, _, hl, hm, hz, _, hcell, hwz⟩
  · simp [Value.cells] at hcs
    obtain ⟨rfl, rfl, rfl⟩ := hcs
    exact ⟨[], .emp _ _ _ (by decide), by decide, fun x hx => by cases hx⟩
  · simp [Value.cells] at hcs
    obtain ⟨rfl, rfl, rfl⟩ := hcs
    simp only [if_true] at hz
    refine ⟨zs.take n, ?_, by simp; omega, fun x hx => hwz x (List.mem_of_mem_take hx)⟩
    have hln : (zs.take n).length = n := by simp; omega
    rw [hln]
    by_cases h0 : n = 0
    · subst h0
      simp only [List.take_zero, List.map_nil]
      exact .emp _ _ _ hm
    · have hc0 := hcell 0 (by omega)
      have hb := World.block_lt_of_cell? w _ hc0
      rw [zna] at hb
      have hsp : a.spot = none := by
        have : a.add 0 = a := by simp [Addr.add]
        rw [this] at hc0
        unfold World.cell? at hc0
        split at hc0
        · split at hc0
          · cases hc0
          · rename_i hh
            simpa using hh
        · cases hc0
      obtain ⟨g, o, sp⟩ := a
      simp only at hsp
      subst hsp
      refine .fro [] g o n cap _ (fun j => .int .i64 (zs.getD j 0)) rfl hb hl hm (fun j hj => ?_) (fun j t hj => ?_)
      · have h1 := hcell j (by simp at hj; omega)
        have e : (⟨g, o, none⟩ : Addr).add j = ⟨g, o + j, none⟩ := by
          unfold Addr.add
          split
          · rename_i h; subst h; rfl
          · rfl
        rw [e] at h1
        exact h1
      · simp only [List.getElem?_map, Option.map_eq_some_iff] at hj
        obtain ⟨x, hx, rfl⟩ := hj
        have hjn : j < n := by
          have := (List.getElem?_eq_some_iff.1 hx).1
          simp at this; omega
        rw [List.getElem?_take_of_lt hjn] at hx
        simp only [List.getD, hx]
        exact .sc _ _ rfl
end
end
end Go.Proofs.YtodliknibbafeaaGreat
section
/- Proved here: the law HolonomyClosed returns true for every input, and its arguments read afterwards as before. No condition. -/
namespace Go.Proofs.YtodliknibbafeaaGreat.holonomyClosed
open Go.ChangeShapes Go.WideShapes Go.ChangeAt Go.RowKit
open Go.ChangeMaps (open_string shut_string)
theorem own : ownKnob Tryz.prog.godebug = none := by kernel_rfl
set_option maxRecDepth 100000 in
theorem zoC (H : Type) (enc : TypeId × Value -> H) (W : World) (base : Nat) (args : Array Value) (ds gs : List (DataW H)) (before : List MemPlace)
    (hval0 : ∀ (j : Nat) t v, Tryz.f4.params[j]? = some t -> args[j]? = some v -> Value.okWide Tryz.prog W .any base t v)
    (hW : DataW.Whole enc Tryz.prog Tryz.f4.params.toList Rows.holonomyClosedSpec.vars false W args.toList ds gs before) :
    Calls Tryz.prog 4 args W fun e W' => ∃ v, e = .returned v /\ Rows.holonomyClosedSpec.post enc Tryz.prog Tryz.f4 false true false false W args v W' := by
  have hW' := hW
  obtain ⟨p, q, hA0, hV, rfl, hfz, hnd⟩ := hW
  have hval := hval0
  have hA : DataW.TrodAll enc Tryz.prog W 0 (fun _ => true) true Tryz.f4.params.toList args.toList ds p := hA0
  rw [Tryz.params4] at hA hval
  obtain ⟨v0, vs0, d0, ds0, p0, q0, hargs, rfl, rfl, h0, r0⟩ := trodAll_cons hA
  obtain ⟨v1, vs1, d1, ds1, p1, q1, rfl, rfl, rfl, h1, r1⟩ := trodAll_cons r0
  obtain ⟨v2, vs2, d2, ds2, p2, q2, rfl, rfl, rfl, h2, r2⟩ := trodAll_cons r1
  obtain ⟨rfl, rfl, rfl⟩ := trodAll_nil r2
  obtain rfl : args = #[v0, v1, v2] := by cases args; simp_all
  obtain ⟨rfl, rfl⟩ := trodVars_none hV
  obtain ⟨a0, t0, w0, z0⟩ := zlW Tryz.underlying22 Tryz.underlying3 (by kernel_rfl) (hval 0 22 v0 rfl rfl) h0
  obtain ⟨a1, rfl, rfl, rfl, w1⟩ := open_int Tryz.underlying3 (hval 1 3 v1 rfl rfl) h1
  obtain ⟨a2, rfl, rfl, rfl, w2⟩ := open_int Tryz.underlying3 (hval 2 3 v2 rfl rfl) h2
  obtain ⟨outs, hlaw⟩ := zrJ a0 w0 z0 a1 w1 a2 w2
  refine (zma zky (by kernel_rfl) zx2 hlaw rfl W _ rfl (fun i t hi => ?_)).mono fun e W' ⟨he, bel⟩ => ?_
  · match i, hi with
    | 0, hi => cases hi; exact t0
    | 1, hi => cases hi; exact .sc _ _ rfl
    | 2, hi => cases hi; exact .sc _ _ rfl
  · subst he
    exact ⟨_, rfl, _, _, _, [], _, [], hW', trodAll_mk1 (shut_bool Tryz.underlying4 _), z9j 12 bel (by kernel_rfl) hA0, rfl, bel.frame _, fun h => by cases h⟩
theorem z9f {a b : Bool} (ha : a = true) (hb : b = true) : (a && b) = true := by rw [ha, hb]; rfl
set_option maxHeartbeats 4000000 in
theorem zth : joinedFacts Tryz.checked.prog 4 Tryz.f4 Rows.holonomyClosedSpec Rows.holonomyClosedRow = true :=
  (z9f (z9f (z9f (z9f (z9f (z9f (z9f (z9f (z9f (z9f (z9f (z9f (z9f (z9f (z9f (z9f (z9f (z9f (z9f (z9f (z9f (z9f (z9f (z9f (z9f (z9f (z9f (z9f (z9f (z9f (z9f (by as_aux_lemma => kernel_rfl)
    (by as_aux_lemma => kernel_rfl))
    (by as_aux_lemma => kernel_rfl))
    (by as_aux_lemma => kernel_rfl))
    (by as_aux_lemma => kernel_rfl))
    (by as_aux_lemma => kernel_rfl))
    (by as_aux_lemma => kernel_rfl))
    (by as_aux_lemma => kernel_rfl))
    (by as_aux_lemma => kernel_rfl))
    (by as_aux_lemma => kernel_rfl))
    (by as_aux_lemma => kernel_rfl))
    (by as_aux_lemma => kernel_rfl))
    (by as_aux_lemma => kernel_rfl))
    (by as_aux_lemma => kernel_rfl))
    (by as_aux_lemma => kernel_rfl))
    (by as_aux_lemma => kernel_rfl))
    (by as_aux_lemma => kernel_rfl))
    (by as_aux_lemma => kernel_rfl))
    (by as_aux_lemma => kernel_rfl))
    (by as_aux_lemma => kernel_rfl))
    (by as_aux_lemma => kernel_rfl))
    (by as_aux_lemma => kernel_rfl))
    (by as_aux_lemma => kernel_rfl))
    (by as_aux_lemma => kernel_rfl))
    (by as_aux_lemma => kernel_rfl))
    (by as_aux_lemma => kernel_rfl))
    (by as_aux_lemma => kernel_rfl))
    (by as_aux_lemma => kernel_rfl))
    (by as_aux_lemma => kernel_rfl))
    (by as_aux_lemma => kernel_rfl))
    (by as_aux_lemma => kernel_rfl))
    (by as_aux_lemma => kernel_rfl))
set_option maxRecDepth 100000 in
theorem zrI (os : Os) (started : os.Started) (H : Type) (enc : TypeId × Value -> H) :
    ReturnsInHanded {} Tryz.checked os 4 .any (Rows.holonomyClosedSpec.pre6 enc Tryz.prog Tryz.f4 Rows.holonomyClosedRow.domain false) (Rows.holonomyClosedSpec.post enc Tryz.prog Tryz.f4 false true false false) := by
  refine returnsInHanded_of_change (C := Tryz.checked) (by kernel_rfl) started (by kernel_rfl) Tryz.func4
    (ChangeSpec.witness6 (enc := enc) (C := Tryz.checked) false ⟨#[], #[.slice none 0 0, .int .i64 0, .int .i64 0], []⟩ 8 (by kernel_rfl) (by kernel_rfl) (by kernel_rfl) (by kernel_rfl)) ?_
  intro W base args ds gs before hval0 hW hcnd _
  exact zoC H enc W base args ds gs before hval0 hW
theorem zvY : Rows.holonomyClosedRow.holds Tryz.pinned (OpenSpec.ofChange Rows.holonomyClosedSpec) :=
  OpenClaim.holds_of_wide 4 Tryz.f4 rfl rfl rfl rfl rfl rfl rfl ⟨rfl, rfl, rfl, rfl, rfl⟩ rfl rfl rfl rfl rfl (by kernel_rfl) Tryz.func4 zth
    (of_decide_eq_true (by kernel_rfl)) (by unfold Func.isWrapper; first | (rw [if_pos (by decide +kernel)]; kernel_rfl) | (rw [if_neg (by decide +kernel)]; exact ⟨rfl, rfl⟩))
    (fun os started H enc _ => zrI os started H enc)
theorem proved : Rows.HolonomyClosedSaid :=
  zvY
#print axioms proved
end Go.Proofs.YtodliknibbafeaaGreat.holonomyClosed
end

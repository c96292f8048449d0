/- Proved here: the law HolonomyOf returns true for every input, and its arguments read afterwards as before. No condition. -/
import Derived.Test.YtodliknibbafeaaMHO5
import Derived.WalkKit
import Derived.WalkSpells
import Derived.WalkLawsBesides
import Derived.Lib.Hide
import Derived.Deep.OwnRows
import Derived.Deep.RegionLaw
import Derived.Shelf.Small.Bits
import Derived.Shelf.Small.Wraps
import Derived.Shelf.Strconv.Itoa0
import Derived.Ground.SlsfProg
import Derived.Shelf.SlSortCmp.Insertion
import Derived.Shelf.SlSortCmp.SiftDown1
import Derived.Shelf.SlSortCmp.HeapSort1
import Derived.Shelf.SlSortCmp.Insertion1
import Derived.Shelf.SlSortCmp.Median1
import Derived.Shelf.SlSortCmp.Pivot1
import Derived.Shelf.SlSortCmp.ReverseRange1
import Derived.Shelf.SlSortCmp.PartialInsertion1
import Derived.Shelf.SlSortCmp.PartitionEqual1
import Derived.Shelf.SlSortCmp.Partition1
import Derived.Shelf.SlSortCmp.Pdq1
import Derived.Shelf.SlSortCmp.Whole1
import Derived.Test.YtodliknibbafeaaProg
import Derived.ChangeOld
import Derived.ChangeReads
import Derived.Below
import Derived.ChangeSlices
import Derived.Deep.Grids
import Derived.WideShapes
import Derived.ProofKit
import Derived.Test.YtodliknibbafeaaRows
import Derived.Test.YtodliknibbafeaaChecked
import Derived.OpenShut
import Derived.ShutString
import Derived.Deep.DeepHandedRow
set_option linter.unusedVariables false
set_option linter.unusedSimpArgs false
namespace Go.Proofs.Ytodliknibbafeaa
section
open Go
set_option maxRecDepth 100000
def exT : T := .agg [.sc (.int .i64 2), .sc (.int .i64 0), .sl 3 [.sc (.bool true), .sc (.bool false), .sc (.bool false)], .sl 3 [.sl 2 [.sc (.int .i64 1), .sc (.int .i64 0)], .sl 2 [.sc (.int .i64 2), .sc (.int .i64 0)], .sl 2 [.sc (.int .i64 0), .sc (.int .i64 2)]]]
def znK : List T := [.sc (.int .i64 7), .sc (.int .i64 3), .sc (.int .i64 5), .sc (.int .i64 6), .sc (.int .i64 1), .sc (.int .i64 2), .sc (.int .i64 4)]
def dgT : T := .agg [.sl 7 [.sc (.int .i64 7), .sc (.int .i64 3), .sc (.int .i64 5), .sc (.int .i64 6), .sc (.int .i64 1), .sc (.int .i64 2), .sc (.int .i64 4)], .sl 7 [.sl 2 [.sc (.int .i64 0), .sc (.int .i64 2)], .sl 2 [.sc (.int .i64 3), .sc (.int .i64 4)], .sl 2 [.sc (.int .i64 1), .sc (.int .i64 2)], .sl 2 [.sc (.int .i64 2), .sc (.int .i64 2)], .sl 2 [.sc (.int .i64 5), .sc (.int .i64 4)], .sl 2 [.sc (.int .i64 6), .sc (.int .i64 4)], .sl 2 [.sc (.int .i64 4), .sc (.int .i64 6)]], .sl 7 [.sl 7 [.sc (.bool true), .sc (.bool false), .sc (.bool false), .sc (.bool false), .sc (.bool false), .sc (.bool false), .sc (.bool false)], .sl 7 [.sc (.bool true), .sc (.bool true), .sc (.bool true), .sc (.bool true), .sc (.bool false), .sc (.bool false), .sc (.bool false)], .sl 7 [.sc (.bool true), .sc (.bool true), .sc (.bool true), .sc (.bool true), .sc (.bool false), .sc (.bool false), .sc (.bool false)], .sl 7 [.sc (.bool true), .sc (.bool true), .sc (.bool true), .sc (.bool true), .sc (.bool false), .sc (.bool false), .sc (.bool false)], .sl 7 [.sc (.bool true), .sc (.bool true), .sc (.bool true), .sc (.bool true), .sc (.bool true), .sc (.bool true), .sc (.bool true)], .sl 7 [.sc (.bool true), .sc (.bool true), .sc (.bool true), .sc (.bool true), .sc (.bool true), .sc (.bool true), .sc (.bool true)], .sl 7 [.sc (.bool true), .sc (.bool true), .sc (.bool true), .sc (.bool true), .sc (.bool true), .sc (.bool true), .sc (.bool true)]]]
theorem e36 : z2Z Try.prog xt z1h 10 46 [exT] = some (.os 1 7 znK, [.dead]) := by kernel_rfl
theorem e37 : z2Z Try.prog xt z1h 10 47 [exT, .sl 7 znK] = some (.agg [.sl 7 [.sc (.int .i64 7), .sc (.int .i64 3), .sc (.int .i64 5), .sc (.int .i64 6), .sc (.int .i64 1), .sc (.int .i64 2), .sc (.int .i64 4)], .os 1 7 [.os 1 2 [.sc (.int .i64 0), .sc (.int .i64 2)], .os 1 2 [.sc (.int .i64 3), .sc (.int .i64 4)], .os 1 2 [.sc (.int .i64 1), .sc (.int .i64 2)], .os 1 2 [.sc (.int .i64 2), .sc (.int .i64 2)], .os 1 2 [.sc (.int .i64 5), .sc (.int .i64 4)], .os 1 2 [.sc (.int .i64 6), .sc (.int .i64 4)], .os 1 2 [.sc (.int .i64 4), .sc (.int .i64 6)]], .os 1 7 [.os 1 7 [.sc (.bool true), .sc (.bool false), .sc (.bool false), .sc (.bool false), .sc (.bool false), .sc (.bool false), .sc (.bool false)], .os 1 7 [.sc (.bool true), .sc (.bool true), .sc (.bool true), .sc (.bool true), .sc (.bool false), .sc (.bool false), .sc (.bool false)], .os 1 7 [.sc (.bool true), .sc (.bool true), .sc (.bool true), .sc (.bool true), .sc (.bool false), .sc (.bool false), .sc (.bool false)], .os 1 7 [.sc (.bool true), .sc (.bool true), .sc (.bool true), .sc (.bool true), .sc (.bool false), .sc (.bool false), .sc (.bool false)], .os 1 7 [.sc (.bool true), .sc (.bool true), .sc (.bool true), .sc (.bool true), .sc (.bool true), .sc (.bool true), .sc (.bool true)], .os 1 7 [.sc (.bool true), .sc (.bool true), .sc (.bool true), .sc (.bool true), .sc (.bool true), .sc (.bool true), .sc (.bool true)], .os 1 7 [.sc (.bool true), .sc (.bool true), .sc (.bool true), .sc (.bool true), .sc (.bool true), .sc (.bool true), .sc (.bool true)]]], [.dead, .dead]) := by kernel_rfl
def sr0 : T := .tup [.os 1 7 [.sc (.int .i64 0), .sc (.int .i64 2), .sc (.int .i64 1), .sc (.int .i64 3), .sc (.int .i64 4), .sc (.int .i64 5), .sc (.int .i64 6)], .os 1 7 [.sc (.string ByteArray.empty), .sc (.string ⟨#[98, 97]⟩), .sc (.string ⟨#[98]⟩), .sc (.string ⟨#[98, 97, 97]⟩), .sc (.string ⟨#[98, 97, 98]⟩), .sc (.string ⟨#[98, 97, 98, 97]⟩), .sc (.string ⟨#[98, 97, 98, 97, 97]⟩)]]
theorem zyh : z2Z Try.prog xt z1h 6 51 [dgT, .sc (.int .i64 0)] = some (sr0, [.dead, .dead]) := by kernel_rfl
def sr1 : T := .tup [.os 1 6 [.sc (.int .i64 1), .sc (.int .i64 3), .sc (.int .i64 4), .sc (.int .i64 2), .sc (.int .i64 5), .sc (.int .i64 6)], .os 1 7 [.sc (.string ByteArray.empty), .sc (.string ByteArray.empty), .sc (.string ⟨#[97, 97]⟩), .sc (.string ⟨#[97]⟩), .sc (.string ⟨#[98]⟩), .sc (.string ⟨#[98, 97]⟩), .sc (.string ⟨#[98, 97, 97]⟩)]]
theorem zyg : z2Z Try.prog xt z1h 6 51 [dgT, .sc (.int .i64 1)] = some (sr1, [.dead, .dead]) := by kernel_rfl
def sr2 : T := .tup [.os 1 6 [.sc (.int .i64 2), .sc (.int .i64 1), .sc (.int .i64 3), .sc (.int .i64 4), .sc (.int .i64 5), .sc (.int .i64 6)], .os 1 7 [.sc (.string ByteArray.empty), .sc (.string ⟨#[97]⟩), .sc (.string ByteArray.empty), .sc (.string ⟨#[97, 97]⟩), .sc (.string ⟨#[97, 98]⟩), .sc (.string ⟨#[97, 98, 97]⟩), .sc (.string ⟨#[97, 98, 97, 97]⟩)]]
theorem zyf : z2Z Try.prog xt z1h 6 51 [dgT, .sc (.int .i64 2)] = some (sr2, [.dead, .dead]) := by kernel_rfl
def sr3 : T := .tup [.os 1 6 [.sc (.int .i64 3), .sc (.int .i64 2), .sc (.int .i64 1), .sc (.int .i64 4), .sc (.int .i64 5), .sc (.int .i64 6)], .os 1 7 [.sc (.string ByteArray.empty), .sc (.string ⟨#[97, 97]⟩), .sc (.string ⟨#[97]⟩), .sc (.string ByteArray.empty), .sc (.string ⟨#[97, 97, 98]⟩), .sc (.string ⟨#[97, 97, 98, 97]⟩), .sc (.string ⟨#[97, 97, 98, 97, 97]⟩)]]
theorem zye : z2Z Try.prog xt z1h 6 51 [dgT, .sc (.int .i64 3)] = some (sr3, [.dead, .dead]) := by kernel_rfl
def sr4 : T := .tup [.os 1 3 [.sc (.int .i64 4), .sc (.int .i64 5), .sc (.int .i64 6)], .os 1 7 [.sc (.string ByteArray.empty), .sc (.string ByteArray.empty), .sc (.string ByteArray.empty), .sc (.string ByteArray.empty), .sc (.string ByteArray.empty), .sc (.string ⟨#[97]⟩), .sc (.string ⟨#[97, 97]⟩)]]
theorem zyd : z2Z Try.prog xt z1h 6 51 [dgT, .sc (.int .i64 4)] = some (sr4, [.dead, .dead]) := by kernel_rfl
def sr5 : T := .tup [.os 1 3 [.sc (.int .i64 5), .sc (.int .i64 6), .sc (.int .i64 4)], .os 1 7 [.sc (.string ByteArray.empty), .sc (.string ByteArray.empty), .sc (.string ByteArray.empty), .sc (.string ByteArray.empty), .sc (.string ⟨#[98]⟩), .sc (.string ByteArray.empty), .sc (.string ⟨#[97]⟩)]]
theorem zyc : z2Z Try.prog xt z1h 6 51 [dgT, .sc (.int .i64 5)] = some (sr5, [.dead, .dead]) := by kernel_rfl
def sr6 : T := .tup [.os 1 3 [.sc (.int .i64 6), .sc (.int .i64 4), .sc (.int .i64 5)], .os 1 7 [.sc (.string ByteArray.empty), .sc (.string ByteArray.empty), .sc (.string ByteArray.empty), .sc (.string ByteArray.empty), .sc (.string ⟨#[97]⟩), .sc (.string ⟨#[97, 97]⟩), .sc (.string ByteArray.empty)]]
theorem zyb : z2Z Try.prog xt z1h 6 51 [dgT, .sc (.int .i64 6)] = some (sr6, [.dead, .dead]) := by kernel_rfl
def ztS : List (FuncId × List T × T × List T) := [(46, [exT], .os 1 7 znK, [.dead]), (47, [exT, .sl 7 znK], .agg [.sl 7 [.sc (.int .i64 7), .sc (.int .i64 3), .sc (.int .i64 5), .sc (.int .i64 6), .sc (.int .i64 1), .sc (.int .i64 2), .sc (.int .i64 4)], .os 1 7 [.os 1 2 [.sc (.int .i64 0), .sc (.int .i64 2)], .os 1 2 [.sc (.int .i64 3), .sc (.int .i64 4)], .os 1 2 [.sc (.int .i64 1), .sc (.int .i64 2)], .os 1 2 [.sc (.int .i64 2), .sc (.int .i64 2)], .os 1 2 [.sc (.int .i64 5), .sc (.int .i64 4)], .os 1 2 [.sc (.int .i64 6), .sc (.int .i64 4)], .os 1 2 [.sc (.int .i64 4), .sc (.int .i64 6)]], .os 1 7 [.os 1 7 [.sc (.bool true), .sc (.bool false), .sc (.bool false), .sc (.bool false), .sc (.bool false), .sc (.bool false), .sc (.bool false)], .os 1 7 [.sc (.bool true), .sc (.bool true), .sc (.bool true), .sc (.bool true), .sc (.bool false), .sc (.bool false), .sc (.bool false)], .os 1 7 [.sc (.bool true), .sc (.bool true), .sc (.bool true), .sc (.bool true), .sc (.bool false), .sc (.bool false), .sc (.bool false)], .os 1 7 [.sc (.bool true), .sc (.bool true), .sc (.bool true), .sc (.bool true), .sc (.bool false), .sc (.bool false), .sc (.bool false)], .os 1 7 [.sc (.bool true), .sc (.bool true), .sc (.bool true), .sc (.bool true), .sc (.bool true), .sc (.bool true), .sc (.bool true)], .os 1 7 [.sc (.bool true), .sc (.bool true), .sc (.bool true), .sc (.bool true), .sc (.bool true), .sc (.bool true), .sc (.bool true)], .os 1 7 [.sc (.bool true), .sc (.bool true), .sc (.bool true), .sc (.bool true), .sc (.bool true), .sc (.bool true), .sc (.bool true)]]], [.dead, .dead]), (51, [dgT, .sc (.int .i64 0)], sr0, [.dead, .dead]), (51, [dgT, .sc (.int .i64 1)], sr1, [.dead, .dead]), (51, [dgT, .sc (.int .i64 2)], sr2, [.dead, .dead]), (51, [dgT, .sc (.int .i64 3)], sr3, [.dead, .dead]), (51, [dgT, .sc (.int .i64 4)], sr4, [.dead, .dead]), (51, [dgT, .sc (.int .i64 5)], sr5, [.dead, .dead]), (51, [dgT, .sc (.int .i64 6)], sr6, [.dead, .dead])]
theorem ztR : ∀ x ∈ ztS, L x.1 x.2.1 = some x.2.2 := by
  simp only [ztS, List.forall_mem_cons]
  exact ⟨zbb 10 e36, zbb 10 e37, zbb 6 zyh, zbb 6 zyg, zbb 6 zyf, zbb 6 zye, zbb 6 zyd, zbb 6 zyc, zbb 6 zyb, fun x h => by cases h⟩
theorem cKl : zkj Try.prog xt z1h (tab ztS) 14 12 [] = some (.sc (.bool true), []) := by kernel_rfl
theorem cK : L 12 [] = some (.sc (.bool true), []) := zvn ztS 14 cKl ztR
def zuc : Option Bool := some true
instance : Ok zuc (fun r => L 12 [] = some (.sc (.bool r), [])) := ⟨fun r h => by cases h; exact cK⟩
end
section
open Go
noncomputable section
set_option maxRecDepth 100000
set_option maxHeartbeats 1000000
def z4F (a0 : List Int) : Option (Bool) :=
  (zb8 a0).bind fun v8 =>
  (z3w v8).bind fun v9 =>
  (z4j v9.2 v9.1 5).bind fun v10 =>
  (z5o v10.1).bind fun v11 =>
  (z9G v10.1).bind fun v12 =>
  if v11.2 = v12.2 then
    (z7T v11.1 v12.1).bind fun v13 =>
    if v13 = true then
      (zuc).bind fun v14 =>
      some v14
    else
      some false
  else
    some false
theorem zat {a0 : List Int} {r : Bool} (h : z4F a0 = some r) : L 3 [.sl a0.length (a0.map fun x0 => .sc (.int .i64 x0))] = some (.sc (.bool r), [.dead]) := by
  have h := z4p h; unfold z4F at h; exact z4O zCn fn3 bd3
end
end
section
open Go
set_option maxRecDepth 100000
theorem zpz (a : List ByteArray) (h : a.length <= 100000) : z7W a a = some true := by
  unfold z7W
  rw [if_pos rfl]
  refine z0t (s := (0 : Int)) a.length (fun k => (k : Int)) rfl (by simp only [LFm]; omega) (fun k hk => ?_) ?_
  · simp only [z6x]
    rw [if_pos (by omega), z1s hk, Option.bind_some, Option.bind_some, if_pos rfl, z0T (by omega)]
  · simp only [z6x]
    rw [if_neg (by omega)]
theorem zpA (X : List Hol) (h : X.length <= 100000) (hx : ∀ x ∈ X, x.tiles.length <= 100000 /\ x.words.length <= 100000 /\ x.perms.length <= 100000 /\ ∀ p ∈ x.perms, p.length <= 100000) : z7T X X = some true := by
  unfold z7T
  rw [if_pos rfl]
  refine z0t (s := (0 : Int)) X.length (fun k => (k : Int)) rfl (by simp only [LFm]; omega) (fun k hk => ?_) ?_
  · obtain ⟨h1, h2, h3, h4⟩ := hx _ (List.getElem_mem hk)
    simp only [z6t]
    rw [if_pos (by omega), z1s hk, Option.bind_some, Option.bind_some, if_pos rfl, if_pos rfl, zpz _ h2, Option.bind_some, if_pos rfl, if_pos rfl]
    generalize X[k] = x at *
    refine z0t (s := (0 : Int)) x.tiles.length (fun q => (q : Int)) rfl (by simp only [LFm]; omega) (fun q hq => ?_) ?_
    · simp only [z5A]
      rw [if_pos (by omega), z1s hq, Option.bind_some, Option.bind_some, if_pos rfl, z0T (by omega)]
    · simp only [z5A]
      rw [if_neg (by omega)]
      congr 1
      refine z0t (s := (0 : Int)) x.perms.length (fun q => (q : Int)) rfl (by simp only [LFm]; omega) (fun q hq => ?_) ?_
      · have h5 := h4 _ (List.getElem_mem hq)
        simp only [z5z]
        rw [if_pos (by omega), z1s hq, Option.bind_some, Option.bind_some, if_pos rfl]
        refine z0t (s := (0 : Int)) x.perms[q].length (fun t => (t : Int)) rfl (by simp only [LFm]; omega) (fun t ht => ?_) ?_
        · simp only [z5y]
          rw [if_pos (by omega), z1s hq, Option.bind_some, z1s ht, Option.bind_some, Option.bind_some, z1s ht, Option.bind_some, if_pos rfl, z0T (by omega)]
        · simp only [z5y]
          rw [if_neg (by omega), z0T (by omega)]
      · simp only [z5z]
        rw [if_neg (by omega), z0T (by omega)]
  · simp only [z6t]
    rw [if_neg (by omega)]
theorem ztL {d : DFA} {m n : Nat} (hd : DfaOk d m n) (hn : n <= 7) {c : Nat} (hc : c < (z8f d m n (z2E d m n)).length) : (zkQ d m n (z2E d m n) c).tiles.length <= 100000 /\ (zkQ d m n (z2E d m n) c).words.length <= 100000 /\ (zkQ d m n (z2E d m n) c).perms.length <= 100000 /\ ∀ p ∈ (zkQ d m n (z2E d m n) c).perms, p.length <= 100000 := by
  have h128 : 2 ^ n <= 128 := Nat.pow_le_pow_right (n := 2) (by omega) hn
  have hS := z8r hd
  have hSl := z0z hS.nd hS.lt
  have hm := hd.m6
  have hk := (z3B hd hn hS hc).2
  have htl := zpt hd hn hS hk
  have hI := zsL hd hn hS (c := c) (z2E d m n).length (Nat.le_refl _)
  have hB : (z2E d m n).length * m <= 128 * 6 := Nat.mul_le_mul (by omega) hm
  have h1 := hI.bd
  have h2 := hI.len
  refine ⟨by simp only [zkQ]; rw [z0d]; omega, by simp only [zkQ]; omega, by simp only [zkQ]; rw [List.length_map]; omega, fun p hp => ?_⟩
  simp only [zkQ] at hp
  obtain ⟨q, hq, rfl⟩ := List.mem_map.1 hp
  rw [z0d, zhR hI q hq]
  omega
theorem zwX (l : List Int) (w0 : l.length <= maxLen) (z0 : ∀ x ∈ l, (Lit.int .i64 x).wf = true) : ∃ outs, L 3 [.sl l.length (l.map fun x => .sc (.int .i64 x))] = some (bT true, outs) := by
  obtain ⟨t0, e0, h0⟩ := zwM l
  obtain ⟨m, t1, e1, m1, m2, h1⟩ := zpQ h0
  obtain ⟨d, t2, n, e2, hd, hn, h2, h32⟩ := zvQ h1 m 5 ⟨m1, m2⟩ (by omega)
  obtain ⟨X, x1, x2, O, rfl, o2⟩ := zvL hd hn
  have e2' : z4j t1 (m : Int) 5 = some (d, t2) := e2
  have hOc : ∀ c ∈ O, c < (z8f d m n (z2E d m n)).length := fun c hc => by
    have := o2.mem_iff.1 hc
    unfold z7G at this
    exact List.mem_range.1 (List.mem_filter.1 this).1
  have hOl : O.length <= 128 := by
    have h128 : 2 ^ n <= 128 := Nat.pow_le_pow_right (n := 2) (by omega) hn
    have hS := z8r hd
    have hSl := z0z hS.nd hS.lt
    rw [o2.length_eq]; unfold z7G
    refine Nat.le_trans (List.length_filter_le _ _) ?_
    rw [List.length_range]
    have := z7a (z1F d m n (z2E d m n)) (z2E d m n).length
    omega
  have hs := zpA (O.map (zkQ d m n (z2E d m n))) (by rw [List.length_map]; omega) (fun x hx => by
    obtain ⟨c, hc, rfl⟩ := List.mem_map.1 hx
    exact ztL hd hn (hOc c hc))
  have key : z4F l = some true := by
    unfold z4F
    rw [e0, Option.bind_some, e1, Option.bind_some]
    simp only
    rw [e2', Option.bind_some]
    simp only
    rw [x1, Option.bind_some, x2, Option.bind_some, if_pos rfl]
    simp only
    rw [hs, Option.bind_some, if_pos rfl]
    rfl
  exact ⟨_, zat key⟩
end
section
open Go.RowKit
def Arr (w : World) (g n : Nat) (f : Nat -> Value) : Prop :=
  ∀ i, i < n -> w.cell? ⟨g, i, none⟩ = some (f i) /\ w.frozen? ⟨g, i, none⟩ = false
theorem Arr.set {w : World} {g n : Nat} {f : Nat -> Value} (h : Arr w g n f) (j : Nat) (hj : j < n) (c : Value) :
    Arr (w.setCell ⟨g, j, none⟩ c) g n (fun i => if i = j then c else f i) := by
  intro i hi
  refine ⟨?_, by rw [World.frozen?_setCell]; exact (h i hi).2⟩
  by_cases hij : i = j
  · subst hij
    rw [World.cell?_setCell_same _ _ _ (h i hi).1]; simp
  · rw [World.cell?_setCell_other _ _ _ _ (fun e => hij (by cases e; rfl)), (h i hi).1]; simp [hij]
theorem Arr.setOther {w : World} {g n : Nat} {f : Nat -> Value} (h : Arr w g n f) {g' : Nat} (hg : g ≠ g') (j : Nat) (c : Value) : Arr (w.setCell ⟨g', j, none⟩ c) g n f := by
  intro i hi
  refine ⟨?_, by rw [World.frozen?_setCell]; exact (h i hi).2⟩
  rw [World.cell?_setCell_other _ _ _ _ (fun e => hg (by cases e; rfl))]; exact (h i hi).1
theorem Arr.drew {w : World} {g n : Nat} {f : Nat -> Value} (h : Arr w g n f) : Arr w.drew g n f := h
theorem Arr.congr {w : World} {g n : Nat} {f f' : Nat -> Value} (h : Arr w g n f) (e : ∀ i, i < n -> f i = f' i) : Arr w g n f' :=
  fun i hi => by rw [← e i hi]; exact h i hi
theorem Arr.below {w w' : World} {g n B : Nat} {f : Nat -> Value} (h : Arr w g n f) (hb : Below B w w') (hg : g < B) : Arr w' g n f :=
  fun i hi => ⟨(hb.cell (p := ⟨g, i, none⟩) hg).trans (h i hi).1, (hb.frozen (p := ⟨g, i, none⟩) hg).trans (h i hi).2⟩
theorem Arr.grown {w w' : World} {g n : Nat} {row : Option Nat} {f : Nat -> Value} (h : Arr w g n f) (hb : w.grownBy w' row) (hg : some g ≠ row) : Arr w' g n f :=
  fun i hi => by
    have hlt := World.block_lt_of_cell? w _ (h i hi).1
    have e := hb.block g hlt hg
    exact ⟨(World.cell?_of_block (a := ⟨g, i, none⟩) e).trans (h i hi).1, (World.frozen?_of_block (a := ⟨g, i, none⟩) e).trans (h i hi).2⟩
theorem Arr.made (w : World) (z : Value) (n : Nat) (e : TypeId) : Arr (w.alloc (.cells (madeCells #[z] n) e)) w.heap.size n (fun _ => z) := by
  intro i hi
  refine ⟨?_, by rw [World.frozen?_alloc_new]⟩
  rw [World.cell?_alloc_new]
  simp [madeCells, hi, Nat.mod_one]
theorem Arr.lt {w : World} {g n : Nat} {f : Nat -> Value} (h : Arr w g n f) (hn : 0 < n) : g < w.heap.size := World.block_lt_of_cell? w _ (h 0 hn).1
theorem Arr.get {w : World} {g n : Nat} {f : Nat -> Value} (h : Arr w g n f) (i : Nat) (hi : i < n) {v : Value} (e : f i = v) : w.cell? ⟨g, i, none⟩ = some v := by rw [(h i hi).1, e]
theorem Arr.free {w : World} {g n : Nat} {f : Nat -> Value} (h : Arr w g n f) (i : Nat) (hi : i < n) : w.frozen? ⟨g, i, none⟩ = false := (h i hi).2
end
end Go.Proofs.Ytodliknibbafeaa
section
namespace Go.Proofs
open Go.Shelf
def Try.lays128_ren : Go.Shelf.Ren := ⟨fun | 128 => 93 | n => n, fun | 51 => 111 | 3 => 3 | 4 => 4 | 46 => 92 | 5 => 5 | 9 => 9 | n => n, fun | n => n⟩
theorem Try.lays128 : Go.Proofs.Lays.n128 Try.prog Try.lays128_ren := {
  mixed := by kernel_rfl
  f128 := Try.func93.trans (congrArg some (by kernel_rfl))
  t3 := Try.underlying3
  a3 := Try.isAgg3
  z3 := Try.sizeOf3
  v3 := Try.zeroValue3
  t4 := Try.underlying4
  a4 := Try.isAgg4
  z4 := Try.sizeOf4
  v4 := Try.zeroValue4
  t5 := Try.underlying5
  a5 := Try.isAgg5
  z5 := Try.sizeOf5
  v5 := Try.zeroValue5
  t9 := Try.underlying9
  a9 := Try.isAgg9
  z9 := Try.sizeOf9
  v9 := Try.zeroValue9
  t46 := Try.underlying92
  a46 := Try.isAgg92
  z46 := Try.sizeOf92
  v46 := Try.zeroValue92
  t51 := Try.underlying111
  a51 := Try.isAgg111
  z51 := Try.sizeOf111
  v51 := Try.zeroValue111 }
theorem Try.bits_Len32 (x : Int) (w : World) (h0 : 0 <= x) (h1 : x <= 4294967295) :
    Calls Try.prog 93 #[.int .u32 x] w fun e w' => e = .returned (.int .i64 (Lib.bitLen x.toNat)) /\ w' = w := Any.bits_Len32 Try.lays128 x w h0 h1
def Try.lays125_ren : Go.Shelf.Ren := ⟨fun | 125 => 82 | 128 => 93 | 129 => 94 | n => n, fun | 46 => 92 | 3 => 3 | 51 => 111 | 53 => 113 | 4 => 4 | 5 => 5 | 9 => 9 | n => n, fun | n => n⟩
theorem Try.lays125 : Go.Proofs.Lays.n125 Try.prog Try.lays125_ren := {
  mixed := by kernel_rfl
  f125 := Try.func82.trans (congrArg some (by kernel_rfl))
  f128 := Try.func93.trans (congrArg some (by kernel_rfl))
  f129 := Try.func94.trans (congrArg some (by kernel_rfl))
  t3 := Try.underlying3
  a3 := Try.isAgg3
  z3 := Try.sizeOf3
  v3 := Try.zeroValue3
  t4 := Try.underlying4
  a4 := Try.isAgg4
  z4 := Try.sizeOf4
  v4 := Try.zeroValue4
  t5 := Try.underlying5
  a5 := Try.isAgg5
  z5 := Try.sizeOf5
  v5 := Try.zeroValue5
  t9 := Try.underlying9
  a9 := Try.isAgg9
  z9 := Try.sizeOf9
  v9 := Try.zeroValue9
  t46 := Try.underlying92
  a46 := Try.isAgg92
  z46 := Try.sizeOf92
  v46 := Try.zeroValue92
  t51 := Try.underlying111
  a51 := Try.isAgg111
  z51 := Try.sizeOf111
  v51 := Try.zeroValue111
  t53 := Try.underlying113
  a53 := Try.isAgg113
  z53 := Try.sizeOf113
  v53 := Try.zeroValue113 }
theorem Try.bits_Len (x : Int) (w : World) (h0 : 0 <= x) (h1 : x <= 18446744073709551615) :
    Calls Try.prog 82 #[.int .u64 x] w fun e w' => e = .returned (.int .i64 (Lib.bitLen x.toNat)) /\ w' = w := Any.bits_Len Try.lays125 x w h0 h1
def Try.lays215_ren : Go.Shelf.Ren := ⟨fun | 215 => 76 | n => n, fun | 3 => 3 | 4 => 4 | n => n, fun | n => n⟩
theorem Try.lays215 : Go.Proofs.Lays.n215 Try.prog Try.lays215_ren := {
  mixed := by kernel_rfl
  f215 := Try.func76.trans (congrArg some (by kernel_rfl))
  t3 := Try.underlying3
  a3 := Try.isAgg3
  z3 := Try.sizeOf3
  v3 := Try.zeroValue3
  t4 := Try.underlying4
  a4 := Try.isAgg4
  z4 := Try.sizeOf4
  v4 := Try.zeroValue4 }
open Go.RowKit in
theorem Try.cmp_isNaN_int (x : Int) (w : World) :
    Calls Try.prog 76 #[.int .i64 x] w fun e w' => e = .returned (.bool false) /\ w' = w := Any.cmp_isNaN_int Try.lays215 x w
def Try.lays122_ren : Go.Shelf.Ren := ⟨fun | 122 => 54 | 215 => 76 | n => n, fun | 3 => 3 | 4 => 4 | n => n, fun | n => n⟩
theorem Try.lays122 : Go.Proofs.Lays.n122 Try.prog Try.lays122_ren := {
  mixed := by kernel_rfl
  f122 := Try.func54.trans (congrArg some (by kernel_rfl))
  f215 := Try.func76.trans (congrArg some (by kernel_rfl))
  t3 := Try.underlying3
  a3 := Try.isAgg3
  z3 := Try.sizeOf3
  v3 := Try.zeroValue3
  t4 := Try.underlying4
  a4 := Try.isAgg4
  z4 := Try.sizeOf4
  v4 := Try.zeroValue4 }
open Go.RowKit in
theorem Try.cmp_Compare_int (x y : Int) (w : World) :
    Calls Try.prog 54 #[.int .i64 x, .int .i64 y] w fun e w' => e = .returned (.int .i64 (Lib.compareInt x y)) /\ w' = w := Any.cmp_Compare_int Try.lays122 x y w
def Try.lays129_ren : Go.Shelf.Ren := ⟨fun | 129 => 94 | n => n, fun | 53 => 113 | 3 => 3 | 4 => 4 | 46 => 92 | 5 => 5 | 9 => 9 | n => n, fun | n => n⟩
theorem Try.lays129 : Go.Proofs.Lays.n129 Try.prog Try.lays129_ren := {
  mixed := by kernel_rfl
  f129 := Try.func94.trans (congrArg some (by kernel_rfl))
  t3 := Try.underlying3
  a3 := Try.isAgg3
  z3 := Try.sizeOf3
  v3 := Try.zeroValue3
  t4 := Try.underlying4
  a4 := Try.isAgg4
  z4 := Try.sizeOf4
  v4 := Try.zeroValue4
  t5 := Try.underlying5
  a5 := Try.isAgg5
  z5 := Try.sizeOf5
  v5 := Try.zeroValue5
  t9 := Try.underlying9
  a9 := Try.isAgg9
  z9 := Try.sizeOf9
  v9 := Try.zeroValue9
  t46 := Try.underlying92
  a46 := Try.isAgg92
  z46 := Try.sizeOf92
  v46 := Try.zeroValue92
  t53 := Try.underlying113
  a53 := Try.isAgg113
  z53 := Try.sizeOf113
  v53 := Try.zeroValue113 }
theorem Try.bits_Len64 (x : Int) (w : World) (h0 : 0 <= x) (h1 : x <= 18446744073709551615) :
    Calls Try.prog 94 #[.int .u64 x] w fun e w' => e = .returned (.int .i64 (Lib.bitLen x.toNat)) /\ w' = w := Any.bits_Len64 Try.lays129 x w h0 h1
def Try.laysSlF20_f84_ren : Go.Shelf.Ren := ⟨fun | 20 => 84 | n => n, fun | 24 => 3 | 22 => 22 | 3 => 3 | 25 => 42 | 4 => 4 | 0 => 0 | n => n, fun | n => n⟩
theorem Try.laysSlF20_f84 : Go.Proofs.SlLaysF.n20 Try.prog Try.laysSlF20_f84_ren := {
  mixed := by kernel_rfl
  f20 := ⟨Try.f84.name, by decide, Try.func84.trans (congrArg some (by kernel_rfl))⟩
  t0 := Try.underlying0
  a0 := Try.isAgg0
  z0 := Try.sizeOf0
  v0 := Try.zeroValue0
  t3 := Try.underlying3
  a3 := Try.isAgg3
  z3 := Try.sizeOf3
  v3 := Try.zeroValue3
  t4 := Try.underlying4
  a4 := Try.isAgg4
  z4 := Try.sizeOf4
  v4 := Try.zeroValue4
  t22 := Try.underlying22
  a22 := Try.isAgg22
  z22 := Try.sizeOf22
  v22 := Try.zeroValue22
  a24 := Try.isAgg3
  z24 := Try.sizeOf3
  t25 := Try.underlying42
  a25 := Try.isAgg42
  z25 := Try.sizeOf42
  v25 := Try.zeroValue42 }
open Go.RowKit Go.Lib Go.Sort in
theorem Try.insertionSortCmpFunc_one {α : Type} [Inhabited α] (enc : α -> Value) (hO : OneCell enc) (cf : α -> α -> Int) (g : Nat) (cb : Array Value) (blk off cap a b : Nat) (d : Array α) (w : World) (eg : ∀ args w, (callFunc g args).run Try.prog w = .ok (.enter g args) w) (hcmp : CmpReads Try.prog g cb enc cf blk off d.size w) (hH : Holds enc w blk off d) (hab : a <= b) (hb : b <= d.size) (hsz : d.size < 4611686018427387904) :
    Calls Try.prog 84 #[.slice (some ⟨blk, off, none⟩) d.size cap, .int .i64 a, .int .i64 b, .func (.func g) #[] cb] w fun e w' =>
      e = .returned (.tuple #[]) /\ ∃ n, w' = (putRow enc w blk off (Sort.insertionSort (ltOf cf) d a b)).drewN n := Any.insertionSortCmpFunc_one Try.laysSlF20_f84 enc hO cf g cb blk off cap a b d w eg hcmp hH hab hb hsz
def Try.laysSlF46_f98_ren : Go.Shelf.Ren := ⟨fun | 46 => 98 | n => n, fun | 24 => 3 | 22 => 22 | 3 => 3 | 25 => 42 | 4 => 4 | 0 => 0 | n => n, fun | n => n⟩
theorem Try.laysSlF46_f98 : Go.Proofs.SlLaysF.n46 Try.prog Try.laysSlF46_f98_ren := {
  mixed := by kernel_rfl
  f46 := ⟨Try.f98.name, by decide, Try.func98.trans (congrArg some (by kernel_rfl))⟩
  t0 := Try.underlying0
  a0 := Try.isAgg0
  z0 := Try.sizeOf0
  v0 := Try.zeroValue0
  t3 := Try.underlying3
  a3 := Try.isAgg3
  z3 := Try.sizeOf3
  v3 := Try.zeroValue3
  t4 := Try.underlying4
  a4 := Try.isAgg4
  z4 := Try.sizeOf4
  v4 := Try.zeroValue4
  t22 := Try.underlying22
  a22 := Try.isAgg22
  z22 := Try.sizeOf22
  v22 := Try.zeroValue22
  a24 := Try.isAgg3
  z24 := Try.sizeOf3
  t25 := Try.underlying42
  a25 := Try.isAgg42
  z25 := Try.sizeOf42
  v25 := Try.zeroValue42 }
open Go.RowKit Go.Lib Go.Sort in
theorem Try.siftDownCmpFunc {α : Type} [Inhabited α] (enc : α -> Value) (cf : α -> α -> Int) (g : Nat) (cb : Array Value) (blk off cap lo hi first : Nat) (d0 d : Array α) (w0 w : World) (eg : ∀ args w, (callFunc g args).run Try.prog w = .ok (.enter g args) w) (hcmp : CmpLays1 Try.prog g cb enc cf blk off d0.size w0) (R : Row1 enc w0 blk off d0) (hs : d0.size = d.size) (S : SW enc w0 blk off d w) (hlo : lo <= hi) (hb : first + hi <= d.size) (hsz : d.size < 4611686018427387904) :
    Calls Try.prog 98 #[.slice (some ⟨blk, off, none⟩) d.size cap, .int .i64 lo, .int .i64 hi, .int .i64 first, .func (.func g) #[] cb] w fun e w' =>
      e = .returned (.tuple #[]) /\ SW enc w0 blk off (siftDown (ltOf cf) hi first lo d) w' := Any.siftDownCmpFunc Try.laysSlF46_f98 enc cf g cb blk off cap lo hi first d0 d w0 w eg hcmp R hs S hlo hb hsz
def Try.laysSlF21_f86_ren : Go.Shelf.Ren := ⟨fun | 21 => 86 | 46 => 98 | n => n, fun | 24 => 3 | 22 => 22 | 3 => 3 | 25 => 42 | 4 => 4 | 0 => 0 | n => n, fun | n => n⟩
theorem Try.laysSlF21_f86 : Go.Proofs.SlLaysF.n21 Try.prog Try.laysSlF21_f86_ren := {
  mixed := by kernel_rfl
  f21 := ⟨Try.f86.name, by decide, Try.func86.trans (congrArg some (by kernel_rfl))⟩
  f46 := ⟨Try.f98.name, by decide, Try.func98.trans (congrArg some (by kernel_rfl))⟩
  t0 := Try.underlying0
  a0 := Try.isAgg0
  z0 := Try.sizeOf0
  v0 := Try.zeroValue0
  t3 := Try.underlying3
  a3 := Try.isAgg3
  z3 := Try.sizeOf3
  v3 := Try.zeroValue3
  t4 := Try.underlying4
  a4 := Try.isAgg4
  z4 := Try.sizeOf4
  v4 := Try.zeroValue4
  t22 := Try.underlying22
  a22 := Try.isAgg22
  z22 := Try.sizeOf22
  v22 := Try.zeroValue22
  a24 := Try.isAgg3
  z24 := Try.sizeOf3
  t25 := Try.underlying42
  a25 := Try.isAgg42
  z25 := Try.sizeOf42
  v25 := Try.zeroValue42 }
open Go.RowKit Go.Lib Go.Sort in
theorem Try.heapSortCmpFunc {α : Type} [Inhabited α] (enc : α -> Value) (cf : α -> α -> Int) (g : Nat) (cb : Array Value) (blk off cap a b : Nat) (d0 d : Array α) (w0 w : World) (eg : ∀ args w, (callFunc g args).run Try.prog w = .ok (.enter g args) w) (hcmp : CmpLays1 Try.prog g cb enc cf blk off d0.size w0) (R : Row1 enc w0 blk off d0) (hs : d0.size = d.size) (S : SW enc w0 blk off d w) (hab : a <= b) (hb : b <= d.size) (hsz : d.size < 4611686018427387904) :
    Calls Try.prog 86 #[.slice (some ⟨blk, off, none⟩) d.size cap, .int .i64 a, .int .i64 b, .func (.func g) #[] cb] w fun e w' =>
      e = .returned (.tuple #[]) /\ SW enc w0 blk off (heapSort (ltOf cf) d a b) w' := Any.heapSortCmpFunc Try.laysSlF21_f86 enc cf g cb blk off cap a b d0 d w0 w eg hcmp R hs S hab hb hsz
open Go.RowKit Go.Lib Go.Sort in
theorem Try.insertionSortCmpFunc_s {α : Type} [Inhabited α] (enc : α -> Value) (cf : α -> α -> Int) (g : Nat) (cb : Array Value) (blk off cap a b : Nat) (d0 d : Array α) (w0 w : World) (eg : ∀ args w, (callFunc g args).run Try.prog w = .ok (.enter g args) w) (hcmp : CmpLays1 Try.prog g cb enc cf blk off d0.size w0) (R : Row1 enc w0 blk off d0) (hs : d0.size = d.size) (S : SW enc w0 blk off d w) (hab : a <= b) (hb : b <= d.size) (hsz : d.size < 4611686018427387904) :
    Calls Try.prog 84 #[.slice (some ⟨blk, off, none⟩) d.size cap, .int .i64 a, .int .i64 b, .func (.func g) #[] cb] w fun e w' => e = .returned (.tuple #[]) /\ SW enc w0 blk off (Sort.insertionSort (ltOf cf) d a b) w' := Any.insertionSortCmpFunc_s Try.laysSlF20_f84 enc cf g cb blk off cap a b d0 d w0 w eg hcmp R hs S hab hb hsz
def Try.laysSlF57_f104_ren : Go.Shelf.Ren := ⟨fun | 57 => 104 | n => n, fun | 24 => 3 | 22 => 22 | 3 => 3 | 70 => 118 | 25 => 42 | 0 => 0 | 4 => 4 | n => n, fun | n => n⟩
theorem Try.laysSlF57_f104 : Go.Proofs.SlLaysF.n57 Try.prog Try.laysSlF57_f104_ren := {
  mixed := by kernel_rfl
  f57 := ⟨Try.f104.name, by decide, Try.func104.trans (congrArg some (by kernel_rfl))⟩
  t0 := Try.underlying0
  a0 := Try.isAgg0
  z0 := Try.sizeOf0
  v0 := Try.zeroValue0
  t3 := Try.underlying3
  a3 := Try.isAgg3
  z3 := Try.sizeOf3
  v3 := Try.zeroValue3
  t4 := Try.underlying4
  a4 := Try.isAgg4
  z4 := Try.sizeOf4
  v4 := Try.zeroValue4
  t22 := Try.underlying22
  a22 := Try.isAgg22
  z22 := Try.sizeOf22
  v22 := Try.zeroValue22
  a24 := Try.isAgg3
  z24 := Try.sizeOf3
  t25 := Try.underlying42
  a25 := Try.isAgg42
  z25 := Try.sizeOf42
  v25 := Try.zeroValue42
  t70 := Try.underlying118
  a70 := Try.isAgg118
  z70 := Try.sizeOf118
  v70 := Try.zeroValue118 }
open Go.RowKit Go.Lib Go.Sort in
theorem Try.order2CmpFunc {α : Type} [Inhabited α] (enc : α -> Value) (cf : α -> α -> Int) (g : Nat) (cb : Array Value) (blk off cap a b c s : Nat) (d0 d : Array α) (w0 W : World) (eg : ∀ args w, (callFunc g args).run Try.prog w = .ok (.enter g args) w) (hcmp : CmpLays1 Try.prog g cb enc cf blk off d0.size w0) (R : Row1 enc w0 blk off d0) (hs : d0.size = d.size) (C : Cnt1 enc w0 blk off d c s W) (ha : a < d.size) (hb : b < d.size) (hsz : d.size < 4611686018427387904) (hss : s < 4611686018427387904) :
    Calls Try.prog 104 #[.slice (some ⟨blk, off, none⟩) d.size cap, .int .i64 a, .int .i64 b, .pointer (some ⟨c, 0, none⟩), .func (.func g) #[] cb] W fun e w' =>
      e = .returned (.tuple #[.int .i64 (order2 (ltOf cf) d a b s).1, .int .i64 (order2 (ltOf cf) d a b s).2.1]) /\ Cnt1 enc w0 blk off d c (order2 (ltOf cf) d a b s).2.2 w' := Any.order2CmpFunc Try.laysSlF57_f104 enc cf g cb blk off cap a b c s d0 d w0 W eg hcmp R hs C ha hb hsz hss
def Try.laysSlF50_f102_ren : Go.Shelf.Ren := ⟨fun | 50 => 102 | 57 => 104 | n => n, fun | 24 => 3 | 22 => 22 | 3 => 3 | 70 => 118 | 25 => 42 | 77 => 121 | 0 => 0 | 4 => 4 | n => n, fun | n => n⟩
theorem Try.laysSlF50_f102 : Go.Proofs.SlLaysF.n50 Try.prog Try.laysSlF50_f102_ren := {
  mixed := by kernel_rfl
  f50 := ⟨Try.f102.name, by decide, Try.func102.trans (congrArg some (by kernel_rfl))⟩
  f57 := ⟨Try.f104.name, by decide, Try.func104.trans (congrArg some (by kernel_rfl))⟩
  t0 := Try.underlying0
  a0 := Try.isAgg0
  z0 := Try.sizeOf0
  v0 := Try.zeroValue0
  t3 := Try.underlying3
  a3 := Try.isAgg3
  z3 := Try.sizeOf3
  v3 := Try.zeroValue3
  t4 := Try.underlying4
  a4 := Try.isAgg4
  z4 := Try.sizeOf4
  v4 := Try.zeroValue4
  t22 := Try.underlying22
  a22 := Try.isAgg22
  z22 := Try.sizeOf22
  v22 := Try.zeroValue22
  a24 := Try.isAgg3
  z24 := Try.sizeOf3
  t25 := Try.underlying42
  a25 := Try.isAgg42
  z25 := Try.sizeOf42
  v25 := Try.zeroValue42
  t70 := Try.underlying118
  a70 := Try.isAgg118
  z70 := Try.sizeOf118
  v70 := Try.zeroValue118
  t77 := Try.underlying121
  a77 := Try.isAgg121
  z77 := Try.sizeOf121
  v77 := Try.zeroValue121 }
open Go.RowKit Go.Lib Go.Sort in
theorem Try.medianCmpFunc {α : Type} [Inhabited α] (enc : α -> Value) (cf : α -> α -> Int) (g : Nat) (cb : Array Value) (blk off cap a b c' c s : Nat) (d0 d : Array α) (w0 W : World) (eg : ∀ args w, (callFunc g args).run Try.prog w = .ok (.enter g args) w) (hcmp : CmpLays1 Try.prog g cb enc cf blk off d0.size w0) (R : Row1 enc w0 blk off d0) (hs : d0.size = d.size) (C : Cnt1 enc w0 blk off d c s W) (ha : a < d.size) (hb : b < d.size) (hc : c' < d.size) (hsz : d.size < 4611686018427387904) (hss : s + 3 < 4611686018427387904) :
    Calls Try.prog 102 #[.slice (some ⟨blk, off, none⟩) d.size cap, .int .i64 a, .int .i64 b, .int .i64 c', .pointer (some ⟨c, 0, none⟩), .func (.func g) #[] cb] W fun e w' =>
      e = .returned (.int .i64 (median (ltOf cf) d a b c' s).1) /\ Cnt1 enc w0 blk off d c (median (ltOf cf) d a b c' s).2 w' := Any.medianCmpFunc Try.laysSlF50_f102 enc cf g cb blk off cap a b c' c s d0 d w0 W eg hcmp R hs C ha hb hc hsz hss
def Try.laysSlF49_f101_ren : Go.Shelf.Ren := ⟨fun | 49 => 101 | 50 => 102 | 57 => 104 | n => n, fun | 24 => 3 | 22 => 22 | 3 => 3 | 70 => 118 | 25 => 42 | 77 => 121 | 0 => 0 | 4 => 4 | n => n, fun | n => n⟩
theorem Try.laysSlF49_f101 : Go.Proofs.SlLaysF.n49 Try.prog Try.laysSlF49_f101_ren := {
  mixed := by kernel_rfl
  f49 := ⟨Try.f101.name, by decide, Try.func101.trans (congrArg some (by kernel_rfl))⟩
  f50 := ⟨Try.f102.name, by decide, Try.func102.trans (congrArg some (by kernel_rfl))⟩
  f57 := ⟨Try.f104.name, by decide, Try.func104.trans (congrArg some (by kernel_rfl))⟩
  t0 := Try.underlying0
  a0 := Try.isAgg0
  z0 := Try.sizeOf0
  v0 := Try.zeroValue0
  t3 := Try.underlying3
  a3 := Try.isAgg3
  z3 := Try.sizeOf3
  v3 := Try.zeroValue3
  t4 := Try.underlying4
  a4 := Try.isAgg4
  z4 := Try.sizeOf4
  v4 := Try.zeroValue4
  t22 := Try.underlying22
  a22 := Try.isAgg22
  z22 := Try.sizeOf22
  v22 := Try.zeroValue22
  a24 := Try.isAgg3
  z24 := Try.sizeOf3
  t25 := Try.underlying42
  a25 := Try.isAgg42
  z25 := Try.sizeOf42
  v25 := Try.zeroValue42
  t70 := Try.underlying118
  a70 := Try.isAgg118
  z70 := Try.sizeOf118
  v70 := Try.zeroValue118
  t77 := Try.underlying121
  a77 := Try.isAgg121
  z77 := Try.sizeOf121
  v77 := Try.zeroValue121 }
open Go.RowKit Go.Lib Go.Sort in
theorem Try.medianAdjacentCmpFunc {α : Type} [Inhabited α] (enc : α -> Value) (cf : α -> α -> Int) (g : Nat) (cb : Array Value) (blk off cap a c s : Nat) (d0 d : Array α) (w0 W : World) (eg : ∀ args w, (callFunc g args).run Try.prog w = .ok (.enter g args) w) (hcmp : CmpLays1 Try.prog g cb enc cf blk off d0.size w0) (R : Row1 enc w0 blk off d0) (hs : d0.size = d.size) (C : Cnt1 enc w0 blk off d c s W) (ha1 : 1 <= a) (ha2 : a + 1 < d.size) (hsz : d.size < 4611686018427387904) (hss : s + 3 < 4611686018427387904) :
    Calls Try.prog 101 #[.slice (some ⟨blk, off, none⟩) d.size cap, .int .i64 a, .pointer (some ⟨c, 0, none⟩), .func (.func g) #[] cb] W fun e w' =>
      e = .returned (.int .i64 (medianAdjacent (ltOf cf) d a s).1) /\ Cnt1 enc w0 blk off d c (medianAdjacent (ltOf cf) d a s).2 w' := Any.medianAdjacentCmpFunc Try.laysSlF49_f101 enc cf g cb blk off cap a c s d0 d w0 W eg hcmp R hs C ha1 ha2 hsz hss
def Try.laysSlF23_f88_ren : Go.Shelf.Ren := ⟨fun | 23 => 88 | 49 => 101 | 50 => 102 | 57 => 104 | n => n, fun | 24 => 3 | 22 => 22 | 3 => 3 | 25 => 42 | 45 => 104 | 0 => 0 | 4 => 4 | 70 => 118 | 77 => 121 | n => n, fun | n => n⟩
theorem Try.laysSlF23_f88 : Go.Proofs.SlLaysF.n23 Try.prog Try.laysSlF23_f88_ren := {
  mixed := by kernel_rfl
  f23 := ⟨Try.f88.name, by decide, Try.func88.trans (congrArg some (by kernel_rfl))⟩
  f49 := ⟨Try.f101.name, by decide, Try.func101.trans (congrArg some (by kernel_rfl))⟩
  f50 := ⟨Try.f102.name, by decide, Try.func102.trans (congrArg some (by kernel_rfl))⟩
  f57 := ⟨Try.f104.name, by decide, Try.func104.trans (congrArg some (by kernel_rfl))⟩
  t0 := Try.underlying0
  a0 := Try.isAgg0
  z0 := Try.sizeOf0
  v0 := Try.zeroValue0
  t3 := Try.underlying3
  a3 := Try.isAgg3
  z3 := Try.sizeOf3
  v3 := Try.zeroValue3
  t4 := Try.underlying4
  a4 := Try.isAgg4
  z4 := Try.sizeOf4
  v4 := Try.zeroValue4
  t22 := Try.underlying22
  a22 := Try.isAgg22
  z22 := Try.sizeOf22
  v22 := Try.zeroValue22
  a24 := Try.isAgg3
  z24 := Try.sizeOf3
  t25 := Try.underlying42
  a25 := Try.isAgg42
  z25 := Try.sizeOf42
  v25 := Try.zeroValue42
  t45 := Try.underlying104
  a45 := Try.isAgg104
  z45 := Try.sizeOf104
  v45 := Try.zeroValue104
  t70 := Try.underlying118
  a70 := Try.isAgg118
  z70 := Try.sizeOf118
  v70 := Try.zeroValue118
  t77 := Try.underlying121
  a77 := Try.isAgg121
  z77 := Try.sizeOf121
  v77 := Try.zeroValue121 }
open Go.RowKit Go.Lib Go.Sort in
theorem Try.choosePivotCmpFunc {α : Type} [Inhabited α] (enc : α -> Value) (cf : α -> α -> Int) (g : Nat) (cb : Array Value) (blk off cap a b : Nat) (d0 d : Array α) (w0 W : World) (eg : ∀ args w, (callFunc g args).run Try.prog w = .ok (.enter g args) w) (hcmp : CmpLays1 Try.prog g cb enc cf blk off d0.size w0) (R : Row1 enc w0 blk off d0) (hs : d0.size = d.size) (S : SW enc w0 blk off d W) (hab : a < b) (hb : b <= d.size) (hsz : d.size < 4611686018427387904) :
    Calls Try.prog 88 #[.slice (some ⟨blk, off, none⟩) d.size cap, .int .i64 a, .int .i64 b, .func (.func g) #[] cb] W fun e w' =>
      e = .returned (.tuple #[.int .i64 (choosePivot (ltOf cf) d a b).1, .int .i64 (hintCode (choosePivot (ltOf cf) d a b).2)]) /\ SW enc w0 blk off d w' := Any.choosePivotCmpFunc Try.laysSlF23_f88 enc cf g cb blk off cap a b d0 d w0 W eg hcmp R hs S hab hb hsz
def Try.laysSlF24_f89_ren : Go.Shelf.Ren := ⟨fun | 24 => 89 | n => n, fun | 24 => 3 | 22 => 22 | 3 => 3 | 25 => 42 | 4 => 4 | 0 => 0 | n => n, fun | n => n⟩
theorem Try.laysSlF24_f89 : Go.Proofs.SlLaysF.n24 Try.prog Try.laysSlF24_f89_ren := {
  mixed := by kernel_rfl
  f24 := ⟨Try.f89.name, by decide, Try.func89.trans (congrArg some (by kernel_rfl))⟩
  t0 := Try.underlying0
  a0 := Try.isAgg0
  z0 := Try.sizeOf0
  v0 := Try.zeroValue0
  t3 := Try.underlying3
  a3 := Try.isAgg3
  z3 := Try.sizeOf3
  v3 := Try.zeroValue3
  t4 := Try.underlying4
  a4 := Try.isAgg4
  z4 := Try.sizeOf4
  v4 := Try.zeroValue4
  t22 := Try.underlying22
  a22 := Try.isAgg22
  z22 := Try.sizeOf22
  v22 := Try.zeroValue22
  a24 := Try.isAgg3
  z24 := Try.sizeOf3
  t25 := Try.underlying42
  a25 := Try.isAgg42
  z25 := Try.sizeOf42
  v25 := Try.zeroValue42 }
open Go.RowKit Go.Lib Go.Sort in
theorem Try.reverseRangeCmpFunc {α : Type} [Inhabited α] (enc : α -> Value) (g : Nat) (cb : Array Value) (blk off cap a b : Nat) (d0 d : Array α) (w0 w : World) (R : Row1 enc w0 blk off d0) (hs : d0.size = d.size) (S : SW enc w0 blk off d w) (hab : a <= b) (hb : b <= d.size) (hsz : d.size < 4611686018427387904) :
    Calls Try.prog 89 #[.slice (some ⟨blk, off, none⟩) d.size cap, .int .i64 a, .int .i64 b, .func (.func g) #[] cb] w fun e w' => e = .returned (.tuple #[]) /\ SW enc w0 blk off (reverseRange d a b) w' := Any.reverseRangeCmpFunc Try.laysSlF24_f89 enc g cb blk off cap a b d0 d w0 w R hs S hab hb hsz
def Try.laysSlF25_f90_ren : Go.Shelf.Ren := ⟨fun | 25 => 90 | n => n, fun | 24 => 3 | 22 => 22 | 3 => 3 | 25 => 42 | 4 => 4 | 0 => 0 | n => n, fun | n => n⟩
theorem Try.laysSlF25_f90 : Go.Proofs.SlLaysF.n25 Try.prog Try.laysSlF25_f90_ren := {
  mixed := by kernel_rfl
  f25 := ⟨Try.f90.name, by decide, Try.func90.trans (congrArg some (by kernel_rfl))⟩
  t0 := Try.underlying0
  a0 := Try.isAgg0
  z0 := Try.sizeOf0
  v0 := Try.zeroValue0
  t3 := Try.underlying3
  a3 := Try.isAgg3
  z3 := Try.sizeOf3
  v3 := Try.zeroValue3
  t4 := Try.underlying4
  a4 := Try.isAgg4
  z4 := Try.sizeOf4
  v4 := Try.zeroValue4
  t22 := Try.underlying22
  a22 := Try.isAgg22
  z22 := Try.sizeOf22
  v22 := Try.zeroValue22
  a24 := Try.isAgg3
  z24 := Try.sizeOf3
  t25 := Try.underlying42
  a25 := Try.isAgg42
  z25 := Try.sizeOf42
  v25 := Try.zeroValue42 }
open Go.RowKit Go.Lib Go.Sort in
theorem Try.partialInsertionSortCmpFunc {α : Type} [Inhabited α] (enc : α -> Value) (cf : α -> α -> Int) (g : Nat) (cb : Array Value) (blk off cap a b : Nat) (d0 d : Array α) (w0 w : World) (eg : ∀ args w, (callFunc g args).run Try.prog w = .ok (.enter g args) w) (hcmp : CmpLays1 Try.prog g cb enc cf blk off d0.size w0) (R : Row1 enc w0 blk off d0) (hs : d0.size = d.size) (S : SW enc w0 blk off d w) (hab : a < b) (hb : b <= d.size) (hsz : d.size < 4611686018427387904) :
    Calls Try.prog 90 #[.slice (some ⟨blk, off, none⟩) d.size cap, .int .i64 a, .int .i64 b, .func (.func g) #[] cb] w fun e w' =>
      e = .returned (.bool (Sort.partialInsertionSort (ltOf cf) d a b).2) /\ SW enc w0 blk off (Sort.partialInsertionSort (ltOf cf) d a b).1 w' := Any.partialInsertionSortCmpFunc Try.laysSlF25_f90 enc cf g cb blk off cap a b d0 d w0 w eg hcmp R hs S hab hb hsz
def Try.laysSlF26_f91_ren : Go.Shelf.Ren := ⟨fun | 26 => 91 | n => n, fun | 24 => 3 | 22 => 22 | 3 => 3 | 25 => 42 | 0 => 0 | 4 => 4 | n => n, fun | n => n⟩
theorem Try.laysSlF26_f91 : Go.Proofs.SlLaysF.n26 Try.prog Try.laysSlF26_f91_ren := {
  mixed := by kernel_rfl
  f26 := ⟨Try.f91.name, by decide, Try.func91.trans (congrArg some (by kernel_rfl))⟩
  t0 := Try.underlying0
  a0 := Try.isAgg0
  z0 := Try.sizeOf0
  v0 := Try.zeroValue0
  t3 := Try.underlying3
  a3 := Try.isAgg3
  z3 := Try.sizeOf3
  v3 := Try.zeroValue3
  t4 := Try.underlying4
  a4 := Try.isAgg4
  z4 := Try.sizeOf4
  v4 := Try.zeroValue4
  t22 := Try.underlying22
  a22 := Try.isAgg22
  z22 := Try.sizeOf22
  v22 := Try.zeroValue22
  a24 := Try.isAgg3
  z24 := Try.sizeOf3
  t25 := Try.underlying42
  a25 := Try.isAgg42
  z25 := Try.sizeOf42
  v25 := Try.zeroValue42 }
open Go.RowKit Go.Lib Go.Sort in
theorem Try.partitionEqualCmpFunc {α : Type} [Inhabited α] (enc : α -> Value) (cf : α -> α -> Int) (g : Nat) (cb : Array Value) (blk off cap a b pivot : Nat) (d0 d : Array α) (w0 w : World) (eg : ∀ args w, (callFunc g args).run Try.prog w = .ok (.enter g args) w) (hcmp : CmpLays1 Try.prog g cb enc cf blk off d0.size w0) (R : Row1 enc w0 blk off d0) (hs : d0.size = d.size) (S : SW enc w0 blk off d w) (hap : a <= pivot) (hpb : pivot < b) (hb : b <= d.size) (hsz : d.size < 4611686018427387904) :
    Calls Try.prog 91 #[.slice (some ⟨blk, off, none⟩) d.size cap, .int .i64 a, .int .i64 b, .int .i64 pivot, .func (.func g) #[] cb] w fun e w' =>
      e = .returned (.int .i64 (Sort.partitionEqual (ltOf cf) d a b pivot).1) /\ SW enc w0 blk off (Sort.partitionEqual (ltOf cf) d a b pivot).2 w' := Any.partitionEqualCmpFunc Try.laysSlF26_f91 enc cf g cb blk off cap a b pivot d0 d w0 w eg hcmp R hs S hap hpb hb hsz
def Try.laysSlF27_f92_ren : Go.Shelf.Ren := ⟨fun | 27 => 92 | n => n, fun | 24 => 3 | 22 => 22 | 3 => 3 | 25 => 42 | 4 => 4 | 0 => 0 | n => n, fun | n => n⟩
theorem Try.laysSlF27_f92 : Go.Proofs.SlLaysF.n27 Try.prog Try.laysSlF27_f92_ren := {
  mixed := by kernel_rfl
  f27 := ⟨Try.f92.name, by decide, Try.func92.trans (congrArg some (by kernel_rfl))⟩
  t0 := Try.underlying0
  a0 := Try.isAgg0
  z0 := Try.sizeOf0
  v0 := Try.zeroValue0
  t3 := Try.underlying3
  a3 := Try.isAgg3
  z3 := Try.sizeOf3
  v3 := Try.zeroValue3
  t4 := Try.underlying4
  a4 := Try.isAgg4
  z4 := Try.sizeOf4
  v4 := Try.zeroValue4
  t22 := Try.underlying22
  a22 := Try.isAgg22
  z22 := Try.sizeOf22
  v22 := Try.zeroValue22
  a24 := Try.isAgg3
  z24 := Try.sizeOf3
  t25 := Try.underlying42
  a25 := Try.isAgg42
  z25 := Try.sizeOf42
  v25 := Try.zeroValue42 }
open Go.RowKit Go.Lib Go.Sort in
theorem Try.partitionCmpFunc {α : Type} [Inhabited α] (enc : α -> Value) (cf : α -> α -> Int) (g : Nat) (cb : Array Value) (blk off cap a b pivot : Nat) (d0 d : Array α) (w0 w : World) (eg : ∀ args w, (callFunc g args).run Try.prog w = .ok (.enter g args) w) (hcmp : CmpLays1 Try.prog g cb enc cf blk off d0.size w0) (R : Row1 enc w0 blk off d0) (hs : d0.size = d.size) (S : SW enc w0 blk off d w) (hap : a <= pivot) (hpb : pivot < b) (hb : b <= d.size) (hsz : d.size < 4611686018427387904) :
    Calls Try.prog 92 #[.slice (some ⟨blk, off, none⟩) d.size cap, .int .i64 a, .int .i64 b, .int .i64 pivot, .func (.func g) #[] cb] w fun e w' =>
      e = .returned (.tuple #[.int .i64 (Sort.partition (ltOf cf) d a b pivot).1, .bool (Sort.partition (ltOf cf) d a b pivot).2.1]) /\ SW enc w0 blk off (Sort.partition (ltOf cf) d a b pivot).2.2 w' := Any.partitionCmpFunc Try.laysSlF27_f92 enc cf g cb blk off cap a b pivot d0 d w0 w eg hcmp R hs S hap hpb hb hsz
def Try.laysSlF14_f81_ren : Go.Shelf.Ren := ⟨fun | 14 => 81 | 20 => 84 | 21 => 86 | 22 => 87 | 23 => 88 | 24 => 89 | 25 => 90 | 26 => 91 | 27 => 92 | 46 => 98 | 47 => 99 | 48 => 100 | 49 => 101 | 50 => 102 | 15 => 82 | 57 => 104 | 28 => 93 | 29 => 94 | n => n, fun | 24 => 3 | 22 => 22 | 3 => 3 | 25 => 42 | 4 => 4 | 0 => 0 | 46 => 105 | 45 => 104 | 50 => 98 | 66 => 114 | 39 => 92 | 55 => 113 | 70 => 118 | 76 => 120 | 77 => 121 | 53 => 111 | 5 => 5 | 9 => 9 | n => n, fun | n => n⟩
theorem Try.laysSlF14_f81 : Go.Proofs.SlLaysF.n14 Try.prog Try.laysSlF14_f81_ren := {
  mixed := by kernel_rfl
  f14 := ⟨Try.f81.name, by decide, Try.func81.trans (congrArg some (by kernel_rfl))⟩
  f15 := Try.func82.trans (congrArg some (by kernel_rfl))
  f20 := ⟨Try.f84.name, by decide, Try.func84.trans (congrArg some (by kernel_rfl))⟩
  f21 := ⟨Try.f86.name, by decide, Try.func86.trans (congrArg some (by kernel_rfl))⟩
  f22 := ⟨Try.f87.name, by decide, Try.func87.trans (congrArg some (by kernel_rfl))⟩
  f23 := ⟨Try.f88.name, by decide, Try.func88.trans (congrArg some (by kernel_rfl))⟩
  f24 := ⟨Try.f89.name, by decide, Try.func89.trans (congrArg some (by kernel_rfl))⟩
  f25 := ⟨Try.f90.name, by decide, Try.func90.trans (congrArg some (by kernel_rfl))⟩
  f26 := ⟨Try.f91.name, by decide, Try.func91.trans (congrArg some (by kernel_rfl))⟩
  f27 := ⟨Try.f92.name, by decide, Try.func92.trans (congrArg some (by kernel_rfl))⟩
  f28 := Try.func93.trans (congrArg some (by kernel_rfl))
  f29 := Try.func94.trans (congrArg some (by kernel_rfl))
  f46 := ⟨Try.f98.name, by decide, Try.func98.trans (congrArg some (by kernel_rfl))⟩
  f47 := Try.func99.trans (congrArg some (by kernel_rfl))
  f48 := Try.func100.trans (congrArg some (by kernel_rfl))
  f49 := ⟨Try.f101.name, by decide, Try.func101.trans (congrArg some (by kernel_rfl))⟩
  f50 := ⟨Try.f102.name, by decide, Try.func102.trans (congrArg some (by kernel_rfl))⟩
  f57 := ⟨Try.f104.name, by decide, Try.func104.trans (congrArg some (by kernel_rfl))⟩
  t0 := Try.underlying0
  a0 := Try.isAgg0
  z0 := Try.sizeOf0
  v0 := Try.zeroValue0
  t3 := Try.underlying3
  a3 := Try.isAgg3
  z3 := Try.sizeOf3
  v3 := Try.zeroValue3
  t4 := Try.underlying4
  a4 := Try.isAgg4
  z4 := Try.sizeOf4
  v4 := Try.zeroValue4
  t5 := Try.underlying5
  a5 := Try.isAgg5
  z5 := Try.sizeOf5
  v5 := Try.zeroValue5
  t9 := Try.underlying9
  a9 := Try.isAgg9
  z9 := Try.sizeOf9
  v9 := Try.zeroValue9
  t22 := Try.underlying22
  a22 := Try.isAgg22
  z22 := Try.sizeOf22
  v22 := Try.zeroValue22
  a24 := Try.isAgg3
  z24 := Try.sizeOf3
  t25 := Try.underlying42
  a25 := Try.isAgg42
  z25 := Try.sizeOf42
  v25 := Try.zeroValue42
  t39 := Try.underlying92
  a39 := Try.isAgg92
  z39 := Try.sizeOf92
  v39 := Try.zeroValue92
  t45 := Try.underlying104
  a45 := Try.isAgg104
  z45 := Try.sizeOf104
  v45 := Try.zeroValue104
  t46 := Try.underlying105
  a46 := Try.isAgg105
  z46 := Try.sizeOf105
  v46 := Try.zeroValue105
  t50 := Try.underlying98
  a50 := Try.isAgg98
  z50 := Try.sizeOf98
  v50 := Try.zeroValue98
  t53 := Try.underlying111
  a53 := Try.isAgg111
  z53 := Try.sizeOf111
  v53 := Try.zeroValue111
  t55 := Try.underlying113
  a55 := Try.isAgg113
  z55 := Try.sizeOf113
  v55 := Try.zeroValue113
  t66 := Try.underlying114
  a66 := Try.isAgg114
  z66 := Try.sizeOf114
  v66 := Try.zeroValue114
  t70 := Try.underlying118
  a70 := Try.isAgg118
  z70 := Try.sizeOf118
  v70 := Try.zeroValue118
  t76 := Try.underlying120
  a76 := Try.isAgg120
  z76 := Try.sizeOf120
  v76 := Try.zeroValue120
  t77 := Try.underlying121
  a77 := Try.isAgg121
  z77 := Try.sizeOf121
  v77 := Try.zeroValue121 }
open Go.RowKit Go.Lib Go.Sort in
theorem Try.pdqsortCmpFunc_all {α : Type} [Inhabited α] (enc : α -> Value) (cf : α -> α -> Int) (g : Nat) (cb : Array Value) (hO : SWO (ltOf cf)) (blk off cap : Nat) (d0 : Array α) (w0 : World) (eg : ∀ args w, (callFunc g args).run Try.prog w = .ok (.enter g args) w) (hcmp : CmpLays1 Try.prog g cb enc cf blk off d0.size w0) (R : Row1 enc w0 blk off d0) :
    ∀ (N a b limit : Nat) (d : Array α) (w : World), b - a < N -> d0.size = d.size -> SW enc w0 blk off d w -> a <= b -> b <= d.size -> d.size < 4611686018427387904 -> limit < 4611686018427387904 -> Below (ltOf cf) a b d ->
    Calls Try.prog 81 #[.slice (some ⟨blk, off, none⟩) d.size cap, .int .i64 a, .int .i64 b, .int .i64 limit, .func (.func g) #[] cb] w fun e w' => e = .returned (.tuple #[]) /\ SW enc w0 blk off (pdq (ltOf cf) d a b limit true true) w' := Any.pdqsortCmpFunc_all Try.laysSlF14_f81 enc cf g cb hO blk off cap d0 w0 eg hcmp R
def Try.laysSlF6_f68_ren : Go.Shelf.Ren := ⟨fun | 6 => 68 | 15 => 82 | 14 => 81 | 28 => 93 | 29 => 94 | 20 => 84 | 21 => 86 | 22 => 87 | 23 => 88 | 24 => 89 | 25 => 90 | 26 => 91 | 27 => 92 | 46 => 98 | 47 => 99 | 48 => 100 | 49 => 101 | 50 => 102 | 57 => 104 | n => n, fun | 22 => 22 | 24 => 3 | 25 => 42 | 3 => 3 | 39 => 92 | 0 => 0 | 53 => 111 | 55 => 113 | 4 => 4 | 46 => 105 | 45 => 104 | 50 => 98 | 5 => 5 | 9 => 9 | 66 => 114 | 70 => 118 | 76 => 120 | 77 => 121 | n => n, fun | n => n⟩
theorem Try.laysSlF6_f68 : Go.Proofs.SlLaysF.n6 Try.prog Try.laysSlF6_f68_ren := {
  mixed := by kernel_rfl
  f6 := ⟨Try.f68.name, by decide, Try.func68.trans (congrArg some (by kernel_rfl))⟩
  f14 := ⟨Try.f81.name, by decide, Try.func81.trans (congrArg some (by kernel_rfl))⟩
  f15 := Try.func82.trans (congrArg some (by kernel_rfl))
  f20 := ⟨Try.f84.name, by decide, Try.func84.trans (congrArg some (by kernel_rfl))⟩
  f21 := ⟨Try.f86.name, by decide, Try.func86.trans (congrArg some (by kernel_rfl))⟩
  f22 := ⟨Try.f87.name, by decide, Try.func87.trans (congrArg some (by kernel_rfl))⟩
  f23 := ⟨Try.f88.name, by decide, Try.func88.trans (congrArg some (by kernel_rfl))⟩
  f24 := ⟨Try.f89.name, by decide, Try.func89.trans (congrArg some (by kernel_rfl))⟩
  f25 := ⟨Try.f90.name, by decide, Try.func90.trans (congrArg some (by kernel_rfl))⟩
  f26 := ⟨Try.f91.name, by decide, Try.func91.trans (congrArg some (by kernel_rfl))⟩
  f27 := ⟨Try.f92.name, by decide, Try.func92.trans (congrArg some (by kernel_rfl))⟩
  f28 := Try.func93.trans (congrArg some (by kernel_rfl))
  f29 := Try.func94.trans (congrArg some (by kernel_rfl))
  f46 := ⟨Try.f98.name, by decide, Try.func98.trans (congrArg some (by kernel_rfl))⟩
  f47 := Try.func99.trans (congrArg some (by kernel_rfl))
  f48 := Try.func100.trans (congrArg some (by kernel_rfl))
  f49 := ⟨Try.f101.name, by decide, Try.func101.trans (congrArg some (by kernel_rfl))⟩
  f50 := ⟨Try.f102.name, by decide, Try.func102.trans (congrArg some (by kernel_rfl))⟩
  f57 := ⟨Try.f104.name, by decide, Try.func104.trans (congrArg some (by kernel_rfl))⟩
  t0 := Try.underlying0
  a0 := Try.isAgg0
  z0 := Try.sizeOf0
  v0 := Try.zeroValue0
  t3 := Try.underlying3
  a3 := Try.isAgg3
  z3 := Try.sizeOf3
  v3 := Try.zeroValue3
  t4 := Try.underlying4
  a4 := Try.isAgg4
  z4 := Try.sizeOf4
  v4 := Try.zeroValue4
  t5 := Try.underlying5
  a5 := Try.isAgg5
  z5 := Try.sizeOf5
  v5 := Try.zeroValue5
  t9 := Try.underlying9
  a9 := Try.isAgg9
  z9 := Try.sizeOf9
  v9 := Try.zeroValue9
  t22 := Try.underlying22
  a22 := Try.isAgg22
  z22 := Try.sizeOf22
  v22 := Try.zeroValue22
  a24 := Try.isAgg3
  z24 := Try.sizeOf3
  t25 := Try.underlying42
  a25 := Try.isAgg42
  z25 := Try.sizeOf42
  v25 := Try.zeroValue42
  t39 := Try.underlying92
  a39 := Try.isAgg92
  z39 := Try.sizeOf92
  v39 := Try.zeroValue92
  t45 := Try.underlying104
  a45 := Try.isAgg104
  z45 := Try.sizeOf104
  v45 := Try.zeroValue104
  t46 := Try.underlying105
  a46 := Try.isAgg105
  z46 := Try.sizeOf105
  v46 := Try.zeroValue105
  t50 := Try.underlying98
  a50 := Try.isAgg98
  z50 := Try.sizeOf98
  v50 := Try.zeroValue98
  t53 := Try.underlying111
  a53 := Try.isAgg111
  z53 := Try.sizeOf111
  v53 := Try.zeroValue111
  t55 := Try.underlying113
  a55 := Try.isAgg113
  z55 := Try.sizeOf113
  v55 := Try.zeroValue113
  t66 := Try.underlying114
  a66 := Try.isAgg114
  z66 := Try.sizeOf114
  v66 := Try.zeroValue114
  t70 := Try.underlying118
  a70 := Try.isAgg118
  z70 := Try.sizeOf118
  v70 := Try.zeroValue118
  t76 := Try.underlying120
  a76 := Try.isAgg120
  z76 := Try.sizeOf120
  v76 := Try.zeroValue120
  t77 := Try.underlying121
  a77 := Try.isAgg121
  z77 := Try.sizeOf121
  v77 := Try.zeroValue121 }
open Go.RowKit Go.Lib Go.Sort in
theorem Try.slices_SortFunc_eq {α : Type} [Inhabited α] (enc : α -> Value) (h1 : OneCell enc) (cf : α -> α -> Int) (hO : SWO (ltOf cf)) (g : Nat) (cb : Array Value) (blk off cap : Nat) (d : Array α) (w : World) (eg : ∀ args w, (callFunc g args).run Try.prog w = .ok (.enter g args) w) (hcmp : CmpLays1 Try.prog g cb enc cf blk off d.size w) (hH : Holds enc w blk off d) (hblk : blk < w.heap.size) (hsz : d.size < 4611686018427387904) :
    Calls Try.prog 68 #[.slice (some ⟨blk, off, none⟩) d.size cap, .func (.func g) #[] cb] w fun e w' =>
      e = .returned (.tuple #[]) /\ ∃ n os, w' = sortWorld enc w blk off n (pdq (ltOf cf) d 0 d.size (Lib.bitLen d.size) true true) os := Any.slices_SortFunc_eq Try.laysSlF6_f68 enc h1 cf hO g cb blk off cap d w eg hcmp hH hblk hsz
open Go.RowKit Go.Lib Go.Sort in
theorem Try.slices_SortFunc {α : Type} [Inhabited α] (enc : α -> Value) (h1 : OneCell enc) (cf : α -> α -> Int) (hO : SWO (ltOf cf)) (g : Nat) (cb : Array Value) (blk off cap : Nat) (d : Array α) (w : World) (eg : ∀ args w, (callFunc g args).run Try.prog w = .ok (.enter g args) w) (hcmp : CmpLays1 Try.prog g cb enc cf blk off d.size w) (hH : Holds enc w blk off d) (hblk : blk < w.heap.size) (hsz : d.size < 4611686018427387904) :
    Calls Try.prog 68 #[.slice (some ⟨blk, off, none⟩) d.size cap, .func (.func g) #[] cb] w fun e w' =>
      e = .returned (.tuple #[]) /\ ∃ d' n os, PermIn 0 d.size d d' /\ SortedIn (ltOf cf) 0 d.size d' /\ w' = sortWorld enc w blk off n d' os := Any.slices_SortFunc Try.laysSlF6_f68 enc h1 cf hO g cb blk off cap d w eg hcmp hH hblk hsz
end Go.Proofs
end
namespace Go.Proofs.Ytodliknibbafeaa
section
open Go Go.RowKit Go.Sort
set_option maxRecDepth 100000
set_option maxHeartbeats 4000000
def zqw (x : Fin 128) : Value := .int .i64 ((x.val : Nat) : Int)
def cfS (p r : Fin 128) : Int := if Lib.compareInt (szN r.val) (szN p.val) ≠ 0 then Lib.compareInt (szN r.val) (szN p.val) else Lib.compareInt (p.val : Nat) (r.val : Nat)
theorem zy2 (k : Nat) (W : World) (hk : k < 128) : Calls Try.prog 96 #[.int .u64 (k : Int)] W fun e w' => e = .returned (.int .i64 (szN k)) /\ w' = W := by
  have h0 : (0 : Int) <= (k : Int) := by omega
  have h1 : (k : Int) < 128 := by omega
  go_enter Try.func96, Try.ntmps96
  go_wp2
  all_goals go_ret
  all_goals refine ⟨congrArg Ending.returned (congrArg (Value.int IntKind.i64) ?_), rfl⟩
  clear h0 h1
  revert k
  decide +kernel
theorem zwI (k : Nat) (W : World) (hk : k < 128) : Calls Try.prog 83 #[.int .u64 (k : Int)] W fun e w' => e = .returned (.int .i64 (szN k)) /\ w' = W := by
  go_enter Try.func83, Try.ntmps83
  go_wp2_with (go_at_call 96; refine (zy2 k _ hk).mono ?_; rintro e w' ⟨rfl, rfl⟩)
  go_ret
  exact ⟨rfl, rfl⟩
theorem zui (k : Nat) (W : World) (hk : k < 128) : Calls Try.prog 71 #[.int .i64 (k : Int)] W fun e w' => e = .returned (.int .i64 (szN k)) /\ w' = W := by
  have hw : IntKind.u64.wrap (k : Int) = (k : Int) := by rw [IntKind.wrap_u64]; omega
  go_enter Try.func71, Try.ntmps71
  go_wp2_with (go_at_call 83; refine (zwI k _ hk).mono ?_; rintro e w' ⟨rfl, rfl⟩)
  go_ret
  exact ⟨rfl, rfl⟩
theorem or2 (a b : Int) (g : Nat) (W : World) (ha : W.cell? ⟨g, 0, none⟩ = some (.int .i64 a)) (hb : W.cell? ⟨g, 1, none⟩ = some (.int .i64 b)) : Calls Try.prog 70 #[.slice (some ⟨g, 0, none⟩) 2 2] W fun e w' => e = .returned (.int .i64 (if a ≠ 0 then a else b)) /\ w' = W := by
  go_enter Try.func70, Try.ntmps70
  go_wp2
  go_loop [8] (fun vi => ∃ k : Nat, k <= 2 /\ vi = .int .i64 k /\ (0 < k -> a = 0) /\ (1 < k -> b = 0)) (fun vi => 2 - (intOf vi).toNat)
  case atStart => exact ⟨0, by omega, rfl, by omega, by omega⟩
  case round =>
    obtain ⟨k, hk, rfl, h1, h2⟩ := hrel
    rcases (by omega : k = 0 ∨ k = 1 ∨ k = 2) with rfl | rfl | rfl
    · clear h1 h2
      by_cases h : a = 0
      · subst h
        go_wp2
        go_round
        case rel => exact ⟨1, by omega, by go_num, by simp, by simp⟩
        case measure => simp [intOf]
      · go_wp2
        go_ret
        simp [h]
    · have h1 := h1 (by omega)
      clear h2
      subst h1
      by_cases h : b = 0
      · subst h
        go_wp2
        go_round
        case rel => exact ⟨2, by omega, by go_num, by simp, by simp⟩
        case measure => simp [intOf]
      · go_wp2
        go_ret
        simp
    · have h1 := h1 (by omega)
      have h2 := h2 (by omega)
      subst h1 h2
      go_wp2
      go_ret
      simp
theorem zzm (x y : Fin 128) (W : World) : Calls Try.prog 69 #[zqw x, zqw y] W fun e w' => e = .returned (.int .i64 (cfS x y)) /\ ∃ q os', w' = grow (W.drewN q) os' := by
  obtain ⟨x, hx⟩ := x
  obtain ⟨y, hy⟩ := y
  unfold cfS zqw
  simp only
  generalize hc1 : Lib.compareInt (szN y) (szN x) = c1
  generalize hc2 : Lib.compareInt (x : Int) (y : Int) = c2
  have H1 := Lib.hid hc1
  have H2 := Lib.hid hc2
  clear hc1 hc2
  go_enter Try.func69, Try.ntmps69
  go_wp2_with (first | (go_at_call 71; first | (refine (zui y _ hy).mono ?_; rintro e w' ⟨rfl, rfl⟩) | (refine (zui x _ hx).mono ?_; rintro e w' ⟨rfl, rfl⟩)) | (go_at_call 54; refine (Try.cmp_Compare_int _ _ _).mono ?_; rintro e w' ⟨rfl, rfl⟩; first | rw [H1.out] | rw [H2.out]) | (go_at_call 70; refine (or2 c1 c2 _ _ ?_ ?_).mono ?_))
  · simp
  · simp
  all_goals go_ret
  all_goals exact ⟨rfl, 0, #[_], alloc_eq_grow _ _⟩
theorem zsq (a b : Int) : Lib.compareInt a b < 0 ↔ a < b := by unfold Lib.compareInt; split <;> (try split) <;> omega
theorem zuA (a b : Int) : Lib.compareInt a b = 0 ↔ a = b := by unfold Lib.compareInt; split <;> (try split) <;> omega
theorem zur (p r : Fin 128) : ltOf cfS p r = true ↔ (szN r.val < szN p.val ∨ (szN r.val = szN p.val /\ p.val < r.val)) := by
  unfold ltOf cfS
  rw [decide_eq_true_iff]
  split
  · rename_i h
    have := (not_congr (zuA (szN r.val) (szN p.val))).1 h
    rw [zsq]
    omega
  · rename_i h
    have := (zuA (szN r.val) (szN p.val)).1 (by simpa using h)
    rw [zsq]
    omega
theorem zrP (p r : Fin 128) : ltOf cfS p r = false ↔ ¬ (szN r.val < szN p.val ∨ (szN r.val = szN p.val /\ p.val < r.val)) := by
  rw [← zur]; simp
theorem zB0 : SWO (ltOf cfS) where
  irrefl x := by rw [zrP]; omega
  trans x y z h1 h2 := by rw [zur] at *; omega
  ntrans x y z h1 h2 := by rw [zrP] at *; omega
theorem zhO (a b : Int) : leI a b = true ↔ (szN b.toNat < szN a.toNat ∨ (szN a.toNat = szN b.toNat /\ a.toNat <= b.toNat)) := by
  unfold leI zqs; simp
theorem zf5 (x : Int) : ∀ l : List Int, (ztI x l).Perm (x :: l)
  | [] => .refl _
  | y :: l => by
    unfold ztI
    split
    · exact .refl _
    · exact ((zf5 x l).cons y).trans (.swap x y l)
theorem zcv : ∀ l : List Int, (zaW l).Perm l
  | [] => .refl _
  | x :: l => (zf5 x (zaW l)).trans ((zcv l).cons x)
theorem zf4 (x : Int) : ∀ l : List Int, l.Pairwise (fun a b => leI a b = true) -> (ztI x l).Pairwise (fun a b => leI a b = true)
  | [], _ => by simp [ztI]
  | y :: l, h => by
    unfold ztI
    rw [List.pairwise_cons] at h
    split
    · rename_i hxy
      refine List.pairwise_cons.2 ⟨fun z hz => ?_, List.pairwise_cons.2 h⟩
      rcases List.mem_cons.1 hz with rfl | hz
      · exact hxy
      · have := h.1 z hz
        rw [zhO] at *
        omega
    · rename_i hxy
      refine List.pairwise_cons.2 ⟨fun z hz => ?_, zf4 x l h.2⟩
      rcases List.mem_cons.1 ((zf5 x l).mem_iff.1 hz) with rfl | hz
      · rw [zhO] at *
        omega
      · exact h.1 z hz
theorem zcW : ∀ l : List Int, (zaW l).Pairwise (fun a b => leI a b = true)
  | [] => by simp [zaW]
  | x :: l => zf4 x _ (zcW l)
theorem z9Y : ∀ {l1 l2 : List Int}, l1.Perm l2 -> (∀ x ∈ l1, 0 <= x) -> l1.Pairwise (fun a b => leI a b = true) -> l2.Pairwise (fun a b => leI a b = true) -> l1 = l2
  | [], l2, h, _, _, _ => by rw [List.nil_perm] at h; exact h.symm
  | a :: l1, [], h, _, _, _ => by simp at h
  | a :: l1, b :: l2, h, h0, h1, h2 => by
    have hab : a = b := by
      rcases List.mem_cons.1 (h.mem_iff.1 (List.mem_cons_self ..)) with e | ha
      · exact e
      · rcases List.mem_cons.1 (h.mem_iff.2 (List.mem_cons_self ..)) with e | hb
        · exact e.symm
        · have e1 := (List.pairwise_cons.1 h2).1 a ha
          have e2 := (List.pairwise_cons.1 h1).1 b hb
          have p1 := h0 a (List.mem_cons_self ..)
          have p2 := h0 b (h.mem_iff.2 (List.mem_cons_self ..))
          rw [zhO] at e1 e2
          omega
    subst hab
    rw [z9Y (List.perm_cons a |>.1 h) (fun x hx => h0 x (List.mem_cons_of_mem _ hx)) (List.pairwise_cons.1 h1).2 (List.pairwise_cons.1 h2).2]
def toF (x : Int) : Fin 128 := ⟨x.toNat % 128, Nat.mod_lt _ (by decide)⟩
def ofF (f : Fin 128) : Int := (f.val : Int)
theorem zuf {x : Int} (h : 0 <= x /\ x < 128) : ofF (toF x) = x := by simp only [ofF, toF]; omega
def zy3 (B : Nat) (K : Nat -> z0g) (b : Nat) : z0g := if B <= b then [0] else K b
theorem zlW {xs : List Int} (hx : ∀ x ∈ xs, 0 <= x /\ x < 128) {d' : Array (Fin 128)} (hp : PermIn 0 (xs.map toF).toArray.size (xs.map toF).toArray d') (hs : SortedIn (ltOf cfS) 0 (xs.map toF).toArray.size d') : d'.toList.map ofF = zaW xs := by
  obtain ⟨h1, _, h3⟩ := hp
  have hsz : d'.size = xs.length := by simpa using h1
  have e1 : (xs.map toF).map ofF = xs := by
    rw [List.map_map]
    conv => rhs; rw [← List.map_id xs]
    exact List.map_congr_left fun x hxm => zuf (hx x hxm)
  have hp2 : d'.toList.Perm (xs.map toF) := by
    have : (d'.extract 0 (xs.map toF).toArray.size).toList = d'.toList := by
      rw [← h1]; simp
    rw [this] at h3
    simp at h3
    rwa [List.take_of_length_le (by simp)] at h3
  have hp3 : (d'.toList.map ofF).Perm xs := by
    have := hp2.map ofF
    rwa [e1] at this
  refine z9Y (hp3.trans (zcv xs).symm) (fun x hxm => (hx x (hp3.mem_iff.1 hxm)).1) ?_ (zcW xs)
  rw [List.pairwise_iff_getElem]
  intro i j hi hj hij
  simp only [List.length_map, Array.length_toList] at hi hj
  have := hs i j (by omega) hij (by simp; omega)
  rw [zrP, getElem!_pos d' i hi, getElem!_pos d' j hj] at this
  rw [zhO]
  simp only [List.getElem_map, Array.getElem_toList, ofF, Int.toNat_natCast]
  omega
theorem znv {w : World} {g n : Nat} {os : Array Obj} {cur : Array Value} {e : TypeId} {fr : Nat × Nat} (d : Array (Fin 128)) (hb : w.heap[g]? = some (.cells cur e fr)) : (sortWorld zqw w g 0 n d os).heap[g]? = some (.cells (putCells zqw 0 d cur) e fr) := by
  unfold sortWorld
  rw [heap_grow_old _ _ (by rw [size_putRow]; exact z2x hb)]
  simp [putRow, mapBlock, Sort.ahead, Array.getElem?_modify, hb, onCells]
theorem zhi {w : World} {g n : Nat} {os : Array Obj} (d : Array (Fin 128)) {b : Nat} (hb : b < w.heap.size) (hne : b ≠ g) : (sortWorld zqw w g 0 n d os).heap[b]? = w.heap[b]? := by
  unfold sortWorld
  rw [heap_grow_old _ _ (by rw [size_putRow]; exact hb)]
  simp [putRow, mapBlock, Sort.ahead, Array.getElem?_modify, Ne.symm hne]
theorem zt9 {w : World} {g n : Nat} {os : Array Obj} (d : Array (Fin 128)) : w.heap.size <= (sortWorld zqw w g 0 n d os).heap.size := by
  unfold sortWorld
  rw [size_grow, size_putRow]
  show w.heap.size <= w.heap.size + _
  omega
theorem zqA {I : World -> (Nat -> z0g) -> Prop} : zaD Try.prog I xtC := by
  intro f args r outs h
  unfold xtC at h
  split at h
  case isFalse => cases h
  rename_i hf
  subst hf
  unfold zuE at h
  split at h
  case h_2 => cases h
  rename_i n cs f fs gs
  split at h
  case isFalse => cases h
  rename_i hfg
  obtain ⟨rfl, hfs, hgs⟩ := hfg
  simp only [Array.isEmpty_iff] at hfs hgs
  subst hfs hgs
  split at h
  case h_2 => cases h
  rename_i xs hxs
  split at h
  case isFalse => cases h
  rename_i hn
  subst hn
  unfold zkZ at h
  split at h
  case isFalse => cases h
  rename_i hc
  obtain ⟨hne, hlen, hall⟩ := hc
  have hx : ∀ x ∈ xs, 0 <= x /\ x < 128 := by simpa using hall
  obtain ⟨rfl, rfl⟩ : T.tup [] = r /\ [T.os 1 (zaW xs).length ((zaW xs).map fun x => .sc (.int .i64 x)), .dead] = outs := by simpa using h
  have hcs := zkq hxs
  subst hcs
  clear h hxs hall
  refine ⟨fun vals w => ?_, fun w K vals hs ha hI => ?_⟩
  · have hb : ∃ c, Try.f68.body = some c := ⟨_, rfl⟩
    obtain ⟨c, hb⟩ := hb
    have hname : Try.f68.name ≠ "runtime.NumGoroutine" := by decide
    simp [callFunc, program, Sem.run, Try.func68, hname, hb]
  · obtain ⟨v, u, rfl⟩ : ∃ v u, vals = #[v, u] := by
      obtain ⟨l⟩ := vals
      match l, hs with
      | [v, u], _ => exact ⟨v, u, rfl⟩
    have hv : TRep w K (col 0) v (.os 1 xs.length (xs.map fun x => .sc (.int .i64 x))) := ha 0 _ rfl
    have hu : TRep w K [] u (.sc (.func (.func 69) #[] #[])) := ha 1 _ rfl
    rw [hu.sc_eq]
    clear hu ha
    have hl0 : 0 < xs.length := List.length_pos_iff.2 hne
    generalize hT : T.os 1 xs.length (xs.map fun x => T.sc (.int .i64 x)) = t at hv
    cases hv with
    | nil => injection hT with _ e _; omega
    | own c g n cap size cs arr e fz F hfz hc0 hK hg hsz hl hz hn hcap hF hh =>
      injection hT with e1 e2 e3
      subst e1 e2 e3
      have hcell : ∀ j (hj : j < xs.length), arr[j]? = some (.int .i64 xs[j]) := fun j hj => by
        rw [hF j (by simpa using hj)]
        have := hh j (.sc (.int .i64 xs[j])) (by simp [hj])
        rw [this.sc_eq]
      have hH : Holds zqw w g 0 (xs.map toF).toArray := fun j hj => by
        have hj' : j < xs.length := by simpa using hj
        constructor
        · rw [Nat.zero_add, z3J hg, hcell j hj', getElem!_pos _ j hj]
          simp only [zqw, List.getElem_toArray, List.getElem_map]
          have := zuf (hx _ (List.getElem_mem hj'))
          unfold ofF at this
          rw [this]
        · unfold World.frozen?
          rw [Nat.zero_add]
          simp only [hg]
          have := hfz j (by omega)
          obtain ⟨lo, hi⟩ := fz
          simp only at this ⊢
          simp only [Bool.and_eq_false_iff, decide_eq_false_iff_not]
          omega
      have eg : ∀ args w, (callFunc 69 args).run Try.prog w = .ok (.enter 69 args) w := enters_of Try.func69 (by kernel_rfl) rfl
      have hcmp : CmpLays1 Try.prog 69 #[] zqw cfS g 0 (xs.map toF).toArray.size w := fun m os dk _ x y => zzm x y _
      have hcon := Try.slices_SortFunc zqw (fun _ => rfl) cfS zB0 69 #[] g 0 cap (xs.map toF).toArray w eg hcmp hH (z2x hg) (by simpa using hlen)
      have hsize : (xs.map toF).toArray.size = xs.length := by simp
      rw [hsize] at hcon
      refine hcon.mono fun e' w' ⟨he, d', m, os, hp, hso, hw⟩ => ?_
      subst hw
      have hsort := zlW hx (by rw [hsize]; exact hp) (by rw [hsize]; exact hso)
      have hd : d'.size = xs.length := by have := hp.1; simpa using this
      have hys : (zaW xs).length = xs.length := (zcv xs).length_eq
      refine ⟨.tuple #[], zy3 w.heap.size K, he, ?_, fun i t hi hio => ?_, rfl, rfl, rfl, zt9 d', fun b hb hcb => ⟨by unfold zy3; rw [if_neg (by omega)], zhi d' hb ?_⟩, ?_⟩
      · exact .tup _ #[] [] (fun _ => undef) rfl (fun j hj => by simp at hj) (fun j t ht => by simp at ht)
      · match i, hi with
        | 0, hi =>
          refine ⟨_, rfl, ?_⟩
          show TRep _ _ (col 0) (.slice (some ⟨g, 0, none⟩) xs.length cap) _
          rw [← hys]
          refine .own (col 0) g _ cap 1 _ (putCells zqw 0 d' arr) e fz (fun j => .int .i64 ((zaW xs).getD j 0)) (fun i hi => hfz i (by simpa [putCells] using hi)) (by simp [col]) (by unfold zy3; rw [if_neg (by have := z2x hg; omega)]; exact hK) (znv d' hg) (by simpa [putCells] using hsz) (by simp) (by omega) (by omega) hcap (fun j hj => ?_) (fun j t ht => ?_)
          · have hj' : j < xs.length := by simpa [hys] using hj
            have hja : j < arr.size := (Array.getElem?_eq_some_iff.1 (hcell j hj')).1
            have hjd : j < d'.size := by omega
            simp only [putCells, Array.getElem?_mapIdx, hcell j hj', Option.map_some]
            rw [if_pos (by omega), Nat.sub_zero, getElem!_pos d' j hjd]
            have : (zaW xs).getD j 0 = ofF d'[j] := by
              rw [← hsort]; simp [List.getD, hjd]
            rw [this]; rfl
          · simp only [List.getElem?_map, Option.map_eq_some_iff] at ht
            obtain ⟨x, hx', rfl⟩ := ht
            simp only [List.getD, hx']
            exact .sc _ _ rfl
        | 1, hi => cases hi; cases hio
      · rintro rfl
        rw [hK] at hcb
        simp [col] at hcb
      · intro b arr0 e0 fz0 hb0
        by_cases hbg : b = g
        · subst hbg
          rw [hg] at hb0
          cases hb0
          exact ⟨_, _, _, znv d' hg, by simp [putCells]⟩
        · exact ⟨_, _, _, (zhi d' (z2x hb0) hbg).trans hb0, rfl⟩
    | _ => cases hT
end
section
structure StOk (ops : Array Oper) (t : SchT) (L : Array Bool) (d : Nat) (ns : List Nat) : Prop where
  ord : z3j .any ops true t L = true
  dep : t.depth = d
  nx : ∀ z ∈ t.nexts, z ∈ ns
structure BrOk (ops : Array Oper) (t : SchT) (L : Array Bool) (d : Nat) (ns hs : List Nat) : Prop where
  ord : z3j .any ops false t L = true
  dep : t.depth = d
  nx : ∀ z ∈ t.nexts, z ∈ ns
  hd : ∀ i ∈ hs, i ∈ t.heads
theorem zeI {ops : Array Oper} {L : Array Bool} (h : decide (Region.ready .any ops L = []) = true) : StOk ops .nil L 0 [] := ⟨by simp only [z3j, h, Bool.and_true], rfl, fun z hz => by simp [SchT.nexts] at hz⟩
theorem zB1 {ops : Array Oper} {k m : Nat} {rest : SchT} {L L' : Array Bool} {d : Nat} {ns : List Nat} (h : StOk ops rest L' d ns) (hL : L.setIfInBounds k true = L')
    (hc : ((m == 0 || m == 3) && (Region.ready .any ops L).contains k && Region.free .any ops L k && !(ns.contains k) && (m == 3 || ns.all fun z => (zvR .any ops ops.size [z]).contains k)) = true) : StOk ops (.op k m rest) L (d + 1) ns := by
  simp only [Bool.and_eq_true, Bool.or_eq_true, Bool.not_eq_true', beq_iff_eq] at hc
  obtain ⟨⟨⟨⟨h1, h2⟩, h3⟩, h4⟩, h5⟩ := hc
  have hm2 : ¬ m = 2 := by omega
  have hk : k ∉ ns := by simpa using h4
  refine ⟨?_, by simp only [SchT.depth, h.dep], fun z hz => h.nx z (by simpa only [SchT.nexts, if_neg hm2] using hz)⟩
  simp only [z3j]
  rw [if_pos (by simpa using h1), hL, h.ord, h2, h3]
  have h6 : rest.nexts.contains k = false := by
    rw [Bool.eq_false_iff]
    intro hh
    exact hk (h.nx k (by simpa using hh))
  rw [h6]
  simp only [Bool.not_false, Bool.and_self, Bool.true_and, Bool.and_true, Bool.or_eq_true, beq_iff_eq]
  rcases h5 with h5 | h5
  · exact .inl h5
  · exact .inr (List.all_eq_true.2 fun z hz => List.all_eq_true.1 h5 z (h.nx z hz))
theorem zB2 {ops : Array Oper} {k m : Nat} {rest : SchT} {L L' : Array Bool} {d : Nat} {ns ns' : List Nat} (h : StOk ops rest L' d ns) (hL : L.setIfInBounds k true = L')
    (hc : ((m == 1 || m == 2) && decide (Region.ready .any ops L = [k])) = true) (hn : (if m = 2 then [k] else ns) = ns') : StOk ops (.op k m rest) L (d + 1) ns' := by
  subst hn
  simp only [Bool.and_eq_true, Bool.or_eq_true, beq_iff_eq] at hc
  obtain ⟨h1, h2⟩ := hc
  refine ⟨?_, by simp only [SchT.depth, h.dep], fun z hz => ?_⟩
  · simp only [z3j]
    rw [if_neg (by omega), hL, h.ord, h2]
    simp [h1]
  · simp only [SchT.nexts] at hz
    split at hz
    · rename_i e; rw [if_pos e]; exact hz
    · rename_i e; rw [if_neg e]; exact h.nx z hz
theorem zDf {ops : Array Oper} {k m : Nat} {rest : SchT} {L L' : Array Bool} {d : Nat} {ns ns' : List Nat} (h : StOk ops rest L' d ns) (hL : L.setIfInBounds k true = L')
    (hc : ((m == 1 || m == 2) && (Region.ready .any ops L).contains k) = true) (hn : (if m = 2 then [k] else ns) = ns') : BrOk ops (.op k m rest) L (d + 1) ns' [k] := by
  subst hn
  simp only [Bool.and_eq_true, Bool.or_eq_true, beq_iff_eq] at hc
  obtain ⟨h1, h2⟩ := hc
  refine ⟨?_, by simp only [SchT.depth, h.dep], fun z hz => ?_, fun i hi => by simpa [SchT.heads] using hi⟩
  · simp only [z3j]
    rw [if_neg (by simp), hL, h.ord, h2]
    simp [h1]
  · simp only [SchT.nexts] at hz
    split at hz
    · rename_i e; rw [if_pos e]; exact hz
    · rename_i e; rw [if_neg e]; exact h.nx z hz
theorem z0h {ops : Array Oper} {a b : SchT} {L : Array Bool} {d : Nat} {n1 n2 h1 h2 : List Nat} (ha : BrOk ops a L d n1 h1) (hb : BrOk ops b L d n2 h2) : BrOk ops (.alt a b) L d (n1 ++ n2) (h1 ++ h2) := by
  refine ⟨?_, by simp only [SchT.depth, ha.dep], fun z hz => ?_, fun i hi => ?_⟩
  · simp only [z3j, ha.ord, hb.ord, ha.dep, hb.dep]; simp
  · simp only [SchT.nexts, List.mem_append] at hz ⊢
    exact hz.imp (ha.nx z) (hb.nx z)
  · simp only [SchT.heads, List.mem_append] at hi ⊢
    exact hi.imp (ha.hd i) (hb.hd i)
theorem zwo {ops : Array Oper} {a b : SchT} {L : Array Bool} {d : Nat} {ns ns' hs : List Nat} (h : BrOk ops (.alt a b) L d ns hs) (hc : ((Region.ready .any ops L).all fun i => hs.contains i) = true) (hn : (ns.all fun z => ns'.contains z) = true) : StOk ops (.alt a b) L d ns' := by
  refine ⟨?_, h.dep, fun z hz => by simpa using List.all_eq_true.1 hn z (h.nx z hz)⟩
  have := h.ord
  simp only [z3j, Bool.and_eq_true, decide_eq_true_eq] at this ⊢
  obtain ⟨⟨⟨h1, h2⟩, h3⟩, h4⟩ := this
  refine ⟨⟨⟨?_, h2⟩, h3⟩, h4⟩
  simp only [Bool.not_true, Bool.false_or, decide_eq_true_eq]
  intro i hi
  have := List.all_eq_true.1 hc i hi
  exact h.hd i (by simpa using this)
def zfs : Nat -> Nat -> List Bool
  | 0, _ => []
  | n + 1, k => (k % 2 == 1) :: zfs n (k / 2)
def mB (n k : Nat) : Array Bool := ⟨zfs n k⟩
theorem znV : ∀ n k, (zfs n k).length = n
  | 0, _ => rfl
  | n + 1, k => by simp [zfs, znV n]
theorem zia : ∀ n k i (h : i < (zfs n k).length), (zfs n k)[i] = k.testBit i
  | 0, k, i, h => by simp [zfs] at h
  | n + 1, k, 0, h => by simp only [zfs, List.getElem_cons_zero, Nat.testBit_zero]; rfl
  | n + 1, k, i + 1, h => by
    simp only [zfs, List.getElem_cons_succ]
    rw [zia n (k / 2) i, Nat.testBit_succ]
theorem zre {n a k : Nat} : (mB n a).setIfInBounds k true = mB n (a ||| 2 ^ k) := by
  apply Array.ext
  · simp [mB, znV]
  · intro i h1 h2
    have e1 : i < (zfs n a).length := by simpa [mB] using h1
    have e2 : i < (zfs n (a ||| 2 ^ k)).length := by simpa [mB] using h2
    have b1 := zia n a i e1
    have b2 := zia n (a ||| 2 ^ k) i e2
    rw [Array.getElem_setIfInBounds]
    simp only [mB, List.getElem_toArray] at b1 b2 ⊢
    rw [b1, b2, Nat.testBit_or, Nat.testBit_two_pow]
    · by_cases h : k = i
      · simp [h]
      · simp [h]
    · simpa [mB] using e1
theorem sq {ops : Array Oper} {k m n a : Nat} {rest : SchT} {d : Nat} {ns : List Nat} (h : StOk ops rest (mB n (a ||| 2 ^ k)) d ns)
    (hc : ((m == 0 || m == 3) && (Region.ready .any ops (mB n a)).contains k && Region.free .any ops (mB n a) k && !(ns.contains k) && (m == 3 || ns.all fun z => (zvR .any ops ops.size [z]).contains k)) = true := by kernel_rfl) : StOk ops (.op k m rest) (mB n a) (d + 1) ns := zB1 h zre hc
theorem se {ops : Array Oper} {k m n a : Nat} {rest : SchT} {d : Nat} {ns ns' : List Nat} (h : StOk ops rest (mB n (a ||| 2 ^ k)) d ns)
    (hc : ((m == 1 || m == 2) && decide (Region.ready .any ops (mB n a) = [k])) = true := by kernel_rfl) (hn : (if m = 2 then [k] else ns) = ns' := by rfl) : StOk ops (.op k m rest) (mB n a) (d + 1) ns' := zB2 h zre hc hn
theorem be {ops : Array Oper} {k m n a : Nat} {rest : SchT} {d : Nat} {ns ns' : List Nat} (h : StOk ops rest (mB n (a ||| 2 ^ k)) d ns)
    (hc : ((m == 1 || m == 2) && (Region.ready .any ops (mB n a)).contains k) = true := by kernel_rfl) (hn : (if m = 2 then [k] else ns) = ns' := by rfl) : BrOk ops (.op k m rest) (mB n a) (d + 1) ns' [k] := zDf h zre hc hn
theorem sa {ops : Array Oper} {a b : SchT} {L : Array Bool} {d : Nat} {ns ns' hs : List Nat} (h : BrOk ops (.alt a b) L d ns hs) (hc : ((Region.ready .any ops L).all fun i => hs.contains i) = true := by kernel_rfl) (hn : (ns.all fun z => ns'.contains z) = true := by rfl) : StOk ops (.alt a b) L d ns' := zwo h hc hn
def zm6 (cf : Cfg) (sk : Nat -> Bool) : Code -> Bool
  | .region id ops draw => sk id || (!draw || (match cf.dt id with | some t => zas ops t | none => (match cf.dr id with | some sch => zrD ops sch | none => true)))
  | .seq a b => zm6 cf sk a && zm6 cf sk b
  | .cond _ x y => zm6 cf sk x && zm6 cf sk y
  | .block _ c => zm6 cf sk c
  | .loop c => zm6 cf sk c
  | .scope c => zm6 cf sk c
  | _ => true
def z4s (i : Nat) : Code -> List (Array Oper)
  | .region id ops _ => if Nat.beq id i then [ops] else []
  | .seq a b => z4s i a ++ z4s i b
  | .cond _ x y => z4s i x ++ z4s i y
  | .block _ c => z4s i c
  | .loop c => z4s i c
  | .scope c => z4s i c
  | _ => []
noncomputable def zcy (i : Nat) (c : Code) : Array Oper := match z4s i c with | x :: _ => x | [] => #[]
theorem zcZ {cf : Cfg} {sk : Nat -> Bool} : ∀ (c : Code), zm6 cf sk c = true -> (∀ i, sk i = true -> ∃ t, cf.dt i = some t /\ ∀ o ∈ z4s i c, zas o t = true) -> okC cf c = true
  | .region id ops draw, h, hs => by
    simp only [zm6, Bool.or_eq_true] at h
    simp only [okC, Bool.or_eq_true]
    rcases h with h | h
    · right
      obtain ⟨t, h1, h2⟩ := hs id h
      rw [h1]
      exact h2 ops (by simp [z4s])
    · exact h
  | .seq a b, h, hs => by
    simp only [zm6, Bool.and_eq_true] at h
    simp only [okC, Bool.and_eq_true]
    exact ⟨zcZ a h.1 fun i hi => by obtain ⟨t, h1, h2⟩ := hs i hi; exact ⟨t, h1, fun o ho => h2 o (by simp only [z4s, List.mem_append]; exact .inl ho)⟩,
      zcZ b h.2 fun i hi => by obtain ⟨t, h1, h2⟩ := hs i hi; exact ⟨t, h1, fun o ho => h2 o (by simp only [z4s, List.mem_append]; exact .inr ho)⟩⟩
  | .cond _ a b, h, hs => by
    simp only [zm6, Bool.and_eq_true] at h
    simp only [okC, Bool.and_eq_true]
    exact ⟨zcZ a h.1 fun i hi => by obtain ⟨t, h1, h2⟩ := hs i hi; exact ⟨t, h1, fun o ho => h2 o (by simp only [z4s, List.mem_append]; exact .inl ho)⟩,
      zcZ b h.2 fun i hi => by obtain ⟨t, h1, h2⟩ := hs i hi; exact ⟨t, h1, fun o ho => h2 o (by simp only [z4s, List.mem_append]; exact .inr ho)⟩⟩
  | .block _ c, h, hs => by simp only [okC]; exact zcZ c (by simpa only [zm6] using h) (by simpa only [z4s] using hs)
  | .loop c, h, hs => by simp only [okC]; exact zcZ c (by simpa only [zm6] using h) (by simpa only [z4s] using hs)
  | .scope c, h, hs => by simp only [okC]; exact zcZ c (by simpa only [zm6] using h) (by simpa only [z4s] using hs)
  | .skip, _, _ => rfl
  | .label .., _, _ => rfl
  | .exit .., _, _ => rfl
  | .ret, _, _ => rfl
  | .rangeFunc .., _, _ => rfl
  | .goto _, _, _ => rfl
  | .refuse _, _, _ => rfl
theorem zaq {c : Code} {i : Nat} {t : SchT} {n : Nat} {ns : List Nat} {L : Array Bool} (hr : (z4s i c).length = 1) (hs : StOk (zcy i c) t L n ns) (hL : L = Array.replicate (zcy i c).toList.length false) (hd : (decide (n = (zcy i c).toList.length) && Region.noSelect (zcy i c)) = true) : ∀ o ∈ z4s i c, zas o t = true := by
  intro o ho
  obtain ⟨x, hx⟩ : ∃ x, z4s i c = [x] := List.length_eq_one_iff.1 hr
  have e : zcy i c = x := by unfold zcy; rw [hx]
  rw [hx] at ho
  obtain rfl : o = x := by simpa using ho
  rw [e] at hs hL hd
  subst hL
  simp only [Bool.and_eq_true, decide_eq_true_eq] at hd
  unfold zas
  simp only [Bool.and_eq_true, decide_eq_true_eq]
  exact ⟨⟨hs.dep.trans hd.1, hd.2⟩, hs.ord⟩
theorem zcF {P : Program} {f : FuncId} {cf : Cfg} {fn : Func} {c : Code} (l : List Nat) (hf : P.funcs[f]? = some fn) (hb : fn.body = some c) (hn : (fn.name != "runtime.NumGoroutine") = true) (h2 : zm6 cf l.contains c = true)
    (ht : ∀ i ∈ l, ∃ t, cf.dt i = some t /\ ∀ o ∈ z4s i c, zas o t = true) : z3M P f cf = true := by
  unfold z3M
  simp only [hf, hb, hn, Bool.true_and]
  exact zcZ c h2 fun j hj => ht j (by simpa using hj)
end
section
open Go
set_option maxRecDepth 100000
theorem zCi : z3M Try.prog 3 cf3 = true := by kernel_rfl
theorem zCh : z3M Try.prog 6 cf6 = true := by kernel_rfl
theorem zCg : z3M Try.prog 7 cf7 = true := by kernel_rfl
theorem zCf : z3M Try.prog 8 cf8 = true := by kernel_rfl
theorem zCe : z3M Try.prog 9 cf9 = true := by kernel_rfl
noncomputable abbrev z1B : Array Oper := (zcy 51 zAK)
theorem zlN : StOk z1B zgV (mB 14 16383) 0 [] := zeI (by kernel_rfl)
theorem zlO : StOk z1B zgW (mB 14 8191) 1 [13] := se zlN
theorem zlP : StOk z1B zgX (mB 14 4095) 2 [13] := sq zlO
theorem zlQ : StOk z1B zgY (mB 14 2047) 3 [11] := se zlP
theorem zeu : StOk z1B zcl (mB 14 1535) 4 [9] := se zlQ
theorem zlR : StOk z1B zgZ (mB 14 1279) 5 [9] := se zeu
theorem zev : StOk z1B zcm (mB 14 511) 5 [9] := sq zeu
theorem zao : StOk z1B z9E (mB 14 495) 6 [4] := se zev
theorem zew : StOk z1B zcn (mB 14 447) 6 [9] := se zev
theorem zex : StOk z1B zco (mB 14 255) 6 [9] := sq zlR
theorem zey : StOk z1B zcp (mB 14 487) 7 [4] := se zao
theorem zez : StOk z1B zcq (mB 14 431) 7 [4] := sa (z0h (be zew) (be zao))
theorem zeA : StOk z1B zcr (mB 14 239) 7 [4] := sa (z0h (be zex) (be zao))
theorem zpj : StOk z1B zjx (mB 14 191) 7 [9] := sa (z0h (be zex) (be zew))
theorem zpk : StOk z1B zjy (mB 14 423) 8 [4] := sa (z0h (be zez) (be zey))
theorem zpl : StOk z1B zjz (mB 14 231) 8 [4] := sa (z0h (be zeA) (be zey))
theorem zpm : StOk z1B zjA (mB 14 175) 8 [4] := sa (z0h (be zpj) (z0h (be zeA) (be zez)))
theorem zpn : StOk z1B zjB (mB 14 167) 9 [4] := sa (z0h (be zpm) (z0h (be zpl) (be zpk)))
theorem zpo : StOk z1B zjC (mB 14 39) 10 [4] := sq zpn
theorem zpp : StOk z1B zjD (mB 14 7) 11 [4] := sq zpo
theorem zpq : StOk z1B zjE (mB 14 3) 12 [4] := sq zpp
theorem zpr : StOk z1B zjF (mB 14 1) 13 [4] := sq zpq
theorem zps : StOk z1B zjG (mB 14 0) 14 [4] := sq zpr
set_option maxHeartbeats 0 in
theorem zzl : z3M Try.prog 10 cf10 = true := zcF [51] zAE zAW rfl (by kernel_rfl) (by simp only [List.forall_mem_cons]; exact ⟨⟨_, rfl, zaq (by kernel_rfl) zps (by kernel_rfl) (by kernel_rfl)⟩, fun _ h => by cases h⟩)
theorem zzk : z3M Try.prog 11 cf11 = true := by kernel_rfl
theorem zzj : z3M Try.prog 12 cf12 = true := by kernel_rfl
theorem zzi : z3M Try.prog 13 cf13 = true := by kernel_rfl
theorem zzh : z3M Try.prog 14 cf14 = true := by kernel_rfl
theorem zzg : z3M Try.prog 15 cf15 = true := by kernel_rfl
theorem zzf : z3M Try.prog 20 cf20 = true := by kernel_rfl
noncomputable abbrev z0s : Array Oper := (zcy 7 zAJ)
theorem zp0 : StOk z0s zje (mB 17 131071) 0 [] := zeI (by kernel_rfl)
theorem zp1 : StOk z0s zjf (mB 17 65535) 1 [16] := se zp0
theorem zp2 : StOk z0s zjg (mB 17 32767) 2 [16] := sq zp1
theorem zp3 : StOk z0s zjh (mB 17 16383) 3 [14] := se zp2
theorem zgB : StOk z0s zea (mB 17 12287) 4 [12] := se zp3
theorem zgC : StOk z0s zeb (mB 17 10239) 5 [12] := se zgB
theorem zgD : StOk z0s zec (mB 17 4095) 5 [12] := sq zgB
theorem z9A : StOk z0s z8F (mB 17 4031) 6 [6] := se zgD
theorem zgE : StOk z0s zed (mB 17 3839) 6 [8] := se zgD
theorem zp4 : StOk z0s zji (mB 17 9215) 6 [12] := se zgC
theorem zgF : StOk z0s zee (mB 17 2047) 6 [12] := sq zgC
theorem zc9 : StOk z0s zaI (mB 17 4029) 7 [1] := se z9A
theorem z9B : StOk z0s z8G (mB 17 3999) 7 [6] := se z9A
theorem zca : StOk z0s zaJ (mB 17 3775) 7 [6, 8] := sa (z0h (be zgE) (be z9A))
theorem z9C : StOk z0s z8H (mB 17 1983) 7 [6] := sa (z0h (be zgF) (be z9A))
theorem zgG : StOk z0s zef (mB 17 1791) 7 [8] := sa (z0h (be zgF) (be zgE))
theorem zgH : StOk z0s zeg (mB 17 1023) 7 [12] := sq zp4
theorem zcb : StOk z0s zaK (mB 17 3997) 8 [1] := sa (z0h (be z9B) (be zc9))
theorem zgI : StOk z0s zeh (mB 17 3773) 8 [1, 8] := sa (z0h (be zca) (be zc9))
theorem zcc : StOk z0s zaL (mB 17 1981) 8 [1] := sa (z0h (be z9C) (be zc9))
theorem zp5 : StOk z0s zjj (mB 17 3983) 8 [6] := sq z9B
theorem zcd : StOk z0s zaM (mB 17 3743) 8 [6, 8] := sa (z0h (be zca) (be z9B))
theorem z9D : StOk z0s z8I (mB 17 1951) 8 [6] := sa (z0h (be z9C) (be z9B))
theorem zce : StOk z0s zaN (mB 17 1727) 8 [6, 8] := sa (z0h (be zgG) (z0h (be z9C) (be zca)))
theorem zcf : StOk z0s zaO (mB 17 959) 8 [6] := sa (z0h (be zgH) (be z9C))
theorem zp6 : StOk z0s zjk (mB 17 767) 8 [8] := sa (z0h (be zgH) (be zgG))
theorem zp7 : StOk z0s zjl (mB 17 3981) 9 [1] := sq zcb
theorem zgJ : StOk z0s zei (mB 17 3741) 9 [1, 8] := sa (z0h (be zcd) (z0h (be zgI) (be zcb)))
theorem zcg : StOk z0s zaP (mB 17 1949) 9 [1] := sa (z0h (be z9D) (z0h (be zcc) (be zcb)))
theorem zgK : StOk z0s zej (mB 17 1725) 9 [1, 8] := sa (z0h (be zce) (z0h (be zcc) (be zgI)))
theorem zgL : StOk z0s zek (mB 17 957) 9 [1] := sa (z0h (be zcf) (be zcc))
theorem zch : StOk z0s zaQ (mB 17 3975) 9 [6] := se zp5
theorem zp8 : StOk z0s zjm (mB 17 3727) 9 [6, 8] := sq zcd
theorem zp9 : StOk z0s zjn (mB 17 1935) 9 [6] := sq z9D
theorem zci : StOk z0s zaR (mB 17 1695) 9 [6, 8] := sa (z0h (be zce) (z0h (be z9D) (be zcd)))
theorem zcj : StOk z0s zaS (mB 17 927) 9 [6] := sa (z0h (be zcf) (be z9D))
theorem zgM : StOk z0s zel (mB 17 703) 9 [6, 8] := sa (z0h (be zp6) (z0h (be zcf) (be zce)))
theorem zgN : StOk z0s zem (mB 17 3973) 10 [1] := sa (z0h (be zch) (be zp7))
theorem zpa : StOk z0s zjo (mB 17 3725) 10 [1, 8] := sq zgJ
theorem zpb : StOk z0s zjp (mB 17 1933) 10 [1] := sq zcg
theorem zgO : StOk z0s zen (mB 17 1693) 10 [1, 8] := sa (z0h (be zci) (z0h (be zgK) (z0h (be zcg) (be zgJ))))
theorem zgP : StOk z0s zeo (mB 17 925) 10 [1] := sa (z0h (be zcj) (z0h (be zgL) (be zcg)))
theorem zpc : StOk z0s zjq (mB 17 701) 10 [1, 8] := sa (z0h (be zgM) (z0h (be zgL) (be zgK)))
theorem zgQ : StOk z0s zep (mB 17 3719) 10 [6, 8] := sa (z0h (be zp8) (be zch))
theorem zck : StOk z0s zaT (mB 17 1927) 10 [6] := sa (z0h (be zp9) (be zch))
theorem zpd : StOk z0s zjr (mB 17 1679) 10 [6, 8] := sq zci
theorem zpe : StOk z0s zjs (mB 17 911) 10 [6] := sq zcj
theorem zgR : StOk z0s zeq (mB 17 671) 10 [6, 8] := sa (z0h (be zgM) (z0h (be zcj) (be zci)))
theorem zpf : StOk z0s zjt (mB 17 3717) 11 [1, 8] := sa (z0h (be zgQ) (z0h (be zpa) (be zgN)))
theorem zgS : StOk z0s zer (mB 17 1925) 11 [1] := sa (z0h (be zck) (z0h (be zpb) (be zgN)))
theorem zpg : StOk z0s zju (mB 17 1677) 11 [1, 8] := sq zgO
theorem zph : StOk z0s zjv (mB 17 909) 11 [1] := sq zgP
theorem zpi : StOk z0s zjw (mB 17 669) 11 [1, 8] := sa (z0h (be zgR) (z0h (be zpc) (z0h (be zgP) (be zgO))))
theorem zgT : StOk z0s zes (mB 17 1671) 11 [6, 8] := sa (z0h (be zpd) (z0h (be zck) (be zgQ)))
theorem zgU : StOk z0s zet (mB 17 903) 11 [6] := sa (z0h (be zpe) (be zck))
theorem zqJ : StOk z0s zmM (mB 17 655) 11 [6, 8] := sq zgR
theorem zqK : StOk z0s zmN (mB 17 1669) 12 [1, 8] := sa (z0h (be zgT) (z0h (be zpg) (z0h (be zgS) (be zpf))))
theorem zqL : StOk z0s zmO (mB 17 901) 12 [1] := sa (z0h (be zgU) (z0h (be zph) (be zgS)))
theorem zqM : StOk z0s zmP (mB 17 653) 12 [1, 8] := sq zpi
theorem zqN : StOk z0s zmQ (mB 17 647) 12 [6, 8] := sa (z0h (be zqJ) (z0h (be zgU) (be zgT)))
theorem zqO : StOk z0s zmR (mB 17 645) 13 [1, 8] := sa (z0h (be zqN) (z0h (be zqM) (z0h (be zqL) (be zqK))))
theorem zqP : StOk z0s zmS (mB 17 133) 14 [1, 8] := sq zqO
theorem zqQ : StOk z0s zmT (mB 17 5) 15 [1, 8] := sq zqP
theorem zqR : StOk z0s zmU (mB 17 1) 16 [1, 8] := sq zqQ
theorem zqS : StOk z0s zmV (mB 17 0) 17 [1, 8] := sq zqR
set_option maxHeartbeats 0 in
theorem zze : z3M Try.prog 21 cf21 = true := zcF [7] zAD zAV rfl (by kernel_rfl) (by simp only [List.forall_mem_cons]; exact ⟨⟨_, rfl, zaq (by kernel_rfl) zqS (by kernel_rfl) (by kernel_rfl)⟩, fun _ h => by cases h⟩)
theorem zzd : z3M Try.prog 22 cf22 = true := by kernel_rfl
theorem zzc : z3M Try.prog 23 cf23 = true := by kernel_rfl
noncomputable abbrev z0A : Array Oper := (zcy 10 zAI)
theorem zlI : StOk z0A zgw (mB 14 16383) 0 [] := zeI (by kernel_rfl)
theorem zdZ : StOk z0A zbY (mB 14 8191) 1 [13] := se zlI
theorem z8k : StOk z0A z7N (mB 14 6143) 2 [13] := sq zdZ
theorem zlJ : StOk z0A zgx (mB 14 4095) 2 [13] := se zdZ
theorem z8l : StOk z0A z7O (mB 14 6127) 3 [13] := se z8k
theorem z8m : StOk z0A z7P (mB 14 6079) 3 [13] := se z8k
theorem z8n : StOk z0A z7Q (mB 14 5887) 3 [13] := se z8k
theorem z8o : StOk z0A z7R (mB 14 5119) 3 [13] := se z8k
theorem z8p : StOk z0A z7S (mB 14 2047) 3 [13] := sq zlJ
theorem zae : StOk z0A z9q (mB 14 6063) 4 [13] := sa (z0h (be z8m) (be z8l))
theorem zaf : StOk z0A z9r (mB 14 5871) 4 [13] := sa (z0h (be z8n) (be z8l))
theorem zag : StOk z0A z9s (mB 14 5103) 4 [13] := sa (z0h (be z8o) (be z8l))
theorem zah : StOk z0A z9t (mB 14 2031) 4 [13] := sa (z0h (be z8p) (be z8l))
theorem zai : StOk z0A z9u (mB 14 5823) 4 [13] := sa (z0h (be z8n) (be z8m))
theorem zaj : StOk z0A z9v (mB 14 5055) 4 [13] := sa (z0h (be z8o) (be z8m))
theorem zak : StOk z0A z9w (mB 14 1983) 4 [13] := sa (z0h (be z8p) (be z8m))
theorem zal : StOk z0A z9x (mB 14 4863) 4 [13] := sa (z0h (be z8o) (be z8n))
theorem zam : StOk z0A z9y (mB 14 1791) 4 [13] := sa (z0h (be z8p) (be z8n))
theorem zan : StOk z0A z9z (mB 14 1023) 4 [13] := sa (z0h (be z8p) (be z8o))
theorem ze0 : StOk z0A zbZ (mB 14 5807) 5 [13] := sa (z0h (be zai) (z0h (be zaf) (be zae)))
theorem ze1 : StOk z0A zc0 (mB 14 5039) 5 [13] := sa (z0h (be zaj) (z0h (be zag) (be zae)))
theorem ze2 : StOk z0A zc1 (mB 14 1967) 5 [13] := sa (z0h (be zak) (z0h (be zah) (be zae)))
theorem ze3 : StOk z0A zc2 (mB 14 4847) 5 [13] := sa (z0h (be zal) (z0h (be zag) (be zaf)))
theorem ze4 : StOk z0A zc3 (mB 14 1775) 5 [13] := sa (z0h (be zam) (z0h (be zah) (be zaf)))
theorem ze5 : StOk z0A zc4 (mB 14 1007) 5 [13] := sa (z0h (be zan) (z0h (be zah) (be zag)))
theorem ze6 : StOk z0A zc5 (mB 14 4799) 5 [13] := sa (z0h (be zal) (z0h (be zaj) (be zai)))
theorem ze7 : StOk z0A zc6 (mB 14 1727) 5 [13] := sa (z0h (be zam) (z0h (be zak) (be zai)))
theorem ze8 : StOk z0A zc7 (mB 14 959) 5 [13] := sa (z0h (be zan) (z0h (be zak) (be zaj)))
theorem ze9 : StOk z0A zc8 (mB 14 767) 5 [13] := sa (z0h (be zan) (z0h (be zam) (be zal)))
theorem zlK : StOk z0A zgy (mB 14 4783) 6 [13] := sa (z0h (be ze6) (z0h (be ze3) (z0h (be ze1) (be ze0))))
theorem zlL : StOk z0A zgz (mB 14 1711) 6 [13] := sa (z0h (be ze7) (z0h (be ze4) (z0h (be ze2) (be ze0))))
theorem zlM : StOk z0A zgA (mB 14 943) 6 [13] := sa (z0h (be ze8) (z0h (be ze5) (z0h (be ze2) (be ze1))))
theorem zoQ : StOk z0A zj4 (mB 14 751) 6 [13] := sa (z0h (be ze9) (z0h (be ze5) (z0h (be ze4) (be ze3))))
theorem zoR : StOk z0A zj5 (mB 14 703) 6 [13] := sa (z0h (be ze9) (z0h (be ze8) (z0h (be ze7) (be ze6))))
theorem zoS : StOk z0A zj6 (mB 14 687) 7 [13] := sa (z0h (be zoR) (z0h (be zoQ) (z0h (be zlM) (z0h (be zlL) (be zlK)))))
theorem zoT : StOk z0A zj7 (mB 14 175) 8 [13] := sq zoS
theorem zoU : StOk z0A zj8 (mB 14 47) 9 [13] := sq zoT
theorem zoV : StOk z0A zj9 (mB 14 15) 10 [13] := sq zoU
theorem zoW : StOk z0A zja (mB 14 7) 11 [13] := sq zoV
theorem zoX : StOk z0A zjb (mB 14 3) 12 [13] := sq zoW
theorem zoY : StOk z0A zjc (mB 14 1) 13 [13] := sq zoX
theorem zoZ : StOk z0A zjd (mB 14 0) 14 [13] := sq zoY
set_option maxHeartbeats 0 in
theorem zzb : z3M Try.prog 24 cf24 = true := zcF [10] zAC zAU rfl (by kernel_rfl) (by simp only [List.forall_mem_cons]; exact ⟨⟨_, rfl, zaq (by kernel_rfl) zoZ (by kernel_rfl) (by kernel_rfl)⟩, fun _ h => by cases h⟩)
theorem zza : z3M Try.prog 25 cf25 = true := by kernel_rfl
theorem zz9 : z3M Try.prog 26 cf26 = true := by kernel_rfl
noncomputable abbrev z0u : Array Oper := (zcy 47 zAf)
theorem zlu : StOk z0u zgi (mB 16 65535) 0 [] := zeI (by kernel_rfl)
theorem zlv : StOk z0u zgj (mB 16 32767) 1 [15] := se zlu
theorem zdG : StOk z0u zbF (mB 16 16383) 2 [15] := sq zlv
theorem zlw : StOk z0u zgk (mB 16 16255) 3 [15] := se zdG
theorem zdH : StOk z0u zbG (mB 16 8191) 3 [13] := se zdG
theorem zlx : StOk z0u zgl (mB 16 8063) 4 [13] := sa (z0h (be zdH) (be zlw))
theorem zdI : StOk z0u zbH (mB 16 4095) 4 [13] := sq zdH
theorem zdJ : StOk z0u zbI (mB 16 4063) 5 [13] := se zdI
theorem zdK : StOk z0u zbJ (mB 16 3967) 5 [13] := sq zlx
theorem za8 : StOk z0u z9k (mB 16 2047) 5 [11] := se zdI
theorem zly : StOk z0u zgm (mB 16 3935) 6 [13] := sa (z0h (be zdK) (be zdJ))
theorem zdL : StOk z0u zbK (mB 16 2015) 6 [11] := sa (z0h (be za8) (be zdJ))
theorem zdM : StOk z0u zbL (mB 16 1919) 6 [11] := sa (z0h (be za8) (be zdK))
theorem zdN : StOk z0u zbM (mB 16 1023) 6 [11] := sq za8
theorem za9 : StOk z0u z9l (mB 16 1015) 7 [11] := se zdN
theorem zlz : StOk z0u zgn (mB 16 1887) 7 [11] := sa (z0h (be zdM) (z0h (be zdL) (be zly)))
theorem zdO : StOk z0u zbN (mB 16 991) 7 [11] := sq zdL
theorem zdP : StOk z0u zbO (mB 16 895) 7 [11] := sq zdM
theorem z8j : StOk z0u z7M (mB 16 511) 7 [9] := se zdN
theorem zdQ : StOk z0u zbP (mB 16 983) 8 [11] := sa (z0h (be zdO) (be za9))
theorem zdR : StOk z0u zbQ (mB 16 887) 8 [11] := sa (z0h (be zdP) (be za9))
theorem zaa : StOk z0u z9m (mB 16 503) 8 [9] := sa (z0h (be z8j) (be za9))
theorem zdS : StOk z0u zbR (mB 16 863) 8 [11] := sq zlz
theorem zab : StOk z0u z9n (mB 16 479) 8 [9] := sa (z0h (be z8j) (be zdO))
theorem zac : StOk z0u z9o (mB 16 383) 8 [9] := sa (z0h (be z8j) (be zdP))
theorem zlA : StOk z0u zgo (mB 16 255) 8 [9] := sq z8j
theorem zad : StOk z0u z9p (mB 16 253) 9 [9] := se zlA
theorem zlB : StOk z0u zgp (mB 16 855) 9 [11] := sa (z0h (be zdS) (z0h (be zdR) (be zdQ)))
theorem zdT : StOk z0u zbS (mB 16 471) 9 [9] := sa (z0h (be zab) (z0h (be zaa) (be zdQ)))
theorem zdU : StOk z0u zbT (mB 16 375) 9 [9] := sa (z0h (be zac) (z0h (be zaa) (be zdR)))
theorem zlC : StOk z0u zgq (mB 16 247) 9 [9] := sq zaa
theorem zdV : StOk z0u zbU (mB 16 351) 9 [9] := sa (z0h (be zac) (z0h (be zab) (be zdS)))
theorem zlD : StOk z0u zgr (mB 16 223) 9 [9] := sq zab
theorem zlE : StOk z0u zgs (mB 16 127) 9 [9] := sq zac
theorem zdW : StOk z0u zbV (mB 16 245) 10 [9] := sa (z0h (be zlC) (be zad))
theorem zdX : StOk z0u zbW (mB 16 221) 10 [9] := sa (z0h (be zlD) (be zad))
theorem zdY : StOk z0u zbX (mB 16 125) 10 [9] := sa (z0h (be zlE) (be zad))
theorem zlF : StOk z0u zgt (mB 16 343) 10 [9] := sa (z0h (be zdV) (z0h (be zdU) (z0h (be zdT) (be zlB))))
theorem zlG : StOk z0u zgu (mB 16 215) 10 [9] := sq zdT
theorem zlH : StOk z0u zgv (mB 16 119) 10 [9] := sq zdU
theorem zoG : StOk z0u ziU (mB 16 95) 10 [9] := sq zdV
theorem zoH : StOk z0u ziV (mB 16 213) 11 [9] := sa (z0h (be zlG) (z0h (be zdX) (be zdW)))
theorem zoI : StOk z0u ziW (mB 16 117) 11 [9] := sa (z0h (be zlH) (z0h (be zdY) (be zdW)))
theorem zoJ : StOk z0u ziX (mB 16 93) 11 [9] := sa (z0h (be zoG) (z0h (be zdY) (be zdX)))
theorem zoK : StOk z0u ziY (mB 16 87) 11 [9] := sq zlF
theorem zoL : StOk z0u ziZ (mB 16 85) 12 [9] := sa (z0h (be zoK) (z0h (be zoJ) (z0h (be zoI) (be zoH))))
theorem zoM : StOk z0u zj0 (mB 16 21) 13 [9] := sq zoL
theorem zoN : StOk z0u zj1 (mB 16 5) 14 [9] := sq zoM
theorem zoO : StOk z0u zj2 (mB 16 1) 15 [9] := sq zoN
theorem zoP : StOk z0u zj3 (mB 16 0) 16 [9] := sq zoO
noncomputable abbrev z1j : Array Oper := (zcy 77 zAf)
theorem zln : StOk z1j zgb (mB 13 8191) 0 [] := zeI (by kernel_rfl)
theorem zlo : StOk z1j zgc (mB 13 4095) 1 [12] := se zln
theorem zdA : StOk z1j zbz (mB 13 2047) 2 [12] := sq zlo
theorem zlp : StOk z1j zgd (mB 13 2045) 3 [1] := se zdA
theorem za6 : StOk z1j z9i (mB 13 1023) 3 [10] := se zdA
theorem zdB : StOk z1j zbA (mB 13 1021) 4 [1, 10] := sa (z0h (be za6) (be zlp))
theorem za7 : StOk z1j z9j (mB 13 895) 4 [7] := se za6
theorem zdC : StOk z1j zbB (mB 13 511) 4 [10] := se za6
theorem zdD : StOk z1j zbC (mB 13 893) 5 [1, 7] := sa (z0h (be za7) (be zdB))
theorem zlq : StOk z1j zge (mB 13 509) 5 [1, 10] := sa (z0h (be zdC) (be zdB))
theorem zlr : StOk z1j zgf (mB 13 831) 5 [7] := sq za7
theorem zdE : StOk z1j zbD (mB 13 383) 5 [7] := sa (z0h (be zdC) (be za7))
theorem zls : StOk z1j zgg (mB 13 829) 6 [1, 7] := sq zdD
theorem zlt : StOk z1j zgh (mB 13 381) 6 [1, 7] := sa (z0h (be zdE) (z0h (be zlq) (be zdD)))
theorem zdF : StOk z1j zbE (mB 13 815) 6 [4] := se zlr
theorem zow : StOk z1j ziK (mB 13 319) 6 [7] := sq zdE
theorem zox : StOk z1j ziL (mB 13 813) 7 [1, 4] := sa (z0h (be zdF) (be zls))
theorem zoy : StOk z1j ziM (mB 13 317) 7 [1, 7] := sq zlt
theorem zoz : StOk z1j ziN (mB 13 303) 7 [4] := sa (z0h (be zow) (be zdF))
theorem zoA : StOk z1j ziO (mB 13 301) 8 [1, 4] := sa (z0h (be zoz) (z0h (be zoy) (be zox)))
theorem zoB : StOk z1j ziP (mB 13 45) 9 [1, 4] := sq zoA
theorem zoC : StOk z1j ziQ (mB 13 13) 10 [1, 4] := sq zoB
theorem zoD : StOk z1j ziR (mB 13 5) 11 [1, 4] := sq zoC
theorem zoE : StOk z1j ziS (mB 13 1) 12 [1, 4] := sq zoD
theorem zoF : StOk z1j ziT (mB 13 0) 13 [1, 4] := sq zoE
set_option maxHeartbeats 0 in
theorem zz8 : z3M Try.prog 27 cf27 = true := zcF [47, 77] zAB zAT rfl (by kernel_rfl) (by simp only [List.forall_mem_cons]; exact ⟨⟨_, rfl, zaq (by kernel_rfl) zoP (by kernel_rfl) (by kernel_rfl)⟩, ⟨_, rfl, zaq (by kernel_rfl) zoF (by kernel_rfl) (by kernel_rfl)⟩, fun _ h => by cases h⟩)
noncomputable abbrev z1A : Array Oper := (zcy 12 zAH)
theorem zle : StOk z1A zg2 (mB 14 16383) 0 [] := zeI (by kernel_rfl)
theorem zlf : StOk z1A zg3 (mB 14 8191) 1 [] := sq zle
theorem zlg : StOk z1A zg4 (mB 14 4095) 2 [] := sq zlf
theorem zdw : StOk z1A zbv (mB 14 2047) 3 [11] := se zlg
theorem zdx : StOk z1A zbw (mB 14 2039) 4 [3] := se zdw
theorem zdy : StOk z1A zbx (mB 14 1023) 4 [11] := se zdw
theorem zlh : StOk z1A zg5 (mB 14 2035) 5 [3] := se zdx
theorem zdz : StOk z1A zby (mB 14 1015) 5 [3] := sa (z0h (be zdy) (be zdx))
theorem zli : StOk z1A zg6 (mB 14 511) 5 [11] := sq zdy
theorem zlj : StOk z1A zg7 (mB 14 1011) 6 [3] := sa (z0h (be zdz) (be zlh))
theorem zlk : StOk z1A zg8 (mB 14 503) 6 [3] := sq zdz
theorem zll : StOk z1A zg9 (mB 14 255) 6 [11] := sq zli
theorem zlm : StOk z1A zga (mB 14 499) 7 [3] := sq zlj
theorem zom : StOk z1A ziA (mB 14 247) 7 [3] := sq zlk
theorem zon : StOk z1A ziB (mB 14 191) 7 [11] := se zll
theorem zoo : StOk z1A ziC (mB 14 243) 8 [3] := sq zlm
theorem zop : StOk z1A ziD (mB 14 183) 8 [3] := sa (z0h (be zon) (be zom))
theorem zoq : StOk z1A ziE (mB 14 179) 9 [3] := sa (z0h (be zop) (be zoo))
theorem zor : StOk z1A ziF (mB 14 51) 10 [3] := sq zoq
theorem zos : StOk z1A ziG (mB 14 19) 11 [3] := sq zor
theorem zot : StOk z1A ziH (mB 14 3) 12 [3] := sq zos
theorem zou : StOk z1A ziI (mB 14 1) 13 [3] := sq zot
theorem zov : StOk z1A ziJ (mB 14 0) 14 [3] := sq zou
set_option maxHeartbeats 0 in
theorem zz7 : z3M Try.prog 28 cf28 = true := zcF [12] zAA zAS rfl (by kernel_rfl) (by simp only [List.forall_mem_cons]; exact ⟨⟨_, rfl, zaq (by kernel_rfl) zov (by kernel_rfl) (by kernel_rfl)⟩, fun _ h => by cases h⟩)
theorem zz6 : z3M Try.prog 29 cf29 = true := by kernel_rfl
theorem zz5 : z3M Try.prog 30 cf30 = true := by kernel_rfl
theorem zz4 : z3M Try.prog 31 cf31 = true := by kernel_rfl
theorem zz3 : z3M Try.prog 32 cf32 = true := by kernel_rfl
theorem zz2 : z3M Try.prog 33 cf33 = true := by kernel_rfl
theorem zz1 : z3M Try.prog 37 cf37 = true := by kernel_rfl
theorem zz0 : z3M Try.prog 38 cf38 = true := by kernel_rfl
theorem zyZ : z3M Try.prog 39 cf39 = true := by kernel_rfl
theorem zyY : z3M Try.prog 43 cf43 = true := by kernel_rfl
theorem zyX : z3M Try.prog 44 cf44 = true := by kernel_rfl
theorem zyW : z3M Try.prog 45 cf45 = true := by kernel_rfl
theorem zyV : z3M Try.prog 46 cf46 = true := by kernel_rfl
theorem zyU : z3M Try.prog 47 cf47 = true := by kernel_rfl
theorem zyT : z3M Try.prog 48 cf48 = true := by kernel_rfl
theorem zyS : z3M Try.prog 49 cf49 = true := by kernel_rfl
theorem zyR : z3M Try.prog 50 cf50 = true := by kernel_rfl
theorem zyQ : z3M Try.prog 51 cf51 = true := by kernel_rfl
theorem zyP : z3M Try.prog 52 cf52 = true := by kernel_rfl
theorem zyO : z3M Try.prog 53 cf53 = true := by kernel_rfl
theorem zyN : z3M Try.prog 54 cf54 = true := by kernel_rfl
theorem zyM : z3M Try.prog 55 cf55 = true := by kernel_rfl
theorem zyL : z3M Try.prog 56 cf56 = true := by kernel_rfl
theorem zyK : z3M Try.prog 57 cf57 = true := by kernel_rfl
theorem zyJ : z3M Try.prog 58 cf58 = true := by kernel_rfl
noncomputable abbrev z1d : Array Oper := (zcy 12 zAG)
theorem zl0 : StOk z1d zfO (mB 19 524287) 0 [] := zeI (by kernel_rfl)
theorem zl1 : StOk z1d zfP (mB 19 262143) 1 [] := sq zl0
theorem zl2 : StOk z1d zfQ (mB 19 131071) 2 [] := sq zl1
theorem zds : StOk z1d zbr (mB 19 65535) 3 [16] := se zl2
theorem zdt : StOk z1d zbs (mB 19 65527) 4 [16] := se zds
theorem zdu : StOk z1d zbt (mB 19 32767) 4 [16] := se zds
theorem zl3 : StOk z1d zfR (mB 19 65523) 5 [16] := se zdt
theorem zdv : StOk z1d zbu (mB 19 32759) 5 [16] := sa (z0h (be zdu) (be zdt))
theorem zl4 : StOk z1d zfS (mB 19 16383) 5 [16] := sq zdu
theorem zl5 : StOk z1d zfT (mB 19 32755) 6 [16] := sa (z0h (be zdv) (be zl3))
theorem zl6 : StOk z1d zfU (mB 19 16375) 6 [16] := sq zdv
theorem zl7 : StOk z1d zfV (mB 19 8191) 6 [16] := sq zl4
theorem zl8 : StOk z1d zfW (mB 19 16371) 7 [16] := sq zl5
theorem zl9 : StOk z1d zfX (mB 19 8183) 7 [16] := sq zl6
theorem zla : StOk z1d zfY (mB 19 4095) 7 [16] := se zl7
theorem zlb : StOk z1d zfZ (mB 19 8179) 8 [16] := sq zl8
theorem zlc : StOk z1d zg0 (mB 19 4087) 8 [16] := sa (z0h (be zla) (be zl9))
theorem zld : StOk z1d zg1 (mB 19 4083) 9 [16] := sa (z0h (be zlc) (be zlb))
theorem zoc : StOk z1d ziq (mB 19 2035) 10 [16] := sq zld
theorem zod : StOk z1d zir (mB 19 1011) 11 [16] := sq zoc
theorem zoe : StOk z1d zis (mB 19 499) 12 [16] := sq zod
theorem zof : StOk z1d zit (mB 19 243) 13 [16] := sq zoe
theorem zog : StOk z1d ziu (mB 19 115) 14 [16] := sq zof
theorem zoh : StOk z1d ziv (mB 19 51) 15 [16] := sq zog
theorem zoi : StOk z1d ziw (mB 19 19) 16 [16] := sq zoh
theorem zoj : StOk z1d zix (mB 19 3) 17 [16] := sq zoi
theorem zok : StOk z1d ziy (mB 19 1) 18 [16] := sq zoj
theorem zol : StOk z1d ziz (mB 19 0) 19 [16] := sq zok
set_option maxHeartbeats 0 in
theorem zyI : z3M Try.prog 59 cf59 = true := zcF [12] zAy zAQ rfl (by kernel_rfl) (by simp only [List.forall_mem_cons]; exact ⟨⟨_, rfl, zaq (by kernel_rfl) zol (by kernel_rfl) (by kernel_rfl)⟩, fun _ h => by cases h⟩)
theorem zyH : z3M Try.prog 60 cf60 = true := by kernel_rfl
theorem zyG : z3M Try.prog 61 cf61 = true := by kernel_rfl
theorem zyF : z3M Try.prog 62 cf62 = true := by kernel_rfl
theorem zyE : z3M Try.prog 63 cf63 = true := by kernel_rfl
theorem zyD : z3M Try.prog 66 cf66 = true := by kernel_rfl
theorem zyC : z3M Try.prog 67 cf67 = true := by kernel_rfl
theorem zyB : z3M Try.prog 69 cf69 = true := by kernel_rfl
theorem zyA : z3M Try.prog 70 cf70 = true := by kernel_rfl
theorem zyz : z3M Try.prog 71 cf71 = true := by kernel_rfl
theorem zyy : z3M Try.prog 72 cf72 = true := by kernel_rfl
theorem zyx : z3M Try.prog 73 cf73 = true := by kernel_rfl
theorem zyw : z3M Try.prog 74 cf74 = true := by kernel_rfl
theorem zyv : z3M Try.prog 75 cf75 = true := by kernel_rfl
theorem zyu : z3M Try.prog 76 cf76 = true := by kernel_rfl
theorem zyt : z3M Try.prog 77 cf77 = true := by kernel_rfl
theorem zys : z3M Try.prog 80 cf80 = true := by kernel_rfl
theorem zyr : z3M Try.prog 83 cf83 = true := by kernel_rfl
theorem zyq : z3M Try.prog 84 cf84 = true := by kernel_rfl
theorem zyp : z3M Try.prog 85 cf85 = true := by kernel_rfl
theorem zyo : z3M Try.prog 95 cf95 = true := by kernel_rfl
theorem zyn : z3M Try.prog 96 cf96 = true := by kernel_rfl
theorem zym : z3M Try.prog 97 cf97 = true := by kernel_rfl
theorem zxb : z3M Try.prog 103 cf103 = true := by kernel_rfl
theorem z1L {p : Prop} [Decidable p] {a c : Cfg} {r : Option Cfg} {G : Prop} (h : (if p then some a else r) = some c) (h1 : p -> a = c -> G) (h2 : r = some c -> G) : G := by
  split at h
  · rename_i hp; exact h1 hp (Option.some.inj h)
  · exact h2 h
theorem zCo : ∀ f c, z1h f = some c -> z3M Try.prog f c = true := by
  intro f c h
  unfold z1h at h
  refine z1L h (fun e h => by rw [e, ← h]; exact zCi) fun h => ?_
  refine z1L h (fun e h => by rw [e, ← h]; exact zCh) fun h => ?_
  refine z1L h (fun e h => by rw [e, ← h]; exact zCg) fun h => ?_
  refine z1L h (fun e h => by rw [e, ← h]; exact zCf) fun h => ?_
  refine z1L h (fun e h => by rw [e, ← h]; exact zCe) fun h => ?_
  refine z1L h (fun e h => by rw [e, ← h]; exact zzl) fun h => ?_
  refine z1L h (fun e h => by rw [e, ← h]; exact zzk) fun h => ?_
  refine z1L h (fun e h => by rw [e, ← h]; exact zzj) fun h => ?_
  refine z1L h (fun e h => by rw [e, ← h]; exact zzi) fun h => ?_
  refine z1L h (fun e h => by rw [e, ← h]; exact zzh) fun h => ?_
  refine z1L h (fun e h => by rw [e, ← h]; exact zzg) fun h => ?_
  refine z1L h (fun e h => by rw [e, ← h]; exact zzf) fun h => ?_
  refine z1L h (fun e h => by rw [e, ← h]; exact zze) fun h => ?_
  refine z1L h (fun e h => by rw [e, ← h]; exact zzd) fun h => ?_
  refine z1L h (fun e h => by rw [e, ← h]; exact zzc) fun h => ?_
  refine z1L h (fun e h => by rw [e, ← h]; exact zzb) fun h => ?_
  refine z1L h (fun e h => by rw [e, ← h]; exact zza) fun h => ?_
  refine z1L h (fun e h => by rw [e, ← h]; exact zz9) fun h => ?_
  refine z1L h (fun e h => by rw [e, ← h]; exact zz8) fun h => ?_
  refine z1L h (fun e h => by rw [e, ← h]; exact zz7) fun h => ?_
  refine z1L h (fun e h => by rw [e, ← h]; exact zz6) fun h => ?_
  refine z1L h (fun e h => by rw [e, ← h]; exact zz5) fun h => ?_
  refine z1L h (fun e h => by rw [e, ← h]; exact zz4) fun h => ?_
  refine z1L h (fun e h => by rw [e, ← h]; exact zz3) fun h => ?_
  refine z1L h (fun e h => by rw [e, ← h]; exact zz2) fun h => ?_
  refine z1L h (fun e h => by rw [e, ← h]; exact zz1) fun h => ?_
  refine z1L h (fun e h => by rw [e, ← h]; exact zz0) fun h => ?_
  refine z1L h (fun e h => by rw [e, ← h]; exact zyZ) fun h => ?_
  refine z1L h (fun e h => by rw [e, ← h]; exact zyY) fun h => ?_
  refine z1L h (fun e h => by rw [e, ← h]; exact zyX) fun h => ?_
  refine z1L h (fun e h => by rw [e, ← h]; exact zyW) fun h => ?_
  refine z1L h (fun e h => by rw [e, ← h]; exact zyV) fun h => ?_
  refine z1L h (fun e h => by rw [e, ← h]; exact zyU) fun h => ?_
  refine z1L h (fun e h => by rw [e, ← h]; exact zyT) fun h => ?_
  refine z1L h (fun e h => by rw [e, ← h]; exact zyS) fun h => ?_
  refine z1L h (fun e h => by rw [e, ← h]; exact zyR) fun h => ?_
  refine z1L h (fun e h => by rw [e, ← h]; exact zyQ) fun h => ?_
  refine z1L h (fun e h => by rw [e, ← h]; exact zyP) fun h => ?_
  refine z1L h (fun e h => by rw [e, ← h]; exact zyO) fun h => ?_
  refine z1L h (fun e h => by rw [e, ← h]; exact zyN) fun h => ?_
  refine z1L h (fun e h => by rw [e, ← h]; exact zyM) fun h => ?_
  refine z1L h (fun e h => by rw [e, ← h]; exact zyL) fun h => ?_
  refine z1L h (fun e h => by rw [e, ← h]; exact zyK) fun h => ?_
  refine z1L h (fun e h => by rw [e, ← h]; exact zyJ) fun h => ?_
  refine z1L h (fun e h => by rw [e, ← h]; exact zyI) fun h => ?_
  refine z1L h (fun e h => by rw [e, ← h]; exact zyH) fun h => ?_
  refine z1L h (fun e h => by rw [e, ← h]; exact zyG) fun h => ?_
  refine z1L h (fun e h => by rw [e, ← h]; exact zyF) fun h => ?_
  refine z1L h (fun e h => by rw [e, ← h]; exact zyE) fun h => ?_
  refine z1L h (fun e h => by rw [e, ← h]; exact zyD) fun h => ?_
  refine z1L h (fun e h => by rw [e, ← h]; exact zyC) fun h => ?_
  refine z1L h (fun e h => by rw [e, ← h]; exact zyB) fun h => ?_
  refine z1L h (fun e h => by rw [e, ← h]; exact zyA) fun h => ?_
  refine z1L h (fun e h => by rw [e, ← h]; exact zyz) fun h => ?_
  refine z1L h (fun e h => by rw [e, ← h]; exact zyy) fun h => ?_
  refine z1L h (fun e h => by rw [e, ← h]; exact zyx) fun h => ?_
  refine z1L h (fun e h => by rw [e, ← h]; exact zyw) fun h => ?_
  refine z1L h (fun e h => by rw [e, ← h]; exact zyv) fun h => ?_
  refine z1L h (fun e h => by rw [e, ← h]; exact zyu) fun h => ?_
  refine z1L h (fun e h => by rw [e, ← h]; exact zyt) fun h => ?_
  refine z1L h (fun e h => by rw [e, ← h]; exact zys) fun h => ?_
  refine z1L h (fun e h => by rw [e, ← h]; exact zyr) fun h => ?_
  refine z1L h (fun e h => by rw [e, ← h]; exact zyq) fun h => ?_
  refine z1L h (fun e h => by rw [e, ← h]; exact zyp) fun h => ?_
  refine z1L h (fun e h => by rw [e, ← h]; exact zyo) fun h => ?_
  refine z1L h (fun e h => by rw [e, ← h]; exact zyn) fun h => ?_
  refine z1L h (fun e h => by rw [e, ← h]; exact zym) fun h => ?_
  refine z1L h (fun e h => by rw [e, ← h]; exact zxb) fun h => ?_
  cases h
end
section
open Go.RowKit
def zfi (P : Program) : Nat -> TypeId -> Bool
  | 0, _ => false
  | m + 1, t =>
    match P.underlying t with
    | some (.slice e) => P.cellsOf e != 0 && zfi P m e
    | some (.pointer e) => zfi P m e
    | some (.struct fs) => fs.toList.all fun f => zfi P m f.type
    | some (.array _ e) => zfi P m e
    | some (.map _ e) => zfi P m e
    | _ => true
section
variable {H : Type} {enc : TypeId × Value -> H} {P : Program} {w : World} {base : Nat}
theorem zfC {m : Nat} {r r' : TypeId -> List Value -> Option (DataW H × List MemPlace)}
    (hr : ∀ t cs x, zfi P m t = true -> r t cs = some x -> r' t cs = some x) {t : TypeId} {cs : List Value} {x : DataW H × List MemPlace} (hf : zfi P (m + 1) t = true)
    (h : DataW.trodStep enc P w base (fun _ => true) true r t cs = some x) : DataW.trodStep enc P w base (fun b => decide (b < w.heap.size)) true r' t cs = some x := by
  unfold DataW.trodStep at h ⊢
  unfold zfi at hf
  split at h
  case h_1 => exact h
  case h_2 => exact h
  case h_3 => exact h
  case h_4 => exact h
  case h_5 => exact h
  case h_6 e a hu =>
    rw [hu] at hf
    simp only [Option.map_eq_some_iff, Option.bind_eq_some_iff] at h ⊢
    obtain ⟨y, ⟨cs', hc, hy⟩, rfl⟩ := h
    exact ⟨y, ⟨cs', hc, hr _ _ _ hf hy⟩, rfl⟩
  case h_7 => exact h
  case h_8 e a len cap hu =>
    rw [hu] at hf
    simp only [Bool.and_eq_true, bne_iff_ne, ne_eq] at hf
    obtain ⟨hcell, hfe⟩ := hf
    simp only at h ⊢
    split at h
    · rename_i hc
      rw [if_pos hc]
      simp only [Option.map_eq_some_iff, Option.bind_eq_some_iff, if_true] at h ⊢
      obtain ⟨elems, he, rest, hrest, rfl⟩ := h
      have one : ∀ (i : Nat) (y : DataW H × List MemPlace), (w.cells? base (a.add (i * P.cellsOf e)) (P.cellsOf e)).bind (r e) = some y -> (w.cells? base (a.add (i * P.cellsOf e)) (P.cellsOf e)).bind (r' e) = some y := by
        intro i y hv
        simp only [Option.bind_eq_some_iff] at hv ⊢
        obtain ⟨cs', hc', hy'⟩ := hv
        exact ⟨cs', hc', hr _ _ _ hfe hy'⟩
      refine ⟨elems, mapM_carry he (fun i y _ _ hy => one i y hy), rest, ?_, rfl⟩
      by_cases hb : a.block < w.heap.size
      · rw [if_pos (by simpa using hb)]
        exact mapM_carry hrest (fun j y _ _ hy => one (len + j) y hy)
      · rw [if_neg (by simpa using hb)]
        have hz : cap - len = 0 := by
          rcases Nat.eq_zero_or_pos (cap - len) with h0 | h0
          · exact h0
          · exfalso
            have hl : rest.length = cap - len := by simpa using mapM_some_length hrest
            have h1 := mapM_some_get hrest 0 0 (by simp [h0])
            obtain ⟨y, hy⟩ : ∃ y, rest[0]? = some y := ⟨rest[0], List.getElem?_eq_getElem (by omega)⟩
            rw [hy] at h1
            simp only [Option.bind_eq_some_iff] at h1
            obtain ⟨cs', hc', _⟩ := h1
            have h2 := World.cells?_block hc' (by omega)
            have h3 : (a.add ((len + 0) * P.cellsOf e)).block = a.block := by unfold Addr.add; split <;> rfl
            omega
        rw [hz] at hrest
        simpa using hrest
    · cases h
  case h_9 fs _ hu =>
    rw [hu] at hf
    split at h
    · rename_i hc
      rw [if_pos hc]
      simp only [Option.map_eq_some_iff] at h ⊢
      obtain ⟨xs, hx, rfl⟩ := h
      exact ⟨xs, mapM_carry hx (fun f y hin _ hv => hr _ _ _ (List.all_eq_true.1 hf f hin) hv), rfl⟩
    · cases h
  case h_10 n e _ hu =>
    rw [hu] at hf
    split at h
    · rename_i hc
      rw [if_pos hc]
      simp only [Option.map_eq_some_iff] at h ⊢
      obtain ⟨xs, hx, rfl⟩ := h
      exact ⟨xs, mapM_carry hx (fun f y _ _ hv => hr _ _ _ hf hv), rfl⟩
    · cases h
  case h_11 => exact h
  case h_12 => exact h
  case h_13 => exact h
  case h_14 k e b hu =>
    rw [hu] at hf
    split at h
    · rename_i es clock hb
      split at h
      · rename_i hc
        simp only [Option.bind_eq_some_iff] at h
        obtain ⟨entries, he, hd⟩ := h
        split at hd
        · rename_i hris
          have hx := Option.some.inj hd
          subst hx
          simp only [if_pos hc, Option.bind_eq_some_iff]
          refine ⟨entries, mapM_carry he (fun x y _ hy hv => ?_), by simp [hris]⟩
          simp only [Option.bind_eq_some_iff] at hv ⊢
          obtain ⟨key, hk, hz⟩ := hv
          refine ⟨key, hk, ?_⟩
          split at hz
          · rename_i hfm
            rw [if_pos hfm]
            simp only [Option.map_eq_some_iff] at hz ⊢
            obtain ⟨q, hq, rfl⟩ := hz
            exact ⟨q, hr _ _ _ hf hq, rfl⟩
          · cases hz
        · cases hd
      · cases h
    · cases h
  case h_15 => exact h
  case h_16 => exact h
  case h_17 => exact h
  case h_18 => exact h
  case h_19 => exact h
  case h_20 => exact h
  case h_21 => cases h
theorem zob : ∀ (n m : Nat) (t : TypeId) (cs : List Value) (x : DataW H × List MemPlace), zfi P m t = true ->
    DataW.trod enc P w base (fun _ => true) true n t cs = some x -> DataW.trod enc P w base (fun b => decide (b < w.heap.size)) true n t cs = some x := by
  intro n
  induction n with
  | zero => intro m t cs x _ h; simp [DataW.trod] at h
  | succ n ih =>
    intro m t cs x hf h
    cases m with
    | zero => simp [zfi] at hf
    | succ m =>
      rw [DataW.trod_step] at h ⊢
      exact zfC (m := m) (fun t cs x hf hx => ih m t cs x hf hx) hf h
theorem zjT {w' : World} (hb : Below w.heap.size w w') {p : MemPlace} (hp : p.block < w.heap.size) : w.sameAt w' p := by
  cases p with
  | cell b off => exact hb.cell (p := ⟨b, off, none⟩) hp
  | map b => exact hb.block b hp
theorem zaH {w' : World} (m : Nat) (hb : Below w.heap.size w w') : ∀ {ts : List TypeId} {vs : List Value} {ds : List (DataW H)} {ps : List MemPlace}, (ts.all (zfi P m)) = true ->
    DataW.TrodAll enc P w 0 (fun _ => true) true ts vs ds ps -> DataW.TrodAll enc P w' 0 (fun b => decide (b < w.heap.size)) true ts vs ds ps
  | [], [], [], ps, _, h => h
  | t :: ts, v :: vs, d :: ds, ps, hf, ⟨p, q, ⟨n, h1⟩, h2, e⟩ => by
    simp only [List.all_cons, Bool.and_eq_true] at hf
    have h3 := zob n m t _ _ hf.1 h1
    exact ⟨p, q, ⟨n, DataW.trod_carry n _ _ _ h3 (fun z hz => zjT hb (DataW.trod_lt n _ _ _ h3 z hz))⟩, zaH m hb hf.2 h2, e⟩
  | [], _ :: _, _, _, _, h => by cases h
  | [], [], _ :: _, _, _, h => by cases h
  | _ :: _, [], _, _, _, h => by cases h
  | _ :: _, _ :: _, [], _, _, h => by cases h
end
section
variable {H : Type} {enc : TypeId × Value -> H} {P : Program} {w : World} {r : Reach} {b0 : Nat}
open Go.ChangeShapes Go.WideShapes
open Go.Deep (open_bools)
theorem zsM (a : Addr) (j : Nat) : (a.add j).block = a.block := by unfold Addr.add; split <;> rfl
end
end
section
open Go.ChangeShapes Go.WideShapes Go.RowKit
def KZ : Nat -> z0g := fun _ => []
theorem zrT {P : Program} {Xc : z0q} {cf : FuncId -> Option Cfg} {f : FuncId} {args : List T} {outs : List T} (hX : zaD P (fun _ _ => True) Xc) (hm : P.follows .mixedOrders = true) (hf : ∀ f c, cf f = some c -> z3M P f c = true)
    (h : Lim P Xc cf f args = some (.sc (.bool true), outs)) (hio : args.all (fun t => !z6z t) = true) (W : World) (vals : Array Value) (hs : vals.size = args.length)
    (ha : ∀ i t, args[i]? = some t -> TRep W KZ [] (vals.getD i undef) t) : Calls P f vals W fun e W' => e = .returned (.bool true) /\ Below W.heap.size W W' := by
  have hc := zwV (I := fun _ _ => True) EnvS.none hX hm hf h
  refine (hc.calls W KZ vals hs (fun i t hi => ?_) trivial).mono fun e W' ⟨v, K', he, hv, _, hst⟩ => ?_
  · have h1 := List.all_eq_true.1 hio t (List.mem_of_getElem? hi)
    unfold zho
    rw [if_neg (by simpa using h1)]
    exact ha i t hi
  · generalize hT : T.sc (.bool true) = t at hv
    cases hv with
    | sc c v hb => cases hT; exact ⟨he, hst.os, hst.tape, hst.output, hst.size, fun b hb => (hst.old b hb (.inl rfl)).2⟩
    | _ => cases hT
section
variable {H : Type} {enc : TypeId × Value -> H} {P : Program} {w : World} {r : Reach} {b0 : Nat}
theorem zrB {t e : TypeId} {v : Value} {d : DataW H} {ps : List MemPlace} (ht : P.underlying t = some (.slice e)) (he : P.underlying e = some (.int .i64)) (hc : P.cellsOf e = 1)
    (hval : Value.okWide P w r b0 t v) (hd : DataW.Trod enc P w 0 (fun _ => true) true t v d ps) :
    ∃ xs : List Int, TRep w KZ [] v (.sl xs.length (xs.map fun x => .sc (.int .i64 x))) /\ xs.length <= maxLen /\ ∀ x ∈ xs, (Lit.int .i64 x).wf = true := by
  obtain ⟨ga, n, cap, rfl⟩ := okWide_slice ht hval
  obtain ⟨fuel, hf⟩ := hd
  rcases open_ints ht he hc hf with ⟨hcs, _⟩ | ⟨a, len', cap', zs, hcs, _, hl, hm, hz, _, hcell, hwz⟩
  · simp [Value.cells] at hcs
    obtain ⟨rfl, rfl, rfl⟩ := hcs
    exact ⟨[], .emp _ _ _ (by decide), by decide, fun x hx => by cases hx⟩
  · simp [Value.cells] at hcs
    obtain ⟨rfl, rfl, rfl⟩ := hcs
    simp only [if_true] at hz
    refine ⟨zs.take n, ?_, by simp; omega, fun x hx => hwz x (List.mem_of_mem_take hx)⟩
    have hln : (zs.take n).length = n := by simp; omega
    rw [hln]
    by_cases h0 : n = 0
    · subst h0
      simp only [List.take_zero, List.map_nil]
      exact .emp _ _ _ hm
    · have hc0 := hcell 0 (by omega)
      have hb := World.block_lt_of_cell? w _ hc0
      rw [zsM] at hb
      have hsp : a.spot = none := by
        have : a.add 0 = a := by simp [Addr.add]
        rw [this] at hc0
        unfold World.cell? at hc0
        split at hc0
        · split at hc0
          · cases hc0
          · rename_i hh
            simpa using hh
        · cases hc0
      obtain ⟨g, o, sp⟩ := a
      simp only at hsp
      subst hsp
      refine .fro [] g o n cap _ (fun j => .int .i64 (zs.getD j 0)) rfl hb hl hm (fun j hj => ?_) (fun j t hj => ?_)
      · have h1 := hcell j (by simp at hj; omega)
        have e : (⟨g, o, none⟩ : Addr).add j = ⟨g, o + j, none⟩ := by
          unfold Addr.add
          split
          · rename_i h; subst h; rfl
          · rfl
        rw [e] at h1
        exact h1
      · simp only [List.getElem?_map, Option.map_eq_some_iff] at hj
        obtain ⟨x, hx, rfl⟩ := hj
        have hjn : j < n := by
          have := (List.getElem?_eq_some_iff.1 hx).1
          simp at this; omega
        rw [List.getElem?_take_of_lt hjn] at hx
        simp only [List.getD, hx]
        exact .sc _ _ rfl
end
end
end Go.Proofs.Ytodliknibbafeaa
section
/- Proved here: the law HolonomyOf returns true for every input, and its arguments read afterwards as before. No condition. -/
namespace Go.Proofs.Ytodliknibbafeaa.holonomyOf
open Go.ChangeShapes Go.WideShapes Go.ChangeAt Go.RowKit
open Go.ChangeMaps (open_string shut_string)
theorem own : ownKnob Try.prog.godebug = none := by kernel_rfl
set_option maxRecDepth 100000 in
theorem ztY (H : Type) (enc : TypeId × Value -> H) (W : World) (base : Nat) (args : Array Value) (ds gs : List (DataW H)) (before : List MemPlace)
    (hval0 : ∀ (j : Nat) t v, Try.f3.params[j]? = some t -> args[j]? = some v -> Value.okWide Try.prog W .any base t v)
    (hW : DataW.Whole enc Try.prog Try.f3.params.toList Rows.holonomyOfSpec.vars false W args.toList ds gs before) :
    Calls Try.prog 3 args W fun e W' => ∃ v, e = .returned v /\ Rows.holonomyOfSpec.post enc Try.prog Try.f3 false true false false W args v W' := by
  have hW' := hW
  obtain ⟨p, q, hA0, hV, rfl, hfz, hnd⟩ := hW
  have hval := hval0
  have hA : DataW.TrodAll enc Try.prog W 0 (fun _ => true) true Try.f3.params.toList args.toList ds p := hA0
  rw [Try.params3] at hA hval
  obtain ⟨v0, vs0, d0, ds0, p0, q0, hargs, rfl, rfl, h0, r0⟩ := trodAll_cons hA
  obtain ⟨rfl, rfl, rfl⟩ := trodAll_nil r0
  obtain rfl : args = #[v0] := by cases args; simp_all
  obtain ⟨rfl, rfl⟩ := trodVars_none hV
  obtain ⟨a0, t0, w0, z0⟩ := zrB Try.underlying22 Try.underlying3 (by kernel_rfl) (hval 0 22 v0 rfl rfl) h0
  obtain ⟨outs, hlaw⟩ := zwX a0 w0 z0
  refine (zrT zqA (by kernel_rfl) zCo hlaw rfl W _ rfl (fun i t hi => ?_)).mono fun e W' ⟨he, bel⟩ => ?_
  · match i, hi with
    | 0, hi => cases hi; exact t0
  · subst he
    exact ⟨_, rfl, _, _, _, [], _, [], hW', trodAll_mk1 (shut_bool Try.underlying4 _), zaH 12 bel (by kernel_rfl) hA0, rfl, bel.frame _, fun h => by cases h⟩
theorem zaC {a b : Bool} (ha : a = true) (hb : b = true) : (a && b) = true := by rw [ha, hb]; rfl
set_option maxHeartbeats 4000000 in
theorem zya : joinedFacts Try.checked.prog 3 Try.f3 Rows.holonomyOfSpec Rows.holonomyOfRow = true :=
  (zaC (zaC (zaC (zaC (zaC (zaC (zaC (zaC (zaC (zaC (zaC (zaC (zaC (zaC (zaC (zaC (zaC (zaC (zaC (zaC (zaC (zaC (zaC (zaC (zaC (zaC (zaC (zaC (zaC (zaC (zaC (by as_aux_lemma => kernel_rfl)
    (by as_aux_lemma => kernel_rfl))
    (by as_aux_lemma => kernel_rfl))
    (by as_aux_lemma => kernel_rfl))
    (by as_aux_lemma => kernel_rfl))
    (by as_aux_lemma => kernel_rfl))
    (by as_aux_lemma => kernel_rfl))
    (by as_aux_lemma => kernel_rfl))
    (by as_aux_lemma => kernel_rfl))
    (by as_aux_lemma => kernel_rfl))
    (by as_aux_lemma => kernel_rfl))
    (by as_aux_lemma => kernel_rfl))
    (by as_aux_lemma => kernel_rfl))
    (by as_aux_lemma => kernel_rfl))
    (by as_aux_lemma => kernel_rfl))
    (by as_aux_lemma => kernel_rfl))
    (by as_aux_lemma => kernel_rfl))
    (by as_aux_lemma => kernel_rfl))
    (by as_aux_lemma => kernel_rfl))
    (by as_aux_lemma => kernel_rfl))
    (by as_aux_lemma => kernel_rfl))
    (by as_aux_lemma => kernel_rfl))
    (by as_aux_lemma => kernel_rfl))
    (by as_aux_lemma => kernel_rfl))
    (by as_aux_lemma => kernel_rfl))
    (by as_aux_lemma => kernel_rfl))
    (by as_aux_lemma => kernel_rfl))
    (by as_aux_lemma => kernel_rfl))
    (by as_aux_lemma => kernel_rfl))
    (by as_aux_lemma => kernel_rfl))
    (by as_aux_lemma => kernel_rfl))
    (by as_aux_lemma => kernel_rfl))
set_option maxRecDepth 100000 in
theorem zwW (os : Os) (started : os.Started) (H : Type) (enc : TypeId × Value -> H) :
    ReturnsInHanded {} Try.checked os 3 .any (Rows.holonomyOfSpec.pre6 enc Try.prog Try.f3 Rows.holonomyOfRow.domain false) (Rows.holonomyOfSpec.post enc Try.prog Try.f3 false true false false) := by
  refine returnsInHanded_of_change (C := Try.checked) (by kernel_rfl) started (by kernel_rfl) Try.func3
    (ChangeSpec.witness6 (enc := enc) (C := Try.checked) false ⟨#[], #[.slice none 0 0], []⟩ 8 (by kernel_rfl) (by kernel_rfl) (by kernel_rfl) (by kernel_rfl)) ?_
  intro W base args ds gs before hval0 hW hcnd _
  exact ztY H enc W base args ds gs before hval0 hW
theorem zBg : Rows.holonomyOfRow.holds Try.pinned (OpenSpec.ofChange Rows.holonomyOfSpec) :=
  OpenClaim.holds_of_wide 3 Try.f3 rfl rfl rfl rfl rfl rfl rfl ⟨rfl, rfl, rfl, rfl, rfl⟩ rfl rfl rfl rfl rfl (by kernel_rfl) Try.func3 zya
    (of_decide_eq_true (by kernel_rfl)) (by unfold Func.isWrapper; first | (rw [if_pos (by decide +kernel)]; kernel_rfl) | (rw [if_neg (by decide +kernel)]; exact ⟨rfl, rfl⟩))
    (fun os started H enc _ => zwW os started H enc)
theorem proved : Rows.HolonomyOfSaid :=
  zBg
#print axioms proved
end Go.Proofs.Ytodliknibbafeaa.holonomyOf
end

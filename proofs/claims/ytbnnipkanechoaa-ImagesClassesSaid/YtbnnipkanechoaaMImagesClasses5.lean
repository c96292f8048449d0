/- Proved here: the law ImagesClasses returns true for every input, and its arguments read afterwards as before. No condition. -/
import Derived.Test.YtbnnipkanechoaaMImagesClasses4
import Derived.KernelRfl
import Derived.WalkKit
import Derived.WalkSpells
import Derived.WalkLawsBesides
import Derived.Lib.Hide
import Derived.Deep.OwnRows
import Derived.Deep.RegionLaw
import Derived.Shelf.Small.Bits
import Derived.Shelf.Strconv.Itoa0
import Derived.Ground.Names2Prog
import Derived.Shelf.Slices.SearchI
import Derived.Ground.SlgcProg
import Derived.Shelf.SlicesG.Cmp
import Derived.Ground.SlsfProg
import Derived.Shelf.SlSortCmp.Insertion
import Derived.Shelf.SlSortCmp.SiftDown1
import Derived.Shelf.SlSortCmp.HeapSort1
import Derived.Shelf.SlSortCmp.Insertion1
import Derived.Shelf.SlSortCmp.Median1
import Derived.Shelf.SlSortCmp.Pivot1
import Derived.Shelf.SlSortCmp.ReverseRange1
import Derived.Shelf.SlSortCmp.PartialInsertion1
import Derived.Shelf.SlSortCmp.PartitionEqual1
import Derived.Shelf.SlSortCmp.Partition1
import Derived.Shelf.SlSortCmp.Pdq1
import Derived.Shelf.SlSortCmp.Whole1
import Derived.Test.YtbnnipkanechoaaProg
import Derived.ChangeOld
import Derived.ChangeReads
import Derived.Below
import Derived.ChangeSlices
import Derived.Deep.Grids
import Derived.WideShapes
import Derived.ProofKit
import Derived.Test.YtbnnipkanechoaaRows
import Derived.Test.YtbnnipkanechoaaChecked
import Derived.OpenShut
import Derived.ShutString
import Derived.Deep.DeepHandedRow
set_option linter.unusedVariables false
set_option linter.unusedSimpArgs false
section
namespace Go.Proofs.Ytbnnipkanechoaa
open Go
set_option maxRecDepth 100000
def z6i (g : Nat → Nat) : Nat → Nat
  | 0 => 0
  | k + 1 => max (z6i g k) (g k)
theorem zoc {g : Nat → Nat} {k j : Nat} (h : j < k) : g j ≤ z6i g k := by
  induction k with
  | zero => omega
  | succ k ih =>
    simp only [z6i]
    by_cases e : j = k
    · subst e; omega
    · have := ih (by omega); omega
theorem z9k {g : Nat → Nat} {k b : Nat} (h : ∀ j, j < k → g j ≤ b) : z6i g k ≤ b := by
  induction k with
  | zero => simp [z6i]
  | succ k ih =>
    have := ih fun j hj => h j (by omega)
    have := h k (by omega)
    simp only [z6i]; omega
theorem zi8 {g g' : Nat → Nat} {k : Nat} (h : ∀ j, j < k → g j = g' j) : z6i g k = z6i g' k := by
  induction k with
  | zero => rfl
  | succ k ih => simp only [z6i]; rw [ih fun j hj => h j (by omega), h k (by omega)]
def z4A (p : Nat → Bool) : Nat → Nat
  | 0 => 0
  | k + 1 => z4A p k + (if p k = true then 1 else 0)
theorem zng (p : Nat → Bool) (k : Nat) : z4A p k ≤ k := by
  induction k with
  | zero => simp [z4A]
  | succ k ih => simp only [z4A]; split <;> omega
theorem zjH {p q : Nat → Bool} {k : Nat} (h : ∀ j, j < k → p j = true → q j = true) : z4A p k ≤ z4A q k := by
  induction k with
  | zero => simp [z4A]
  | succ k ih =>
    have := ih fun j hj => h j (by omega)
    have := h k (by omega)
    simp only [z4A]
    by_cases h1 : p k = true
    · rw [if_pos h1, if_pos (this h1)]; omega
    · rw [if_neg h1]; split <;> omega
theorem zeG {p q : Nat → Bool} {k i : Nat} (h : ∀ j, j < k → p j = true → q j = true) (hi : i < k) (hp : p i = false) (hq : q i = true) : z4A p k < z4A q k := by
  induction k with
  | zero => omega
  | succ k ih =>
    simp only [z4A]
    by_cases e : i = k
    · subst e
      have := zjH (p := p) (q := q) (k := i) fun j hj => h j (by omega)
      rw [hp, hq]; simp; omega
    · have h1 := ih (fun j hj => h j (by omega)) (by omega)
      have := h k (by omega)
      by_cases h2 : p k = true
      · rw [if_pos h2, if_pos (this h2)]; omega
      · rw [if_neg h2]; split <;> omega
structure BelN (N : Nat) (b : Nat → Nat → Bool) : Prop where
  refl : ∀ i, i < N → b i i = true
  trans : ∀ i j k, i < N → j < N → k < N → b i j = true → b j k = true → b i k = true
def zf9 (N : Nat) (b : Nat → Nat → Bool) (i : Nat) : Nat := z4A (fun j => b j i) N
def sbN (b : Nat → Nat → Bool) (j i : Nat) : Bool := b j i && !b i j
theorem zmM {N : Nat} {b : Nat → Nat → Bool} (hb : BelN N b) {i j : Nat} (hi : i < N) (hj : j < N) (h : sbN b j i = true) : zf9 N b j < zf9 N b i := by
  simp only [sbN, Bool.and_eq_true, Bool.not_eq_true'] at h
  exact zeG (fun k hk hkj => hb.trans k j i hk hj hi hkj h.1) hi h.2 (hb.refl i hi)
def ztN (N : Nat) (b : Nat → Nat → Bool) (z : Nat → Bool) (h : Nat → Nat) : Prop := ∀ i, i < N → h i = if z i = true then 0 else z6i (fun j => if sbN b j i = true then h j + 1 else 0) N
def zqQ (N : Nat) (b : Nat → Nat → Bool) (z : Nat → Bool) : Nat → Nat → Nat
  | 0, _ => 0
  | f + 1, i => if z i = true then 0 else z6i (fun j => if sbN b j i = true then zqQ N b z f j + 1 else 0) N
def zp6 (N : Nat) (b : Nat → Nat → Bool) (z : Nat → Bool) (i : Nat) : Nat := zqQ N b z N i
theorem zeD {N : Nat} {b : Nat → Nat → Bool} (hb : BelN N b) (z : Nat → Bool) : ∀ f i, i < N → zf9 N b i ≤ f → ∀ g, zf9 N b i ≤ g → zqQ N b z f i = zqQ N b z g i
  | 0, i, hi, hl, g, hg => by
    exfalso
    have := zeG (p := fun _ => false) (q := fun j => b j i) (k := N) (i := i) (fun j _ hf => by simp at hf) hi rfl (hb.refl i hi)
    unfold zf9 at hl; omega
  | f + 1, i, hi, hl, 0, hg => by
    exfalso
    have := zeG (p := fun _ => false) (q := fun j => b j i) (k := N) (i := i) (fun j _ hf => by simp at hf) hi rfl (hb.refl i hi)
    unfold zf9 at hg; omega
  | f + 1, i, hi, hl, g + 1, hg => by
    simp only [zqQ]
    split
    · rfl
    · refine zi8 fun j hj => ?_
      by_cases hs : sbN b j i = true
      · have := zmM hb hi hj hs
        rw [if_pos hs, if_pos hs, zeD hb z f j hj (by omega) g (by omega)]
      · rw [if_neg hs, if_neg hs]
theorem zjk {N : Nat} {b : Nat → Nat → Bool} (hb : BelN N b) (z : Nat → Bool) : ztN N b z (zp6 N b z) := fun i hi => by
  have hl : zf9 N b i ≤ N := zng _ _
  unfold zp6
  rw [zeD hb z N i hi hl (N + 1) (by omega)]
  rfl
theorem zp5 {N : Nat} {b : Nat → Nat → Bool} (hb : BelN N b) (z : Nat → Bool) {i : Nat} (hi : i < N) : zp6 N b z i ≤ N := by
  have : ∀ L i, i < N → zf9 N b i ≤ L → zp6 N b z i ≤ L := by
    intro L
    induction L with
    | zero =>
      intro i hi hl
      exfalso
      have := zeG (p := fun _ => false) (q := fun j => b j i) (k := N) (i := i) (fun j _ hf => by simp at hf) hi rfl (hb.refl i hi)
      unfold zf9 at hl; omega
    | succ L ih =>
      intro i hi hl
      rw [zjk hb z i hi]
      split
      · omega
      · refine z9k fun j hj => ?_
        by_cases hs : sbN b j i = true
        · have := zmM hb hi hj hs
          have := ih j hj (by omega)
          rw [if_pos hs]; omega
        · rw [if_neg hs]; omega
  exact this N i hi (zng _ _)
theorem znw {d : DFA} {m n : Nat} (hd : DfaOk d m n) {S : List Nat} (hS : SetsP d m n S) : BelN S.length (z5N d m n S) where
  refl i hi := (z4d hd hS hi).2 (zjM d m _)
  trans i j k hi hj hk h1 h2 := (z4d hd hS hk).2 (zdl hd ((z4d hd hS hj).1 h1) ((z4d hd hS hk).1 h2))
theorem zmc {s : Nat} (h : s < 128) : z5d (s : Int) = some ((szN s : Nat) : Int) := by
  unfold z5d z3Y
  rw [zrs (by omega)]
  have : z2N (s : Int) = some ((szN s : Nat) : Int) := by
    unfold z2N
    rw [z1n _ (by omega), z1n _ (by omega), z1n _ (by omega), z1n _ (by omega), z1n _ (by omega), z1n _ (by omega)]
    congr 1
    revert s
    decide +kernel
  rw [this]; rfl
def znq (S : List Nat) (i : Nat) : Bool := decide (szN (S.getD i 0) = 1)
def za0 (d : DFA) (m n : Nat) (S : List Nat) (i : Nat) : Nat := zp6 S.length (z5N d m n S) (znq S) i
def zrd (d : DFA) (m n : Nat) (S : List Nat) : List Int := (List.range S.length).map fun i => ((za0 d m n S i : Nat) : Int)
theorem zlZ (N : Nat) : toI (List.range N) = (List.range N).map fun i => ((i : Nat) : Int) := rfl
theorem zl0 {d : DFA} {m n : Nat} {S : List Nat} (hl : S.length < 4611686018427387904) {i : Nat} (hi : i < S.length) (C O : List Int) (L : List Int) (hL : L.length = S.length) (h0 : L.getD i 0 = 0) :
    z1p (z2a (dgm d m n S) (i : Int) O) LFm (0, L) = z1b (((i + 1 : Nat) : Int), L.set i ((zf9 S.length (z5N d m n S) i : Nat) : Int), O.set i (i : Int)) := by
  refine z2m (s := ((0 : Int), L)) S.length (fun k => ((k : Int), L.set i ((z4A (fun j => z5N d m n S j i) k : Nat) : Int))) ?_ (by simp only [LFm]; omega) (fun k hk => ?_) ?_
  · refine Prod.ext rfl ?_
    show L = L.set i 0
    apply List.ext_getElem (by simp)
    intro j h1 h2
    rw [List.getElem_set]
    by_cases e : i = j
    · subst e
      rw [if_pos rfl]
      rw [List.getD, List.getElem?_eq_getElem h1, Option.getD_some] at h0
      exact h0
    · rw [if_neg e]
  · have hc := zng (fun j => z5N d m n S j i) k
    have ed : (dgm d m n S).sets = toI S := rfl
    have eb : (dgm d m n S).below = zoE d m n S := rfl
    simp only [z2a]
    rw [ed, eb, if_pos (by rw [z0W]; omega), zjN hk, Option.bind_some, z3D hi, Option.bind_some, z3q (by omega)]
    simp only [z4A]
    by_cases h : z5N d m n S k i = true
    · rw [if_pos h, if_pos h, ziX (by omega), Option.bind_some, Int.toNat_natCast, zhX, z3q (by omega)]
    · rw [if_neg h, if_neg h]; rfl
  · have ed : (dgm d m n S).sets = toI S := rfl
    simp only [z2a]
    rw [ed, if_neg (by rw [z0W]; omega), z3q (by omega), Int.toNat_natCast]
    rfl
theorem zmU {d : DFA} {m n : Nat} (hd : DfaOk d m n) {S : List Nat} (hS : SetsP d m n S) (hl : S.length < 100000) (k : Int) {i : Nat} (hi : i < S.length) {H : Nat → Nat} (h0 : H i = 0) (hlow : ∀ j, j < S.length → sbN (z5N d m n S) j i = true → H j = za0 d m n S j) :
    z1p (z1W (dgm d m n S) (zox d m n S) k (i : Int)) LFm (0, (List.range S.length).map fun j => ((H j : Nat) : Int)) = z1b (IntKind.i64.wrap (k + 1), (List.range S.length).map fun j => (((if j = i then z6i (fun j => if sbN (z5N d m n S) j i = true then za0 d m n S j + 1 else 0) S.length else H j) : Nat) : Int)) := by
  have he := zh8 hd hS
  have hb := znw hd hS
  have ed : (dgm d m n S).sets = toI S := rfl
  have eb : (dgm d m n S).below = zoE d m n S := rfl
  refine z2m (s := ((0 : Int), (List.range S.length).map fun j => ((H j : Nat) : Int))) S.length (fun q => ((q : Int), (List.range S.length).map fun j => (((if j = i then z6i (fun j => if sbN (z5N d m n S) j i = true then za0 d m n S j + 1 else 0) q else H j) : Nat) : Int))) ?_ (by simp only [LFm]; omega) (fun q hq => ?_) ?_
  · refine Prod.ext rfl ?_
    refine List.map_congr_left fun j hj => ?_
    by_cases e : j = i
    · subst e; simp [z6i, h0]
    · rw [if_neg e]
  · have hle := zp5 hb (znq S) hq
    have hmx : z6i (fun j => if sbN (z5N d m n S) j i = true then za0 d m n S j + 1 else 0) q ≤ S.length + 1 := z9k fun j hj => by
      have := zp5 hb (znq S) (i := j) (by omega)
      unfold za0; split <;> omega
    have hse : z5N d m n S q i = true → (sbN (z5N d m n S) q i = true ↔ ¬ z5S (z2A d m n S) S.length q = z5S (z2A d m n S) S.length i) := fun h => by
      rw [zpS he hq hi]
      simp only [sbN, z2A, h, Bool.true_and, Bool.not_eq_true', Bool.not_eq_true]
    have hfin : ∀ v : Nat, v = (if sbN (z5N d m n S) q i = true then max (z6i (fun j => if sbN (z5N d m n S) j i = true then za0 d m n S j + 1 else 0) q) (za0 d m n S q + 1) else z6i (fun j => if sbN (z5N d m n S) j i = true then za0 d m n S j + 1 else 0) q) → ((List.range S.length).map fun j => (((if j = i then v else H j) : Nat) : Int)) = (List.range S.length).map fun j => (((if j = i then z6i (fun j => if sbN (z5N d m n S) j i = true then za0 d m n S j + 1 else 0) (q + 1) else H j) : Nat) : Int) := fun v hv => by
      refine List.map_congr_left fun j hj => ?_
      by_cases e : j = i
      · rw [if_pos e, if_pos e, hv]
        simp only [z6i]
        by_cases h : sbN (z5N d m n S) q i = true
        · rw [if_pos h, if_pos h]
        · rw [if_neg h, if_neg h]; congr 1; omega
      · rw [if_neg e, if_neg e]
    simp only [z1W]
    rw [ed, eb, if_pos (by rw [z0W]; omega), zjN hq, Option.bind_some, z3D hi, Option.bind_some, z3q (by omega)]
    by_cases h : z5N d m n S q i = true
    · rw [if_pos h, zox, z3D hq, Option.bind_some, z3D hi, Option.bind_some]
      by_cases hc : z5S (z2A d m n S) S.length q = z5S (z2A d m n S) S.length i
      · have hs : ¬ sbN (z5N d m n S) q i = true := fun hh => (hse h).1 hh hc
        rw [if_pos (by rw [hc]), hfin _ (by rw [if_neg hs])]
      · have hs := (hse h).2 hc
        have hqi : q ≠ i := fun e => by subst e; exact hc rfl
        rw [if_neg (by omega), z3D hi, Option.bind_some, z3D hq, Option.bind_some, if_pos rfl, if_neg hqi, hlow q hq hs, z3q (by unfold za0; omega), Int.toNat_natCast]
        have hset : ∀ v : Nat, ((List.range S.length).map fun j => (((if j = i then z6i (fun j => if sbN (z5N d m n S) j i = true then za0 d m n S j + 1 else 0) q else H j) : Nat) : Int)).set i (v : Int) = (List.range S.length).map fun j => (((if j = i then v else H j) : Nat) : Int) := fun v => by
          apply List.ext_getElem (by simp)
          intro j h1 h2
          simp only [List.getElem_set, List.getElem_map, List.getElem_range]
          by_cases e : i = j
          · subst e; rw [if_pos rfl, if_pos rfl]
          · rw [if_neg e, if_neg (fun hh => e hh.symm), if_neg (fun hh => e hh.symm)]
        by_cases hlt : ((z6i (fun j => if sbN (z5N d m n S) j i = true then za0 d m n S j + 1 else 0) q : Nat) : Int) < ((za0 d m n S q + 1 : Nat) : Int)
        · rw [if_pos hlt, hset, hfin _ (by rw [if_pos hs]; omega)]
        · rw [if_neg hlt, hset, hfin _ (by rw [if_pos hs]; omega)]
    · have hs : ¬ sbN (z5N d m n S) q i = true := fun hh => by simp only [sbN, Bool.and_eq_true] at hh; exact h hh.1
      rw [if_neg h, hfin _ (by rw [if_neg hs])]
  · simp only [z1W]
    rw [ed, if_neg (by rw [z0W]; omega)]
theorem zlf {d : DFA} {m n : Nat} (hd : DfaOk d m n) (hn : n ≤ 7) {S : List Nat} (hS : SetsP d m n S) : z2w (dgm d m n S) (zox d m n S) = some (zrd d m n S) := by
  have h128 : 2 ^ n ≤ 128 := Nat.pow_le_pow_right (n := 2) (by omega) hn
  have hSl := z1U hS.nd hS.lt
  have hb := znw hd hS
  have he := zh8 hd hS
  have ed : (dgm d m n S).sets = toI S := rfl
  unfold z2w
  rw [ed, z0W, z1n _ (by unfold z3n; omega), Int.toNat_natCast]
  have f1 : List.replicate S.length (0 : Int) = z2y S.length (fun i => ((zf9 S.length (z5N d m n S) i : Nat) : Int)) 0 0 := (za4 _ _ _).symm
  have f2 : (List.replicate S.length (0 : Int)) = z2y S.length (fun i => ((i : Nat) : Int)) 0 0 := (za4 _ _ _).symm
  conv => lhs; arg 3; rw [show ((0 : Int), List.replicate S.length (0 : Int), List.replicate S.length (0 : Int)) = ((0 : Int), z2y S.length (fun i => ((zf9 S.length (z5N d m n S) i : Nat) : Int)) 0 0, z2y S.length (fun i => ((i : Nat) : Int)) 0 0) by rw [← f1, ← f2]]
  refine z2m (s := ((0 : Int), z2y S.length (fun i => ((zf9 S.length (z5N d m n S) i : Nat) : Int)) 0 0, z2y S.length (fun i => ((i : Nat) : Int)) 0 0)) S.length (fun k => ((k : Int), z2y S.length (fun i => ((zf9 S.length (z5N d m n S) i : Nat) : Int)) 0 k, z2y S.length (fun i => ((i : Nat) : Int)) 0 k)) rfl (by simp only [LFm]; omega) (fun i hi => ?_) ?_
  · simp only [z2J]
    rw [ed, if_pos (by rw [z0W]; omega), z7L hi, Option.bind_some, zl0 (by omega) hi [] _ _ (zbF _ _ _ _) (by simp [z2y, List.getD, hi])]
    have e1 := z5L (f := fun i => ((zf9 S.length (z5N d m n S) i : Nat) : Int)) (z := 0) hi
    have e2 := z5L (f := fun i => ((i : Nat) : Int)) (z := 0) hi
    rw [e1, e2]
  · simp only [z2J]
    rw [ed, if_neg (by rw [z0W]; omega), za3, za3]
    have hK : ((List.range S.length).map fun i => ((zf9 S.length (z5N d m n S) i : Nat) : Int)).length = S.length := by simp
    have hv : zfv ((List.range S.length).map fun i => ((zf9 S.length (z5N d m n S) i : Nat) : Int)) (toI (List.range S.length)) := fun x hx => by
      simp only [toI, List.mem_map, List.mem_range] at hx
      obtain ⟨i, hi, rfl⟩ := hx
      exact ⟨by omega, by rw [hK]; omega⟩
    obtain ⟨O, hO, hs, hp⟩ := zm9 hv (by rw [z0W, List.length_range]; omega)
    rw [← zlZ, hO, Option.bind_some, z0W, z1n _ (by unfold z3n; omega), Int.toNat_natCast]
    have hOl : O.length = S.length := by rw [hp.length_eq, z0W, List.length_range]
    have hOn : O.Nodup := hp.nodup_iff.2 (by
      unfold toI
      exact List.Pairwise.map _ (fun a b h e => h (by omega)) List.nodup_range)
    have hmem : ∀ x, x ∈ O ↔ ∃ i, i < S.length ∧ x = (i : Int) := fun x => by
      rw [hp.mem_iff]; simp only [toI, List.mem_map, List.mem_range]
      constructor
      · rintro ⟨i, hi, rfl⟩; exact ⟨i, hi, rfl⟩
      · rintro ⟨i, hi, rfl⟩; exact ⟨i, hi, rfl⟩
    have hkv : ∀ i, i < S.length → kv ((List.range S.length).map fun i => ((zf9 S.length (z5N d m n S) i : Nat) : Int)) (i : Int) = ((zf9 S.length (z5N d m n S) i : Nat) : Int) := fun i hi => by
      simp [kv, List.getD, hi]
    congr 1
    have f3 : List.replicate S.length (0 : Int) = (List.range S.length).map fun (j : Nat) => (((if (j : Int) ∈ O.take 0 then za0 d m n S j else 0) : Nat) : Int) := by
      apply List.ext_getElem (by simp); intro i h1 h2; simp
    rw [f3]
    refine z2m (s := ((0 : Int), (List.range S.length).map fun (j : Nat) => (((if (j : Int) ∈ O.take 0 then za0 d m n S j else 0) : Nat) : Int))) S.length (fun k => ((k : Int), (List.range S.length).map fun (j : Nat) => (((if (j : Int) ∈ O.take k then za0 d m n S j else 0) : Nat) : Int))) rfl (by simp only [LFm]; omega) (fun k hk => ?_) ?_
    · have hkO : k < O.length := by omega
      obtain ⟨i, hi, hOk⟩ := (hmem O[k]).1 (List.getElem_mem hkO)
      have hnot : (i : Int) ∉ O.take k := fun h => by
        obtain ⟨j, hj, hji⟩ := List.getElem_of_mem h
        rw [List.length_take] at hj
        rw [List.getElem_take, ← hOk] at hji
        have := (List.getElem_inj hOn).1 hji
        omega
      have htake : ∀ j : Nat, (j : Int) ∈ O.take (k + 1) ↔ (j = i ∨ (j : Int) ∈ O.take k) := fun j => by
        rw [List.take_succ_eq_append_getElem hkO, List.mem_append, List.mem_singleton, hOk]
        constructor
        · rintro (h | h)
          · exact .inr h
          · exact .inl (by omega)
        · rintro (h | h)
          · exact .inr (by omega)
          · exact .inl h
      have hupd : ((List.range S.length).map fun (j : Nat) => (((if j = i then za0 d m n S i else if (j : Int) ∈ O.take k then za0 d m n S j else 0) : Nat) : Int)) = (List.range S.length).map fun (j : Nat) => (((if (j : Int) ∈ O.take (k + 1) then za0 d m n S j else 0) : Nat) : Int) := by
        refine List.map_congr_left fun j hj => ?_
        by_cases e : j = i
        · subst e; rw [if_pos rfl, if_pos ((htake j).2 (.inl rfl))]
        · rw [if_neg e]
          by_cases h : (j : Int) ∈ O.take k
          · rw [if_pos h, if_pos ((htake j).2 (.inr h))]
          · rw [if_neg h, if_neg (fun hh => ((htake j).1 hh).elim e h)]
      have hlt128 : S.getD i 0 < 2 ^ n := hS.lt _ (z1z hi)
      simp only [z2r]
      rw [if_pos (by omega), z3j hkO, Option.bind_some, hOk, ed, z4e hi, Option.bind_some, zmc (by omega), Option.bind_some]
      have hok := zjk hb (znq S) i hi
      by_cases hz : szN (S.getD i 0) = 1
      · rw [if_pos (by omega), z3q (by omega)]
        have hh : za0 d m n S i = 0 := by
          unfold za0; rw [hok, if_pos (by simp only [znq, hz, decide_true])]
        refine congrArg z1b (Prod.ext rfl ?_)
        refine List.map_congr_left fun j hj => ?_
        by_cases e : j = i
        · subst e; rw [if_neg hnot, if_pos ((htake j).2 (.inl rfl)), hh]
        · by_cases h : (j : Int) ∈ O.take k
          · rw [if_pos h, if_pos ((htake j).2 (.inr h))]
          · rw [if_neg h, if_neg (fun hh => ((htake j).1 hh).elim e h)]
      · rw [if_neg (by omega), zmU hd hS (by omega) (k : Int) hi (H := fun (j : Nat) => if (j : Int) ∈ O.take k then za0 d m n S j else 0) (if_neg hnot) (fun j hj hsb => ?_), z3q (by omega)]
        · have hh : z6i (fun j => if sbN (z5N d m n S) j i = true then za0 d m n S j + 1 else 0) S.length = za0 d m n S i := by
            have : za0 d m n S i = _ := hok
            rw [this, if_neg (by simp only [znq, hz, decide_false]; simp)]; rfl
          rw [hh, hupd]
        · have hl := zmM hb hi hj hsb
          have hjO : (j : Int) ∈ O := (hmem _).2 ⟨j, hj, rfl⟩
          obtain ⟨p, hpO, hpj⟩ := List.getElem_of_mem hjO
          refine if_pos ?_
          rcases Nat.lt_trichotomy p k with h | h | h
          · rw [← hpj]
            exact List.mem_take_iff_getElem.2 ⟨p, by omega, rfl⟩
          · subst h
            rw [hOk] at hpj
            have : i = j := by omega
            subst this; omega
          · have := List.pairwise_iff_getElem.1 hs k p hkO hpO h
            rw [hOk, hpj, hkv i hi, hkv j hj] at this
            omega
    · simp only [z2r]
      rw [if_neg (by omega)]
      congr 2
      unfold zrd
      refine List.map_congr_left fun j hj => ?_
      rw [List.take_of_length_le (by omega), if_pos ((hmem _).2 ⟨j, List.mem_range.1 hj, rfl⟩)]
end Go.Proofs.Ytbnnipkanechoaa
end
section
namespace Go.Proofs.Ytbnnipkanechoaa
open Go
set_option maxRecDepth 100000
def zol (S : List Nat) (i j : Nat) : Bool := !decide (j = i) && decide (S.getD j 0 &&& S.getD i 0 = S.getD j 0)
def z8B (S : List Nat) (i : Nat) : List Nat := (List.range S.length).filter (zol S i)
def zlz (S : List Nat) (i j : Nat) : Bool := (z8B S i).all fun k => decide (k = j) || !decide (S.getD j 0 &&& S.getD k 0 = S.getD j 0)
def z6p (S : List Nat) (i : Nat) : List Nat := if szN (S.getD i 0) = 1 then [] else (z8B S i).filter (zlz S i)
theorem zde {α : Type} {p : α → Bool} {l : List α} {k : Nat} (h : k < l.length) : (l.take (k + 1)).filter p = (l.take k).filter p ++ (if p l[k] = true then [l[k]] else []) := by
  rw [List.take_succ_eq_append_getElem h, List.filter_append, List.filter_cons, List.filter_nil]
theorem zp3 {S : List Nat} {i j : Nat} (h : j ∈ z8B S i) : j < S.length := List.mem_range.1 (List.mem_filter.1 h).1
theorem zbd {α : Type} (p : α → Bool) (l : List α) : (l.filter p).length ≤ l.length := List.length_filter_le p l
theorem znQ {d : DFA} {m n : Nat} (hn : n ≤ 7) {S : List Nat} (hS : SetsP d m n S) {i : Nat} (hi : i < S.length) : z3c (dgm d m n S) (i : Int) = some (toI (z6p S i)) := by
  have h128 : 2 ^ n ≤ 128 := Nat.pow_le_pow_right (n := 2) (by omega) hn
  have hSl := z1U hS.nd hS.lt
  have ed : (dgm d m n S).sets = toI S := rfl
  have lt62 : ∀ j, j < S.length → S.getD j 0 < 2 ^ 62 := fun j hj => by have := hS.lt _ (z1z hj); omega
  have hil := hS.lt _ (z1z hi)
  unfold z3c z6p
  rw [ed, z4e hi, Option.bind_some, zmc (by omega), Option.bind_some]
  by_cases hz : szN (S.getD i 0) = 1
  · rw [if_pos (by omega), if_pos hz]; rfl
  rw [if_neg (by omega), if_neg hz]
  have hrl : (List.range S.length).length = S.length := List.length_range
  refine z2m (s := ((0 : Int), ([] : List Int))) S.length (fun j => ((j : Int), toI (((List.range S.length).take j).filter (zol S i)))) rfl (by simp only [LFm]; omega) (fun j hj => ?_) ?_
  · have hfl : (((List.range S.length).take j).filter (zol S i)).length ≤ j := Nat.le_trans (zbd _ _) (by rw [List.length_take]; omega)
    have hst := zde (p := zol S i) (l := List.range S.length) (k := j) (by omega)
    rw [List.getElem_range] at hst
    simp only [z3e]
    rw [ed, if_pos (by rw [z0W]; omega), z4e hj, Option.bind_some, z3q (by omega), hst]
    by_cases e : j = i
    · have : zol S i j = false := by unfold zol; rw [decide_eq_true e]; rfl
      rw [if_pos (by omega), this, if_neg (by simp), List.append_nil]
    · rw [if_neg (by omega), z4e hi, Option.bind_some, z9o (lt62 i hi) (lt62 j hj), Option.bind_some]
      have : zol S i j = decide (S.getD j 0 &&& S.getD i 0 = S.getD j 0) := by unfold zol; rw [decide_eq_false e]; rfl
      rw [this]
      by_cases h : decide (S.getD j 0 &&& S.getD i 0 = S.getD j 0) = true
      · rw [if_pos h, if_pos h, z1n _ (by unfold z3U; rw [z0W]; omega), z8o]
      · rw [if_neg h, if_neg h, List.append_nil]
  · simp only [z3e]
    rw [ed, if_neg (by rw [z0W]; omega), List.take_of_length_le (by omega)]
    congr 1
    have hil : (z8B S i).length ≤ S.length := Nat.le_trans (zbd _ _) (by omega)
    show z1p (z2h (dgm d m n S) (toI (z8B S i))) LFm (0, []) = _
    refine z2m (s := ((0 : Int), ([] : List Int))) (z8B S i).length (fun q => ((q : Int), toI (((z8B S i).take q).filter (zlz S i)))) rfl (by simp only [LFm]; omega) (fun q hq => ?_) ?_
    · have hfl : (((z8B S i).take q).filter (zlz S i)).length ≤ q := Nat.le_trans (zbd _ _) (by rw [List.length_take]; omega)
      have hst := zde (p := zlz S i) (l := z8B S i) (k := q) hq
      have hg : (z8B S i).getD q 0 = (z8B S i)[q] := by rw [List.getD, List.getElem?_eq_getElem hq, Option.getD_some]
      have hjl : (z8B S i)[q] < S.length := zp3 (List.getElem_mem hq)
      simp only [z2h]
      rw [if_pos (by rw [z0W]; omega), z4e hq, Option.bind_some, hg, hst]
      generalize (z8B S i)[q] = j at hjl
      rw [z7F (s := (0 : Int)) (z8B S i).length (fun k => (k : Int)) (fun k => !(decide ((z8B S i).getD k 0 = j) || !decide (S.getD j 0 &&& S.getD ((z8B S i).getD k 0) 0 = S.getD j 0))) (fun _ => z1b (((q + 1 : Nat) : Int), toI (((z8B S i).take q).filter (zlz S i)))) (x := z1b (((q + 1 : Nat) : Int), toI (((z8B S i).take q).filter (zlz S i)) ++ [(j : Int)])) rfl (by simp only [LFm]; omega)]
      · rw [zfj]
        simp only [Bool.not_not]
        rw [zcP (fun k => decide (k = j) || !decide (S.getD j 0 &&& S.getD k 0 = S.getD j 0))]
        show (if zlz S i j = true then _ else _) = _
        by_cases h : zlz S i j = true
        · rw [if_pos h, if_pos h, z8o]
        · rw [if_neg h, if_neg h, List.append_nil]
      · intro k hk
        have hkl : (z8B S i).getD k 0 < S.length := zp3 (z1z hk)
        simp only [z2Z]
        rw [if_pos (by rw [z0W]; omega), z4e hk, Option.bind_some]
        by_cases e : (z8B S i).getD k 0 = j
        · rw [if_pos (by omega), decide_eq_true e, z3q (by omega)]; rfl
        · rw [if_neg (by omega), decide_eq_false e, ed, z4e hkl, Option.bind_some, z4e hjl, Option.bind_some, z9o (lt62 _ hkl) (lt62 _ hjl), Option.bind_some, Bool.false_or, Bool.not_not, z3q (by omega), z3q (by omega)]
      · simp only [z2Z]
        rw [if_neg (by rw [z0W]; omega), z1n _ (by unfold z3U; rw [z0W]; omega), z3q (by omega)]
    · simp only [z2h]
      rw [if_neg (by rw [z0W]; omega), List.take_length]
def zn4 (d : DFA) (m n : Nat) (S : List Nat) (i : Nat) : Nat := (zin d m n S).getD (z5S (z2A d m n S) S.length i) 0
def zeM (d : DFA) (m n : Nat) (S : List Nat) (i : Nat) : ByteArray := z5n (z1E d m n (S.getD (zn4 d m n S i) 0)) (S.getD i 0)
def znK (d : DFA) (m n : Nat) (S : List Nat) (i : Nat) : ByteArray := z5n (z1E d m n (S.getD i 0)) (S.getD (zn4 d m n S i) 0)
def z5p (d : DFA) (m n : Nat) (S : List Nat) : Imgs := ⟨toI S, zox d m n S, zrd d m n S, (List.range S.length).map fun i => toI (z6p S i), (List.range S.length).map (zeM d m n S), (List.range S.length).map (znK d m n S)⟩
theorem zn2 {d : DFA} {m n : Nat} {S : List Nat} {c : Nat} (hc : c < (zin d m n S).length) : (zin d m n S).getD c 0 < S.length := zd8 _ _ _ (z1z hc)
theorem zhp {d : DFA} {m n : Nat} (hd : DfaOk d m n) {S : List Nat} (hS : SetsP d m n S) (hSl : S.length < 100000) {c : Nat} (hc : c < (zin d m n S).length) (q : List Int) :
    z1p (z4T (toI S) (zox d m n S, toI (zin d m n S)) (c : Int) (q, zfy S (z1E d m n (S.getD ((zin d m n S).getD c 0) 0)))) LFm (0, (List.range S.length).map fun j => if z5S (z2A d m n S) S.length j < c then zeM d m n S j else ByteArray.empty) =
      z1b (((c + 1 : Nat) : Int), (List.range S.length).map fun j => if z5S (z2A d m n S) S.length j < c + 1 then zeM d m n S j else ByteArray.empty) := by
  have hcl : (zin d m n S).length ≤ S.length := zfi _ _
  refine z2m (s := ((0 : Int), (List.range S.length).map fun j => if z5S (z2A d m n S) S.length j < c then zeM d m n S j else ByteArray.empty)) S.length (fun k => ((k : Int), (List.range S.length).map fun j => if z5S (z2A d m n S) S.length j < c ∨ (z5S (z2A d m n S) S.length j = c ∧ j < k) then zeM d m n S j else ByteArray.empty)) ?_ (by simp only [LFm]; omega) (fun k hk => ?_) ?_
  · refine Prod.ext rfl (List.map_congr_left fun j hj => ?_)
    simp
  · simp only [z4T]
    rw [if_pos (by rw [z0W]; omega), zox, z3D hk, Option.bind_some, z3q (by omega)]
    by_cases h : z5S (z2A d m n S) S.length k = c
    · have hw : z5n (z1E d m n (S.getD ((zin d m n S).getD c 0) 0)) (S.getD k 0) = zeM d m n S k := by unfold zeM zn4; rw [h]
      rw [if_pos (by omega), zfy, z3D hk, Option.bind_some, hw, z3D hk, Option.bind_some, Int.toNat_natCast]
      refine congrArg z1b (Prod.ext rfl ?_)
      apply List.ext_getElem (by simp)
      intro j h1 h2
      simp only [List.getElem_set, List.getElem_map, List.getElem_range]
      by_cases e : k = j
      · subst e; rw [if_pos rfl, if_pos (.inr ⟨h, by omega⟩)]
      · rw [if_neg e]
        congr 1
        refine propext ⟨fun hh => hh.imp id fun hh => ⟨hh.1, by omega⟩, fun hh => hh.imp id fun hh => ⟨hh.1, by omega⟩⟩
    · rw [if_neg (by omega)]
      refine congrArg z1b (Prod.ext rfl (List.map_congr_left fun j hj => ?_))
      congr 1
      refine propext ⟨fun hh => hh.imp id fun hh => ⟨hh.1, by omega⟩, fun hh => hh.imp id fun hh => ⟨hh.1, ?_⟩⟩
      have : j ≠ k := fun e => h (e ▸ hh.1)
      omega
  · simp only [z4T]
    rw [if_neg (by rw [z0W]; omega), z3q (by omega)]
    congr 3
    refine List.map_congr_left fun j hj => ?_
    have hj := List.mem_range.1 hj
    congr 1
    refine propext ⟨fun hh => ?_, fun hh => ?_⟩
    · rcases hh with hh | hh <;> omega
    · by_cases e : z5S (z2A d m n S) S.length j = c
      · exact .inr ⟨e, hj⟩
      · exact .inl (by omega)
theorem ztM {d : DFA} {m n : Nat} (hd : DfaOk d m n) (hn : n ≤ 7) : z7J d = some (z5p d m n (z6L d m n), 0) := by
  have h128 : 2 ^ n ≤ 128 := Nat.pow_le_pow_right (n := 2) (by omega) hn
  have hS := zhW hd
  have hSl := z1U hS.nd hS.lt
  have he := zh8 hd hS
  unfold z7J
  rw [zbL (zpa hd (by omega)), zp0 hd (by omega), Option.bind_some, if_pos rfl, zpE hd hn, Option.bind_some]
  generalize z6L d m n = S at hS hSl he
  have hcl : (zin d m n S).length ≤ S.length := zfi _ _
  rw [if_neg (by rw [z0W]; omega), zlo hd (by omega) hS, Option.bind_some, zlt hd (by omega) hS, Option.bind_some]
  simp only
  rw [zlf hd hn hS, Option.bind_some, z0W, z1n _ (by unfold z3n; omega), z1n _ (by unfold z3n; omega), Int.toNat_natCast]
  have f1 : List.replicate S.length ([] : List Int) = z2y S.length (fun i => toI (z6p S i)) [] 0 := (za4 _ _ _).symm
  have f2 : List.replicate S.length (ByteArray.empty : ByteArray) = z2y S.length (znK d m n S) ByteArray.empty 0 := (za4 _ _ _).symm
  rw [f1, f2]
  refine z2m (s := ((0 : Int), z2y S.length (fun i => toI (z6p S i)) [] 0, z2y S.length (znK d m n S) ByteArray.empty 0)) S.length (fun k => ((k : Int), z2y S.length (fun i => toI (z6p S i)) [] k, z2y S.length (znK d m n S) ByteArray.empty k)) rfl (by simp only [LFm]; omega) (fun k hk => ?_) ?_
  · obtain ⟨c1, c2⟩ := zdh he hk
    have c1 : z5S (z2A d m n S) S.length k < (zin d m n S).length := c1
    have hf : (zin d m n S).getD (z5S (z2A d m n S) S.length k) 0 < S.length := zn2 c1
    simp only [z5I]
    rw [if_pos (by rw [z0W]; omega), znQ hn hS hk, Option.bind_some, z7L hk, Option.bind_some, show dgm d m n S = ⟨toI S, zq6 d m S, zoE d m n S⟩ from rfl, zcK hd (by omega) hS _ hk, Option.bind_some, zox, z3D hk, Option.bind_some, z4e c1, Option.bind_some, show (zdv S (z1E d m n (S.getD k 0)), zfy S (z1E d m n (S.getD k 0))).2 = zfy S (z1E d m n (S.getD k 0)) from rfl, zfy, z3D hf, Option.bind_some, z7L hk, Option.bind_some, z3q (by omega), Int.toNat_natCast]
    have e1 := z5L (f := fun i => toI (z6p S i)) (z := []) hk
    have e2 := z5L (f := znK d m n S) (z := ByteArray.empty) hk
    have e3 : z5n (z1E d m n (S.getD k 0)) (S.getD ((zin d m n S).getD (z5S (z2A d m n S) S.length k) 0) 0) = znK d m n S k := rfl
    rw [e1, e3, e2]
  · simp only [z5I]
    rw [if_neg (by rw [z0W]; omega), z0W, za3, za3, Int.toNat_natCast]
    congr 1
    have f3 : List.replicate S.length (ByteArray.empty : ByteArray) = (List.range S.length).map fun j => if z5S (z2A d m n S) S.length j < 0 then zeM d m n S j else ByteArray.empty := by
      apply List.ext_getElem (by simp); intro i h1 h2; simp
    rw [f3]
    refine z2m (s := ((0 : Int), (List.range S.length).map fun j => if z5S (z2A d m n S) S.length j < 0 then zeM d m n S j else ByteArray.empty)) (zin d m n S).length (fun c => ((c : Int), (List.range S.length).map fun j => if z5S (z2A d m n S) S.length j < c then zeM d m n S j else ByteArray.empty)) rfl (by simp only [LFm]; omega) (fun c hc => ?_) ?_
    · have hf := zn2 hc
      simp only [z5H]
      rw [if_pos (by rw [z0W]; omega), z4e hc, Option.bind_some, show dgm d m n S = ⟨toI S, zq6 d m S, zoE d m n S⟩ from rfl, zcK hd (by omega) hS _ hf, Option.bind_some, zhp hd hS (by omega) hc]
    · simp only [z5H]
      rw [if_neg (by rw [z0W]; omega)]
      have : ((List.range S.length).map fun j => if z5S (z2A d m n S) S.length j < (zin d m n S).length then zeM d m n S j else ByteArray.empty) = (List.range S.length).map (zeM d m n S) := List.map_congr_left fun j hj => if_pos (zdh he (List.mem_range.1 hj)).1
      rw [this]; rfl
end Go.Proofs.Ytbnnipkanechoaa
end
section
namespace Go.Proofs.Ytbnnipkanechoaa
open Go
set_option maxRecDepth 100000
theorem z7l (s : Nat) : szN s = z4A (fun q => s.testBit q) 7 := by
  simp only [szN, z4A, List.range, List.range.loop, List.countP_cons, List.countP_nil]
  omega
theorem ztV {s : Nat} (h : s < 128) {q : Nat} (hq : s.testBit q = true) : q < 7 := by
  rcases Nat.lt_or_ge q 7 with h' | h'
  · exact h'
  · have : s.testBit q = false := Nat.testBit_lt_two_pow (Nat.lt_of_lt_of_le h (Nat.pow_le_pow_right (n := 2) (by omega) h'))
    rw [this] at hq; cases hq
theorem zhT {a b : Nat} (h : z6J a b) : szN a ≤ szN b := by
  rw [z7l, z7l]; exact zjH fun q _ hq => z2C.1 h q hq
theorem zqk {a b : Nat} (hb : b < 128) (h : z6J a b) (hne : a ≠ b) : szN a < szN b := by
  have : ∃ q, b.testBit q = true ∧ a.testBit q = false := by
    refine Classical.byContradiction fun hn => hne (z7z h (z2C.2 fun q hq => ?_))
    cases ha : a.testBit q with
    | true => rfl
    | false => exact absurd ⟨q, hq, ha⟩ hn
  obtain ⟨q, h1, h2⟩ := this
  rw [z7l, z7l]
  exact zeG (fun q _ hq => z2C.1 h q hq) (ztV hb h1) h2 h1
theorem zpn {a b : Nat} (hb : b < 128) (h : z6J a b) (he : szN b ≤ szN a) : a = b := by
  refine Classical.byContradiction fun hne => ?_
  have := zqk hb h hne
  omega
theorem zm3 {x p : Nat} (hx : x < 128) (hp : p < 7) : szN (x ||| 2 ^ p) ≤ szN x + 1 := by
  revert p; revert x; decide +kernel
theorem zrt {x y : Nat} (hx : x < 128) (hy : y < 128) : szN (x ||| y) ≤ szN x + szN y := by
  rw [z7l, z7l, z7l]
  have : ∀ k, z4A (fun q => (x ||| y).testBit q) k ≤ z4A (fun q => x.testBit q) k + z4A (fun q => y.testBit q) k := by
    intro k
    induction k with
    | zero => simp [z4A]
    | succ k ih =>
      simp only [z4A, Nat.testBit_or]
      simp only [Nat.testBit_or] at ih
      have : ∀ a b : Bool, (if (a || b) = true then 1 else 0) ≤ (if a = true then 1 else 0) + (if b = true then 1 else 0) := by decide
      have := this (x.testBit k) (y.testBit k)
      omega
  exact this 7
theorem zrA {d : DFA} {m n : Nat} (hd : DfaOk d m n) {x y a : Nat} (ha : a < m) : mvN d (x ||| y) a = mvN d x a ||| mvN d y a := by
  apply Nat.eq_of_testBit_eq
  intro p
  rw [Bool.eq_iff_iff, Nat.testBit_or, Bool.or_eq_true, z9j hd ha, z9j hd ha, z9j hd ha]
  constructor
  · rintro ⟨i, h1, h2, h3⟩
    rw [Nat.testBit_or, Bool.or_eq_true] at h2
    exact h2.imp (fun h => ⟨i, h1, h, h3⟩) fun h => ⟨i, h1, h, h3⟩
  · rintro (⟨i, h1, h2, h3⟩ | ⟨i, h1, h2, h3⟩)
    · exact ⟨i, h1, by rw [Nat.testBit_or, h2]; rfl, h3⟩
    · exact ⟨i, h1, by rw [Nat.testBit_or, h2, Bool.or_true], h3⟩
abbrev zof (m : Nat) (w : List UInt8) : Prop := ∀ c ∈ w, 97 ≤ c.toNat ∧ c.toNat < 97 + m
theorem zie {m : Nat} {c : UInt8} {w : List UInt8} (h : zof m (c :: w)) : zof m w ∧ c.toNat - 97 < m := ⟨fun c' hc' => h c' (List.mem_cons_of_mem _ hc'), by have := h c (List.mem_cons_self ..); omega⟩
theorem zmm {d : DFA} {m n : Nat} (hd : DfaOk d m n) : ∀ {w : List UInt8} {x y : Nat}, zof m w → z6l d (x ||| y) w = z6l d x w ||| z6l d y w
  | [], x, y, _ => rfl
  | c :: w, x, y, hw => by
    obtain ⟨h1, h2⟩ := zie hw
    simp only [z6l]
    rw [zrA hd h2, zmm hd h1]
theorem zrz {d : DFA} {m n : Nat} (hd : DfaOk d m n) (hn : n ≤ 7) {s a : Nat} (hs : s < 2 ^ n) (ha : a < m) : szN (mvN d s a) ≤ szN s := by
  have h128 : 2 ^ n ≤ 128 := Nat.pow_le_pow_right (n := 2) (by omega) hn
  have key : ∀ q, q ≤ n → szN (zj6 d.next s a q) ≤ z4A (fun q => s.testBit q) q := by
    intro q
    induction q with
    | zero => intro _; exact (by decide : szN 0 ≤ 0)
    | succ q ih =>
      intro hq
      have hlt := zf1 hd (s := s) ha q (by omega)
      obtain ⟨h1, h2, e, h3, h4⟩ := zeW hd (q := q) (by omega) ha
      simp only [zj6, z4A]
      by_cases hb : s.testBit q = true
      · rw [if_pos hb, if_pos hb]
        have := zm3 (x := zj6 d.next s a q) (p := ((d.next.getD q []).getD a 0).toNat) (by omega) (by rw [e]; omega)
        have := ih (by omega)
        omega
      · rw [if_neg hb, if_neg hb]
        have := ih (by omega)
        omega
  have h1 := key n (Nat.le_refl _)
  have h2 : z4A (fun q => s.testBit q) n ≤ szN s := by
    rw [z7l]
    have : ∀ j, z4A (fun q => s.testBit q) n ≤ z4A (fun q => s.testBit q) (n + j) := by
      intro j
      induction j with
      | zero => exact Nat.le_refl _
      | succ j ih => rw [← Nat.add_assoc]; simp only [z4A]; omega
    have := this (7 - n)
    rwa [show n + (7 - n) = 7 by omega] at this
  unfold mvN
  rw [hd.nl]
  omega
theorem zb5 {d : DFA} {m n : Nat} (hd : DfaOk d m n) (hn : n ≤ 7) : ∀ {w : List UInt8} {s : Nat}, s < 2 ^ n → zof m w → szN (z6l d s w) ≤ szN s
  | [], s, _, _ => Nat.le_refl _
  | c :: w, s, hs, hw => by
    obtain ⟨h1, h2⟩ := zie hw
    simp only [z6l]
    exact Nat.le_trans (zb5 hd hn (zey hd h2) h1) (zrz hd hn hs h2)
theorem zqD {d : DFA} {m n : Nat} (hd : DfaOk d m n) {s a : Nat} (hs : s < 2 ^ n) (h0 : s ≠ 0) (ha : a < m) : mvN d s a ≠ 0 := by
  obtain ⟨q, hq⟩ : ∃ q, s.testBit q = true := Nat.exists_testBit_of_ne_zero h0
  have hqn : q < n := by
    rcases Nat.lt_or_ge q n with h' | h'
    · exact h'
    · have : s.testBit q = false := Nat.testBit_lt_two_pow (Nat.lt_of_lt_of_le hs (Nat.pow_le_pow_right (n := 2) (by omega) h'))
      rw [this] at hq; cases hq
  intro h
  have := (z9j hd ha (s := s) ((d.next.getD q []).getD a 0).toNat).2 ⟨q, hqn, hq, rfl⟩
  rw [h, Nat.zero_testBit] at this
  cases this
theorem znX {d : DFA} {m n : Nat} (hd : DfaOk d m n) {x : Nat} (hx : x ∈ z6L d m n) : x ≠ 0 := by
  have hp := Nat.two_pow_pos n
  have h2n : 2 ≤ 2 ^ n := by have := Nat.pow_le_pow_right (n := 2) (by omega) hd.n1; omega
  have hf : 2 ^ n - 1 < 2 ^ n := by omega
  have hi := z5Z hd hf
  obtain ⟨_, h2, _⟩ := z6T hi.nd n
  have hpm := zb2 (z8H (z1E d m n (2 ^ n - 1)).1 n)
  rcases (h2 x).1 (hpm.mem_iff.1 hx) with h | ⟨i, _, rfl⟩
  · obtain ⟨i, hil, rfl⟩ := List.getElem_of_mem h
    obtain ⟨_, o2, o3⟩ := hi.ok i hil
    rw [List.getD, List.getD, List.getElem?_eq_getElem hil, Option.getD_some] at o3
    rw [← o3]
    have : ∀ {w : List UInt8} {s : Nat}, s < 2 ^ n → s ≠ 0 → zof m w → z6l d s w ≠ 0 := by
      intro w
      induction w with
      | nil => intro s _ h0 _; exact h0
      | cons c w ih =>
        intro s hs h0 hw
        obtain ⟨q1, q2⟩ := zie hw
        exact ih (zey hd q2) (zqD hd hs h0 q2) q1
    exact this hf (by omega) o2
  · exact Nat.ne_of_gt (Nat.two_pow_pos i)
theorem z6c {S : List Nat} {i j : Nat} : j ∈ z8B S i ↔ j < S.length ∧ j ≠ i ∧ z6J (S.getD j 0) (S.getD i 0) := by
  unfold z8B zol z6J
  rw [List.mem_filter, List.mem_range]
  simp
theorem ziS {S : List Nat} {i j : Nat} : zlz S i j = true ↔ ∀ k, k ∈ z8B S i → k ≠ j → ¬ z6J (S.getD j 0) (S.getD k 0) := by
  unfold zlz z6J
  rw [List.all_eq_true]
  constructor
  · intro h k hk hne hs
    have := h k hk
    simp only [Bool.or_eq_true, decide_eq_true_eq, Bool.not_eq_true', decide_eq_false_iff_not] at this
    exact this.elim hne fun hh => hh hs
  · intro h k hk
    simp only [Bool.or_eq_true, decide_eq_true_eq, Bool.not_eq_true', decide_eq_false_iff_not]
    by_cases e : k = j
    · exact .inl e
    · exact .inr (h k hk e)
theorem zhR {S : List Nat} {i j : Nat} (hz : szN (S.getD i 0) ≠ 1) : j ∈ z6p S i ↔ j ∈ z8B S i ∧ zlz S i j = true := by
  unfold z6p
  rw [if_neg hz, List.mem_filter]
theorem zeP {S : List Nat} {i j : Nat} (h : j ∈ z6p S i) : j ∈ z8B S i ∧ zlz S i j = true ∧ szN (S.getD i 0) ≠ 1 := by
  by_cases hz : szN (S.getD i 0) = 1
  · unfold z6p at h; rw [if_pos hz] at h; simp at h
  · exact ⟨((zhR hz).1 h).1, ((zhR hz).1 h).2, hz⟩
theorem zcH (S : List Nat) (i : Nat) : (z6p S i).Nodup := by
  unfold z6p
  split
  · simp
  · exact List.Pairwise.filter _ (List.Pairwise.filter _ List.nodup_range)
theorem z9J {d : DFA} {m n : Nat} (hn : n ≤ 7) {S : List Nat} (hS : SetsP d m n S) {i k : Nat} (hi : i < S.length) (h : k ∈ z6p S i) : i < k ∧ k < S.length ∧ z6J (S.getD k 0) (S.getD i 0) ∧ S.getD k 0 ≠ S.getD i 0 := by
  have h128 : 2 ^ n ≤ 128 := Nat.pow_le_pow_right (n := 2) (by omega) hn
  obtain ⟨h1, _, _⟩ := zeP h
  obtain ⟨hk, hne, hs⟩ := z6c.1 h1
  have hx : S.getD k 0 ≠ S.getD i 0 := fun e => hne (zd4 hS.nd hk hi e)
  refine ⟨?_, hk, hs, hx⟩
  have hlt := zqk (by have := hS.lt _ (z1z hi); omega) hs hx
  rcases Nat.lt_trichotomy i k with h' | h' | h'
  · exact h'
  · exact absurd h'.symm hne
  · have := List.pairwise_iff_getElem.1 hS.srt k i hk hi h'
    rw [ziC] at this
    rw [List.getD, List.getD, List.getElem?_eq_getElem hk, List.getElem?_eq_getElem hi, Option.getD_some, Option.getD_some] at hlt
    omega
theorem zjl {N : Nat} {b : Nat → Nat → Bool} (hb : BelN N b) {z : Nat → Bool} (hz : ∀ i k, i < N → k < N → z k = true → b i k = true → z i = true) {i k : Nat} (hi : i < N) (hk : k < N) (h : b i k = true) : zp6 N b z i ≤ zp6 N b z k := by
  rw [zjk hb z i hi]
  split
  · omega
  · rename_i hzi
    have hzk : ¬ z k = true := fun hh => hzi (hz i k hi hk hh h)
    rw [zjk hb z k hk, if_neg hzk]
    refine z9k fun j hj => ?_
    by_cases hs : sbN b j i = true
    · rw [if_pos hs]
      have hsk : sbN b j k = true := by
        simp only [sbN, Bool.and_eq_true, Bool.not_eq_true'] at hs ⊢
        refine ⟨hb.trans j i k hj hi hk hs.1 h, ?_⟩
        cases hkj : b k j with
        | false => rfl
        | true =>
          have := hb.trans i k j hi hk hj h hkj
          rw [this] at hs; cases hs.2
      have := zoc (g := fun j => if sbN b j k = true then zp6 N b z j + 1 else 0) hj
      simp only [hsk, if_true] at this
      exact this
    · rw [if_neg hs]; omega
theorem znp {d : DFA} {m n : Nat} (hd : DfaOk d m n) (hn : n ≤ 7) {i k : Nat} (hi : i < (z6L d m n).length) (hk : k < (z6L d m n).length) (hz : znq (z6L d m n) k = true) (h : z5N d m n (z6L d m n) i k = true) : znq (z6L d m n) i = true := by
  have hS := zhW hd
  have h128 : 2 ^ n ≤ 128 := Nat.pow_le_pow_right (n := 2) (by omega) hn
  obtain ⟨w, h1, h2⟩ := (z4d hd hS hk).1 h
  have hkl := hS.lt _ (z1z hk)
  simp only [znq, decide_eq_true_eq] at hz ⊢
  have a1 := zhT h2
  have a2 := zb5 hd hn hkl h1
  have h0 := znX hd (z1z hi)
  have : 1 ≤ szN ((z6L d m n).getD i 0) := by
    obtain ⟨q, hq⟩ := Nat.exists_testBit_of_ne_zero h0
    have hil := hS.lt _ (z1z hi)
    have := zeG (p := fun _ => false) (q := fun q => ((z6L d m n).getD i 0).testBit q) (k := 7) (i := q) (fun j _ hf => by simp at hf) (ztV (by omega) hq) rfl hq
    rw [z7l]; omega
  omega
end Go.Proofs.Ytbnnipkanechoaa
end
section
namespace Go.Proofs.Ytbnnipkanechoaa
open Go
set_option maxRecDepth 100000
theorem znR {A K : Nat} (h : z6J A K) : szN A + szN (K ^^^ A) = szN K := by
  rw [z7l, z7l, z7l]
  have hb := z2C.1 h
  have : ∀ k, z4A (fun q => A.testBit q) k + z4A (fun q => (K ^^^ A).testBit q) k = z4A (fun q => K.testBit q) k := by
    intro k
    induction k with
    | zero => simp [z4A]
    | succ k ih =>
      have h1 := hb k
      simp only [z4A]
      have h2 : (K ^^^ A).testBit k = (K.testBit k ^^ A.testBit k) := Nat.testBit_xor ..
      have h3 : ∀ a b c : Bool, (a = true → b = true) → c = (b ^^ a) → (if a = true then 1 else 0) + (if c = true then 1 else 0) = (if b = true then 1 else 0) := by decide
      have := h3 _ _ _ h1 h2
      omega
  exact this 7
theorem zoW {A K : Nat} (h : z6J A K) : A ||| (K ^^^ A) = K := by
  apply Nat.eq_of_testBit_eq
  intro q
  have h1 := z2C.1 h q
  rw [Nat.testBit_or, Nat.testBit_xor]
  revert h1
  cases A.testBit q <;> cases K.testBit q <;> simp
theorem zm6 {A K : Nat} (h : z6J A K) : A ≤ K := by
  unfold z6J at h; rw [← h]; exact Nat.and_le_right
theorem znT (A B : Nat) : z6J A (A ||| B) := z2C.2 fun q hq => by rw [Nat.testBit_or, hq]; rfl
theorem ziU (A B : Nat) : z6J B (A ||| B) := z2C.2 fun q hq => by rw [Nat.testBit_or, hq, Bool.or_true]
theorem zgI {A B : Nat} (h : z6J A B) : A ||| B = B := z7z (z2C.2 fun q hq => by
  rw [Nat.testBit_or, Bool.or_eq_true] at hq
  exact hq.elim (z2C.1 h q) id) (ziU A B)
theorem zql {A B K : Nat} (h1 : z6J A K) (h2 : z6J B K) : z6J (A ||| B) K := z2C.2 fun q hq => by
  rw [Nat.testBit_or, Bool.or_eq_true] at hq
  exact hq.elim (z2C.1 h1 q) (z2C.1 h2 q)
structure Lead (d : DFA) (m n K I : Nat) (w : List UInt8) : Prop where
  hw : zof m w
  hK : K < 2 ^ n
  hI : I < 2 ^ n
  run : z6l d K w = I
  sz : szN I = szN K
theorem zif {d : DFA} {m n : Nat} (hd : DfaOk d m n) (hn : n ≤ 7) {K I : Nat} {w : List UInt8} (h : Lead d m n K I w) {A : Nat} (hA : z6J A K) : szN (z6l d A w) = szN A := by
  have h128 : 2 ^ n ≤ 128 := Nat.pow_le_pow_right (n := 2) (by omega) hn
  have hAK := zm6 hA
  have hK := h.hK
  have hB : z6J (K ^^^ A) K := by
    have := zoW hA
    rw [← this]; rw [this]; rw [← this]
    exact (by rw [this]; exact (by
      refine z2C.2 fun q hq => ?_
      rw [Nat.testBit_xor] at hq
      have h1 := z2C.1 hA q
      revert hq h1
      cases A.testBit q <;> cases K.testBit q <;> simp))
  have hBl := zm6 hB
  have e1 := zmm hd (x := A) (y := K ^^^ A) h.hw
  rw [zoW hA, h.run] at e1
  have l1 := zcM hd (s := A) (w := w) (by omega) h.hw
  have l2 := zcM hd (s := K ^^^ A) (w := w) (by omega) h.hw
  have s1 := zrt (x := z6l d A w) (y := z6l d (K ^^^ A) w) (by omega) (by omega)
  rw [← e1, h.sz] at s1
  have s2 := zb5 hd hn (s := K ^^^ A) (by omega) h.hw
  have s3 := zb5 hd hn (s := A) (by omega) h.hw
  have s4 := znR hA
  omega
theorem zfa {d : DFA} {m n : Nat} (hd : DfaOk d m n) (hn : n ≤ 7) {K I : Nat} {w : List UInt8} (h : Lead d m n K I w) {A B : Nat} (hA : z6J A K) (hB : z6J B K) (hs : z6J (z6l d A w) (z6l d B w)) : z6J A B := by
  have h128 : 2 ^ n ≤ 128 := Nat.pow_le_pow_right (n := 2) (by omega) hn
  have hK := h.hK
  have hAB := zql hA hB
  have hl := zm6 hAB
  have e1 := zif hd hn h hAB
  rw [zmm hd h.hw, zgI hs, zif hd hn h hB] at e1
  have := zpn (a := B) (b := A ||| B) (by omega) (ziU A B) (by omega)
  rw [this]
  exact znT A B
theorem zjc {d : DFA} {m n : Nat} (hd : DfaOk d m n) (hn : n ≤ 7) {K I : Nat} {w : List UInt8} (h : Lead d m n K I w) {A B : Nat} (hA : z6J A K) (hB : z6J B K) (he : z6l d A w = z6l d B w) : A = B :=
  z7z (zfa hd hn h hA hB (by rw [he]; exact zeQ _)) (zfa hd hn h hB hA (by rw [he]; exact zeQ _))
theorem znS {α β : Type} {l : List α} {r : List β} {f : α → β} (hl : (l.map f).Nodup) (hs : ∀ x ∈ l.map f, x ∈ r) (hle : r.length ≤ l.length) {u : β} (hu : u ∈ r) : u ∈ l.map f := by
  refine Classical.byContradiction fun hn => ?_
  have := zcV (l := u :: l.map f) (r := r) (List.nodup_cons.2 ⟨hn, hl⟩) fun x hx => by
    rcases List.mem_cons.1 hx with rfl | hx
    · exact hu
    · exact hs x hx
  rw [List.length_cons, List.length_map] at this
  omega
theorem zgK {α β : Type} {l : List α} {f : α → β} (hl : l.Nodup) (hf : ∀ x ∈ l, ∀ y ∈ l, f x = f y → x = y) : (l.map f).Nodup := by
  induction l with
  | nil => simp
  | cons a l ih =>
    rw [List.nodup_cons] at hl
    rw [List.map_cons, List.nodup_cons]
    refine ⟨fun h => ?_, ih hl.2 fun x hx y hy => hf x (List.mem_cons_of_mem _ hx) y (List.mem_cons_of_mem _ hy)⟩
    obtain ⟨x, hx, he⟩ := List.mem_map.1 h
    have := hf x (List.mem_cons_of_mem _ hx) a (List.mem_cons_self ..) he
    exact hl.1 (this ▸ hx)
section
variable {d : DFA} {m n : Nat} {S : List Nat} (hd : DfaOk d m n) (hn : n ≤ 7) (hS : SetsP d m n S)
include hd hn hS
theorem zik {k i : Nat} (hk : k < S.length) (hi : i < S.length) {w : List UInt8} (h : Lead d m n (S.getD k 0) (S.getD i 0) w) :
    (∀ j ∈ z8B S k, S.idxOf (z6l d (S.getD j 0) w) ∈ z8B S i ∧ S.getD (S.idxOf (z6l d (S.getD j 0) w)) 0 = z6l d (S.getD j 0) w) ∧ ((z8B S k).map fun j => S.idxOf (z6l d (S.getD j 0) w)).Nodup := by
  have h128 : 2 ^ n ≤ 128 := Nat.pow_le_pow_right (n := 2) (by omega) hn
  have hmem : ∀ j, j < S.length → z6l d (S.getD j 0) w ∈ S := fun j hj => ziY hS h.hw (z1z hj)
  refine ⟨fun j hj => ?_, zgK (List.Pairwise.filter _ List.nodup_range) fun x hx y hy e => ?_⟩
  · obtain ⟨h1, h2, h3⟩ := z6c.1 hj
    have hg := z6g (hmem j h1)
    refine ⟨z6c.2 ⟨zbs (hmem j h1), fun e => ?_, ?_⟩, hg⟩
    · rw [e] at hg
      have s1 := zif hd hn h h3
      rw [← hg, h.sz] at s1
      have := zpn (a := S.getD j 0) (b := S.getD k 0) (by have := h.hK; omega) h3 (by omega)
      exact h2 (zd4 hS.nd h1 hk this)
    · rw [hg, ← h.run]
      exact zeV hd h.hw h3
  · obtain ⟨h1, h2, h3⟩ := z6c.1 hx
    obtain ⟨k1, k2, k3⟩ := z6c.1 hy
    have e2 : z6l d (S.getD x 0) w = z6l d (S.getD y 0) w := by
      rw [← z6g (hmem x h1), ← z6g (hmem y k1)]
      exact congrArg (fun q => S.getD q 0) e
    exact zd4 hS.nd h1 k1 (zjc hd hn h h3 k3 e2)
theorem zpJ {k i : Nat} (hk : k < S.length) (hi : i < S.length) {w : List UInt8} (h : Lead d m n (S.getD k 0) (S.getD i 0) w) : (z8B S k).length ≤ (z8B S i).length := by
  obtain ⟨h1, h2⟩ := zik hd hn hS hk hi h
  have := zcV h2 (r := z8B S i) fun x hx => by
    obtain ⟨j, hj, rfl⟩ := List.mem_map.1 hx
    exact (h1 j hj).1
  simpa using this
theorem zm1 {k i : Nat} (hk : k < S.length) (hi : i < S.length) {w v : List UInt8} (h : Lead d m n (S.getD k 0) (S.getD i 0) w) (h' : Lead d m n (S.getD i 0) (S.getD k 0) v) {t : Nat} (ht : t ∈ z6p S k) : S.idxOf (z6l d (S.getD t 0) w) ∈ z6p S i := by
  obtain ⟨h1, h2⟩ := zik hd hn hS hk hi h
  obtain ⟨t1, t2, t3⟩ := zeP ht
  have hz : szN (S.getD i 0) ≠ 1 := by rw [h.sz]; exact t3
  refine (zhR hz).2 ⟨(h1 t t1).1, ziS.2 fun u hu hne hs => ?_⟩
  have hsur := znS (l := z8B S k) (r := z8B S i) h2 (fun x hx => by
    obtain ⟨j, hj, rfl⟩ := List.mem_map.1 hx
    exact (h1 j hj).1) (zpJ hd hn hS hi hk h') hu
  obtain ⟨j, hj, rfl⟩ := List.mem_map.1 hsur
  rw [(h1 t t1).2, (h1 j hj).2] at hs
  have hsub := zfa hd hn h (z6c.1 t1).2.2 (z6c.1 hj).2.2 hs
  exact ziS.1 t2 j hj (fun e => hne (by rw [e])) hsub
theorem zpm {k i : Nat} (hk : k < S.length) (hi : i < S.length) {w v : List UInt8} (h : Lead d m n (S.getD k 0) (S.getD i 0) w) (h' : Lead d m n (S.getD i 0) (S.getD k 0) v) : (z6p S k).length = (z6p S i).length := by
  have one : ∀ {k i : Nat} (hk : k < S.length) (hi : i < S.length) {w v : List UInt8} (h : Lead d m n (S.getD k 0) (S.getD i 0) w) (h' : Lead d m n (S.getD i 0) (S.getD k 0) v), (z6p S k).length ≤ (z6p S i).length := fun {k i} hk hi {w v} h h' => by
    obtain ⟨h1, h2⟩ := zik hd hn hS hk hi h
    have hnd : ((z6p S k).map fun j => S.idxOf (z6l d (S.getD j 0) w)).Nodup := zgK (zcH S k) fun x hx y hy e => by
      obtain ⟨x1, _, _⟩ := zeP hx
      obtain ⟨y1, _, _⟩ := zeP hy
      have e2 : z6l d (S.getD x 0) w = z6l d (S.getD y 0) w := by
        rw [← (h1 x x1).2, ← (h1 y y1).2]; exact congrArg (fun q => S.getD q 0) e
      exact zd4 hS.nd (z6c.1 x1).1 (z6c.1 y1).1 (zjc hd hn h (z6c.1 x1).2.2 (z6c.1 y1).2.2 e2)
    have := zcV hnd (r := z6p S i) fun x hx => by
      obtain ⟨j, hj, rfl⟩ := List.mem_map.1 hx
      exact zm1 hd hn hS hk hi h h' hj
    simpa using this
  exact Nat.le_antisymm (one hk hi h h') (one hi hk h' h)
theorem zjB {k i : Nat} (hk : k < S.length) (hi : i < S.length) (he : z2A d m n S i k = true) : szN (S.getD i 0) = szN (S.getD k 0) ∧ S.getD i 0 ∈ (z1E d m n (S.getD k 0)).1 := by
  have h128 : 2 ^ n ≤ 128 := Nat.pow_le_pow_right (n := 2) (by omega) hn
  simp only [z2A, Bool.and_eq_true] at he
  obtain ⟨w, w1, w2⟩ := (z4d hd hS hk).1 he.1
  obtain ⟨v, v1, v2⟩ := (z4d hd hS hi).1 he.2
  have hkl := hS.lt _ (z1z hk)
  have hil := hS.lt _ (z1z hi)
  have a1 := zhT w2
  have a2 := zb5 hd hn hkl w1
  have a3 := zhT v2
  have a4 := zb5 hd hn hil v1
  refine ⟨by omega, ?_⟩
  have hrl := zcM hd hkl w1
  have := zpn (by omega) w2 (by omega)
  rw [this]
  exact zcN hd hkl w1 (zb6 hd hkl)
omit hn hS in
theorem zfz {s x : Nat} (hs : s < 2 ^ n) (hx : x ∈ (z1E d m n s).1) : zof m (z5n (z1E d m n s) x).data.toList ∧ (z5n (z1E d m n s) x).size ≤ 2 ^ n ∧ z6l d s (z5n (z1E d m n s) x).data.toList = x := by
  have hi := z5Z hd hs
  have hl := z1U hi.nd hi.lt
  have hlt := zbs hx
  obtain ⟨o1, o2, o3⟩ := hi.ok _ hlt
  unfold z5n
  exact ⟨o2, by omega, by rw [o3, z6g hx]⟩
end
end Go.Proofs.Ytbnnipkanechoaa
end
section
namespace Go.Proofs.Ytbnnipkanechoaa
open Go
set_option maxRecDepth 100000
def zra (a : Nat) : ByteArray := ⟨#[UInt8.ofNat (IntKind.u8.wrap (IntKind.i64.wrap (97 + (a : Int)))).toNat]⟩
def zoU (W : List ByteArray) (w : ByteArray) : Nat → Option (List Int)
  | 0 => some []
  | a + 1 => match zoU W w a with
    | none => none
    | some row => if za7 w (zra a) then (match z1p (z3l W (a : Int) row) LFm (w ++ zra a, -1) with
      | some (.inl (x, r)) => if x = ((a + 1 : Nat) : Int) then some r else none
      | _ => none) else none
def zq9 (m L : Nat) : Bool := match z8t m L with
  | none => false
  | some W => decide (1 ≤ W.length) && decide (W.length ≤ 7) && W.all fun w => match zoU W w m with
    | none => false
    | some r => decide (r.length = m) && r.all fun x => decide (0 ≤ x ∧ x < (W.length : Int))
theorem zpT : zq9 1 1 = true ∧ zq9 1 2 = true ∧ zq9 2 1 = true ∧ zq9 2 2 = true := ⟨by kernel_rfl, by kernel_rfl, by kernel_rfl, by kernel_rfl⟩
theorem zr0 {m : Nat} {W : List ByteArray} {i : Int} {fs : List Bool} {rs : List (List Int)} {w : ByteArray} {v : Int × Tape} {r : List Int} (hm : m ≤ 6) (h : zoU W w m = some r) :
    z1p (z2O (m : Int) W i fs rs w v) LFm (0, []) = chk (z3U 24 (rs.length + 1)) (z1b (IntKind.i64.wrap (i + 1), v.2.l, v.2.at_, fs ++ [decide (v.1 = 1)], rs ++ [r])) := by
  have key : ∀ a, a ≤ m → ∃ r', zoU W w a = some r' := by
    have : ∀ j a, a + j = m → ∃ r', zoU W w a = some r' := by
      intro j
      induction j with
      | zero => intro a ha; obtain rfl : a = m := by omega
                exact ⟨r, h⟩
      | succ j ih =>
        intro a ha
        obtain ⟨r', hr'⟩ := ih (a + 1) (by omega)
        rw [zoU] at hr'
        split at hr'
        · cases hr'
        · rename_i row hrow; exact ⟨row, hrow⟩
    intro a ha
    exact this (m - a) a (by omega)
  refine z2m (s := ((0 : Int), ([] : List Int))) m (fun a => ((a : Int), (zoU W w a).getD [])) rfl (by simp only [LFm]; omega) (fun a ha => ?_) ?_
  · obtain ⟨r1, h1⟩ := key a (by omega)
    obtain ⟨r2, h2⟩ := key (a + 1) (by omega)
    rw [h1, h2, Option.getD_some, Option.getD_some]
    rw [zoU, h1] at h2
    simp only [z2O]
    rw [if_pos (by omega)]
    dsimp only at h2
    split at h2
    case isFalse => cases h2
    rename_i hc
    change chk (za7 w (zra a)) (z1p (z3l W (a : Int) r1) LFm (w ++ zra a, -1)) = _
    rw [z1n _ hc]
    split at h2
    · rename_i x q hq
      split at h2
      · rename_i hx
        cases h2
        rw [← hx]
        exact hq
      · cases h2
    · cases h2
  · simp only [z2O]
    rw [if_neg (by omega), h, Option.getD_some]
theorem ziw {t : Tape} (ht : TapeOk t) (m : Nat) (hm : 1 ≤ m ∧ m ≤ 2) : ∃ d t' n, z3v t m = some (d, t') ∧ DfaOk d m n ∧ n ≤ 7 ∧ TapeOk t' := by
  unfold z3v
  obtain ⟨v, t1, e1, v0, v1, ht1⟩ := z5v ht 2 (by omega) (by omega)
  simp only [e1, Option.bind_some]
  obtain ⟨k, rfl⟩ := Int.eq_ofNat_of_zero_le v0
  have hw : IntKind.i64.wrap (1 + (k : Int)) = ((k + 1 : Nat) : Int) := by rw [z2B (by omega) (by omega)]; omega
  rw [hw]
  have hchk : zq9 m (k + 1) = true := by
    obtain ⟨c1, c2, c3, c4⟩ := zpT
    rcases (by omega : (m = 1 ∧ k = 0) ∨ (m = 1 ∧ k = 1) ∨ (m = 2 ∧ k = 0) ∨ (m = 2 ∧ k = 1)) with ⟨rfl, rfl⟩ | ⟨rfl, rfl⟩ | ⟨rfl, rfl⟩ | ⟨rfl, rfl⟩
    · exact c1
    · exact c2
    · exact c3
    · exact c4
  unfold zq9 at hchk
  split at hchk
  · cases hchk
  rename_i W hW
  simp only [Bool.and_eq_true, decide_eq_true_eq, List.all_eq_true] at hchk
  obtain ⟨⟨hW1, hW7⟩, hrow⟩ := hchk
  rw [hW, Option.bind_some]
  refine Exists.elim (z2X (b := z3u (m : Int) W) (fun z => 0 ≤ z.1 ∧ z.1 ≤ W.length ∧ TapeOk ⟨z.2.1, z.2.2.1⟩ ∧ (z.2.2.2.1.length : Int) = z.1 ∧ (z.2.2.2.2.length : Int) = z.1 ∧ ∀ r ∈ z.2.2.2.2, z6U m W.length r) (fun z => W.length + 1 - z.1.toNat)
    (fun r => DfaOk r.1 m W.length ∧ TapeOk r.2) ?_ LFm (0, t1.l, t1.at_, [], []) ⟨by simp, by simp, ht1, by simp, by simp, by simp⟩ (by simp only [LFm]; omega)) fun r h => ⟨r.1, r.2, W.length, h.1, h.2.1, hW7, h.2.2⟩
  rintro ⟨i, tl, ta, fs, rs⟩ ⟨i0, i1, i2, i3, i4, i5⟩
  simp only at i0 i1 i2 i3 i4 i5 ⊢
  obtain ⟨i, rfl⟩ := Int.eq_ofNat_of_zero_le i0
  simp only [z3u]
  by_cases hi : (i : Int) < (W.length : Int)
  · left
    have hi' : i < W.length := by omega
    rw [if_pos hi, z3j hi', Option.bind_some]
    obtain ⟨u, t3, e3, u0, u1, ht3⟩ := z5v i2 2 (by omega) (by omega)
    rw [e3, Option.bind_some, z1n _ (by unfold z3U; omega)]
    have hr := hrow _ (List.getElem_mem hi')
    split at hr
    · cases hr
    rename_i r hr0
    simp only [Bool.and_eq_true, decide_eq_true_eq, List.all_eq_true] at hr
    rw [zr0 (by omega) hr0, z1n _ (by unfold z3U; omega), z2B (by omega) (by omega)]
    refine ⟨_, rfl, ⟨by simp only; omega, by simp only; omega, ht3, by simp only [List.length_append, List.length_singleton]; omega, by simp only [List.length_append, List.length_singleton]; omega, fun y hy => ?_⟩, by simp only; omega⟩
    rcases z9P.1 hy with h | rfl
    · exact i5 y h
    · exact ⟨hr.1, fun x hx => hr.2 x hx⟩
  · right
    rw [if_neg hi]
    exact ⟨_, rfl, ⟨rfl, by omega, by omega, by omega, by simp only; omega, by simp only; omega, by simp only; omega, by simp only; omega, i5⟩, i2⟩
theorem zr2 {t : Tape} (ht : TapeOk t) (m most : Nat) (hm : 1 ≤ m ∧ m ≤ 2) (hk : 1 ≤ most ∧ most ≤ 7) : ∃ d t' n, z4q t m most = some (d, t') ∧ DfaOk d m n ∧ n ≤ 7 ∧ TapeOk t' := by
  unfold z4q
  obtain ⟨v, t1, e1, v0, v1, ht1⟩ := z5v ht 6 (by omega) (by omega)
  simp only [e1, Option.bind_some]
  split
  · obtain ⟨d, t', n, e, h1, h2, h3⟩ := zkT ht1 m most (by omega) (by omega)
    exact ⟨d, t', n, by rw [e, Option.bind_some], h1, by omega, h3⟩
  · split
    · have : (if (4 : Int) < (most : Int) then (4 : Int) else (most : Int)) = ((min most 4 : Nat) : Int) := by split <;> omega
      rw [this]
      obtain ⟨d, t', n, e, h1, h2, h3⟩ := zo9 ht1 m (min most 4) (by omega) (by omega)
      exact ⟨d, t', n, by rw [e, Option.bind_some], h1, by omega, h3⟩
    · split
      · obtain ⟨d, t', n, e, h1, h2, h3⟩ := ziw ht1 m hm
        exact ⟨d, t', n, by rw [e, Option.bind_some], h1, h2, h3⟩
      · obtain ⟨d, t', n, e, h1, h2, h3⟩ := zp9 ht1 m most (by omega) (by omega)
        exact ⟨d, t', n, by rw [e, Option.bind_some], h1, by omega, h3⟩
end Go.Proofs.Ytbnnipkanechoaa
end
section
namespace Go.Proofs.Ytbnnipkanechoaa
def Mo (C0 C1 : z0C) : Prop := ∀ f a o, C0 f a = some o → C1 f a = some o
section
variable {P : Program} {C0 C1 : z0C}
theorem zbK (hMo : Mo C0 C1) {wio : FuncId → Nat → Bool} {fr fr' : Fr} {f : FuncId} {args : List E} {dst : Option Nat} (h : za9 C0 wio fr f args dst = some fr') : Ev fun m => za9 C1 wio fr f args dst = some fr' := by
  unfold za9 at h ⊢
  split at h
  · cases h
  · rename_i ts deps io ha
    split at h
    · cases h
    · rename_i r outs hc
      refine ⟨0, fun m _ => ?_⟩
      show (match C1 f ts with | none => none | some (r, outs) => _) = _
      rw [hMo _ _ _ hc]
      exact h
theorem zmz (hMo : Mo C0 C1) {wio : FuncId → Nat → Bool} {fr fr' : Fr} {o : Oper} (h : opF P C0 wio fr o = some fr') : Ev fun m => opF P C1 wio fr o = some fr' := by
  unfold opF at h ⊢
  split at h
  · exact .pure fun _ => h
  · split at h
    · exact zbK hMo h
    · cases h
  · exact .pure fun _ => h
  · exact .pure fun _ => h
theorem zjI (hMo : Mo C0 C1) {wio : FuncId → Nat → Bool} {fr fr' : Fr} {o : Oper} (h : z8G P C0 wio fr o = some fr') : Ev fun m => z8G P C1 wio fr o = some fr' := by
  unfold z8G at h ⊢
  split at h
  · split at h
    · split at h
      · exact zbK hMo h
      · cases h
    · cases h
  · exact .pure fun _ => h
theorem zoO (hMo : Mo C0 C1) {wio : FuncId → Nat → Bool} {M : Nat → Bool} {fr fr' : Fr} {o : Oper} (h : wrF P C0 wio M fr o = some fr') : Ev fun m => wrF P C1 wio M fr o = some fr' := by
  unfold wrF at h ⊢
  split at h
  · split at h
    · cases h
    · split at h
      · exact zbK hMo h
      · split at h
        · rename_i hM
          simp only [hM, if_true]
          exact zbK hMo h
        · cases h
      · cases h
  · exact .pure fun _ => h
  · exact .pure fun _ => h
  · exact .pure fun _ => h
  · cases h
theorem zhZ (hMo : Mo C0 C1) {wio : FuncId → Nat → Bool} {ops : Array Oper} : ∀ {l : List Oper} {fr fr' : Fr}, zi0 P C0 wio ops l fr = some fr' → Ev fun m => zi0 P C1 wio ops l fr = some fr'
  | [], fr, fr', h => .pure fun _ => h
  | o :: rest, fr, fr', h => by
    simp only [zi0] at h ⊢
    split at h
    · cases h
    · split at h
      · rename_i fr1 h1
        exact (zmz hMo h1).both (zhZ hMo h) fun m a1 a2 => by rw [a1]; exact a2
      · cases h
    · split at h
      · rename_i fr1 h1
        exact (zhZ hMo h)
      · cases h
theorem zbH (hMo : Mo C0 C1) {wio : FuncId → Nat → Bool} {same : Bool} {M : Nat → Bool} {ops : Array Oper} : ∀ {l : List (Nat × Oper × Nat)} {fr fr' : Fr}, z7M P C0 wio same M ops l fr = some fr' → Ev fun m => z7M P C1 wio same M ops l fr = some fr'
  | [], fr, fr', h => .pure fun _ => h
  | (k, o, mk) :: rest, fr, fr', h => by
    simp only [z7M] at h ⊢
    split at h
    · cases h
    · split at h
      · exact zbH hMo h
      · cases h
    · split at h
      · rename_i hm
        simp only [if_pos hm]
        split at h
        · split at h
          · exact zbH hMo h
          · cases h
        · cases h
      · rename_i hm
        simp only [if_neg hm]
        split at h
        · rename_i fr1 h1
          have h2 : Ev fun m => (if mk = 2 then opF P C1 wio fr o else if same = true then z8G P C1 wio fr o else wrF P C1 wio M fr o) = some fr1 := by
            by_cases e : mk = 2
            · simp only [if_pos e] at h1 ⊢; exact zmz hMo h1
            · simp only [if_neg e] at h1 ⊢
              by_cases e2 : same = true
              · simp only [if_pos e2] at h1 ⊢; exact zjI hMo h1
              · simp only [if_neg e2] at h1 ⊢; exact zoO hMo h1
          exact h2.both (zbH hMo h) fun m a1 a2 => by rw [a1]; exact a2
        · cases h
theorem z8w (hMo : Mo C0 C1) {wio : FuncId → Nat → Bool} {same : Bool} {M : Nat → Bool} {ops : Array Oper} : ∀ {l : SchT} {fr fr' : Fr}, z5g P C0 wio same M ops l fr = some fr' → Ev fun m => z5g P C1 wio same M ops l fr = some fr'
  | .nil, fr, fr', h => .pure fun _ => h
  | .alt x y, fr, fr', h => by
    simp only [z5g] at h ⊢
    split at h
    · rename_i f1 f2 h1 h2
      obtain ⟨rfl, hs⟩ := zba h
      exact (z8w hMo h1).both (z8w hMo h2) fun m a1 a2 => by rw [a1, a2]; exact zbC hs
    · cases h
  | .op k mk rest, fr, fr', h => by
    simp only [z5g] at h ⊢
    split at h
    · cases h
    rename_i o ho
    try simp only [ho]
    split at h
    · cases h
    · split at h
      · exact z8w hMo h
      · cases h
    · split at h
      · rename_i hm
        simp only [if_pos hm]
        split at h
        · split at h
          · exact z8w hMo h
          · cases h
        · cases h
      · rename_i hm
        simp only [if_neg hm]
        split at h
        · rename_i fr1 h1
          have h2 : Ev fun m => (if mk = 2 then opF P C1 wio fr o else if same = true then z8G P C1 wio fr o else wrF P C1 wio M fr o) = some fr1 := by
            by_cases e : mk = 2
            · simp only [if_pos e] at h1 ⊢; exact zmz hMo h1
            · simp only [if_neg e] at h1 ⊢
              by_cases e2 : same = true
              · simp only [if_pos e2] at h1 ⊢; exact zjI hMo h1
              · simp only [if_neg e2] at h1 ⊢; exact zoO hMo h1
          exact h2.both (z8w hMo h) fun m a1 a2 => by rw [a1]; exact a2
        · cases h
theorem zlm (hMo : Mo C0 C1) {c : Cfg} {id : Nat} {ops : Array Oper} {fr fr' : Fr} (h : z6z P C0 c id ops fr = some fr') : Ev fun m => z6z P C1 c id ops fr = some fr' := by
  unfold z6z at h ⊢
  split at h
  · exact z8w hMo h
  · split at h
    · exact zbH hMo h
    · cases h
theorem zjf (hMo : Mo C0 C1) {B : z0C → Fr → Option (X × Fr)} {cn : Fr → Fr} (hB : ∀ fr o, B C0 fr = some o → Ev fun m => B C1 fr = some o) : ∀ {n : Nat} {fr : Fr} {o : X × Fr}, z9Z (B C0) cn n fr = some o → Ev fun m => z9Z (B C1) cn n fr = some o
  | 0, fr, o, h => by cases h
  | n + 1, fr, o, h => by
    simp only [z9Z] at h ⊢
    split at h
    · rename_i fr1 h1
      exact (hB _ _ h1).both (zjf hMo hB h) fun m a1 a2 => by rw [a1]; exact a2
    · rename_i x fr1 hne h1
      refine (hB _ _ h1).imp fun m a1 => ?_
      rw [a1]
      cases x with
      | n => exact absurd rfl hne
      | x i => exact h
      | r => exact h
    · cases h
theorem zjG (hMo : Mo C0 C1) {c : Cfg} {LF : Nat} : ∀ (b : Code) {fr : Fr} {o : X × Fr}, z2U P C0 c LF b fr = some o → Ev fun m => z2U P C1 c LF b fr = some o := by
  intro b
  induction b with
  | skip => intro fr o h; exact .pure fun _ => h
  | label l => intro fr o h; exact .pure fun _ => h
  | exit id => intro fr o h; exact .pure fun _ => h
  | ret => intro fr o h; exact .pure fun _ => h
  | goto l => intro fr o h; cases h
  | scope c ih => intro fr o h; simp only [z2U] at h ⊢; exact ih h
  | refuse s => intro fr o h; cases h
  | rangeFunc => intro fr o h; cases h
  | region id ops draw =>
    intro fr o h
    simp only [z2U] at h ⊢
    split at h
    · rename_i hd
      simp only [hd, if_true]
      split at h
      · rename_i fr1 h1
        exact (zlm hMo h1).imp fun m a1 => by rw [a1]; exact h
      · cases h
    · rename_i hd
      simp only [hd, Bool.false_eq_true, if_false]
      split at h
      · rename_i fr1 h1
        exact (zhZ hMo h1).imp fun m a1 => by rw [a1]; exact h
      · cases h
  | seq a b ih1 ih2 =>
    intro fr o h
    simp only [z2U] at h ⊢
    split at h
    · rename_i fr1 h1
      exact (ih1 h1).both (ih2 h) fun m a1 a2 => by rw [a1]; exact a2
    · rename_i hne
      refine (ih1 h).imp fun m a1 => ?_
      rw [a1]
      obtain ⟨x, fr1⟩ := o
      cases x with
      | n => exact absurd h (hne _)
      | x i => rfl
      | r => rfl
  | cond c x y ih1 ih2 =>
    intro fr o h
    simp only [z2U] at h ⊢
    split at h
    · exact ih1 h
    · exact ih2 h
    · cases h
  | block id c ih =>
    intro fr o h
    simp only [z2U] at h ⊢
    split at h
    · rename_i i fr1 h1
      exact (ih h1).imp fun m a1 => by rw [a1]; exact h
    · rename_i hne
      refine (ih h).imp fun m a1 => ?_
      rw [a1]
      obtain ⟨x, fr1⟩ := o
      cases x with
      | n => rfl
      | x i => exact absurd h (hne _ _)
      | r => rfl
  | loop b ih =>
    intro fr o h
    simp only [z2U] at h ⊢
    exact zjf hMo (B := fun C fr => z2U P C c LF b fr) (fun fr o h => ih h) h
theorem zmn (hMo : Mo C0 C1) {c : Cfg} {LF : Nat} {fn : Func} {args : List T} {o : T × List T} (h : zfw P C0 c LF fn args = some o) : Ev fun m => zfw P C1 c LF fn args = some o := by
  unfold zfw at h ⊢
  split at h
  · rename_i hc
    simp only [if_pos hc]
    split at h
    · cases h
    · rename_i b hb
      split at h
      · rename_i fr h1
        exact (zjG hMo _ h1).imp fun m a1 => by rw [a1]; exact h
      · rename_i fr h1
        exact (zjG hMo _ h1).imp fun m a1 => by rw [a1]; exact h
      · cases h
  · cases h
end
theorem zja {P : Program} {X : z0C} {cf : FuncId → Option Cfg} : ∀ n, Mo (z3o P X cf n) (z3o P X cf (n + 1))
  | 0 => fun f a o h => by
    simp only [z3o] at h ⊢
    split at h
    · cases h
    · rename_i hc
      first
        | exact h
        | (rw [hc]; exact h)
  | n + 1 => fun f a o h => by
    simp only [z3o] at h
    split at h
    · rename_i c hc
      split at h
      · rename_i fn hfn
        obtain ⟨k, hk⟩ := zmn (zja n) h
        exact zgQ hc hfn (hk k (Nat.le_refl _))
      · cases h
    · rename_i hc
      simp only [z3o, hc]
      exact h
theorem z9V {P : Program} {X : z0C} {cf : FuncId → Option Cfg} (n : Nat) {f : FuncId} {a : List T} {o : T × List T} (h : z3o P X cf n f a = some o) : Lim P X cf f a = some o := by
  refine zmH (d := n) fun m hm => ?_
  obtain ⟨k, rfl⟩ := Nat.exists_eq_add_of_le hm
  clear hm
  induction k with
  | zero => exact h
  | succ k ih => exact zja (n + k) f a o ih
def tab : List (FuncId × List T × T × List T) → z0C
  | [] => fun _ _ => none
  | (g, b, r, os) :: l => fun f a => if (Nat.beq g f && zjD b a) = true then some (r, os) else tab l f a
theorem zoS {C : z0C} : ∀ {l : List (FuncId × List T × T × List T)}, (∀ x ∈ l, C x.1 x.2.1 = some x.2.2) → Mo (tab l) C
  | [], _ => fun f a o h => by cases h
  | (g, b, r, os) :: l, hl => fun f a o h => by
    simp only [tab] at h
    split at h
    · rename_i hc
      simp only [Bool.and_eq_true] at hc
      cases h
      have := hl _ (List.mem_cons_self ..)
      rw [← Nat.eq_of_beq_eq_true hc.1, ← z6y hc.2]
      exact this
    · exact zoS (fun x hx => hl x (List.mem_cons_of_mem _ hx)) f a o h
noncomputable def zgS (P : Program) (X : z0C) (cf : FuncId → Option Cfg) (S : z0C) : Nat → z0C
  | 0 => S
  | n + 1 => fun f a => match S f a with
    | some o => some o
    | none => match cf f with
      | some c => (match P.funcs[f]? with | some fn => zfw P (zgS P X cf S n) c LFm fn a | none => none)
      | none => X f a
theorem zgR {P : Program} {X : z0C} {cf : FuncId → Option Cfg} {S : z0C} (hS : Mo S (Lim P X cf)) : ∀ n, Mo (zgS P X cf S n) (Lim P X cf)
  | 0 => hS
  | n + 1 => fun f a o h => by
    simp only [zgS] at h
    split at h
    · rename_i o' ho
      cases h
      exact hS f a o ho
    · split at h
      · rename_i c hc
        split at h
        · rename_i fn hfn
          obtain ⟨k, hk⟩ := zmn (zgR hS n) h
          exact zmG hc hfn (hk k (Nat.le_refl _))
        · cases h
      · rename_i hc
        exact zmI hc h
theorem zpF {P : Program} {X : z0C} {cf : FuncId → Option Cfg} (l : List (FuncId × List T × T × List T)) (n : Nat) {f : FuncId} {a : List T} {o : T × List T} (h : zgS P X cf (tab l) n f a = some o) (hl : ∀ x ∈ l, Lim P X cf x.1 x.2.1 = some x.2.2) : Lim P X cf f a = some o :=
  zgR (zoS hl) n f a o h
end Go.Proofs.Ytbnnipkanechoaa
end
section
namespace Go.Proofs.Ytbnnipkanechoaa
open Go
set_option maxRecDepth 100000
def exT : T := .agg [.sc (.int .i64 2), .sc (.int .i64 0), .sl 3 [.sc (.bool true), .sc (.bool false), .sc (.bool false)], .sl 3 [.sl 2 [.sc (.int .i64 1), .sc (.int .i64 0)], .sl 2 [.sc (.int .i64 2), .sc (.int .i64 0)], .sl 2 [.sc (.int .i64 0), .sc (.int .i64 2)]]]
def zjA : List T := [.sc (.int .i64 7), .sc (.int .i64 3), .sc (.int .i64 5), .sc (.int .i64 6), .sc (.int .i64 1), .sc (.int .i64 2), .sc (.int .i64 4)]
def dgT : T := .agg [.sl 7 [.sc (.int .i64 7), .sc (.int .i64 3), .sc (.int .i64 5), .sc (.int .i64 6), .sc (.int .i64 1), .sc (.int .i64 2), .sc (.int .i64 4)], .sl 7 [.sl 2 [.sc (.int .i64 0), .sc (.int .i64 2)], .sl 2 [.sc (.int .i64 3), .sc (.int .i64 4)], .sl 2 [.sc (.int .i64 1), .sc (.int .i64 2)], .sl 2 [.sc (.int .i64 2), .sc (.int .i64 2)], .sl 2 [.sc (.int .i64 5), .sc (.int .i64 4)], .sl 2 [.sc (.int .i64 6), .sc (.int .i64 4)], .sl 2 [.sc (.int .i64 4), .sc (.int .i64 6)]], .sl 7 [.sl 7 [.sc (.bool true), .sc (.bool false), .sc (.bool false), .sc (.bool false), .sc (.bool false), .sc (.bool false), .sc (.bool false)], .sl 7 [.sc (.bool true), .sc (.bool true), .sc (.bool true), .sc (.bool true), .sc (.bool false), .sc (.bool false), .sc (.bool false)], .sl 7 [.sc (.bool true), .sc (.bool true), .sc (.bool true), .sc (.bool true), .sc (.bool false), .sc (.bool false), .sc (.bool false)], .sl 7 [.sc (.bool true), .sc (.bool true), .sc (.bool true), .sc (.bool true), .sc (.bool false), .sc (.bool false), .sc (.bool false)], .sl 7 [.sc (.bool true), .sc (.bool true), .sc (.bool true), .sc (.bool true), .sc (.bool true), .sc (.bool true), .sc (.bool true)], .sl 7 [.sc (.bool true), .sc (.bool true), .sc (.bool true), .sc (.bool true), .sc (.bool true), .sc (.bool true), .sc (.bool true)], .sl 7 [.sc (.bool true), .sc (.bool true), .sc (.bool true), .sc (.bool true), .sc (.bool true), .sc (.bool true), .sc (.bool true)]]]
theorem e36 : z3o Try.prog xt z2M 10 36 [exT] = some (.os 1 7 zjA, [.dead]) := by kernel_rfl
theorem e37 : z3o Try.prog xt z2M 10 37 [exT, .sl 7 zjA] = some (.agg [.sl 7 [.sc (.int .i64 7), .sc (.int .i64 3), .sc (.int .i64 5), .sc (.int .i64 6), .sc (.int .i64 1), .sc (.int .i64 2), .sc (.int .i64 4)], .os 1 7 [.os 1 2 [.sc (.int .i64 0), .sc (.int .i64 2)], .os 1 2 [.sc (.int .i64 3), .sc (.int .i64 4)], .os 1 2 [.sc (.int .i64 1), .sc (.int .i64 2)], .os 1 2 [.sc (.int .i64 2), .sc (.int .i64 2)], .os 1 2 [.sc (.int .i64 5), .sc (.int .i64 4)], .os 1 2 [.sc (.int .i64 6), .sc (.int .i64 4)], .os 1 2 [.sc (.int .i64 4), .sc (.int .i64 6)]], .os 1 7 [.os 1 7 [.sc (.bool true), .sc (.bool false), .sc (.bool false), .sc (.bool false), .sc (.bool false), .sc (.bool false), .sc (.bool false)], .os 1 7 [.sc (.bool true), .sc (.bool true), .sc (.bool true), .sc (.bool true), .sc (.bool false), .sc (.bool false), .sc (.bool false)], .os 1 7 [.sc (.bool true), .sc (.bool true), .sc (.bool true), .sc (.bool true), .sc (.bool false), .sc (.bool false), .sc (.bool false)], .os 1 7 [.sc (.bool true), .sc (.bool true), .sc (.bool true), .sc (.bool true), .sc (.bool false), .sc (.bool false), .sc (.bool false)], .os 1 7 [.sc (.bool true), .sc (.bool true), .sc (.bool true), .sc (.bool true), .sc (.bool true), .sc (.bool true), .sc (.bool true)], .os 1 7 [.sc (.bool true), .sc (.bool true), .sc (.bool true), .sc (.bool true), .sc (.bool true), .sc (.bool true), .sc (.bool true)], .os 1 7 [.sc (.bool true), .sc (.bool true), .sc (.bool true), .sc (.bool true), .sc (.bool true), .sc (.bool true), .sc (.bool true)]]], [.dead, .dead]) := by kernel_rfl
def sr0 : T := .tup [.os 1 7 [.sc (.int .i64 0), .sc (.int .i64 2), .sc (.int .i64 1), .sc (.int .i64 3), .sc (.int .i64 4), .sc (.int .i64 5), .sc (.int .i64 6)], .os 1 7 [.sc (.string ByteArray.empty), .sc (.string ⟨#[98, 97]⟩), .sc (.string ⟨#[98]⟩), .sc (.string ⟨#[98, 97, 97]⟩), .sc (.string ⟨#[98, 97, 98]⟩), .sc (.string ⟨#[98, 97, 98, 97]⟩), .sc (.string ⟨#[98, 97, 98, 97, 97]⟩)]]
theorem zrR : z3o Try.prog xt z2M 6 41 [dgT, .sc (.int .i64 0)] = some (sr0, [.dead, .dead]) := by kernel_rfl
def sr1 : T := .tup [.os 1 6 [.sc (.int .i64 1), .sc (.int .i64 3), .sc (.int .i64 4), .sc (.int .i64 2), .sc (.int .i64 5), .sc (.int .i64 6)], .os 1 7 [.sc (.string ByteArray.empty), .sc (.string ByteArray.empty), .sc (.string ⟨#[97, 97]⟩), .sc (.string ⟨#[97]⟩), .sc (.string ⟨#[98]⟩), .sc (.string ⟨#[98, 97]⟩), .sc (.string ⟨#[98, 97, 97]⟩)]]
theorem zrQ : z3o Try.prog xt z2M 6 41 [dgT, .sc (.int .i64 1)] = some (sr1, [.dead, .dead]) := by kernel_rfl
def sr2 : T := .tup [.os 1 6 [.sc (.int .i64 2), .sc (.int .i64 1), .sc (.int .i64 3), .sc (.int .i64 4), .sc (.int .i64 5), .sc (.int .i64 6)], .os 1 7 [.sc (.string ByteArray.empty), .sc (.string ⟨#[97]⟩), .sc (.string ByteArray.empty), .sc (.string ⟨#[97, 97]⟩), .sc (.string ⟨#[97, 98]⟩), .sc (.string ⟨#[97, 98, 97]⟩), .sc (.string ⟨#[97, 98, 97, 97]⟩)]]
theorem zrP : z3o Try.prog xt z2M 6 41 [dgT, .sc (.int .i64 2)] = some (sr2, [.dead, .dead]) := by kernel_rfl
def sr3 : T := .tup [.os 1 6 [.sc (.int .i64 3), .sc (.int .i64 2), .sc (.int .i64 1), .sc (.int .i64 4), .sc (.int .i64 5), .sc (.int .i64 6)], .os 1 7 [.sc (.string ByteArray.empty), .sc (.string ⟨#[97, 97]⟩), .sc (.string ⟨#[97]⟩), .sc (.string ByteArray.empty), .sc (.string ⟨#[97, 97, 98]⟩), .sc (.string ⟨#[97, 97, 98, 97]⟩), .sc (.string ⟨#[97, 97, 98, 97, 97]⟩)]]
theorem zrO : z3o Try.prog xt z2M 6 41 [dgT, .sc (.int .i64 3)] = some (sr3, [.dead, .dead]) := by kernel_rfl
def sr4 : T := .tup [.os 1 3 [.sc (.int .i64 4), .sc (.int .i64 5), .sc (.int .i64 6)], .os 1 7 [.sc (.string ByteArray.empty), .sc (.string ByteArray.empty), .sc (.string ByteArray.empty), .sc (.string ByteArray.empty), .sc (.string ByteArray.empty), .sc (.string ⟨#[97]⟩), .sc (.string ⟨#[97, 97]⟩)]]
theorem zrN : z3o Try.prog xt z2M 6 41 [dgT, .sc (.int .i64 4)] = some (sr4, [.dead, .dead]) := by kernel_rfl
def sr5 : T := .tup [.os 1 3 [.sc (.int .i64 5), .sc (.int .i64 6), .sc (.int .i64 4)], .os 1 7 [.sc (.string ByteArray.empty), .sc (.string ByteArray.empty), .sc (.string ByteArray.empty), .sc (.string ByteArray.empty), .sc (.string ⟨#[98]⟩), .sc (.string ByteArray.empty), .sc (.string ⟨#[97]⟩)]]
theorem zrM : z3o Try.prog xt z2M 6 41 [dgT, .sc (.int .i64 5)] = some (sr5, [.dead, .dead]) := by kernel_rfl
def sr6 : T := .tup [.os 1 3 [.sc (.int .i64 6), .sc (.int .i64 4), .sc (.int .i64 5)], .os 1 7 [.sc (.string ByteArray.empty), .sc (.string ByteArray.empty), .sc (.string ByteArray.empty), .sc (.string ByteArray.empty), .sc (.string ⟨#[97]⟩), .sc (.string ⟨#[97, 97]⟩), .sc (.string ByteArray.empty)]]
theorem zrL : z3o Try.prog xt z2M 6 41 [dgT, .sc (.int .i64 6)] = some (sr6, [.dead, .dead]) := by kernel_rfl
def zoq : List (FuncId × List T × T × List T) := [(36, [exT], .os 1 7 zjA, [.dead]), (37, [exT, .sl 7 zjA], .agg [.sl 7 [.sc (.int .i64 7), .sc (.int .i64 3), .sc (.int .i64 5), .sc (.int .i64 6), .sc (.int .i64 1), .sc (.int .i64 2), .sc (.int .i64 4)], .os 1 7 [.os 1 2 [.sc (.int .i64 0), .sc (.int .i64 2)], .os 1 2 [.sc (.int .i64 3), .sc (.int .i64 4)], .os 1 2 [.sc (.int .i64 1), .sc (.int .i64 2)], .os 1 2 [.sc (.int .i64 2), .sc (.int .i64 2)], .os 1 2 [.sc (.int .i64 5), .sc (.int .i64 4)], .os 1 2 [.sc (.int .i64 6), .sc (.int .i64 4)], .os 1 2 [.sc (.int .i64 4), .sc (.int .i64 6)]], .os 1 7 [.os 1 7 [.sc (.bool true), .sc (.bool false), .sc (.bool false), .sc (.bool false), .sc (.bool false), .sc (.bool false), .sc (.bool false)], .os 1 7 [.sc (.bool true), .sc (.bool true), .sc (.bool true), .sc (.bool true), .sc (.bool false), .sc (.bool false), .sc (.bool false)], .os 1 7 [.sc (.bool true), .sc (.bool true), .sc (.bool true), .sc (.bool true), .sc (.bool false), .sc (.bool false), .sc (.bool false)], .os 1 7 [.sc (.bool true), .sc (.bool true), .sc (.bool true), .sc (.bool true), .sc (.bool false), .sc (.bool false), .sc (.bool false)], .os 1 7 [.sc (.bool true), .sc (.bool true), .sc (.bool true), .sc (.bool true), .sc (.bool true), .sc (.bool true), .sc (.bool true)], .os 1 7 [.sc (.bool true), .sc (.bool true), .sc (.bool true), .sc (.bool true), .sc (.bool true), .sc (.bool true), .sc (.bool true)], .os 1 7 [.sc (.bool true), .sc (.bool true), .sc (.bool true), .sc (.bool true), .sc (.bool true), .sc (.bool true), .sc (.bool true)]]], [.dead, .dead]), (41, [dgT, .sc (.int .i64 0)], sr0, [.dead, .dead]), (41, [dgT, .sc (.int .i64 1)], sr1, [.dead, .dead]), (41, [dgT, .sc (.int .i64 2)], sr2, [.dead, .dead]), (41, [dgT, .sc (.int .i64 3)], sr3, [.dead, .dead]), (41, [dgT, .sc (.int .i64 4)], sr4, [.dead, .dead]), (41, [dgT, .sc (.int .i64 5)], sr5, [.dead, .dead]), (41, [dgT, .sc (.int .i64 6)], sr6, [.dead, .dead])]
theorem zop : ∀ x ∈ zoq, L x.1 x.2.1 = some x.2.2 := by
  simp only [zoq, List.forall_mem_cons]
  exact ⟨z9V 10 e36, z9V 10 e37, z9V 6 zrR, z9V 6 zrQ, z9V 6 zrP, z9V 6 zrO, z9V 6 zrN, z9V 6 zrM, z9V 6 zrL, fun x h => by cases h⟩
theorem zvy : zgS Try.prog xt z2M (tab zoq) 14 17 [] = some (.sc (.bool true), []) := by kernel_rfl
theorem c17 : L 17 [] = some (.sc (.bool true), []) := zpF zoq 14 zvy zop
def zoN : Option Bool := some true
theorem zlH {r : Bool} (h : zoN = some r) : L 17 [] = some (.sc (.bool r), []) := by cases h; exact c17
end Go.Proofs.Ytbnnipkanechoaa
end
section
namespace Go.Proofs.Ytbnnipkanechoaa
open Go
noncomputable section
set_option maxRecDepth 100000
set_option maxHeartbeats 1000000
def z2k (v332 : Imgs × Int) (w576 : Int) (v593 : Int × Int) (v594 : List Int) : Bool × Int → Option ((Bool × Int) ⊕ (Int ⊕ ((Int × (List (Int × Int))) ⊕ Bool)))
  | (w597, w598) =>
  if w598 < (v594.length : Int) then
    (atI v594 w598).bind fun v601 =>
    if w597 = true then
      z1b (true, IntKind.i64.wrap (w598 + 1))
    else
      if 0 ≤ v601 then
        if v601 < (v332.1.sets.length : Int) then
          (atI v332.1.sets v601).bind fun v602 =>
          z1b (decide (v602 = v593.1), IntKind.i64.wrap (w598 + 1))
        else
          z1b (false, IntKind.i64.wrap (w598 + 1))
      else
        z1b (false, IntKind.i64.wrap (w598 + 1))
  else
    z1l <|
    if w597 = true then
      z1b (IntKind.i64.wrap (w576 + 1))
    else
      z1l <|
      z1l <|
      some false
def z1H (v331 : DFA × Tape) (v332 : Imgs × Int) (w440 : Int) (w441 : List (Int × Int)) (v561 : List Int) (w576 : Int) (v593 : Int × Int) (v594 : List Int) : Bool × Int → Fr
  | (w597, w598) => ⟨252, [(4, .one (.ea none [.sc (.int .i64 v331.1.letters), .sc (.int .i64 v331.1.start), .sl v331.1.final.length (v331.1.final.map fun x0 => .sc (.bool x0)), .sl v331.1.next.length (v331.1.next.map fun x0 => .sl x0.length (x0.map fun x1 => .sc (.int .i64 x1)))] 0)), (5, .one (.a 5 [] (0))), (7, .one (.t none (.sc (.int .i64 (v332.1.sets.length : Int))))), (8, .one (.h 8 [])), (9, .one (.t none (.sc (.int .i64 w440)))), (20, .one (.t none (.sc (.int .i64 v593.1)))), (22, .one (.t none (.sc (.bool w597)))), (78, .one (.t none (.sl v332.1.sets.length (v332.1.sets.map fun x0 => .sc (.int .i64 x0))))), (79, .one (.t none (.sc (.int .i64 (v332.1.sets.length : Int))))), (80, .one (.t none (.sc (.int .i64 w440)))), (189, .one (.t none (.sl v561.length (v561.map fun x0 => .sc (.int .i64 x0))))), (190, .one (.t none (.sc (.int .i64 (v561.length : Int))))), (191, .one (.t none (.sc (.int .i64 w576)))), (221, .one (.t none (.sl v594.length (v594.map fun x0 => .sc (.int .i64 x0))))), (222, .one (.t none (.sc (.int .i64 (v594.length : Int))))), (223, .one (.t none (.sc (.int .i64 w598))))], [(5, .vr [.sl v332.1.sets.length (v332.1.sets.map fun x0 => .sc (.int .i64 x0)), .sl v332.1.class_.length (v332.1.class_.map fun x0 => .sc (.int .i64 x0)), .sl v332.1.height.length (v332.1.height.map fun x0 => .sc (.int .i64 x0)), .sl v332.1.tiles.length (v332.1.tiles.map fun x0 => .sl x0.length (x0.map fun x1 => .sc (.int .i64 x1))), .sl v332.1.words.length (v332.1.words.map fun x0 => .sc (.string x0)), .sl v332.1.back.length (v332.1.back.map fun x0 => .sc (.string x0))]), (8, .mp (some .i64) (w441.map fun x0 => (.int .i64 x0.1, .int .i64 x0.2)))]⟩
def z2l (v331 : DFA × Tape) (v332 : Imgs × Int) (w440 : Int) (w441 : List (Int × Int)) (v561 : List Int) : Int → Option (Int ⊕ ((Int × (List (Int × Int))) ⊕ Bool))
  | w576 =>
  if w576 < (v561.length : Int) then
    (atI v561 w576).bind fun v590 =>
    if v590 < 0 then
      z1l <|
      z1l <|
      some false
    else
      if (v332.1.sets.length : Int) ≤ v590 then
        z1l <|
        z1l <|
        some false
      else
        (atI v332.1.sets v590).bind fun v591 =>
        (atI v332.1.words w440).bind fun v592 =>
        (z2T v331.1 v591 v592).bind fun v593 =>
        (atI v332.1.tiles w440).bind fun v594 =>
        z1p (z2k v332 w576 v593 v594) LFm (false, 0)
  else
    z1l <|
    z1b (IntKind.i64.wrap (w440 + 1), w441)
def z3d (v331 : DFA × Tape) (v332 : Imgs × Int) (w440 : Int) (w441 : List (Int × Int)) (v561 : List Int) : Int → Fr
  | w576 => ⟨252, [(4, .one (.ea none [.sc (.int .i64 v331.1.letters), .sc (.int .i64 v331.1.start), .sl v331.1.final.length (v331.1.final.map fun x0 => .sc (.bool x0)), .sl v331.1.next.length (v331.1.next.map fun x0 => .sl x0.length (x0.map fun x1 => .sc (.int .i64 x1)))] 0)), (5, .one (.a 5 [] (0))), (7, .one (.t none (.sc (.int .i64 (v332.1.sets.length : Int))))), (8, .one (.h 8 [])), (9, .one (.t none (.sc (.int .i64 w440)))), (78, .one (.t none (.sl v332.1.sets.length (v332.1.sets.map fun x0 => .sc (.int .i64 x0))))), (79, .one (.t none (.sc (.int .i64 (v332.1.sets.length : Int))))), (80, .one (.t none (.sc (.int .i64 w440)))), (189, .one (.t none (.sl v561.length (v561.map fun x0 => .sc (.int .i64 x0))))), (190, .one (.t none (.sc (.int .i64 (v561.length : Int))))), (191, .one (.t none (.sc (.int .i64 w576))))], [(5, .vr [.sl v332.1.sets.length (v332.1.sets.map fun x0 => .sc (.int .i64 x0)), .sl v332.1.class_.length (v332.1.class_.map fun x0 => .sc (.int .i64 x0)), .sl v332.1.height.length (v332.1.height.map fun x0 => .sc (.int .i64 x0)), .sl v332.1.tiles.length (v332.1.tiles.map fun x0 => .sl x0.length (x0.map fun x1 => .sc (.int .i64 x1))), .sl v332.1.words.length (v332.1.words.map fun x0 => .sc (.string x0)), .sl v332.1.back.length (v332.1.back.map fun x0 => .sc (.string x0))]), (8, .mp (some .i64) (w441.map fun x0 => (.int .i64 x0.1, .int .i64 x0.2)))]⟩
def z4J (v332 : Imgs × Int) (w629 : Int) (v646 : Int × Int) (v647 : List Int) : Bool × Int → Option ((Bool × Int) ⊕ (Int ⊕ ((Int × (List (Int × Int))) ⊕ Bool)))
  | (w650, w651) =>
  if w651 < (v647.length : Int) then
    (atI v647 w651).bind fun v654 =>
    if w650 = true then
      z1b (true, IntKind.i64.wrap (w651 + 1))
    else
      if 0 ≤ v654 then
        if v654 < (v332.1.sets.length : Int) then
          (atI v332.1.sets v654).bind fun v655 =>
          z1b (decide (v655 = v646.1), IntKind.i64.wrap (w651 + 1))
        else
          z1b (false, IntKind.i64.wrap (w651 + 1))
      else
        z1b (false, IntKind.i64.wrap (w651 + 1))
  else
    z1l <|
    if w650 = true then
      z1b (IntKind.i64.wrap (w629 + 1))
    else
      z1l <|
      z1l <|
      some false
def z1B (v331 : DFA × Tape) (v332 : Imgs × Int) (w440 : Int) (w441 : List (Int × Int)) (v550 : Int) (v614 : List Int) (w629 : Int) (v646 : Int × Int) (v647 : List Int) : Bool × Int → Fr
  | (w650, w651) => ⟨252, [(4, .one (.ea none [.sc (.int .i64 v331.1.letters), .sc (.int .i64 v331.1.start), .sl v331.1.final.length (v331.1.final.map fun x0 => .sc (.bool x0)), .sl v331.1.next.length (v331.1.next.map fun x0 => .sl x0.length (x0.map fun x1 => .sc (.int .i64 x1)))] 0)), (5, .one (.a 5 [] (0))), (7, .one (.t none (.sc (.int .i64 (v332.1.sets.length : Int))))), (8, .one (.h 8 [])), (9, .one (.t none (.sc (.int .i64 w440)))), (20, .one (.t none (.sc (.int .i64 v646.1)))), (22, .one (.t none (.sc (.bool w650)))), (78, .one (.t none (.sl v332.1.sets.length (v332.1.sets.map fun x0 => .sc (.int .i64 x0))))), (79, .one (.t none (.sc (.int .i64 (v332.1.sets.length : Int))))), (80, .one (.t none (.sc (.int .i64 w440)))), (189, .one (.t none (.sl v614.length (v614.map fun x0 => .sc (.int .i64 x0))))), (190, .one (.t none (.sc (.int .i64 (v614.length : Int))))), (191, .one (.t none (.sc (.int .i64 w629)))), (221, .one (.t none (.sl v647.length (v647.map fun x0 => .sc (.int .i64 x0))))), (222, .one (.t none (.sc (.int .i64 (v647.length : Int))))), (223, .one (.t none (.sc (.int .i64 w651))))], [(5, .vr [.sl v332.1.sets.length (v332.1.sets.map fun x0 => .sc (.int .i64 x0)), .sl v332.1.class_.length (v332.1.class_.map fun x0 => .sc (.int .i64 x0)), .sl v332.1.height.length (v332.1.height.map fun x0 => .sc (.int .i64 x0)), .sl v332.1.tiles.length (v332.1.tiles.map fun x0 => .sl x0.length (x0.map fun x1 => .sc (.int .i64 x1))), .sl v332.1.words.length (v332.1.words.map fun x0 => .sc (.string x0)), .sl v332.1.back.length (v332.1.back.map fun x0 => .sc (.string x0))]), (8, .mp (some .i64) ((zeu v550 w440 w441).map fun x0 => (.int .i64 x0.1, .int .i64 x0.2)))]⟩
def z4K (v331 : DFA × Tape) (v332 : Imgs × Int) (w440 : Int) (w441 : List (Int × Int)) (v550 : Int) (v614 : List Int) : Int → Option (Int ⊕ ((Int × (List (Int × Int))) ⊕ Bool))
  | w629 =>
  if w629 < (v614.length : Int) then
    (atI v614 w629).bind fun v643 =>
    if v643 < 0 then
      z1l <|
      z1l <|
      some false
    else
      if (v332.1.sets.length : Int) ≤ v643 then
        z1l <|
        z1l <|
        some false
      else
        (atI v332.1.sets v643).bind fun v644 =>
        (atI v332.1.words w440).bind fun v645 =>
        (z2T v331.1 v644 v645).bind fun v646 =>
        (atI v332.1.tiles w440).bind fun v647 =>
        z1p (z4J v332 w629 v646 v647) LFm (false, 0)
  else
    z1l <|
    z1b (IntKind.i64.wrap (w440 + 1), zeu v550 w440 w441)
def z2Y (v331 : DFA × Tape) (v332 : Imgs × Int) (w440 : Int) (w441 : List (Int × Int)) (v550 : Int) (v614 : List Int) : Int → Fr
  | w629 => ⟨252, [(4, .one (.ea none [.sc (.int .i64 v331.1.letters), .sc (.int .i64 v331.1.start), .sl v331.1.final.length (v331.1.final.map fun x0 => .sc (.bool x0)), .sl v331.1.next.length (v331.1.next.map fun x0 => .sl x0.length (x0.map fun x1 => .sc (.int .i64 x1)))] 0)), (5, .one (.a 5 [] (0))), (7, .one (.t none (.sc (.int .i64 (v332.1.sets.length : Int))))), (8, .one (.h 8 [])), (9, .one (.t none (.sc (.int .i64 w440)))), (78, .one (.t none (.sl v332.1.sets.length (v332.1.sets.map fun x0 => .sc (.int .i64 x0))))), (79, .one (.t none (.sc (.int .i64 (v332.1.sets.length : Int))))), (80, .one (.t none (.sc (.int .i64 w440)))), (189, .one (.t none (.sl v614.length (v614.map fun x0 => .sc (.int .i64 x0))))), (190, .one (.t none (.sc (.int .i64 (v614.length : Int))))), (191, .one (.t none (.sc (.int .i64 w629))))], [(5, .vr [.sl v332.1.sets.length (v332.1.sets.map fun x0 => .sc (.int .i64 x0)), .sl v332.1.class_.length (v332.1.class_.map fun x0 => .sc (.int .i64 x0)), .sl v332.1.height.length (v332.1.height.map fun x0 => .sc (.int .i64 x0)), .sl v332.1.tiles.length (v332.1.tiles.map fun x0 => .sl x0.length (x0.map fun x1 => .sc (.int .i64 x1))), .sl v332.1.words.length (v332.1.words.map fun x0 => .sc (.string x0)), .sl v332.1.back.length (v332.1.back.map fun x0 => .sc (.string x0))]), (8, .mp (some .i64) ((zeu v550 w440 w441).map fun x0 => (.int .i64 x0.1, .int .i64 x0.2)))]⟩
def z3m (v331 : DFA × Tape) (v332 : Imgs × Int) : Int × (List (Int × Int)) → Option ((Int × (List (Int × Int))) ⊕ Bool)
  | (w440, w441) =>
  if w440 < (v332.1.sets.length : Int) then
    (atI v332.1.sets w440).bind fun v549 =>
    (atI v332.1.class_ w440).bind fun v550 =>
    if ((zd5 v550 w441).isSome) = true then
      (atI v332.1.sets ((zd5 v550 w441).getD 0)).bind fun v552 =>
      (atI v332.1.words w440).bind fun v553 =>
      (z2T v331.1 v552 v553).bind fun v554 =>
      (atI v332.1.back w440).bind fun v555 =>
      (z2T v331.1 v549 v555).bind fun v556 =>
      if v554.2 = 0 then
        if v556.2 = 0 then
          if v554.1 = v549 then
            if v556.1 = v552 then
              (atI v332.1.height w440).bind fun v558 =>
              (atI v332.1.height ((zd5 v550 w441).getD 0)).bind fun v559 =>
              if v558 = v559 then
                (atI v332.1.tiles w440).bind fun v560 =>
                (atI v332.1.tiles ((zd5 v550 w441).getD 0)).bind fun v561 =>
                if (v560.length : Int) = (v561.length : Int) then
                  z1p (z2l v331 v332 w440 w441 v561) LFm 0
                else
                  z1l <|
                  some false
              else
                z1l <|
                some false
            else
              z1l <|
              some false
          else
            z1l <|
            some false
        else
          z1l <|
          some false
      else
        z1l <|
        some false
    else
      (atI v332.1.sets ((zd5 v550 (zeu v550 w440 w441)).getD 0)).bind fun v605 =>
      (atI v332.1.words w440).bind fun v606 =>
      (z2T v331.1 v605 v606).bind fun v607 =>
      (atI v332.1.back w440).bind fun v608 =>
      (z2T v331.1 v549 v608).bind fun v609 =>
      if v607.2 = 0 then
        if v609.2 = 0 then
          if v607.1 = v549 then
            if v609.1 = v605 then
              (atI v332.1.height w440).bind fun v611 =>
              (atI v332.1.height ((zd5 v550 (zeu v550 w440 w441)).getD 0)).bind fun v612 =>
              if v611 = v612 then
                (atI v332.1.tiles w440).bind fun v613 =>
                (atI v332.1.tiles ((zd5 v550 (zeu v550 w440 w441)).getD 0)).bind fun v614 =>
                if (v613.length : Int) = (v614.length : Int) then
                  z1p (z4K v331 v332 w440 w441 v550 v614) LFm 0
                else
                  z1l <|
                  some false
              else
                z1l <|
                some false
            else
              z1l <|
              some false
          else
            z1l <|
            some false
        else
          z1l <|
          some false
      else
        z1l <|
        some false
  else
    z1l <|
    (zoN).bind fun v656 =>
    some v656
def z2v (v331 : DFA × Tape) (v332 : Imgs × Int) : Int × (List (Int × Int)) → Fr
  | (w440, w441) => ⟨252, [(4, .one (.ea none [.sc (.int .i64 v331.1.letters), .sc (.int .i64 v331.1.start), .sl v331.1.final.length (v331.1.final.map fun x0 => .sc (.bool x0)), .sl v331.1.next.length (v331.1.next.map fun x0 => .sl x0.length (x0.map fun x1 => .sc (.int .i64 x1)))] 0)), (5, .one (.a 5 [] (0))), (7, .one (.t none (.sc (.int .i64 (v332.1.sets.length : Int))))), (8, .one (.h 8 [])), (78, .one (.t none (.sl v332.1.sets.length (v332.1.sets.map fun x0 => .sc (.int .i64 x0))))), (79, .one (.t none (.sc (.int .i64 (v332.1.sets.length : Int))))), (80, .one (.t none (.sc (.int .i64 w440))))], [(5, .vr [.sl v332.1.sets.length (v332.1.sets.map fun x0 => .sc (.int .i64 x0)), .sl v332.1.class_.length (v332.1.class_.map fun x0 => .sc (.int .i64 x0)), .sl v332.1.height.length (v332.1.height.map fun x0 => .sc (.int .i64 x0)), .sl v332.1.tiles.length (v332.1.tiles.map fun x0 => .sl x0.length (x0.map fun x1 => .sc (.int .i64 x1))), .sl v332.1.words.length (v332.1.words.map fun x0 => .sc (.string x0)), .sl v332.1.back.length (v332.1.back.map fun x0 => .sc (.string x0))]), (8, .mp (some .i64) (w441.map fun x0 => (.int .i64 x0.1, .int .i64 x0.2)))]⟩
def z3Z (a0 : List Int) : Option (Bool) :=
  (z9T a0).bind fun v329 =>
  (z3O v329).bind fun v330 =>
  (z4q v330.2 v330.1 5).bind fun v331 =>
  (z7J v331.1).bind fun v332 =>
  if v332.2 = 0 then
    if (v332.1.class_.length : Int) = (v332.1.sets.length : Int) then
      if (v332.1.height.length : Int) = (v332.1.sets.length : Int) then
        if (v332.1.words.length : Int) = (v332.1.sets.length : Int) then
          if (v332.1.back.length : Int) = (v332.1.sets.length : Int) then
            if (v332.1.tiles.length : Int) = (v332.1.sets.length : Int) then
              z1p (z3m v331 v332) LFm (0, ([] : List (Int × Int)))
            else
              some false
          else
            some false
        else
          some false
      else
        some false
    else
      some false
  else
    some false
theorem z7s {a0 : List Int} {r : Bool} (h0 : z3Z a0 = some r) : L 5 [.sl a0.length (a0.map fun x0 => .sc (.int .i64 x0))] = some (.sc (.bool r), [.dead]) := by
  simp only [z3Z] at h0
  refine z3W zuW fn5 (z1G bd5 ⟨of_decide_eq_true rfl, of_decide_eq_true rfl⟩ ?_)
  simp only [z1R, z1L, z1I, z1S, z3V]
  refine zq rfl (zr rfl rfl rfl (by simp; rfl) ?_)
  refine z0a (zq rfl ?_)
  obtain ⟨v329, f570, h1⟩ := z0d h0
  have f570k := zib f570
  try simp at f570k
  refine zr rfl rfl rfl (by simp [f570k]; rfl) ?_
  refine z0a (zq rfl ?_)
  obtain ⟨v330, f571, h2⟩ := z0d h1
  have f571k := z8A f571
  try simp at f571k
  obtain ⟨v331, f572, h3⟩ := z0d h2
  have f572k := zbw f572
  try simp at f572k
  refine zr rfl rfl rfl (by simp [f571k, f572k]; rfl) ?_
  refine z0a (zq rfl (zo8 rfl rfl (by simp; rfl) ?_))
  obtain ⟨v332, f573, h4⟩ := z0d h3
  have f573k := zh1 f573
  try simp at f573k
  refine zr rfl rfl rfl (by simp [f573k]; rfl) ?_
  refine z0a (zq rfl (zr rfl rfl rfl (by simp; rfl) ?_))
  refine z0a (zq rfl (zq rfl ?_))
  by_cases c574 : v332.2 = 0
  ·rw [if_pos c574] at h4
   have c574e := eq_true c574
   by_cases c575 : (v332.1.class_.length : Int) = (v332.1.sets.length : Int)
   ·rw [if_pos c575] at h4
    have c575e := eq_true c575
    by_cases c576 : (v332.1.height.length : Int) = (v332.1.sets.length : Int)
    ·rw [if_pos c576] at h4
     have c576e := eq_true c576
     by_cases c577 : (v332.1.words.length : Int) = (v332.1.sets.length : Int)
     ·rw [if_pos c577] at h4
      have c577e := eq_true c577
      by_cases c578 : (v332.1.back.length : Int) = (v332.1.sets.length : Int)
      ·rw [if_pos c578] at h4
       have c578e := eq_true c578
       refine zr rfl rfl rfl (by simp [c574e, c575e, c576e, c577e, c578e]; rfl) ?_
       refine z0a ?_
       by_cases c579 : (v332.1.tiles.length : Int) = (v332.1.sets.length : Int)
       ·rw [if_pos c579] at h4
        have c579e := eq_true c579
        refine z0v rfl (by simp [c579e]) (z0g rfl (z0a (zq rfl (zr rfl rfl rfl (by simp; rfl) ?_))))
        refine z0a (zq rfl (zq rfl (zr rfl rfl rfl (by simp; rfl) ?_)))
        refine z0a (zb rfl (z1c h4 (z2v v331 v332) rfl rfl (by simp [z2v]) fun s o1 h5 hr1 => ?_))
        obtain ⟨w440, w441⟩ := s
        simp only [z3m] at h5
        simp only [z2v]
        refine zq rfl (zr rfl rfl rfl (by simp; rfl) ?_)
        refine z0a (zq rfl ?_)
        by_cases c952 : w440 < (v332.1.sets.length : Int)
        ·rw [if_pos c952] at h5
         refine z0w rfl (by simp [c952]) (z0g rfl (z0a (zq rfl (zb rfl (zq rfl ?_)))))
         obtain ⟨v549, f953, h6⟩ := z1h h5
         refine zr rfl rfl rfl (by simp [f953]; rfl) ?_
         refine z0a (zq rfl (zq rfl ?_))
         obtain ⟨v550, f954, h7⟩ := z1h h6
         refine zr rfl rfl rfl (by simp [f954]; rfl) ?_
         refine z0a (zq rfl (zr rfl rfl rfl (by simp; rfl) ?_))
         refine z0a ?_
         by_cases c955 : ((zd5 v550 w441).isSome) = true
         ·rw [if_pos c955] at h7
          refine z0v rfl (by simp [c955]) (z0g rfl (z0a (zq rfl (zr rfl rfl rfl (by simp [f954]; rfl) ?_))))
          refine z0a (zq rfl ?_)
          obtain ⟨v552, f956, h8⟩ := z1h h7
          obtain ⟨v553, f957, h9⟩ := z1h h8
          obtain ⟨v554, f958, h10⟩ := z0d h9
          have f958k := z3T f958
          try simp at f958k
          refine z1m rfl rfl rfl rfl ?_; repeat' ((first | refine z0s rfl rfl fun Q' hQ => ?_ | refine z0n rfl fun Q' hQ => ?_); simp [f956, f957, f958k]; refine hQ.out _ ?_; clear hQ; clear Q')
          refine z0a (zq rfl ?_)
          obtain ⟨v555, f959, h11⟩ := z1h h10
          obtain ⟨v556, f960, h12⟩ := z0d h11
          have f960k := z3T f960
          try simp at f960k
          refine z1m rfl rfl rfl rfl ?_; repeat' ((first | refine z0s rfl rfl fun Q' hQ => ?_ | refine z0n rfl fun Q' hQ => ?_); simp [f959, f960k]; refine hQ.out _ ?_; clear hQ; clear Q')
          refine z0a (zq rfl (zq rfl ?_))
          by_cases c961 : v554.2 = 0
          ·rw [if_pos c961] at h12
           have c961e := eq_true c961
           by_cases c962 : v556.2 = 0
           ·rw [if_pos c962] at h12
            have c962e := eq_true c962
            by_cases c963 : v554.1 = v549
            ·rw [if_pos c963] at h12
             have c963e := eq_true c963
             by_cases c964 : v556.1 = v552
             ·rw [if_pos c964] at h12
              have c964e := eq_true c964
              obtain ⟨v558, f965, h13⟩ := z1h h12
              obtain ⟨v559, f966, h14⟩ := z1h h13
              by_cases c967 : v558 = v559
              ·rw [if_pos c967] at h14
               have c967e := eq_true c967
               obtain ⟨v560, f968, h15⟩ := z1h h14
               obtain ⟨v561, f969, h16⟩ := z1h h15
               refine z1m rfl rfl rfl rfl ?_; repeat' (first | (refine z0s rfl rfl fun Q' hQ => ?_; simp [c961e, c962e, c963e, f956, c964e, f965, f966, c967e, f968, f969]; refine hQ.out _ ?_; clear hQ; clear Q') | (refine z1w rfl rfl fun Q1 Q2 h1 h2 => ?_; simp [c961e, c962e, c963e, f956, c964e, f965, f966, c967e, f968, f969, z2s]; (first | refine h1.out ?_ | refine h2.out ?_); clear h1 h2; clear Q1 Q2; intro Q' hQ; simp [c961e, c962e, c963e, f956, c964e, f965, f966, c967e, f968, f969]; refine hQ.out _ ?_; clear hQ; clear Q') | (refine z0n rfl fun Q' hQ => ?_; simp [c961e, c962e, c963e, f956, c964e, f965, f966, c967e, f968, f969]; refine hQ.out _ ?_; clear hQ; clear Q'))
               refine z0a ?_
               by_cases c970 : (v560.length : Int) = (v561.length : Int)
               ·rw [if_pos c970] at h16
                have c970e := eq_true c970
                refine z0v rfl (by simp [c970e]) (z0g rfl (z0a (zq rfl (zr rfl rfl rfl (by simp [f969]; rfl) ?_))))
                refine z0a (zb rfl (z1c h16 (z3d v331 v332 w440 w441 v561) rfl rfl (by simp [z3d]) fun s o2 h17 hr2 => ?_))
                obtain ⟨w576, hs2⟩ : ∃ y, y = s := ⟨_, rfl⟩
                subst hs2
                simp only [z2l] at h17
                simp only [z3d]
                refine zq rfl (zr rfl rfl rfl (by simp; rfl) ?_)
                refine z0a (zq rfl ?_)
                by_cases c1023 : w576 < (v561.length : Int)
                ·rw [if_pos c1023] at h17
                 refine z0w rfl (by simp [c1023]) (z0g rfl (z0a (zq rfl (zb rfl (zq rfl ?_)))))
                 obtain ⟨v590, f1024, h18⟩ := z1h h17
                 refine zr rfl rfl rfl (by simp [f1024]; rfl) ?_
                 refine z0a (zq rfl (zq rfl ?_))
                 by_cases c1025 : v590 < 0
                 ·rw [if_pos c1025] at h18
                  refine zr rfl rfl rfl (by simp [c1025]; rfl) ?_
                  refine z0a (z0w rfl (by simp) (zq rfl (zr rfl rfl rfl (by simp; rfl) ?_)))
                  refine z0a (z1u rfl (z0m (z0x (z0m ?_))))
                  obtain ⟨rr2, h19, ho2⟩ := z0b h18
                  have hs2 := hr2 _ ho2
                  subst hs2
                  refine z1D ho2 (z0x (z0x (z0m ?_)))
                  obtain ⟨rr1, h20, ho1⟩ := z0b h19
                  have hs1 := hr1 _ ho1
                  subst hs1
                  refine z1D ho1 (z0x (z0m ?_))
                  cases h20
                  simp
                 ·rw [if_neg c1025] at h18
                  refine zr rfl rfl rfl (by simp [c1025]; rfl) ?_
                  refine z0a ?_
                  by_cases c1026 : (v332.1.sets.length : Int) ≤ v590
                  ·rw [if_pos c1026] at h18
                   refine z0w rfl (by simp [c1026]) (zq rfl (zr rfl rfl rfl (by simp; rfl) ?_))
                   refine z0a (z1u rfl (z0m (z0x (z0m ?_))))
                   obtain ⟨rr2, h19, ho2⟩ := z0b h18
                   have hs2 := hr2 _ ho2
                   subst hs2
                   refine z1D ho2 (z0x (z0x (z0m ?_)))
                   obtain ⟨rr1, h20, ho1⟩ := z0b h19
                   have hs1 := hr1 _ ho1
                   subst hs1
                   refine z1D ho1 (z0x (z0m ?_))
                   cases h20
                   simp
                  ·rw [if_neg c1026] at h18
                   refine z0v rfl (by simp [c1026]) (z0g rfl (z0a (zq rfl ?_)))
                   obtain ⟨v591, f1027, h19⟩ := z1h h18
                   obtain ⟨v592, f1028, h20⟩ := z1h h19
                   obtain ⟨v593, f1029, h21⟩ := z0d h20
                   have f1029k := z3T f1029
                   try simp at f1029k
                   refine z1m rfl rfl rfl rfl ?_; repeat' ((first | refine z0s rfl rfl fun Q' hQ => ?_ | refine z0n rfl fun Q' hQ => ?_); simp [f1027, f1028, f1029k]; refine hQ.out _ ?_; clear hQ; clear Q')
                   refine z0a (zq rfl (zr rfl rfl rfl (by simp; rfl) ?_))
                   refine z0a (zq rfl (zq rfl ?_))
                   obtain ⟨v594, f1030, h22⟩ := z1h h21
                   refine zr rfl rfl rfl (by simp [f1030]; rfl) ?_
                   refine z0a (zb rfl (z1c h22 (z1H v331 v332 w440 w441 v561 w576 v593 v594) rfl rfl (by simp [z1H]) fun s o3 h23 hr3 => ?_))
                   obtain ⟨w597, w598⟩ := s
                   simp only [z2k] at h23
                   simp only [z1H]
                   refine zq rfl (zr rfl rfl rfl (by simp; rfl) ?_)
                   refine z0a (zq rfl ?_)
                   by_cases c1042 : w598 < (v594.length : Int)
                   ·rw [if_pos c1042] at h23
                    refine z0w rfl (by simp [c1042]) (z0g rfl (z0a (zq rfl (zb rfl (zq rfl ?_)))))
                    obtain ⟨v601, f1043, h24⟩ := z1h h23
                    refine zr rfl rfl rfl (by simp [f1043]; rfl) ?_
                    refine z0a ?_
                    by_cases c1044 : w597 = true
                    ·rw [if_pos c1044] at h24
                     refine zr rfl rfl rfl (by simp [c1044]; rfl) ?_
                     refine z0k (z0a (zr rfl rfl rfl (by simp; rfl) ?_))
                     have ho := z0c h24
                     refine z0j ho ?_
                     simp [z1H, c1044]
                    ·rw [if_neg c1044] at h24
                     by_cases c1045 : 0 ≤ v601
                     ·rw [if_pos c1045] at h24
                      by_cases c1046 : v601 < (v332.1.sets.length : Int)
                      ·rw [if_pos c1046] at h24
                       obtain ⟨v602, f1047, h25⟩ := z1h h24
                       refine zr rfl rfl rfl (by simp [c1044, c1045, c1046, f1047]; rfl) ?_
                       refine z0k (z0a (zr rfl rfl rfl (by simp; rfl) ?_))
                       have ho := z0c h25
                       refine z0j ho ?_
                       simp [z1H, c1044]
                      ·rw [if_neg c1046] at h24
                       refine zr rfl rfl rfl (by simp [c1044, c1045, c1046]; rfl) ?_
                       refine z0k (z0a (zr rfl rfl rfl (by simp; rfl) ?_))
                       have ho := z0c h24
                       refine z0j ho ?_
                       simp [z1H, c1044]
                     ·rw [if_neg c1045] at h24
                      refine zr rfl rfl rfl (by simp [c1044, c1045]; rfl) ?_
                      refine z0k (z0a (zr rfl rfl rfl (by simp; rfl) ?_))
                      have ho := z0c h24
                      refine z0j ho ?_
                      simp [z1H, c1044]
                   ·rw [if_neg c1042] at h23
                    refine z0v rfl (by simp [c1042]) (z1s rfl (z0U ?_))
                    obtain ⟨rr3, h24, ho3⟩ := z0b h23
                    have hs3 := hr3 _ ho3
                    subst hs3
                    refine z0B ho3 (z0e rfl (z0a (zq rfl (zr rfl rfl rfl (by simp; rfl) ?_))))
                    refine z0a ?_
                    by_cases c1048 : w597 = true
                    ·rw [if_pos c1048] at h24
                     refine z0v rfl (by simp [c1048]) (z0g rfl (z0k (z0a (zr rfl rfl rfl (by simp; rfl) ?_))))
                     have ho := z0c h24
                     refine z0j ho ?_
                     simp [z3d, c1048]
                    ·rw [if_neg c1048] at h24
                     refine z0w rfl (by simp [c1048]) (zq rfl (zr rfl rfl rfl (by simp; rfl) ?_))
                     refine z0a (z1u rfl (z0x (z0m ?_)))
                     obtain ⟨rr2, h25, ho2⟩ := z0b h24
                     have hs2 := hr2 _ ho2
                     subst hs2
                     refine z1D ho2 (z0x (z0x (z0m ?_)))
                     obtain ⟨rr1, h26, ho1⟩ := z0b h25
                     have hs1 := hr1 _ ho1
                     subst hs1
                     refine z1D ho1 (z0x (z0m ?_))
                     cases h26
                     simp [c1048]
                ·rw [if_neg c1023] at h17
                 refine z0v rfl (by simp [c1023]) (z1s rfl (z0U ?_))
                 obtain ⟨rr2, h18, ho2⟩ := z0b h17
                 have hs2 := hr2 _ ho2
                 subst hs2
                 refine z0B ho2 (z0e rfl (z0k (z0a (zr rfl rfl rfl (by simp; rfl) ?_))))
                 have ho := z0c h18
                 refine z0j ho ?_
                 simp [z2v]
               ·rw [if_neg c970] at h16
                have c970e := eq_false c970
                refine z0w rfl (by simp [c970e]) (zq rfl (zr rfl rfl rfl (by simp; rfl) ?_))
                refine z0a (z1u rfl (z0m (z0x (z0m ?_))))
                obtain ⟨rr1, h17, ho1⟩ := z0b h16
                have hs1 := hr1 _ ho1
                subst hs1
                refine z1D ho1 (z0x (z0m ?_))
                cases h17
                simp [c955]
              ·rw [if_neg c967] at h14
               have c967e := eq_false c967
               refine z1m rfl rfl rfl rfl ?_; repeat' (first | (refine z0s rfl rfl fun Q' hQ => ?_; simp [c961e, c962e, c963e, f956, c964e, f965, f966, c967e]; refine hQ.out _ ?_; clear hQ; clear Q') | (refine z1w rfl rfl fun Q1 Q2 h1 h2 => ?_; simp [c961e, c962e, c963e, f956, c964e, f965, f966, c967e, z2s]; (first | refine h1.out ?_ | refine h2.out ?_); clear h1 h2; clear Q1 Q2; intro Q' hQ; simp [c961e, c962e, c963e, f956, c964e, f965, f966, c967e]; refine hQ.out _ ?_; clear hQ; clear Q') | (refine z0n rfl fun Q' hQ => ?_; simp [c961e, c962e, c963e, f956, c964e, f965, f966, c967e]; refine hQ.out _ ?_; clear hQ; clear Q'))
               refine z0a (z0w rfl (by simp) (zq rfl (zr rfl rfl rfl (by simp; rfl) ?_)))
               refine z0a (z1u rfl (z0m (z0x (z0m ?_))))
               obtain ⟨rr1, h15, ho1⟩ := z0b h14
               have hs1 := hr1 _ ho1
               subst hs1
               refine z1D ho1 (z0x (z0m ?_))
               cases h15
               simp [c955]
             ·rw [if_neg c964] at h12
              have c964e := eq_false c964
              refine z1m rfl rfl rfl rfl ?_; repeat' (first | (refine z0s rfl rfl fun Q' hQ => ?_; simp [c961e, c962e, c963e, f956, c964e]; refine hQ.out _ ?_; clear hQ; clear Q') | (refine z1w rfl rfl fun Q1 Q2 h1 h2 => ?_; simp [c961e, c962e, c963e, f956, c964e, z2s]; (first | refine h1.out ?_ | refine h2.out ?_); clear h1 h2; clear Q1 Q2; intro Q' hQ; simp [c961e, c962e, c963e, f956, c964e]; refine hQ.out _ ?_; clear hQ; clear Q') | (refine z0n rfl fun Q' hQ => ?_; simp [c961e, c962e, c963e, f956, c964e]; refine hQ.out _ ?_; clear hQ; clear Q'))
              refine z0a (z0w rfl (by simp) (zq rfl (zr rfl rfl rfl (by simp; rfl) ?_)))
              refine z0a (z1u rfl (z0m (z0x (z0m ?_))))
              obtain ⟨rr1, h13, ho1⟩ := z0b h12
              have hs1 := hr1 _ ho1
              subst hs1
              refine z1D ho1 (z0x (z0m ?_))
              cases h13
              simp [c955]
            ·rw [if_neg c963] at h12
             have c963e := eq_false c963
             refine z1m rfl rfl rfl rfl ?_; repeat' (first | (refine z0s rfl rfl fun Q' hQ => ?_; simp [c961e, c962e, c963e]; refine hQ.out _ ?_; clear hQ; clear Q') | (refine z1w rfl rfl fun Q1 Q2 h1 h2 => ?_; simp [c961e, c962e, c963e, z2s]; (first | refine h1.out ?_ | refine h2.out ?_); clear h1 h2; clear Q1 Q2; intro Q' hQ; simp [c961e, c962e, c963e]; refine hQ.out _ ?_; clear hQ; clear Q') | (refine z0n rfl fun Q' hQ => ?_; simp [c961e, c962e, c963e]; refine hQ.out _ ?_; clear hQ; clear Q'))
             refine z0a (z0w rfl (by simp) (zq rfl (zr rfl rfl rfl (by simp; rfl) ?_)))
             refine z0a (z1u rfl (z0m (z0x (z0m ?_))))
             obtain ⟨rr1, h13, ho1⟩ := z0b h12
             have hs1 := hr1 _ ho1
             subst hs1
             refine z1D ho1 (z0x (z0m ?_))
             cases h13
             simp [c955]
           ·rw [if_neg c962] at h12
            have c962e := eq_false c962
            refine z1m rfl rfl rfl rfl ?_; repeat' (first | (refine z0s rfl rfl fun Q' hQ => ?_; simp [c961e, c962e]; refine hQ.out _ ?_; clear hQ; clear Q') | (refine z1w rfl rfl fun Q1 Q2 h1 h2 => ?_; simp [c961e, c962e, z2s]; (first | refine h1.out ?_ | refine h2.out ?_); clear h1 h2; clear Q1 Q2; intro Q' hQ; simp [c961e, c962e]; refine hQ.out _ ?_; clear hQ; clear Q') | (refine z0n rfl fun Q' hQ => ?_; simp [c961e, c962e]; refine hQ.out _ ?_; clear hQ; clear Q'))
            refine z0a (z0w rfl (by simp) (zq rfl (zr rfl rfl rfl (by simp; rfl) ?_)))
            refine z0a (z1u rfl (z0m (z0x (z0m ?_))))
            obtain ⟨rr1, h13, ho1⟩ := z0b h12
            have hs1 := hr1 _ ho1
            subst hs1
            refine z1D ho1 (z0x (z0m ?_))
            cases h13
            simp [c955]
          ·rw [if_neg c961] at h12
           have c961e := eq_false c961
           refine z1m rfl rfl rfl rfl ?_; repeat' (first | (refine z0s rfl rfl fun Q' hQ => ?_; simp [c961e]; refine hQ.out _ ?_; clear hQ; clear Q') | (refine z1w rfl rfl fun Q1 Q2 h1 h2 => ?_; simp [c961e, z2s]; (first | refine h1.out ?_ | refine h2.out ?_); clear h1 h2; clear Q1 Q2; intro Q' hQ; simp [c961e]; refine hQ.out _ ?_; clear hQ; clear Q') | (refine z0n rfl fun Q' hQ => ?_; simp [c961e]; refine hQ.out _ ?_; clear hQ; clear Q'))
           refine z0a (z0w rfl (by simp) (zq rfl (zr rfl rfl rfl (by simp; rfl) ?_)))
           refine z0a (z1u rfl (z0m (z0x (z0m ?_))))
           obtain ⟨rr1, h13, ho1⟩ := z0b h12
           have hs1 := hr1 _ ho1
           subst hs1
           refine z1D ho1 (z0x (z0m ?_))
           cases h13
           simp [c955]
         ·rw [if_neg c955] at h7
          have c955s : (zd5 v550 w441) = none := by simpa using c955
          refine z0w rfl (by simp [c955, c955s]) (zr rfl rfl rfl (by simp [f954]; rfl) ?_)
          refine z0a (zq rfl (zr rfl rfl rfl (by simp [f954]; rfl) ?_))
          refine z0a (zq rfl ?_)
          obtain ⟨v605, f1049, h8⟩ := z1h h7
          obtain ⟨v606, f1050, h9⟩ := z1h h8
          obtain ⟨v607, f1051, h10⟩ := z0d h9
          have f1051k := z3T f1051
          try simp at f1051k
          refine z1m rfl rfl rfl rfl ?_; repeat' ((first | refine z0s rfl rfl fun Q' hQ => ?_ | refine z0n rfl fun Q' hQ => ?_); simp [f1049, f1050, f1051k]; refine hQ.out _ ?_; clear hQ; clear Q')
          refine z0a (zq rfl ?_)
          obtain ⟨v608, f1052, h11⟩ := z1h h10
          obtain ⟨v609, f1053, h12⟩ := z0d h11
          have f1053k := z3T f1053
          try simp at f1053k
          refine z1m rfl rfl rfl rfl ?_; repeat' ((first | refine z0s rfl rfl fun Q' hQ => ?_ | refine z0n rfl fun Q' hQ => ?_); simp [f1052, f1053k]; refine hQ.out _ ?_; clear hQ; clear Q')
          refine z0a (zq rfl (zq rfl ?_))
          by_cases c1054 : v607.2 = 0
          ·rw [if_pos c1054] at h12
           have c1054e := eq_true c1054
           by_cases c1055 : v609.2 = 0
           ·rw [if_pos c1055] at h12
            have c1055e := eq_true c1055
            by_cases c1056 : v607.1 = v549
            ·rw [if_pos c1056] at h12
             have c1056e := eq_true c1056
             by_cases c1057 : v609.1 = v605
             ·rw [if_pos c1057] at h12
              have c1057e := eq_true c1057
              obtain ⟨v611, f1058, h13⟩ := z1h h12
              obtain ⟨v612, f1059, h14⟩ := z1h h13
              by_cases c1060 : v611 = v612
              ·rw [if_pos c1060] at h14
               have c1060e := eq_true c1060
               obtain ⟨v613, f1061, h15⟩ := z1h h14
               obtain ⟨v614, f1062, h16⟩ := z1h h15
               refine z1m rfl rfl rfl rfl ?_; repeat' (first | (refine z0s rfl rfl fun Q' hQ => ?_; simp [c1054e, c1055e, c1056e, f1049, c1057e, f1058, f1059, c1060e, f1061, f1062]; refine hQ.out _ ?_; clear hQ; clear Q') | (refine z1w rfl rfl fun Q1 Q2 h1 h2 => ?_; simp [c1054e, c1055e, c1056e, f1049, c1057e, f1058, f1059, c1060e, f1061, f1062, z2s]; (first | refine h1.out ?_ | refine h2.out ?_); clear h1 h2; clear Q1 Q2; intro Q' hQ; simp [c1054e, c1055e, c1056e, f1049, c1057e, f1058, f1059, c1060e, f1061, f1062]; refine hQ.out _ ?_; clear hQ; clear Q') | (refine z0n rfl fun Q' hQ => ?_; simp [c1054e, c1055e, c1056e, f1049, c1057e, f1058, f1059, c1060e, f1061, f1062]; refine hQ.out _ ?_; clear hQ; clear Q'))
               refine z0a ?_
               by_cases c1063 : (v613.length : Int) = (v614.length : Int)
               ·rw [if_pos c1063] at h16
                have c1063e := eq_true c1063
                refine z0v rfl (by simp [c1063e]) (z0g rfl (z0a (zq rfl (zr rfl rfl rfl (by simp [f1062]; rfl) ?_))))
                refine z0a (zb rfl (z1c h16 (z2Y v331 v332 w440 w441 v550 v614) rfl rfl (by simp [z2Y]) fun s o4 h17 hr4 => ?_))
                obtain ⟨w629, hs4⟩ : ∃ y, y = s := ⟨_, rfl⟩
                subst hs4
                simp only [z4K] at h17
                simp only [z2Y]
                refine zq rfl (zr rfl rfl rfl (by simp; rfl) ?_)
                refine z0a (zq rfl ?_)
                by_cases c1116 : w629 < (v614.length : Int)
                ·rw [if_pos c1116] at h17
                 refine z0w rfl (by simp [c1116]) (z0g rfl (z0a (zq rfl (zb rfl (zq rfl ?_)))))
                 obtain ⟨v643, f1117, h18⟩ := z1h h17
                 refine zr rfl rfl rfl (by simp [f1117]; rfl) ?_
                 refine z0a (zq rfl (zq rfl ?_))
                 by_cases c1118 : v643 < 0
                 ·rw [if_pos c1118] at h18
                  refine zr rfl rfl rfl (by simp [c1118]; rfl) ?_
                  refine z0a (z0w rfl (by simp) (zq rfl (zr rfl rfl rfl (by simp; rfl) ?_)))
                  refine z0a (z1u rfl (z0m (z0x (z0m ?_))))
                  obtain ⟨rr4, h19, ho4⟩ := z0b h18
                  have hs4 := hr4 _ ho4
                  subst hs4
                  refine z1D ho4 (z0x (z0x (z0m ?_)))
                  obtain ⟨rr1, h20, ho1⟩ := z0b h19
                  have hs1 := hr1 _ ho1
                  subst hs1
                  refine z1D ho1 (z0x (z0m ?_))
                  cases h20
                  simp
                 ·rw [if_neg c1118] at h18
                  refine zr rfl rfl rfl (by simp [c1118]; rfl) ?_
                  refine z0a ?_
                  by_cases c1119 : (v332.1.sets.length : Int) ≤ v643
                  ·rw [if_pos c1119] at h18
                   refine z0w rfl (by simp [c1119]) (zq rfl (zr rfl rfl rfl (by simp; rfl) ?_))
                   refine z0a (z1u rfl (z0m (z0x (z0m ?_))))
                   obtain ⟨rr4, h19, ho4⟩ := z0b h18
                   have hs4 := hr4 _ ho4
                   subst hs4
                   refine z1D ho4 (z0x (z0x (z0m ?_)))
                   obtain ⟨rr1, h20, ho1⟩ := z0b h19
                   have hs1 := hr1 _ ho1
                   subst hs1
                   refine z1D ho1 (z0x (z0m ?_))
                   cases h20
                   simp
                  ·rw [if_neg c1119] at h18
                   refine z0v rfl (by simp [c1119]) (z0g rfl (z0a (zq rfl ?_)))
                   obtain ⟨v644, f1120, h19⟩ := z1h h18
                   obtain ⟨v645, f1121, h20⟩ := z1h h19
                   obtain ⟨v646, f1122, h21⟩ := z0d h20
                   have f1122k := z3T f1122
                   try simp at f1122k
                   refine z1m rfl rfl rfl rfl ?_; repeat' ((first | refine z0s rfl rfl fun Q' hQ => ?_ | refine z0n rfl fun Q' hQ => ?_); simp [f1120, f1121, f1122k]; refine hQ.out _ ?_; clear hQ; clear Q')
                   refine z0a (zq rfl (zr rfl rfl rfl (by simp; rfl) ?_))
                   refine z0a (zq rfl (zq rfl ?_))
                   obtain ⟨v647, f1123, h22⟩ := z1h h21
                   refine zr rfl rfl rfl (by simp [f1123]; rfl) ?_
                   refine z0a (zb rfl (z1c h22 (z1B v331 v332 w440 w441 v550 v614 w629 v646 v647) rfl rfl (by simp [z1B]) fun s o5 h23 hr5 => ?_))
                   obtain ⟨w650, w651⟩ := s
                   simp only [z4J] at h23
                   simp only [z1B]
                   refine zq rfl (zr rfl rfl rfl (by simp; rfl) ?_)
                   refine z0a (zq rfl ?_)
                   by_cases c1135 : w651 < (v647.length : Int)
                   ·rw [if_pos c1135] at h23
                    refine z0w rfl (by simp [c1135]) (z0g rfl (z0a (zq rfl (zb rfl (zq rfl ?_)))))
                    obtain ⟨v654, f1136, h24⟩ := z1h h23
                    refine zr rfl rfl rfl (by simp [f1136]; rfl) ?_
                    refine z0a ?_
                    by_cases c1137 : w650 = true
                    ·rw [if_pos c1137] at h24
                     refine zr rfl rfl rfl (by simp [c1137]; rfl) ?_
                     refine z0k (z0a (zr rfl rfl rfl (by simp; rfl) ?_))
                     have ho := z0c h24
                     refine z0j ho ?_
                     simp [z1B, c1137]
                    ·rw [if_neg c1137] at h24
                     by_cases c1138 : 0 ≤ v654
                     ·rw [if_pos c1138] at h24
                      by_cases c1139 : v654 < (v332.1.sets.length : Int)
                      ·rw [if_pos c1139] at h24
                       obtain ⟨v655, f1140, h25⟩ := z1h h24
                       refine zr rfl rfl rfl (by simp [c1137, c1138, c1139, f1140]; rfl) ?_
                       refine z0k (z0a (zr rfl rfl rfl (by simp; rfl) ?_))
                       have ho := z0c h25
                       refine z0j ho ?_
                       simp [z1B, c1137]
                      ·rw [if_neg c1139] at h24
                       refine zr rfl rfl rfl (by simp [c1137, c1138, c1139]; rfl) ?_
                       refine z0k (z0a (zr rfl rfl rfl (by simp; rfl) ?_))
                       have ho := z0c h24
                       refine z0j ho ?_
                       simp [z1B, c1137]
                     ·rw [if_neg c1138] at h24
                      refine zr rfl rfl rfl (by simp [c1137, c1138]; rfl) ?_
                      refine z0k (z0a (zr rfl rfl rfl (by simp; rfl) ?_))
                      have ho := z0c h24
                      refine z0j ho ?_
                      simp [z1B, c1137]
                   ·rw [if_neg c1135] at h23
                    refine z0v rfl (by simp [c1135]) (z1s rfl (z0U ?_))
                    obtain ⟨rr5, h24, ho5⟩ := z0b h23
                    have hs5 := hr5 _ ho5
                    subst hs5
                    refine z0B ho5 (z0e rfl (z0a (zq rfl (zr rfl rfl rfl (by simp; rfl) ?_))))
                    refine z0a ?_
                    by_cases c1141 : w650 = true
                    ·rw [if_pos c1141] at h24
                     refine z0v rfl (by simp [c1141]) (z0g rfl (z0k (z0a (zr rfl rfl rfl (by simp; rfl) ?_))))
                     have ho := z0c h24
                     refine z0j ho ?_
                     simp [z2Y, c1141]
                    ·rw [if_neg c1141] at h24
                     refine z0w rfl (by simp [c1141]) (zq rfl (zr rfl rfl rfl (by simp; rfl) ?_))
                     refine z0a (z1u rfl (z0x (z0m ?_)))
                     obtain ⟨rr4, h25, ho4⟩ := z0b h24
                     have hs4 := hr4 _ ho4
                     subst hs4
                     refine z1D ho4 (z0x (z0x (z0m ?_)))
                     obtain ⟨rr1, h26, ho1⟩ := z0b h25
                     have hs1 := hr1 _ ho1
                     subst hs1
                     refine z1D ho1 (z0x (z0m ?_))
                     cases h26
                     simp [c1141]
                ·rw [if_neg c1116] at h17
                 refine z0v rfl (by simp [c1116]) (z1s rfl (z0U ?_))
                 obtain ⟨rr4, h18, ho4⟩ := z0b h17
                 have hs4 := hr4 _ ho4
                 subst hs4
                 refine z0B ho4 (z0e rfl (z0k (z0a (zr rfl rfl rfl (by simp; rfl) ?_))))
                 have ho := z0c h18
                 refine z0j ho ?_
                 simp [z2v]
               ·rw [if_neg c1063] at h16
                have c1063e := eq_false c1063
                refine z0w rfl (by simp [c1063e]) (zq rfl (zr rfl rfl rfl (by simp; rfl) ?_))
                refine z0a (z1u rfl (z0m (z0x (z0m ?_))))
                obtain ⟨rr1, h17, ho1⟩ := z0b h16
                have hs1 := hr1 _ ho1
                subst hs1
                refine z1D ho1 (z0x (z0m ?_))
                cases h17
                simp [c955, c955s]
              ·rw [if_neg c1060] at h14
               have c1060e := eq_false c1060
               refine z1m rfl rfl rfl rfl ?_; repeat' (first | (refine z0s rfl rfl fun Q' hQ => ?_; simp [c1054e, c1055e, c1056e, f1049, c1057e, f1058, f1059, c1060e]; refine hQ.out _ ?_; clear hQ; clear Q') | (refine z1w rfl rfl fun Q1 Q2 h1 h2 => ?_; simp [c1054e, c1055e, c1056e, f1049, c1057e, f1058, f1059, c1060e, z2s]; (first | refine h1.out ?_ | refine h2.out ?_); clear h1 h2; clear Q1 Q2; intro Q' hQ; simp [c1054e, c1055e, c1056e, f1049, c1057e, f1058, f1059, c1060e]; refine hQ.out _ ?_; clear hQ; clear Q') | (refine z0n rfl fun Q' hQ => ?_; simp [c1054e, c1055e, c1056e, f1049, c1057e, f1058, f1059, c1060e]; refine hQ.out _ ?_; clear hQ; clear Q'))
               refine z0a (z0w rfl (by simp) (zq rfl (zr rfl rfl rfl (by simp; rfl) ?_)))
               refine z0a (z1u rfl (z0m (z0x (z0m ?_))))
               obtain ⟨rr1, h15, ho1⟩ := z0b h14
               have hs1 := hr1 _ ho1
               subst hs1
               refine z1D ho1 (z0x (z0m ?_))
               cases h15
               simp [c955, c955s]
             ·rw [if_neg c1057] at h12
              have c1057e := eq_false c1057
              refine z1m rfl rfl rfl rfl ?_; repeat' (first | (refine z0s rfl rfl fun Q' hQ => ?_; simp [c1054e, c1055e, c1056e, f1049, c1057e]; refine hQ.out _ ?_; clear hQ; clear Q') | (refine z1w rfl rfl fun Q1 Q2 h1 h2 => ?_; simp [c1054e, c1055e, c1056e, f1049, c1057e, z2s]; (first | refine h1.out ?_ | refine h2.out ?_); clear h1 h2; clear Q1 Q2; intro Q' hQ; simp [c1054e, c1055e, c1056e, f1049, c1057e]; refine hQ.out _ ?_; clear hQ; clear Q') | (refine z0n rfl fun Q' hQ => ?_; simp [c1054e, c1055e, c1056e, f1049, c1057e]; refine hQ.out _ ?_; clear hQ; clear Q'))
              refine z0a (z0w rfl (by simp) (zq rfl (zr rfl rfl rfl (by simp; rfl) ?_)))
              refine z0a (z1u rfl (z0m (z0x (z0m ?_))))
              obtain ⟨rr1, h13, ho1⟩ := z0b h12
              have hs1 := hr1 _ ho1
              subst hs1
              refine z1D ho1 (z0x (z0m ?_))
              cases h13
              simp [c955, c955s]
            ·rw [if_neg c1056] at h12
             have c1056e := eq_false c1056
             refine z1m rfl rfl rfl rfl ?_; repeat' (first | (refine z0s rfl rfl fun Q' hQ => ?_; simp [c1054e, c1055e, c1056e]; refine hQ.out _ ?_; clear hQ; clear Q') | (refine z1w rfl rfl fun Q1 Q2 h1 h2 => ?_; simp [c1054e, c1055e, c1056e, z2s]; (first | refine h1.out ?_ | refine h2.out ?_); clear h1 h2; clear Q1 Q2; intro Q' hQ; simp [c1054e, c1055e, c1056e]; refine hQ.out _ ?_; clear hQ; clear Q') | (refine z0n rfl fun Q' hQ => ?_; simp [c1054e, c1055e, c1056e]; refine hQ.out _ ?_; clear hQ; clear Q'))
             refine z0a (z0w rfl (by simp) (zq rfl (zr rfl rfl rfl (by simp; rfl) ?_)))
             refine z0a (z1u rfl (z0m (z0x (z0m ?_))))
             obtain ⟨rr1, h13, ho1⟩ := z0b h12
             have hs1 := hr1 _ ho1
             subst hs1
             refine z1D ho1 (z0x (z0m ?_))
             cases h13
             simp [c955, c955s]
           ·rw [if_neg c1055] at h12
            have c1055e := eq_false c1055
            refine z1m rfl rfl rfl rfl ?_; repeat' (first | (refine z0s rfl rfl fun Q' hQ => ?_; simp [c1054e, c1055e]; refine hQ.out _ ?_; clear hQ; clear Q') | (refine z1w rfl rfl fun Q1 Q2 h1 h2 => ?_; simp [c1054e, c1055e, z2s]; (first | refine h1.out ?_ | refine h2.out ?_); clear h1 h2; clear Q1 Q2; intro Q' hQ; simp [c1054e, c1055e]; refine hQ.out _ ?_; clear hQ; clear Q') | (refine z0n rfl fun Q' hQ => ?_; simp [c1054e, c1055e]; refine hQ.out _ ?_; clear hQ; clear Q'))
            refine z0a (z0w rfl (by simp) (zq rfl (zr rfl rfl rfl (by simp; rfl) ?_)))
            refine z0a (z1u rfl (z0m (z0x (z0m ?_))))
            obtain ⟨rr1, h13, ho1⟩ := z0b h12
            have hs1 := hr1 _ ho1
            subst hs1
            refine z1D ho1 (z0x (z0m ?_))
            cases h13
            simp [c955, c955s]
          ·rw [if_neg c1054] at h12
           have c1054e := eq_false c1054
           refine z1m rfl rfl rfl rfl ?_; repeat' (first | (refine z0s rfl rfl fun Q' hQ => ?_; simp [c1054e]; refine hQ.out _ ?_; clear hQ; clear Q') | (refine z1w rfl rfl fun Q1 Q2 h1 h2 => ?_; simp [c1054e, z2s]; (first | refine h1.out ?_ | refine h2.out ?_); clear h1 h2; clear Q1 Q2; intro Q' hQ; simp [c1054e]; refine hQ.out _ ?_; clear hQ; clear Q') | (refine z0n rfl fun Q' hQ => ?_; simp [c1054e]; refine hQ.out _ ?_; clear hQ; clear Q'))
           refine z0a (z0w rfl (by simp) (zq rfl (zr rfl rfl rfl (by simp; rfl) ?_)))
           refine z0a (z1u rfl (z0m (z0x (z0m ?_))))
           obtain ⟨rr1, h13, ho1⟩ := z0b h12
           have hs1 := hr1 _ ho1
           subst hs1
           refine z1D ho1 (z0x (z0m ?_))
           cases h13
           simp [c955, c955s]
        ·rw [if_neg c952] at h5
         refine z0v rfl (by simp [c952]) (z1s rfl (z0U ?_))
         obtain ⟨rr1, h6, ho1⟩ := z0b h5
         have hs1 := hr1 _ ho1
         subst hs1
         refine z0B ho1 (z0e rfl (z0a (zq rfl ?_)))
         obtain ⟨v656, f1142, h7⟩ := z0d h6
         have f1142k := zlH f1142
         try simp at f1142k
         refine zr rfl rfl rfl (by simp [f1142k]; rfl) ?_
         refine z0a (z1u rfl ?_)
         cases h7
         simp
       ·rw [if_neg c579] at h4
        have c579e := eq_false c579
        refine z0w rfl (by simp [c579e]) (zq rfl (zr rfl rfl rfl (by simp; rfl) ?_))
        refine z0a (z1u rfl (z0m ?_))
        cases h4
        simp
      ·rw [if_neg c578] at h4
       have c578e := eq_false c578
       refine zr rfl rfl rfl (by simp [c574e, c575e, c576e, c577e, c578e]; rfl) ?_
       refine z0a (z0w rfl (by simp) (zq rfl (zr rfl rfl rfl (by simp; rfl) ?_)))
       refine z0a (z1u rfl (z0m ?_))
       cases h4
       simp
     ·rw [if_neg c577] at h4
      have c577e := eq_false c577
      refine zr rfl rfl rfl (by simp [c574e, c575e, c576e, c577e]; rfl) ?_
      refine z0a (z0w rfl (by simp) (zq rfl (zr rfl rfl rfl (by simp; rfl) ?_)))
      refine z0a (z1u rfl (z0m ?_))
      cases h4
      simp
    ·rw [if_neg c576] at h4
     have c576e := eq_false c576
     refine zr rfl rfl rfl (by simp [c574e, c575e, c576e]; rfl) ?_
     refine z0a (z0w rfl (by simp) (zq rfl (zr rfl rfl rfl (by simp; rfl) ?_)))
     refine z0a (z1u rfl (z0m ?_))
     cases h4
     simp
   ·rw [if_neg c575] at h4
    have c575e := eq_false c575
    refine zr rfl rfl rfl (by simp [c574e, c575e]; rfl) ?_
    refine z0a (z0w rfl (by simp) (zq rfl (zr rfl rfl rfl (by simp; rfl) ?_)))
    refine z0a (z1u rfl (z0m ?_))
    cases h4
    simp
  ·rw [if_neg c574] at h4
   have c574e := eq_false c574
   refine zr rfl rfl rfl (by simp [c574e]; rfl) ?_
   refine z0a (z0w rfl (by simp) (zq rfl (zr rfl rfl rfl (by simp; rfl) ?_)))
   refine z0a (z1u rfl (z0m ?_))
   cases h4
   simp
end
end Go.Proofs.Ytbnnipkanechoaa
end
section
namespace Go.Proofs.Ytbnnipkanechoaa
open Go
set_option maxRecDepth 100000
def mpF : List Nat → Nat → List (Int × Int)
  | [], _ => []
  | f :: l, c => (((c : Nat) : Int), ((f : Nat) : Int)) :: mpF l (c + 1)
theorem zil : ∀ (l : List Nat) (c0 c : Nat), c0 ≤ c → c < c0 + l.length → zd5 ((c : Nat) : Int) (mpF l c0) = some ((l.getD (c - c0) 0 : Nat) : Int)
  | [], c0, c, h1, h2 => by rw [List.length_nil] at h2; omega
  | f :: l, c0, c, h1, h2 => by
    rw [List.length_cons] at h2
    simp only [mpF, zd5]
    by_cases e : c0 = c
    · subst e; rw [if_pos rfl, Nat.sub_self, List.getD_cons_zero]
    · rw [if_neg (by omega), zil l (c0 + 1) c (by omega) (by omega), show c - c0 = (c - (c0 + 1)) + 1 by omega, List.getD_cons_succ]
theorem zmW : ∀ (l : List Nat) (c0 c : Nat), c0 + l.length ≤ c → zd5 ((c : Nat) : Int) (mpF l c0) = none
  | [], c0, c, h => rfl
  | f :: l, c0, c, h => by
    rw [List.length_cons] at h
    simp only [mpF, zd5]
    rw [if_neg (by omega), zmW l (c0 + 1) c (by omega)]
theorem zmk (v : Nat) : ∀ (l : List Nat) (c0 c : Nat), c = c0 + l.length → zeu ((c : Nat) : Int) ((v : Nat) : Int) (mpF l c0) = mpF (l ++ [v]) c0
  | [], c0, c, h => by
    rw [List.length_nil] at h; subst h; rfl
  | f :: l, c0, c, h => by
    rw [List.length_cons] at h
    simp only [mpF, zeu, List.cons_append]
    rw [if_neg (by omega), zmk v l (c0 + 1) c (by omega)]
theorem zn3 {N : Nat} {e : Nat → Nat → Bool} (he : EqvN N e) {i : Nat} (hi : i < N) :
    (z5S e N i < (z1v e i).length ∧ (z1v e i).getD (z5S e N i) 0 = (z1v e N).getD (z5S e N i) 0 ∧ z1v e (i + 1) = z1v e i) ∨
    (z5S e N i = (z1v e i).length ∧ (z1v e N).getD (z5S e N i) 0 = i ∧ z1v e (i + 1) = z1v e i ++ [i]) := by
  have hc := zpc he hi
  by_cases h : (z1v e i).any (e i) = true
  · left
    obtain ⟨x, hx, hp⟩ := List.any_eq_true.1 h
    have hlt : z5S e N i < (z1v e i).length := by rw [← hc]; exact List.findIdx_lt_length_of_exists ⟨x, hx, hp⟩
    refine ⟨hlt, ?_, by rw [z1v, if_pos h]⟩
    obtain ⟨R, hR⟩ := zd7 e (i := i) N (by omega)
    rw [hR, List.getD, List.getD, List.getElem?_append_left hlt]
  · right
    have hlt : z5S e N i = (z1v e i).length := by
      rw [← hc]
      exact List.findIdx_eq_length.2 fun x hx => by
        cases hh : e i x with
        | false => rfl
        | true => exact absurd (List.any_eq_true.2 ⟨x, hx, hh⟩) h
    refine ⟨hlt, ?_, by rw [z1v, if_neg h]⟩
    obtain ⟨R, hR⟩ := zd7 e (i := i + 1) N (by omega)
    rw [hR, z1v, if_neg h, hlt, List.getD, List.append_assoc, List.getElem?_append_right (Nat.le_refl _), Nat.sub_self]
    rfl
def zpK (S ts : List Nat) (x : Nat) : Nat → Bool
  | 0 => false
  | k + 1 => zpK S ts x k || decide (S.getD (ts.getD k 0) 0 = x)
theorem zh0 {S ts : List Nat} {x q : Nat} (h : S.getD (ts.getD q 0) 0 = x) : ∀ k, q < k → zpK S ts x k = true
  | 0, hk => by omega
  | k + 1, hk => by
    simp only [zpK, Bool.or_eq_true, decide_eq_true_eq]
    by_cases e : q = k
    · subst e; exact .inr h
    · exact .inl (zh0 h k (by omega))
section
variable {d : DFA} {m n : Nat} {S : List Nat} (hd : DfaOk d m n) (hn : n ≤ 7) (hS : SetsP d m n S)
include hd hn hS
theorem zpj {w : ByteArray} (hw : zof m w.data.toList) (hs : w.size ≤ 2 ^ n) : zfA m w := by
  have _u := hd
  have _u := hS
  have h128 : 2 ^ n ≤ 128 := Nat.pow_le_pow_right (n := 2) (by omega) hn
  exact ⟨by omega, hw⟩
theorem zhj {w : ByteArray} (hw : zof m w.data.toList) (hs : w.size ≤ 2 ^ n) {k : Nat} (hk : k < S.length) : z2T d ((S.getD k 0 : Nat) : Int) w = some (((z6l d (S.getD k 0) w.data.toList : Nat) : Int), 0) := by
  have := hS.lt _ (z1z hk)
  rw [zoL hd (by omega), znB, if_pos ⟨⟨by omega, by omega⟩, zpj hd hn hS hw hs⟩, Int.toNat_natCast]
theorem zrH {k i x : Nat} (hi : i < S.length) (hx : x ∈ z6p S i) (w : Int) (w0 : 0 ≤ w) (w1 : w < 4611686018427387904) (v : Int) :
    z1p (z2k (z5p d m n S, 0) w (((S.getD x 0 : Nat) : Int), v) (toI (z6p S i))) LFm (false, 0) = z1b (w + 1) := by
  have _u := hd
  have h128 : 2 ^ n ≤ 128 := Nat.pow_le_pow_right (n := 2) (by omega) hn
  have hSl := z1U hS.nd hS.lt
  have htl : (z6p S i).length ≤ S.length := z1U (zcH S i) fun t ht => (z9J hn hS hi ht).2.1
  obtain ⟨w, rfl⟩ := Int.eq_ofNat_of_zero_le w0
  refine z2m (s := (false, (0 : Int))) (z6p S i).length (fun q => (zpK S (z6p S i) (S.getD x 0) q, (q : Int))) rfl (by simp only [LFm]; omega) (fun q hq => ?_) ?_
  · obtain ⟨q1, q2, q3, q4⟩ := z9J hn hS hi (z1z hq)
    have e1 : atI (z5p d m n S).sets (((z6p S i).getD q 0 : Nat) : Int) = some ((S.getD ((z6p S i).getD q 0) 0 : Nat) : Int) := z4e q2
    have e4 : (z5p d m n S).sets.length = S.length := z0W S
    simp only [z2k]
    rw [if_pos (by rw [z0W]; omega), z4e hq, Option.bind_some]
    cases hb : zpK S (z6p S i) (S.getD x 0) q with
    | true =>
      rw [if_pos rfl, z3q (by omega)]
      simp only [zpK, hb, Bool.true_or]
      try rfl
    | false =>
      rw [if_neg (by simp), if_pos (by omega), e4, if_pos (by omega), e1, Option.bind_some, z3q (by omega)]
      simp only [zpK, hb, Bool.false_or]
      rw [show decide (((S.getD ((z6p S i).getD q 0) 0 : Nat) : Int) = ((S.getD x 0 : Nat) : Int)) = decide (S.getD ((z6p S i).getD q 0) 0 = S.getD x 0) from decide_eq_decide.2 (by omega)]
      try rfl
  · obtain ⟨p, hp, rfl⟩ := List.getElem_of_mem hx
    have := zh0 (S := S) (ts := z6p S i) (x := S.getD (z6p S i)[p] 0) (q := p) (by rw [List.getD_eq_getElem?_getD (l := z6p S i), List.getElem?_eq_getElem hp, Option.getD_some]) (z6p S i).length hp
    simp only [z2k]
    rw [if_neg (by rw [z0W]; omega), this, if_pos rfl, z3q (by omega)]
    rfl
theorem ziR {k i : Nat} (hk : k < S.length) (hi : i < S.length) {v : List UInt8} (h : Lead d m n (S.getD k 0) (S.getD i 0) (zeM d m n S i).data.toList) (hs : (zeM d m n S i).size ≤ 2 ^ n) (h' : Lead d m n (S.getD i 0) (S.getD k 0) v) (M : List (Int × Int)) (t : Tape) :
    z1p (z2l (d, t) (z5p d m n S, 0) ((i : Nat) : Int) M (toI (z6p S k))) LFm 0 = z1b (((i + 1 : Nat) : Int), M) := by
  have h128 : 2 ^ n ≤ 128 := Nat.pow_le_pow_right (n := 2) (by omega) hn
  have hSl := z1U hS.nd hS.lt
  have htl : (z6p S k).length ≤ S.length := z1U (zcH S k) fun t ht => (z9J hn hS hk ht).2.1
  refine z2m (s := (0 : Int)) (z6p S k).length (fun q => (q : Int)) rfl (by simp only [LFm]; omega) (fun q hq => ?_) ?_
  · have hm := z1z hq
    obtain ⟨q1, q2, q3, q4⟩ := z9J hn hS hk hm
    have hto := zm1 hd hn hS hk hi h h' hm
    have hg := z6g (ziY hS h.hw (z1z q2))
    have hin := zrH hd hn hS (k := k) hi hto (q : Int) (by omega) (by omega) 0
    rw [hg] at hin
    have e1 : atI (z5p d m n S).sets (((z6p S k).getD q 0 : Nat) : Int) = some ((S.getD ((z6p S k).getD q 0) 0 : Nat) : Int) := z4e q2
    have e2 : atI (z5p d m n S).words (i : Int) = some (zeM d m n S i) := z3D hi
    have e3 : atI (z5p d m n S).tiles (i : Int) = some (toI (z6p S i)) := z3D hi
    have e4 : (z5p d m n S).sets.length = S.length := z0W S
    simp only [z2l]
    rw [if_pos (by rw [z0W]; omega), z4e hq, Option.bind_some, if_neg (by omega), e4, if_neg (by omega), e1, Option.bind_some, e2, Option.bind_some, zhj hd hn hS h.hw hs q2, Option.bind_some, e3, Option.bind_some, hin]
    try rfl
  · simp only [z2l]
    rw [if_neg (by rw [z0W]; omega), z3q (by omega)]
    try rfl
end
theorem zl1 (l : List Int) (w0 : l.length ≤ maxLen) (z0 : ∀ x ∈ l, (Lit.int .i64 x).wf = true) : ∃ outs, L 5 [.sl l.length (l.map fun x => .sc (.int .i64 x))] = some (bT true, outs) := by
  obtain ⟨t0, e0, h0⟩ := zqC l
  obtain ⟨m, t1, e1, m1, m2, h1⟩ := zkZ h0
  obtain ⟨d, t2, n, e2, hd, hn, h2⟩ := zr2 h1 m 5 ⟨m1, m2⟩ (by omega)
  have h128 : 2 ^ n ≤ 128 := Nat.pow_le_pow_right (n := 2) (by omega) hn
  have hS := zhW hd
  have hSl := z1U hS.nd hS.lt
  have hb := znw hd hS
  have he := zh8 hd hS
  have hbot : ∀ i k, i < (z6L d m n).length → k < (z6L d m n).length → znq (z6L d m n) k = true → z5N d m n (z6L d m n) i k = true → znq (z6L d m n) i = true := fun i k hi hk hz h => znp hd hn hi hk hz h
  have key : z3Z l = some true := by
    unfold z3Z
    have e2' : z4q t1 (m : Int) 5 = some (d, t2) := e2
    rw [e0, Option.bind_some, e1, Option.bind_some]
    simp only
    rw [e2', Option.bind_some]
    simp only
    rw [ztM hd hn, Option.bind_some]
    generalize z6L d m n = S at *
    rw [if_pos rfl]
    have l1 : (z5p d m n S).sets.length = S.length := z0W S
    have l2 : (z5p d m n S).class_.length = S.length := by simp [z5p, zox]
    have l3 : (z5p d m n S).height.length = S.length := by simp [z5p, zrd]
    have l4 : (z5p d m n S).words.length = S.length := by simp [z5p]
    have l5 : (z5p d m n S).back.length = S.length := by simp [z5p]
    have l6 : (z5p d m n S).tiles.length = S.length := by simp [z5p]
    refine (if_pos (by simp only [l1, l2])).trans ?_
    refine (if_pos (by simp only [l1, l3])).trans ?_
    refine (if_pos (by simp only [l1, l4])).trans ?_
    refine (if_pos (by simp only [l1, l5])).trans ?_
    refine (if_pos (by simp only [l1, l6])).trans ?_
    refine z2m (s := ((0 : Int), ([] : List (Int × Int)))) S.length (fun i => ((i : Int), mpF (z1v (z2A d m n S) i) 0)) rfl (by simp only [LFm]; omega) (fun i hi => ?_) ?_
    · obtain ⟨c1, c2⟩ := zdh he hi
      have hfi : (z1v (z2A d m n S) S.length).getD (z5S (z2A d m n S) S.length i) 0 < S.length := zd8 _ _ _ (z1z c1)
      have hfo : zn4 d m n S i = (z1v (z2A d m n S) S.length).getD (z5S (z2A d m n S) S.length i) 0 := rfl
      rw [← hfo] at c2 hfi
      have hcs := zn3 he hi
      rw [← hfo] at hcs
      generalize hk : zn4 d m n S i = k at *
      have c3 := he.symm _ _ hi hfi c2
      obtain ⟨z1, z2⟩ := zjB hd hn hS hfi hi c2
      obtain ⟨z3, z4⟩ := zjB hd hn hS hi hfi c3
      have hkl := hS.lt _ (z1z hfi)
      have hil := hS.lt _ (z1z hi)
      obtain ⟨a1, a2, a3⟩ := zfz hd hkl z2
      obtain ⟨b1, b2, b3⟩ := zfz hd hil z4
      have ew : z5n (z1E d m n (S.getD k 0)) (S.getD i 0) = zeM d m n S i := by unfold zeM; rw [hk]
      have eb : z5n (z1E d m n (S.getD i 0)) (S.getD k 0) = znK d m n S i := by unfold znK; rw [hk]
      rw [ew] at a1 a2 a3
      rw [eb] at b1 b2 b3
      have ld : Lead d m n (S.getD k 0) (S.getD i 0) (zeM d m n S i).data.toList := ⟨a1, hkl, hil, a3, z1⟩
      have ld' : Lead d m n (S.getD i 0) (S.getD k 0) (znK d m n S i).data.toList := ⟨b1, hil, hkl, b3, z1.symm⟩
      have hh : za0 d m n S i = za0 d m n S k := by
        simp only [z2A, Bool.and_eq_true] at c2
        exact Nat.le_antisymm (zjl hb hbot hi hfi c2.1) (zjl hb hbot hfi hi c2.2)
      have htl := zpm hd hn hS hfi hi ld ld'
      have p1 : ∀ {j}, j < S.length → atI (z5p d m n S).sets ((j : Nat) : Int) = some ((S.getD j 0 : Nat) : Int) := fun h => z4e h
      have p2 : atI (z5p d m n S).class_ (i : Int) = some ((z5S (z2A d m n S) S.length i : Nat) : Int) := z3D hi
      have p3 : ∀ {j}, j < S.length → atI (z5p d m n S).height ((j : Nat) : Int) = some ((za0 d m n S j : Nat) : Int) := fun h => z3D h
      have p4 : atI (z5p d m n S).words (i : Int) = some (zeM d m n S i) := z3D hi
      have p5 : atI (z5p d m n S).back (i : Int) = some (znK d m n S i) := z3D hi
      have p6 : ∀ {j}, j < S.length → atI (z5p d m n S).tiles ((j : Nat) : Int) = some (toI (z6p S j)) := fun h => z3D h
      simp only [z3m]
      rw [if_pos (by omega), p1 hi, Option.bind_some, p2, Option.bind_some]
      rcases hcs with ⟨q1, q2, q3⟩ | ⟨q1, q2, q3⟩
      · have g := zil (z1v (z2A d m n S) i) 0 _ (Nat.zero_le _) (by rw [Nat.zero_add]; exact q1)
        rw [Nat.sub_zero, q2] at g
        rw [g, if_pos (by rfl), Option.getD_some, p1 hfi, Option.bind_some, p4, Option.bind_some, zhj hd hn hS a1 a2 hfi, Option.bind_some, p5, Option.bind_some, zhj hd hn hS b1 b2 hi, Option.bind_some]
        simp only [a3, b3]
        rw [if_pos trivial, if_pos trivial, if_pos trivial, if_pos trivial, p3 hi, Option.bind_some, p3 hfi, Option.bind_some, hh, if_pos rfl, p6 hi, Option.bind_some, p6 hfi, Option.bind_some, z0W, z0W, if_pos (by omega), ziR hd hn hS hfi hi ld a2 ld' _ t2, q3]
      · have g := zmW (z1v (z2A d m n S) i) 0 (z5S (z2A d m n S) S.length i) (by omega)
        have g1 := zmk i (z1v (z2A d m n S) i) 0 (z5S (z2A d m n S) S.length i) (by omega)
        have g2 := zil (z1v (z2A d m n S) i ++ [i]) 0 (z5S (z2A d m n S) S.length i) (Nat.zero_le _) (by simp; omega)
        rw [Nat.sub_zero, q1, List.getD, List.getElem?_append_right (Nat.le_refl _), Nat.sub_self, ← q1] at g2
        have g2 : zd5 ((z5S (z2A d m n S) S.length i : Nat) : Int) (mpF (z1v (z2A d m n S) i ++ [i]) 0) = some ((k : Nat) : Int) := by rw [g2, q2]; rfl
        rw [g, if_neg (by simp), g1, g2, Option.getD_some, p1 hfi, Option.bind_some, p4, Option.bind_some, zhj hd hn hS a1 a2 hfi, Option.bind_some, p5, Option.bind_some, zhj hd hn hS b1 b2 hi, Option.bind_some]
        simp only [a3, b3]
        rw [if_pos trivial, if_pos trivial, if_pos trivial, if_pos trivial, p3 hi, Option.bind_some, p3 hfi, Option.bind_some, hh, if_pos rfl, p6 hi, Option.bind_some, p6 hfi, Option.bind_some, z0W, z0W, if_pos (by omega)]
        refine Eq.trans ?_ ((ziR hd hn hS hfi hi ld a2 ld' (mpF (z1v (z2A d m n S) i ++ [i]) 0) t2).trans (by rw [q3]))
        rw [← g1]
        rfl
    · simp only [z3m]
      rw [if_neg (by omega)]
      rfl
  exact ⟨_, z7s key⟩
end Go.Proofs.Ytbnnipkanechoaa
end
section
namespace Go.Proofs.Ytbnnipkanechoaa
open Go.RowKit
def Arr (w : World) (g n : Nat) (f : Nat → Value) : Prop :=
  ∀ i, i < n → w.cell? ⟨g, i, none⟩ = some (f i) ∧ w.frozen? ⟨g, i, none⟩ = false
theorem Arr.set {w : World} {g n : Nat} {f : Nat → Value} (h : Arr w g n f) (j : Nat) (hj : j < n) (c : Value) :
    Arr (w.setCell ⟨g, j, none⟩ c) g n (fun i => if i = j then c else f i) := by
  intro i hi
  refine ⟨?_, by rw [World.frozen?_setCell]; exact (h i hi).2⟩
  by_cases hij : i = j
  · subst hij
    rw [World.cell?_setCell_same _ _ _ (h i hi).1]; simp
  · rw [World.cell?_setCell_other _ _ _ _ (fun e => hij (by cases e; rfl)), (h i hi).1]; simp [hij]
theorem Arr.setOther {w : World} {g n : Nat} {f : Nat → Value} (h : Arr w g n f) {g' : Nat} (hg : g ≠ g') (j : Nat) (c : Value) : Arr (w.setCell ⟨g', j, none⟩ c) g n f := by
  intro i hi
  refine ⟨?_, by rw [World.frozen?_setCell]; exact (h i hi).2⟩
  rw [World.cell?_setCell_other _ _ _ _ (fun e => hg (by cases e; rfl))]; exact (h i hi).1
theorem Arr.drew {w : World} {g n : Nat} {f : Nat → Value} (h : Arr w g n f) : Arr w.drew g n f := h
theorem Arr.congr {w : World} {g n : Nat} {f f' : Nat → Value} (h : Arr w g n f) (e : ∀ i, i < n → f i = f' i) : Arr w g n f' :=
  fun i hi => by rw [← e i hi]; exact h i hi
theorem Arr.below {w w' : World} {g n B : Nat} {f : Nat → Value} (h : Arr w g n f) (hb : Below B w w') (hg : g < B) : Arr w' g n f :=
  fun i hi => ⟨(hb.cell (p := ⟨g, i, none⟩) hg).trans (h i hi).1, (hb.frozen (p := ⟨g, i, none⟩) hg).trans (h i hi).2⟩
theorem Arr.grown {w w' : World} {g n : Nat} {row : Option Nat} {f : Nat → Value} (h : Arr w g n f) (hb : w.grownBy w' row) (hg : some g ≠ row) : Arr w' g n f :=
  fun i hi => by
    have hlt := World.block_lt_of_cell? w _ (h i hi).1
    have e := hb.block g hlt hg
    exact ⟨(World.cell?_of_block (a := ⟨g, i, none⟩) e).trans (h i hi).1, (World.frozen?_of_block (a := ⟨g, i, none⟩) e).trans (h i hi).2⟩
theorem Arr.made (w : World) (z : Value) (n : Nat) (e : TypeId) : Arr (w.alloc (.cells (madeCells #[z] n) e)) w.heap.size n (fun _ => z) := by
  intro i hi
  refine ⟨?_, by rw [World.frozen?_alloc_new]⟩
  rw [World.cell?_alloc_new]
  simp [madeCells, hi, Nat.mod_one]
theorem Arr.lt {w : World} {g n : Nat} {f : Nat → Value} (h : Arr w g n f) (hn : 0 < n) : g < w.heap.size := World.block_lt_of_cell? w _ (h 0 hn).1
theorem Arr.get {w : World} {g n : Nat} {f : Nat → Value} (h : Arr w g n f) (i : Nat) (hi : i < n) {v : Value} (e : f i = v) : w.cell? ⟨g, i, none⟩ = some v := by rw [(h i hi).1, e]
theorem Arr.free {w : World} {g n : Nat} {f : Nat → Value} (h : Arr w g n f) (i : Nat) (hi : i < n) : w.frozen? ⟨g, i, none⟩ = false := (h i hi).2
end Go.Proofs.Ytbnnipkanechoaa
end
section
namespace Go.Proofs
open Go.Shelf
def Try.lays128_ren : Go.Shelf.Ren := ⟨fun | 128 => 88 | n => n, fun | 51 => 102 | 3 => 3 | 4 => 4 | 46 => 51 | 5 => 5 | 9 => 9 | n => n, fun | n => n⟩
theorem Try.lays128 : Go.Proofs.Lays.n128 Try.prog Try.lays128_ren := {
  mixed := by kernel_rfl
  f128 := Try.func88.trans (congrArg some (by kernel_rfl))
  t3 := Try.underlying3
  a3 := Try.isAgg3
  z3 := Try.sizeOf3
  v3 := Try.zeroValue3
  t4 := Try.underlying4
  a4 := Try.isAgg4
  z4 := Try.sizeOf4
  v4 := Try.zeroValue4
  t5 := Try.underlying5
  a5 := Try.isAgg5
  z5 := Try.sizeOf5
  v5 := Try.zeroValue5
  t9 := Try.underlying9
  a9 := Try.isAgg9
  z9 := Try.sizeOf9
  v9 := Try.zeroValue9
  t46 := Try.underlying51
  a46 := Try.isAgg51
  z46 := Try.sizeOf51
  v46 := Try.zeroValue51
  t51 := Try.underlying102
  a51 := Try.isAgg102
  z51 := Try.sizeOf102
  v51 := Try.zeroValue102 }
theorem Try.bits_Len32 (x : Int) (w : World) (h0 : 0 ≤ x) (h1 : x ≤ 4294967295) :
    Calls Try.prog 88 #[.int .u32 x] w fun e w' => e = .returned (.int .i64 (Lib.bitLen x.toNat)) ∧ w' = w := Any.bits_Len32 Try.lays128 x w h0 h1
def Try.lays125_ren : Go.Shelf.Ren := ⟨fun | 125 => 76 | 128 => 88 | 129 => 89 | n => n, fun | 46 => 51 | 3 => 3 | 51 => 102 | 53 => 104 | 4 => 4 | 5 => 5 | 9 => 9 | n => n, fun | n => n⟩
theorem Try.lays125 : Go.Proofs.Lays.n125 Try.prog Try.lays125_ren := {
  mixed := by kernel_rfl
  f125 := Try.func76.trans (congrArg some (by kernel_rfl))
  f128 := Try.func88.trans (congrArg some (by kernel_rfl))
  f129 := Try.func89.trans (congrArg some (by kernel_rfl))
  t3 := Try.underlying3
  a3 := Try.isAgg3
  z3 := Try.sizeOf3
  v3 := Try.zeroValue3
  t4 := Try.underlying4
  a4 := Try.isAgg4
  z4 := Try.sizeOf4
  v4 := Try.zeroValue4
  t5 := Try.underlying5
  a5 := Try.isAgg5
  z5 := Try.sizeOf5
  v5 := Try.zeroValue5
  t9 := Try.underlying9
  a9 := Try.isAgg9
  z9 := Try.sizeOf9
  v9 := Try.zeroValue9
  t46 := Try.underlying51
  a46 := Try.isAgg51
  z46 := Try.sizeOf51
  v46 := Try.zeroValue51
  t51 := Try.underlying102
  a51 := Try.isAgg102
  z51 := Try.sizeOf102
  v51 := Try.zeroValue102
  t53 := Try.underlying104
  a53 := Try.isAgg104
  z53 := Try.sizeOf104
  v53 := Try.zeroValue104 }
theorem Try.bits_Len (x : Int) (w : World) (h0 : 0 ≤ x) (h1 : x ≤ 18446744073709551615) :
    Calls Try.prog 76 #[.int .u64 x] w fun e w' => e = .returned (.int .i64 (Lib.bitLen x.toNat)) ∧ w' = w := Any.bits_Len Try.lays125 x w h0 h1
def Try.lays129_ren : Go.Shelf.Ren := ⟨fun | 129 => 89 | n => n, fun | 53 => 104 | 3 => 3 | 4 => 4 | 46 => 51 | 5 => 5 | 9 => 9 | n => n, fun | n => n⟩
theorem Try.lays129 : Go.Proofs.Lays.n129 Try.prog Try.lays129_ren := {
  mixed := by kernel_rfl
  f129 := Try.func89.trans (congrArg some (by kernel_rfl))
  t3 := Try.underlying3
  a3 := Try.isAgg3
  z3 := Try.sizeOf3
  v3 := Try.zeroValue3
  t4 := Try.underlying4
  a4 := Try.isAgg4
  z4 := Try.sizeOf4
  v4 := Try.zeroValue4
  t5 := Try.underlying5
  a5 := Try.isAgg5
  z5 := Try.sizeOf5
  v5 := Try.zeroValue5
  t9 := Try.underlying9
  a9 := Try.isAgg9
  z9 := Try.sizeOf9
  v9 := Try.zeroValue9
  t46 := Try.underlying51
  a46 := Try.isAgg51
  z46 := Try.sizeOf51
  v46 := Try.zeroValue51
  t53 := Try.underlying104
  a53 := Try.isAgg104
  z53 := Try.sizeOf104
  v53 := Try.zeroValue104 }
theorem Try.bits_Len64 (x : Int) (w : World) (h0 : 0 ≤ x) (h1 : x ≤ 18446744073709551615) :
    Calls Try.prog 89 #[.int .u64 x] w fun e w' => e = .returned (.int .i64 (Lib.bitLen x.toNat)) ∧ w' = w := Any.bits_Len64 Try.lays129 x w h0 h1
def Try.laysNm237_ren : Go.Shelf.Ren := ⟨fun | 37 => 77 | n => n, fun | 3 => 3 | 4 => 4 | n => n, fun | n => n⟩
theorem Try.laysNm237 : Go.Proofs.Lays2.n37 Try.prog Try.laysNm237_ren := {
  mixed := by kernel_rfl
  f37 := Try.func77.trans (congrArg some (by kernel_rfl))
  t3 := Try.underlying3
  a3 := Try.isAgg3
  z3 := Try.sizeOf3
  v3 := Try.zeroValue3
  t4 := Try.underlying4
  a4 := Try.isAgg4
  z4 := Try.sizeOf4
  v4 := Try.zeroValue4 }
open Go.RowKit Go.Lib in
theorem Try.cmp_isNaN_int2 (x : Int) (w : World) :
    Calls Try.prog 77 #[.int .i64 x] w fun e w' => e = .returned (.bool false) ∧ w' = w := Any.cmp_isNaN_int2 Try.laysNm237 x w
def Try.laysSlC27_f77_ren : Go.Shelf.Ren := ⟨fun | 7 => 77 | n => n, fun | 22 => 3 | 4 => 4 | n => n, fun | n => n⟩
theorem Try.laysSlC27_f77 : Go.Proofs.SlLaysC2.n7 Try.prog Try.laysSlC27_f77_ren := {
  mixed := by kernel_rfl
  f7 := ⟨Try.f77.name, by decide, Try.func77.trans (congrArg some (by kernel_rfl))⟩
  t4 := Try.underlying4
  a4 := Try.isAgg4
  z4 := Try.sizeOf4
  v4 := Try.zeroValue4
  t22 := Try.underlying3
  a22 := Try.isAgg3
  z22 := Try.sizeOf3
  v22 := Try.zeroValue3 }
open Go.Lib in
theorem Try.cmp_isNaN_int (x : Int) (w : World) :
    Calls Try.prog 77 #[.int .i64 x] w fun e w' => e = .returned (.bool false) ∧ w' = w := AnyG.cmp_isNaN_int Try.laysSlC27_f77 x w
def Try.laysSlC25_f67_ren : Go.Shelf.Ren := ⟨fun | 5 => 67 | 7 => 77 | n => n, fun | 22 => 3 | 3 => 3 | 4 => 4 | n => n, fun | n => n⟩
theorem Try.laysSlC25_f67 : Go.Proofs.SlLaysC2.n5 Try.prog Try.laysSlC25_f67_ren := {
  mixed := by kernel_rfl
  f5 := ⟨Try.f67.name, by decide, Try.func67.trans (congrArg some (by kernel_rfl))⟩
  f7 := ⟨Try.f77.name, by decide, Try.func77.trans (congrArg some (by kernel_rfl))⟩
  t3 := Try.underlying3
  a3 := Try.isAgg3
  z3 := Try.sizeOf3
  v3 := Try.zeroValue3
  t4 := Try.underlying4
  a4 := Try.isAgg4
  z4 := Try.sizeOf4
  v4 := Try.zeroValue4
  t22 := Try.underlying3
  a22 := Try.isAgg3
  z22 := Try.sizeOf3
  v22 := Try.zeroValue3 }
open Go.Lib in
theorem Try.cmp_Compare_int (x y : Int) (w : World) :
    Calls Try.prog 67 #[.int .i64 x, .int .i64 y] w fun e w' => e = .returned (.int .i64 (Lib.compareInt x y)) ∧ w' = w := AnyG.cmp_Compare_int Try.laysSlC25_f67 x y w
def Try.laysSlF20_f80_ren : Go.Shelf.Ren := ⟨fun | 20 => 80 | n => n, fun | 24 => 3 | 22 => 22 | 3 => 3 | 25 => 46 | 4 => 4 | 0 => 0 | n => n, fun | n => n⟩
theorem Try.laysSlF20_f80 : Go.Proofs.SlLaysF.n20 Try.prog Try.laysSlF20_f80_ren := {
  mixed := by kernel_rfl
  f20 := ⟨Try.f80.name, by decide, Try.func80.trans (congrArg some (by kernel_rfl))⟩
  t0 := Try.underlying0
  a0 := Try.isAgg0
  z0 := Try.sizeOf0
  v0 := Try.zeroValue0
  t3 := Try.underlying3
  a3 := Try.isAgg3
  z3 := Try.sizeOf3
  v3 := Try.zeroValue3
  t4 := Try.underlying4
  a4 := Try.isAgg4
  z4 := Try.sizeOf4
  v4 := Try.zeroValue4
  t22 := Try.underlying22
  a22 := Try.isAgg22
  z22 := Try.sizeOf22
  v22 := Try.zeroValue22
  a24 := Try.isAgg3
  z24 := Try.sizeOf3
  t25 := Try.underlying46
  a25 := Try.isAgg46
  z25 := Try.sizeOf46
  v25 := Try.zeroValue46 }
open Go.RowKit Go.Lib Go.Sort in
theorem Try.insertionSortCmpFunc_one {α : Type} [Inhabited α] (enc : α → Value) (hO : OneCell enc) (cf : α → α → Int) (g : Nat) (cb : Array Value) (blk off cap a b : Nat) (d : Array α) (w : World) (eg : ∀ args w, (callFunc g args).run Try.prog w = .ok (.enter g args) w) (hcmp : CmpReads Try.prog g cb enc cf blk off d.size w) (hH : Holds enc w blk off d) (hab : a ≤ b) (hb : b ≤ d.size) (hsz : d.size < 4611686018427387904) :
    Calls Try.prog 80 #[.slice (some ⟨blk, off, none⟩) d.size cap, .int .i64 a, .int .i64 b, .func (.func g) #[] cb] w fun e w' =>
      e = .returned (.tuple #[]) ∧ ∃ n, w' = (putRow enc w blk off (Sort.insertionSort (ltOf cf) d a b)).drewN n := Any.insertionSortCmpFunc_one Try.laysSlF20_f80 enc hO cf g cb blk off cap a b d w eg hcmp hH hab hb hsz
def Try.laysSlF46_f93_ren : Go.Shelf.Ren := ⟨fun | 46 => 93 | n => n, fun | 24 => 3 | 22 => 22 | 3 => 3 | 25 => 46 | 4 => 4 | 0 => 0 | n => n, fun | n => n⟩
theorem Try.laysSlF46_f93 : Go.Proofs.SlLaysF.n46 Try.prog Try.laysSlF46_f93_ren := {
  mixed := by kernel_rfl
  f46 := ⟨Try.f93.name, by decide, Try.func93.trans (congrArg some (by kernel_rfl))⟩
  t0 := Try.underlying0
  a0 := Try.isAgg0
  z0 := Try.sizeOf0
  v0 := Try.zeroValue0
  t3 := Try.underlying3
  a3 := Try.isAgg3
  z3 := Try.sizeOf3
  v3 := Try.zeroValue3
  t4 := Try.underlying4
  a4 := Try.isAgg4
  z4 := Try.sizeOf4
  v4 := Try.zeroValue4
  t22 := Try.underlying22
  a22 := Try.isAgg22
  z22 := Try.sizeOf22
  v22 := Try.zeroValue22
  a24 := Try.isAgg3
  z24 := Try.sizeOf3
  t25 := Try.underlying46
  a25 := Try.isAgg46
  z25 := Try.sizeOf46
  v25 := Try.zeroValue46 }
open Go.RowKit Go.Lib Go.Sort in
theorem Try.siftDownCmpFunc {α : Type} [Inhabited α] (enc : α → Value) (cf : α → α → Int) (g : Nat) (cb : Array Value) (blk off cap lo hi first : Nat) (d0 d : Array α) (w0 w : World) (eg : ∀ args w, (callFunc g args).run Try.prog w = .ok (.enter g args) w) (hcmp : CmpLays1 Try.prog g cb enc cf blk off d0.size w0) (R : Row1 enc w0 blk off d0) (hs : d0.size = d.size) (S : SW enc w0 blk off d w) (hlo : lo ≤ hi) (hb : first + hi ≤ d.size) (hsz : d.size < 4611686018427387904) :
    Calls Try.prog 93 #[.slice (some ⟨blk, off, none⟩) d.size cap, .int .i64 lo, .int .i64 hi, .int .i64 first, .func (.func g) #[] cb] w fun e w' =>
      e = .returned (.tuple #[]) ∧ SW enc w0 blk off (siftDown (ltOf cf) hi first lo d) w' := Any.siftDownCmpFunc Try.laysSlF46_f93 enc cf g cb blk off cap lo hi first d0 d w0 w eg hcmp R hs S hlo hb hsz
def Try.laysSlF21_f81_ren : Go.Shelf.Ren := ⟨fun | 21 => 81 | 46 => 93 | n => n, fun | 24 => 3 | 22 => 22 | 3 => 3 | 25 => 46 | 4 => 4 | 0 => 0 | n => n, fun | n => n⟩
theorem Try.laysSlF21_f81 : Go.Proofs.SlLaysF.n21 Try.prog Try.laysSlF21_f81_ren := {
  mixed := by kernel_rfl
  f21 := ⟨Try.f81.name, by decide, Try.func81.trans (congrArg some (by kernel_rfl))⟩
  f46 := ⟨Try.f93.name, by decide, Try.func93.trans (congrArg some (by kernel_rfl))⟩
  t0 := Try.underlying0
  a0 := Try.isAgg0
  z0 := Try.sizeOf0
  v0 := Try.zeroValue0
  t3 := Try.underlying3
  a3 := Try.isAgg3
  z3 := Try.sizeOf3
  v3 := Try.zeroValue3
  t4 := Try.underlying4
  a4 := Try.isAgg4
  z4 := Try.sizeOf4
  v4 := Try.zeroValue4
  t22 := Try.underlying22
  a22 := Try.isAgg22
  z22 := Try.sizeOf22
  v22 := Try.zeroValue22
  a24 := Try.isAgg3
  z24 := Try.sizeOf3
  t25 := Try.underlying46
  a25 := Try.isAgg46
  z25 := Try.sizeOf46
  v25 := Try.zeroValue46 }
open Go.RowKit Go.Lib Go.Sort in
theorem Try.heapSortCmpFunc {α : Type} [Inhabited α] (enc : α → Value) (cf : α → α → Int) (g : Nat) (cb : Array Value) (blk off cap a b : Nat) (d0 d : Array α) (w0 w : World) (eg : ∀ args w, (callFunc g args).run Try.prog w = .ok (.enter g args) w) (hcmp : CmpLays1 Try.prog g cb enc cf blk off d0.size w0) (R : Row1 enc w0 blk off d0) (hs : d0.size = d.size) (S : SW enc w0 blk off d w) (hab : a ≤ b) (hb : b ≤ d.size) (hsz : d.size < 4611686018427387904) :
    Calls Try.prog 81 #[.slice (some ⟨blk, off, none⟩) d.size cap, .int .i64 a, .int .i64 b, .func (.func g) #[] cb] w fun e w' =>
      e = .returned (.tuple #[]) ∧ SW enc w0 blk off (heapSort (ltOf cf) d a b) w' := Any.heapSortCmpFunc Try.laysSlF21_f81 enc cf g cb blk off cap a b d0 d w0 w eg hcmp R hs S hab hb hsz
open Go.RowKit Go.Lib Go.Sort in
theorem Try.insertionSortCmpFunc_s {α : Type} [Inhabited α] (enc : α → Value) (cf : α → α → Int) (g : Nat) (cb : Array Value) (blk off cap a b : Nat) (d0 d : Array α) (w0 w : World) (eg : ∀ args w, (callFunc g args).run Try.prog w = .ok (.enter g args) w) (hcmp : CmpLays1 Try.prog g cb enc cf blk off d0.size w0) (R : Row1 enc w0 blk off d0) (hs : d0.size = d.size) (S : SW enc w0 blk off d w) (hab : a ≤ b) (hb : b ≤ d.size) (hsz : d.size < 4611686018427387904) :
    Calls Try.prog 80 #[.slice (some ⟨blk, off, none⟩) d.size cap, .int .i64 a, .int .i64 b, .func (.func g) #[] cb] w fun e w' => e = .returned (.tuple #[]) ∧ SW enc w0 blk off (Sort.insertionSort (ltOf cf) d a b) w' := Any.insertionSortCmpFunc_s Try.laysSlF20_f80 enc cf g cb blk off cap a b d0 d w0 w eg hcmp R hs S hab hb hsz
def Try.laysSlF57_f99_ren : Go.Shelf.Ren := ⟨fun | 57 => 99 | n => n, fun | 24 => 3 | 22 => 22 | 3 => 3 | 70 => 109 | 25 => 46 | 0 => 0 | 4 => 4 | n => n, fun | n => n⟩
theorem Try.laysSlF57_f99 : Go.Proofs.SlLaysF.n57 Try.prog Try.laysSlF57_f99_ren := {
  mixed := by kernel_rfl
  f57 := ⟨Try.f99.name, by decide, Try.func99.trans (congrArg some (by kernel_rfl))⟩
  t0 := Try.underlying0
  a0 := Try.isAgg0
  z0 := Try.sizeOf0
  v0 := Try.zeroValue0
  t3 := Try.underlying3
  a3 := Try.isAgg3
  z3 := Try.sizeOf3
  v3 := Try.zeroValue3
  t4 := Try.underlying4
  a4 := Try.isAgg4
  z4 := Try.sizeOf4
  v4 := Try.zeroValue4
  t22 := Try.underlying22
  a22 := Try.isAgg22
  z22 := Try.sizeOf22
  v22 := Try.zeroValue22
  a24 := Try.isAgg3
  z24 := Try.sizeOf3
  t25 := Try.underlying46
  a25 := Try.isAgg46
  z25 := Try.sizeOf46
  v25 := Try.zeroValue46
  t70 := Try.underlying109
  a70 := Try.isAgg109
  z70 := Try.sizeOf109
  v70 := Try.zeroValue109 }
open Go.RowKit Go.Lib Go.Sort in
theorem Try.order2CmpFunc {α : Type} [Inhabited α] (enc : α → Value) (cf : α → α → Int) (g : Nat) (cb : Array Value) (blk off cap a b c s : Nat) (d0 d : Array α) (w0 W : World) (eg : ∀ args w, (callFunc g args).run Try.prog w = .ok (.enter g args) w) (hcmp : CmpLays1 Try.prog g cb enc cf blk off d0.size w0) (R : Row1 enc w0 blk off d0) (hs : d0.size = d.size) (C : Cnt1 enc w0 blk off d c s W) (ha : a < d.size) (hb : b < d.size) (hsz : d.size < 4611686018427387904) (hss : s < 4611686018427387904) :
    Calls Try.prog 99 #[.slice (some ⟨blk, off, none⟩) d.size cap, .int .i64 a, .int .i64 b, .pointer (some ⟨c, 0, none⟩), .func (.func g) #[] cb] W fun e w' =>
      e = .returned (.tuple #[.int .i64 (order2 (ltOf cf) d a b s).1, .int .i64 (order2 (ltOf cf) d a b s).2.1]) ∧ Cnt1 enc w0 blk off d c (order2 (ltOf cf) d a b s).2.2 w' := Any.order2CmpFunc Try.laysSlF57_f99 enc cf g cb blk off cap a b c s d0 d w0 W eg hcmp R hs C ha hb hsz hss
def Try.laysSlF50_f97_ren : Go.Shelf.Ren := ⟨fun | 50 => 97 | 57 => 99 | n => n, fun | 24 => 3 | 22 => 22 | 3 => 3 | 70 => 109 | 25 => 46 | 77 => 112 | 0 => 0 | 4 => 4 | n => n, fun | n => n⟩
theorem Try.laysSlF50_f97 : Go.Proofs.SlLaysF.n50 Try.prog Try.laysSlF50_f97_ren := {
  mixed := by kernel_rfl
  f50 := ⟨Try.f97.name, by decide, Try.func97.trans (congrArg some (by kernel_rfl))⟩
  f57 := ⟨Try.f99.name, by decide, Try.func99.trans (congrArg some (by kernel_rfl))⟩
  t0 := Try.underlying0
  a0 := Try.isAgg0
  z0 := Try.sizeOf0
  v0 := Try.zeroValue0
  t3 := Try.underlying3
  a3 := Try.isAgg3
  z3 := Try.sizeOf3
  v3 := Try.zeroValue3
  t4 := Try.underlying4
  a4 := Try.isAgg4
  z4 := Try.sizeOf4
  v4 := Try.zeroValue4
  t22 := Try.underlying22
  a22 := Try.isAgg22
  z22 := Try.sizeOf22
  v22 := Try.zeroValue22
  a24 := Try.isAgg3
  z24 := Try.sizeOf3
  t25 := Try.underlying46
  a25 := Try.isAgg46
  z25 := Try.sizeOf46
  v25 := Try.zeroValue46
  t70 := Try.underlying109
  a70 := Try.isAgg109
  z70 := Try.sizeOf109
  v70 := Try.zeroValue109
  t77 := Try.underlying112
  a77 := Try.isAgg112
  z77 := Try.sizeOf112
  v77 := Try.zeroValue112 }
open Go.RowKit Go.Lib Go.Sort in
theorem Try.medianCmpFunc {α : Type} [Inhabited α] (enc : α → Value) (cf : α → α → Int) (g : Nat) (cb : Array Value) (blk off cap a b c' c s : Nat) (d0 d : Array α) (w0 W : World) (eg : ∀ args w, (callFunc g args).run Try.prog w = .ok (.enter g args) w) (hcmp : CmpLays1 Try.prog g cb enc cf blk off d0.size w0) (R : Row1 enc w0 blk off d0) (hs : d0.size = d.size) (C : Cnt1 enc w0 blk off d c s W) (ha : a < d.size) (hb : b < d.size) (hc : c' < d.size) (hsz : d.size < 4611686018427387904) (hss : s + 3 < 4611686018427387904) :
    Calls Try.prog 97 #[.slice (some ⟨blk, off, none⟩) d.size cap, .int .i64 a, .int .i64 b, .int .i64 c', .pointer (some ⟨c, 0, none⟩), .func (.func g) #[] cb] W fun e w' =>
      e = .returned (.int .i64 (median (ltOf cf) d a b c' s).1) ∧ Cnt1 enc w0 blk off d c (median (ltOf cf) d a b c' s).2 w' := Any.medianCmpFunc Try.laysSlF50_f97 enc cf g cb blk off cap a b c' c s d0 d w0 W eg hcmp R hs C ha hb hc hsz hss
def Try.laysSlF49_f96_ren : Go.Shelf.Ren := ⟨fun | 49 => 96 | 50 => 97 | 57 => 99 | n => n, fun | 24 => 3 | 22 => 22 | 3 => 3 | 70 => 109 | 25 => 46 | 77 => 112 | 0 => 0 | 4 => 4 | n => n, fun | n => n⟩
theorem Try.laysSlF49_f96 : Go.Proofs.SlLaysF.n49 Try.prog Try.laysSlF49_f96_ren := {
  mixed := by kernel_rfl
  f49 := ⟨Try.f96.name, by decide, Try.func96.trans (congrArg some (by kernel_rfl))⟩
  f50 := ⟨Try.f97.name, by decide, Try.func97.trans (congrArg some (by kernel_rfl))⟩
  f57 := ⟨Try.f99.name, by decide, Try.func99.trans (congrArg some (by kernel_rfl))⟩
  t0 := Try.underlying0
  a0 := Try.isAgg0
  z0 := Try.sizeOf0
  v0 := Try.zeroValue0
  t3 := Try.underlying3
  a3 := Try.isAgg3
  z3 := Try.sizeOf3
  v3 := Try.zeroValue3
  t4 := Try.underlying4
  a4 := Try.isAgg4
  z4 := Try.sizeOf4
  v4 := Try.zeroValue4
  t22 := Try.underlying22
  a22 := Try.isAgg22
  z22 := Try.sizeOf22
  v22 := Try.zeroValue22
  a24 := Try.isAgg3
  z24 := Try.sizeOf3
  t25 := Try.underlying46
  a25 := Try.isAgg46
  z25 := Try.sizeOf46
  v25 := Try.zeroValue46
  t70 := Try.underlying109
  a70 := Try.isAgg109
  z70 := Try.sizeOf109
  v70 := Try.zeroValue109
  t77 := Try.underlying112
  a77 := Try.isAgg112
  z77 := Try.sizeOf112
  v77 := Try.zeroValue112 }
open Go.RowKit Go.Lib Go.Sort in
theorem Try.medianAdjacentCmpFunc {α : Type} [Inhabited α] (enc : α → Value) (cf : α → α → Int) (g : Nat) (cb : Array Value) (blk off cap a c s : Nat) (d0 d : Array α) (w0 W : World) (eg : ∀ args w, (callFunc g args).run Try.prog w = .ok (.enter g args) w) (hcmp : CmpLays1 Try.prog g cb enc cf blk off d0.size w0) (R : Row1 enc w0 blk off d0) (hs : d0.size = d.size) (C : Cnt1 enc w0 blk off d c s W) (ha1 : 1 ≤ a) (ha2 : a + 1 < d.size) (hsz : d.size < 4611686018427387904) (hss : s + 3 < 4611686018427387904) :
    Calls Try.prog 96 #[.slice (some ⟨blk, off, none⟩) d.size cap, .int .i64 a, .pointer (some ⟨c, 0, none⟩), .func (.func g) #[] cb] W fun e w' =>
      e = .returned (.int .i64 (medianAdjacent (ltOf cf) d a s).1) ∧ Cnt1 enc w0 blk off d c (medianAdjacent (ltOf cf) d a s).2 w' := Any.medianAdjacentCmpFunc Try.laysSlF49_f96 enc cf g cb blk off cap a c s d0 d w0 W eg hcmp R hs C ha1 ha2 hsz hss
def Try.laysSlF23_f83_ren : Go.Shelf.Ren := ⟨fun | 23 => 83 | 49 => 96 | 50 => 97 | 57 => 99 | n => n, fun | 24 => 3 | 22 => 22 | 3 => 3 | 25 => 46 | 45 => 95 | 0 => 0 | 4 => 4 | 70 => 109 | 77 => 112 | n => n, fun | n => n⟩
theorem Try.laysSlF23_f83 : Go.Proofs.SlLaysF.n23 Try.prog Try.laysSlF23_f83_ren := {
  mixed := by kernel_rfl
  f23 := ⟨Try.f83.name, by decide, Try.func83.trans (congrArg some (by kernel_rfl))⟩
  f49 := ⟨Try.f96.name, by decide, Try.func96.trans (congrArg some (by kernel_rfl))⟩
  f50 := ⟨Try.f97.name, by decide, Try.func97.trans (congrArg some (by kernel_rfl))⟩
  f57 := ⟨Try.f99.name, by decide, Try.func99.trans (congrArg some (by kernel_rfl))⟩
  t0 := Try.underlying0
  a0 := Try.isAgg0
  z0 := Try.sizeOf0
  v0 := Try.zeroValue0
  t3 := Try.underlying3
  a3 := Try.isAgg3
  z3 := Try.sizeOf3
  v3 := Try.zeroValue3
  t4 := Try.underlying4
  a4 := Try.isAgg4
  z4 := Try.sizeOf4
  v4 := Try.zeroValue4
  t22 := Try.underlying22
  a22 := Try.isAgg22
  z22 := Try.sizeOf22
  v22 := Try.zeroValue22
  a24 := Try.isAgg3
  z24 := Try.sizeOf3
  t25 := Try.underlying46
  a25 := Try.isAgg46
  z25 := Try.sizeOf46
  v25 := Try.zeroValue46
  t45 := Try.underlying95
  a45 := Try.isAgg95
  z45 := Try.sizeOf95
  v45 := Try.zeroValue95
  t70 := Try.underlying109
  a70 := Try.isAgg109
  z70 := Try.sizeOf109
  v70 := Try.zeroValue109
  t77 := Try.underlying112
  a77 := Try.isAgg112
  z77 := Try.sizeOf112
  v77 := Try.zeroValue112 }
open Go.RowKit Go.Lib Go.Sort in
theorem Try.choosePivotCmpFunc {α : Type} [Inhabited α] (enc : α → Value) (cf : α → α → Int) (g : Nat) (cb : Array Value) (blk off cap a b : Nat) (d0 d : Array α) (w0 W : World) (eg : ∀ args w, (callFunc g args).run Try.prog w = .ok (.enter g args) w) (hcmp : CmpLays1 Try.prog g cb enc cf blk off d0.size w0) (R : Row1 enc w0 blk off d0) (hs : d0.size = d.size) (S : SW enc w0 blk off d W) (hab : a < b) (hb : b ≤ d.size) (hsz : d.size < 4611686018427387904) :
    Calls Try.prog 83 #[.slice (some ⟨blk, off, none⟩) d.size cap, .int .i64 a, .int .i64 b, .func (.func g) #[] cb] W fun e w' =>
      e = .returned (.tuple #[.int .i64 (choosePivot (ltOf cf) d a b).1, .int .i64 (hintCode (choosePivot (ltOf cf) d a b).2)]) ∧ SW enc w0 blk off d w' := Any.choosePivotCmpFunc Try.laysSlF23_f83 enc cf g cb blk off cap a b d0 d w0 W eg hcmp R hs S hab hb hsz
def Try.laysSlF24_f84_ren : Go.Shelf.Ren := ⟨fun | 24 => 84 | n => n, fun | 24 => 3 | 22 => 22 | 3 => 3 | 25 => 46 | 4 => 4 | 0 => 0 | n => n, fun | n => n⟩
theorem Try.laysSlF24_f84 : Go.Proofs.SlLaysF.n24 Try.prog Try.laysSlF24_f84_ren := {
  mixed := by kernel_rfl
  f24 := ⟨Try.f84.name, by decide, Try.func84.trans (congrArg some (by kernel_rfl))⟩
  t0 := Try.underlying0
  a0 := Try.isAgg0
  z0 := Try.sizeOf0
  v0 := Try.zeroValue0
  t3 := Try.underlying3
  a3 := Try.isAgg3
  z3 := Try.sizeOf3
  v3 := Try.zeroValue3
  t4 := Try.underlying4
  a4 := Try.isAgg4
  z4 := Try.sizeOf4
  v4 := Try.zeroValue4
  t22 := Try.underlying22
  a22 := Try.isAgg22
  z22 := Try.sizeOf22
  v22 := Try.zeroValue22
  a24 := Try.isAgg3
  z24 := Try.sizeOf3
  t25 := Try.underlying46
  a25 := Try.isAgg46
  z25 := Try.sizeOf46
  v25 := Try.zeroValue46 }
open Go.RowKit Go.Lib Go.Sort in
theorem Try.reverseRangeCmpFunc {α : Type} [Inhabited α] (enc : α → Value) (g : Nat) (cb : Array Value) (blk off cap a b : Nat) (d0 d : Array α) (w0 w : World) (R : Row1 enc w0 blk off d0) (hs : d0.size = d.size) (S : SW enc w0 blk off d w) (hab : a ≤ b) (hb : b ≤ d.size) (hsz : d.size < 4611686018427387904) :
    Calls Try.prog 84 #[.slice (some ⟨blk, off, none⟩) d.size cap, .int .i64 a, .int .i64 b, .func (.func g) #[] cb] w fun e w' => e = .returned (.tuple #[]) ∧ SW enc w0 blk off (reverseRange d a b) w' := Any.reverseRangeCmpFunc Try.laysSlF24_f84 enc g cb blk off cap a b d0 d w0 w R hs S hab hb hsz
def Try.laysSlF25_f85_ren : Go.Shelf.Ren := ⟨fun | 25 => 85 | n => n, fun | 24 => 3 | 22 => 22 | 3 => 3 | 25 => 46 | 4 => 4 | 0 => 0 | n => n, fun | n => n⟩
theorem Try.laysSlF25_f85 : Go.Proofs.SlLaysF.n25 Try.prog Try.laysSlF25_f85_ren := {
  mixed := by kernel_rfl
  f25 := ⟨Try.f85.name, by decide, Try.func85.trans (congrArg some (by kernel_rfl))⟩
  t0 := Try.underlying0
  a0 := Try.isAgg0
  z0 := Try.sizeOf0
  v0 := Try.zeroValue0
  t3 := Try.underlying3
  a3 := Try.isAgg3
  z3 := Try.sizeOf3
  v3 := Try.zeroValue3
  t4 := Try.underlying4
  a4 := Try.isAgg4
  z4 := Try.sizeOf4
  v4 := Try.zeroValue4
  t22 := Try.underlying22
  a22 := Try.isAgg22
  z22 := Try.sizeOf22
  v22 := Try.zeroValue22
  a24 := Try.isAgg3
  z24 := Try.sizeOf3
  t25 := Try.underlying46
  a25 := Try.isAgg46
  z25 := Try.sizeOf46
  v25 := Try.zeroValue46 }
open Go.RowKit Go.Lib Go.Sort in
theorem Try.partialInsertionSortCmpFunc {α : Type} [Inhabited α] (enc : α → Value) (cf : α → α → Int) (g : Nat) (cb : Array Value) (blk off cap a b : Nat) (d0 d : Array α) (w0 w : World) (eg : ∀ args w, (callFunc g args).run Try.prog w = .ok (.enter g args) w) (hcmp : CmpLays1 Try.prog g cb enc cf blk off d0.size w0) (R : Row1 enc w0 blk off d0) (hs : d0.size = d.size) (S : SW enc w0 blk off d w) (hab : a < b) (hb : b ≤ d.size) (hsz : d.size < 4611686018427387904) :
    Calls Try.prog 85 #[.slice (some ⟨blk, off, none⟩) d.size cap, .int .i64 a, .int .i64 b, .func (.func g) #[] cb] w fun e w' =>
      e = .returned (.bool (Sort.partialInsertionSort (ltOf cf) d a b).2) ∧ SW enc w0 blk off (Sort.partialInsertionSort (ltOf cf) d a b).1 w' := Any.partialInsertionSortCmpFunc Try.laysSlF25_f85 enc cf g cb blk off cap a b d0 d w0 w eg hcmp R hs S hab hb hsz
def Try.laysSlF26_f86_ren : Go.Shelf.Ren := ⟨fun | 26 => 86 | n => n, fun | 24 => 3 | 22 => 22 | 3 => 3 | 25 => 46 | 0 => 0 | 4 => 4 | n => n, fun | n => n⟩
theorem Try.laysSlF26_f86 : Go.Proofs.SlLaysF.n26 Try.prog Try.laysSlF26_f86_ren := {
  mixed := by kernel_rfl
  f26 := ⟨Try.f86.name, by decide, Try.func86.trans (congrArg some (by kernel_rfl))⟩
  t0 := Try.underlying0
  a0 := Try.isAgg0
  z0 := Try.sizeOf0
  v0 := Try.zeroValue0
  t3 := Try.underlying3
  a3 := Try.isAgg3
  z3 := Try.sizeOf3
  v3 := Try.zeroValue3
  t4 := Try.underlying4
  a4 := Try.isAgg4
  z4 := Try.sizeOf4
  v4 := Try.zeroValue4
  t22 := Try.underlying22
  a22 := Try.isAgg22
  z22 := Try.sizeOf22
  v22 := Try.zeroValue22
  a24 := Try.isAgg3
  z24 := Try.sizeOf3
  t25 := Try.underlying46
  a25 := Try.isAgg46
  z25 := Try.sizeOf46
  v25 := Try.zeroValue46 }
open Go.RowKit Go.Lib Go.Sort in
theorem Try.partitionEqualCmpFunc {α : Type} [Inhabited α] (enc : α → Value) (cf : α → α → Int) (g : Nat) (cb : Array Value) (blk off cap a b pivot : Nat) (d0 d : Array α) (w0 w : World) (eg : ∀ args w, (callFunc g args).run Try.prog w = .ok (.enter g args) w) (hcmp : CmpLays1 Try.prog g cb enc cf blk off d0.size w0) (R : Row1 enc w0 blk off d0) (hs : d0.size = d.size) (S : SW enc w0 blk off d w) (hap : a ≤ pivot) (hpb : pivot < b) (hb : b ≤ d.size) (hsz : d.size < 4611686018427387904) :
    Calls Try.prog 86 #[.slice (some ⟨blk, off, none⟩) d.size cap, .int .i64 a, .int .i64 b, .int .i64 pivot, .func (.func g) #[] cb] w fun e w' =>
      e = .returned (.int .i64 (Sort.partitionEqual (ltOf cf) d a b pivot).1) ∧ SW enc w0 blk off (Sort.partitionEqual (ltOf cf) d a b pivot).2 w' := Any.partitionEqualCmpFunc Try.laysSlF26_f86 enc cf g cb blk off cap a b pivot d0 d w0 w eg hcmp R hs S hap hpb hb hsz
def Try.laysSlF27_f87_ren : Go.Shelf.Ren := ⟨fun | 27 => 87 | n => n, fun | 24 => 3 | 22 => 22 | 3 => 3 | 25 => 46 | 4 => 4 | 0 => 0 | n => n, fun | n => n⟩
theorem Try.laysSlF27_f87 : Go.Proofs.SlLaysF.n27 Try.prog Try.laysSlF27_f87_ren := {
  mixed := by kernel_rfl
  f27 := ⟨Try.f87.name, by decide, Try.func87.trans (congrArg some (by kernel_rfl))⟩
  t0 := Try.underlying0
  a0 := Try.isAgg0
  z0 := Try.sizeOf0
  v0 := Try.zeroValue0
  t3 := Try.underlying3
  a3 := Try.isAgg3
  z3 := Try.sizeOf3
  v3 := Try.zeroValue3
  t4 := Try.underlying4
  a4 := Try.isAgg4
  z4 := Try.sizeOf4
  v4 := Try.zeroValue4
  t22 := Try.underlying22
  a22 := Try.isAgg22
  z22 := Try.sizeOf22
  v22 := Try.zeroValue22
  a24 := Try.isAgg3
  z24 := Try.sizeOf3
  t25 := Try.underlying46
  a25 := Try.isAgg46
  z25 := Try.sizeOf46
  v25 := Try.zeroValue46 }
open Go.RowKit Go.Lib Go.Sort in
theorem Try.partitionCmpFunc {α : Type} [Inhabited α] (enc : α → Value) (cf : α → α → Int) (g : Nat) (cb : Array Value) (blk off cap a b pivot : Nat) (d0 d : Array α) (w0 w : World) (eg : ∀ args w, (callFunc g args).run Try.prog w = .ok (.enter g args) w) (hcmp : CmpLays1 Try.prog g cb enc cf blk off d0.size w0) (R : Row1 enc w0 blk off d0) (hs : d0.size = d.size) (S : SW enc w0 blk off d w) (hap : a ≤ pivot) (hpb : pivot < b) (hb : b ≤ d.size) (hsz : d.size < 4611686018427387904) :
    Calls Try.prog 87 #[.slice (some ⟨blk, off, none⟩) d.size cap, .int .i64 a, .int .i64 b, .int .i64 pivot, .func (.func g) #[] cb] w fun e w' =>
      e = .returned (.tuple #[.int .i64 (Sort.partition (ltOf cf) d a b pivot).1, .bool (Sort.partition (ltOf cf) d a b pivot).2.1]) ∧ SW enc w0 blk off (Sort.partition (ltOf cf) d a b pivot).2.2 w' := Any.partitionCmpFunc Try.laysSlF27_f87 enc cf g cb blk off cap a b pivot d0 d w0 w eg hcmp R hs S hap hpb hb hsz
def Try.laysSlF14_f75_ren : Go.Shelf.Ren := ⟨fun | 14 => 75 | 20 => 80 | 21 => 81 | 22 => 82 | 23 => 83 | 24 => 84 | 25 => 85 | 26 => 86 | 27 => 87 | 46 => 93 | 47 => 94 | 48 => 95 | 49 => 96 | 50 => 97 | 15 => 76 | 57 => 99 | 28 => 88 | 29 => 89 | n => n, fun | 24 => 3 | 22 => 22 | 3 => 3 | 25 => 46 | 4 => 4 | 0 => 0 | 46 => 96 | 45 => 95 | 50 => 42 | 66 => 105 | 39 => 51 | 55 => 104 | 70 => 109 | 76 => 111 | 77 => 112 | 53 => 102 | 5 => 5 | 9 => 9 | n => n, fun | n => n⟩
theorem Try.laysSlF14_f75 : Go.Proofs.SlLaysF.n14 Try.prog Try.laysSlF14_f75_ren := {
  mixed := by kernel_rfl
  f14 := ⟨Try.f75.name, by decide, Try.func75.trans (congrArg some (by kernel_rfl))⟩
  f15 := Try.func76.trans (congrArg some (by kernel_rfl))
  f20 := ⟨Try.f80.name, by decide, Try.func80.trans (congrArg some (by kernel_rfl))⟩
  f21 := ⟨Try.f81.name, by decide, Try.func81.trans (congrArg some (by kernel_rfl))⟩
  f22 := ⟨Try.f82.name, by decide, Try.func82.trans (congrArg some (by kernel_rfl))⟩
  f23 := ⟨Try.f83.name, by decide, Try.func83.trans (congrArg some (by kernel_rfl))⟩
  f24 := ⟨Try.f84.name, by decide, Try.func84.trans (congrArg some (by kernel_rfl))⟩
  f25 := ⟨Try.f85.name, by decide, Try.func85.trans (congrArg some (by kernel_rfl))⟩
  f26 := ⟨Try.f86.name, by decide, Try.func86.trans (congrArg some (by kernel_rfl))⟩
  f27 := ⟨Try.f87.name, by decide, Try.func87.trans (congrArg some (by kernel_rfl))⟩
  f28 := Try.func88.trans (congrArg some (by kernel_rfl))
  f29 := Try.func89.trans (congrArg some (by kernel_rfl))
  f46 := ⟨Try.f93.name, by decide, Try.func93.trans (congrArg some (by kernel_rfl))⟩
  f47 := Try.func94.trans (congrArg some (by kernel_rfl))
  f48 := Try.func95.trans (congrArg some (by kernel_rfl))
  f49 := ⟨Try.f96.name, by decide, Try.func96.trans (congrArg some (by kernel_rfl))⟩
  f50 := ⟨Try.f97.name, by decide, Try.func97.trans (congrArg some (by kernel_rfl))⟩
  f57 := ⟨Try.f99.name, by decide, Try.func99.trans (congrArg some (by kernel_rfl))⟩
  t0 := Try.underlying0
  a0 := Try.isAgg0
  z0 := Try.sizeOf0
  v0 := Try.zeroValue0
  t3 := Try.underlying3
  a3 := Try.isAgg3
  z3 := Try.sizeOf3
  v3 := Try.zeroValue3
  t4 := Try.underlying4
  a4 := Try.isAgg4
  z4 := Try.sizeOf4
  v4 := Try.zeroValue4
  t5 := Try.underlying5
  a5 := Try.isAgg5
  z5 := Try.sizeOf5
  v5 := Try.zeroValue5
  t9 := Try.underlying9
  a9 := Try.isAgg9
  z9 := Try.sizeOf9
  v9 := Try.zeroValue9
  t22 := Try.underlying22
  a22 := Try.isAgg22
  z22 := Try.sizeOf22
  v22 := Try.zeroValue22
  a24 := Try.isAgg3
  z24 := Try.sizeOf3
  t25 := Try.underlying46
  a25 := Try.isAgg46
  z25 := Try.sizeOf46
  v25 := Try.zeroValue46
  t39 := Try.underlying51
  a39 := Try.isAgg51
  z39 := Try.sizeOf51
  v39 := Try.zeroValue51
  t45 := Try.underlying95
  a45 := Try.isAgg95
  z45 := Try.sizeOf95
  v45 := Try.zeroValue95
  t46 := Try.underlying96
  a46 := Try.isAgg96
  z46 := Try.sizeOf96
  v46 := Try.zeroValue96
  t50 := Try.underlying42
  a50 := Try.isAgg42
  z50 := Try.sizeOf42
  v50 := Try.zeroValue42
  t53 := Try.underlying102
  a53 := Try.isAgg102
  z53 := Try.sizeOf102
  v53 := Try.zeroValue102
  t55 := Try.underlying104
  a55 := Try.isAgg104
  z55 := Try.sizeOf104
  v55 := Try.zeroValue104
  t66 := Try.underlying105
  a66 := Try.isAgg105
  z66 := Try.sizeOf105
  v66 := Try.zeroValue105
  t70 := Try.underlying109
  a70 := Try.isAgg109
  z70 := Try.sizeOf109
  v70 := Try.zeroValue109
  t76 := Try.underlying111
  a76 := Try.isAgg111
  z76 := Try.sizeOf111
  v76 := Try.zeroValue111
  t77 := Try.underlying112
  a77 := Try.isAgg112
  z77 := Try.sizeOf112
  v77 := Try.zeroValue112 }
open Go.RowKit Go.Lib Go.Sort in
theorem Try.pdqsortCmpFunc_all {α : Type} [Inhabited α] (enc : α → Value) (cf : α → α → Int) (g : Nat) (cb : Array Value) (hO : SWO (ltOf cf)) (blk off cap : Nat) (d0 : Array α) (w0 : World) (eg : ∀ args w, (callFunc g args).run Try.prog w = .ok (.enter g args) w) (hcmp : CmpLays1 Try.prog g cb enc cf blk off d0.size w0) (R : Row1 enc w0 blk off d0) :
    ∀ (N a b limit : Nat) (d : Array α) (w : World), b - a < N → d0.size = d.size → SW enc w0 blk off d w → a ≤ b → b ≤ d.size → d.size < 4611686018427387904 → limit < 4611686018427387904 → Below (ltOf cf) a b d →
    Calls Try.prog 75 #[.slice (some ⟨blk, off, none⟩) d.size cap, .int .i64 a, .int .i64 b, .int .i64 limit, .func (.func g) #[] cb] w fun e w' => e = .returned (.tuple #[]) ∧ SW enc w0 blk off (pdq (ltOf cf) d a b limit true true) w' := Any.pdqsortCmpFunc_all Try.laysSlF14_f75 enc cf g cb hO blk off cap d0 w0 eg hcmp R
def Try.laysSlF6_f64_ren : Go.Shelf.Ren := ⟨fun | 6 => 64 | 15 => 76 | 14 => 75 | 28 => 88 | 29 => 89 | 20 => 80 | 21 => 81 | 22 => 82 | 23 => 83 | 24 => 84 | 25 => 85 | 26 => 86 | 27 => 87 | 46 => 93 | 47 => 94 | 48 => 95 | 49 => 96 | 50 => 97 | 57 => 99 | n => n, fun | 22 => 22 | 24 => 3 | 25 => 46 | 3 => 3 | 39 => 51 | 0 => 0 | 53 => 102 | 55 => 104 | 4 => 4 | 46 => 96 | 45 => 95 | 50 => 42 | 5 => 5 | 9 => 9 | 66 => 105 | 70 => 109 | 76 => 111 | 77 => 112 | n => n, fun | n => n⟩
theorem Try.laysSlF6_f64 : Go.Proofs.SlLaysF.n6 Try.prog Try.laysSlF6_f64_ren := {
  mixed := by kernel_rfl
  f6 := ⟨Try.f64.name, by decide, Try.func64.trans (congrArg some (by kernel_rfl))⟩
  f14 := ⟨Try.f75.name, by decide, Try.func75.trans (congrArg some (by kernel_rfl))⟩
  f15 := Try.func76.trans (congrArg some (by kernel_rfl))
  f20 := ⟨Try.f80.name, by decide, Try.func80.trans (congrArg some (by kernel_rfl))⟩
  f21 := ⟨Try.f81.name, by decide, Try.func81.trans (congrArg some (by kernel_rfl))⟩
  f22 := ⟨Try.f82.name, by decide, Try.func82.trans (congrArg some (by kernel_rfl))⟩
  f23 := ⟨Try.f83.name, by decide, Try.func83.trans (congrArg some (by kernel_rfl))⟩
  f24 := ⟨Try.f84.name, by decide, Try.func84.trans (congrArg some (by kernel_rfl))⟩
  f25 := ⟨Try.f85.name, by decide, Try.func85.trans (congrArg some (by kernel_rfl))⟩
  f26 := ⟨Try.f86.name, by decide, Try.func86.trans (congrArg some (by kernel_rfl))⟩
  f27 := ⟨Try.f87.name, by decide, Try.func87.trans (congrArg some (by kernel_rfl))⟩
  f28 := Try.func88.trans (congrArg some (by kernel_rfl))
  f29 := Try.func89.trans (congrArg some (by kernel_rfl))
  f46 := ⟨Try.f93.name, by decide, Try.func93.trans (congrArg some (by kernel_rfl))⟩
  f47 := Try.func94.trans (congrArg some (by kernel_rfl))
  f48 := Try.func95.trans (congrArg some (by kernel_rfl))
  f49 := ⟨Try.f96.name, by decide, Try.func96.trans (congrArg some (by kernel_rfl))⟩
  f50 := ⟨Try.f97.name, by decide, Try.func97.trans (congrArg some (by kernel_rfl))⟩
  f57 := ⟨Try.f99.name, by decide, Try.func99.trans (congrArg some (by kernel_rfl))⟩
  t0 := Try.underlying0
  a0 := Try.isAgg0
  z0 := Try.sizeOf0
  v0 := Try.zeroValue0
  t3 := Try.underlying3
  a3 := Try.isAgg3
  z3 := Try.sizeOf3
  v3 := Try.zeroValue3
  t4 := Try.underlying4
  a4 := Try.isAgg4
  z4 := Try.sizeOf4
  v4 := Try.zeroValue4
  t5 := Try.underlying5
  a5 := Try.isAgg5
  z5 := Try.sizeOf5
  v5 := Try.zeroValue5
  t9 := Try.underlying9
  a9 := Try.isAgg9
  z9 := Try.sizeOf9
  v9 := Try.zeroValue9
  t22 := Try.underlying22
  a22 := Try.isAgg22
  z22 := Try.sizeOf22
  v22 := Try.zeroValue22
  a24 := Try.isAgg3
  z24 := Try.sizeOf3
  t25 := Try.underlying46
  a25 := Try.isAgg46
  z25 := Try.sizeOf46
  v25 := Try.zeroValue46
  t39 := Try.underlying51
  a39 := Try.isAgg51
  z39 := Try.sizeOf51
  v39 := Try.zeroValue51
  t45 := Try.underlying95
  a45 := Try.isAgg95
  z45 := Try.sizeOf95
  v45 := Try.zeroValue95
  t46 := Try.underlying96
  a46 := Try.isAgg96
  z46 := Try.sizeOf96
  v46 := Try.zeroValue96
  t50 := Try.underlying42
  a50 := Try.isAgg42
  z50 := Try.sizeOf42
  v50 := Try.zeroValue42
  t53 := Try.underlying102
  a53 := Try.isAgg102
  z53 := Try.sizeOf102
  v53 := Try.zeroValue102
  t55 := Try.underlying104
  a55 := Try.isAgg104
  z55 := Try.sizeOf104
  v55 := Try.zeroValue104
  t66 := Try.underlying105
  a66 := Try.isAgg105
  z66 := Try.sizeOf105
  v66 := Try.zeroValue105
  t70 := Try.underlying109
  a70 := Try.isAgg109
  z70 := Try.sizeOf109
  v70 := Try.zeroValue109
  t76 := Try.underlying111
  a76 := Try.isAgg111
  z76 := Try.sizeOf111
  v76 := Try.zeroValue111
  t77 := Try.underlying112
  a77 := Try.isAgg112
  z77 := Try.sizeOf112
  v77 := Try.zeroValue112 }
open Go.RowKit Go.Lib Go.Sort in
theorem Try.slices_SortFunc_eq {α : Type} [Inhabited α] (enc : α → Value) (h1 : OneCell enc) (cf : α → α → Int) (hO : SWO (ltOf cf)) (g : Nat) (cb : Array Value) (blk off cap : Nat) (d : Array α) (w : World) (eg : ∀ args w, (callFunc g args).run Try.prog w = .ok (.enter g args) w) (hcmp : CmpLays1 Try.prog g cb enc cf blk off d.size w) (hH : Holds enc w blk off d) (hblk : blk < w.heap.size) (hsz : d.size < 4611686018427387904) :
    Calls Try.prog 64 #[.slice (some ⟨blk, off, none⟩) d.size cap, .func (.func g) #[] cb] w fun e w' =>
      e = .returned (.tuple #[]) ∧ ∃ n os, w' = sortWorld enc w blk off n (pdq (ltOf cf) d 0 d.size (Lib.bitLen d.size) true true) os := Any.slices_SortFunc_eq Try.laysSlF6_f64 enc h1 cf hO g cb blk off cap d w eg hcmp hH hblk hsz
open Go.RowKit Go.Lib Go.Sort in
theorem Try.slices_SortFunc {α : Type} [Inhabited α] (enc : α → Value) (h1 : OneCell enc) (cf : α → α → Int) (hO : SWO (ltOf cf)) (g : Nat) (cb : Array Value) (blk off cap : Nat) (d : Array α) (w : World) (eg : ∀ args w, (callFunc g args).run Try.prog w = .ok (.enter g args) w) (hcmp : CmpLays1 Try.prog g cb enc cf blk off d.size w) (hH : Holds enc w blk off d) (hblk : blk < w.heap.size) (hsz : d.size < 4611686018427387904) :
    Calls Try.prog 64 #[.slice (some ⟨blk, off, none⟩) d.size cap, .func (.func g) #[] cb] w fun e w' =>
      e = .returned (.tuple #[]) ∧ ∃ d' n os, PermIn 0 d.size d d' ∧ SortedIn (ltOf cf) 0 d.size d' ∧ w' = sortWorld enc w blk off n d' os := Any.slices_SortFunc Try.laysSlF6_f64 enc h1 cf hO g cb blk off cap d w eg hcmp hH hblk hsz
end Go.Proofs
end
section
namespace Go.Proofs.Ytbnnipkanechoaa
open Go Go.RowKit Go.Sort
set_option maxRecDepth 100000
set_option maxHeartbeats 4000000
def zlC (x : Fin 128) : Value := .int .i64 ((x.val : Nat) : Int)
def cfS (p r : Fin 128) : Int := if Lib.compareInt (szN r.val) (szN p.val) ≠ 0 then Lib.compareInt (szN r.val) (szN p.val) else Lib.compareInt (p.val : Nat) (r.val : Nat)
theorem zrx (k : Nat) (W : World) (hk : k < 128) : Calls Try.prog 91 #[.int .u64 (k : Int)] W fun e w' => e = .returned (.int .i64 (szN k)) ∧ w' = W := by
  have h0 : (0 : Int) ≤ (k : Int) := by omega
  have h1 : (k : Int) < 128 := by omega
  go_enter Try.func91, Try.ntmps91
  go_wp2
  all_goals go_ret
  all_goals refine ⟨congrArg Ending.returned (congrArg (Value.int IntKind.i64) ?_), rfl⟩
  clear h0 h1
  revert k
  decide +kernel
theorem zqy (k : Nat) (W : World) (hk : k < 128) : Calls Try.prog 78 #[.int .u64 (k : Int)] W fun e w' => e = .returned (.int .i64 (szN k)) ∧ w' = W := by
  go_enter Try.func78, Try.ntmps78
  go_wp2_with (go_at_call 91; refine (zrx k _ hk).mono ?_; rintro e w' ⟨rfl, rfl⟩)
  go_ret
  exact ⟨rfl, rfl⟩
theorem zoT (k : Nat) (W : World) (hk : k < 128) : Calls Try.prog 68 #[.int .i64 (k : Int)] W fun e w' => e = .returned (.int .i64 (szN k)) ∧ w' = W := by
  have hw : IntKind.u64.wrap (k : Int) = (k : Int) := by rw [IntKind.wrap_u64]; omega
  go_enter Try.func68, Try.ntmps68
  go_wp2_with (go_at_call 78; refine (zqy k _ hk).mono ?_; rintro e w' ⟨rfl, rfl⟩)
  go_ret
  exact ⟨rfl, rfl⟩
theorem or2 (a b : Int) (g : Nat) (W : World) (ha : W.cell? ⟨g, 0, none⟩ = some (.int .i64 a)) (hb : W.cell? ⟨g, 1, none⟩ = some (.int .i64 b)) : Calls Try.prog 66 #[.slice (some ⟨g, 0, none⟩) 2 2] W fun e w' => e = .returned (.int .i64 (if a ≠ 0 then a else b)) ∧ w' = W := by
  go_enter Try.func66, Try.ntmps66
  go_wp2
  go_loop [8] (fun vi => ∃ k : Nat, k ≤ 2 ∧ vi = .int .i64 k ∧ (0 < k → a = 0) ∧ (1 < k → b = 0)) (fun vi => 2 - (intOf vi).toNat)
  case atStart => exact ⟨0, by omega, rfl, by omega, by omega⟩
  case round =>
    obtain ⟨k, hk, rfl, h1, h2⟩ := hrel
    rcases (by omega : k = 0 ∨ k = 1 ∨ k = 2) with rfl | rfl | rfl
    · clear h1 h2
      by_cases h : a = 0
      · subst h
        go_wp2
        go_round
        case rel => exact ⟨1, by omega, by go_num, by simp, by simp⟩
        case measure => simp [intOf]
      · go_wp2
        go_ret
        simp [h]
    · have h1 := h1 (by omega)
      clear h2
      subst h1
      by_cases h : b = 0
      · subst h
        go_wp2
        go_round
        case rel => exact ⟨2, by omega, by go_num, by simp, by simp⟩
        case measure => simp [intOf]
      · go_wp2
        go_ret
        simp
    · have h1 := h1 (by omega)
      have h2 := h2 (by omega)
      subst h1 h2
      go_wp2
      go_ret
      simp
theorem zt7 (x y : Fin 128) (W : World) : Calls Try.prog 65 #[zlC x, zlC y] W fun e w' => e = .returned (.int .i64 (cfS x y)) ∧ ∃ q os', w' = grow (W.drewN q) os' := by
  obtain ⟨x, hx⟩ := x
  obtain ⟨y, hy⟩ := y
  unfold cfS zlC
  simp only
  generalize hc1 : Lib.compareInt (szN y) (szN x) = c1
  generalize hc2 : Lib.compareInt (x : Int) (y : Int) = c2
  have H1 := Lib.hid hc1
  have H2 := Lib.hid hc2
  clear hc1 hc2
  go_enter Try.func65, Try.ntmps65
  go_wp2_with (first | (go_at_call 68; first | (refine (zoT y _ hy).mono ?_; rintro e w' ⟨rfl, rfl⟩) | (refine (zoT x _ hx).mono ?_; rintro e w' ⟨rfl, rfl⟩)) | (go_at_call 67; refine (Try.cmp_Compare_int _ _ _).mono ?_; rintro e w' ⟨rfl, rfl⟩; first | rw [H1.out] | rw [H2.out]) | (go_at_call 66; refine (or2 c1 c2 _ _ ?_ ?_).mono ?_))
  · simp
  · simp
  all_goals go_ret
  all_goals exact ⟨rfl, 0, #[_], alloc_eq_grow _ _⟩
theorem znh (a b : Int) : Lib.compareInt a b < 0 ↔ a < b := by unfold Lib.compareInt; split <;> (try split) <;> omega
theorem zpb (a b : Int) : Lib.compareInt a b = 0 ↔ a = b := by unfold Lib.compareInt; split <;> (try split) <;> omega
theorem zp1 (p r : Fin 128) : ltOf cfS p r = true ↔ (szN r.val < szN p.val ∨ (szN r.val = szN p.val ∧ p.val < r.val)) := by
  unfold ltOf cfS
  rw [decide_eq_true_iff]
  split
  · rename_i h
    have := (not_congr (zpb (szN r.val) (szN p.val))).1 h
    rw [znh]
    omega
  · rename_i h
    have := (zpb (szN r.val) (szN p.val)).1 (by simpa using h)
    rw [znh]
    omega
theorem zmF (p r : Fin 128) : ltOf cfS p r = false ↔ ¬ (szN r.val < szN p.val ∨ (szN r.val = szN p.val ∧ p.val < r.val)) := by
  rw [← zp1]; simp
theorem ztZ : SWO (ltOf cfS) where
  irrefl x := by rw [zmF]; omega
  trans x y z h1 h2 := by rw [zp1] at *; omega
  ntrans x y z h1 h2 := by rw [zmF] at *; omega
theorem zfb (a b : Int) : leI a b = true ↔ (szN b.toNat < szN a.toNat ∨ (szN a.toNat = szN b.toNat ∧ a.toNat ≤ b.toNat)) := by
  unfold leI zpe; simp
theorem zd0 (x : Int) : ∀ l : List Int, (zok x l).Perm (x :: l)
  | [] => .refl _
  | y :: l => by
    unfold zok
    split
    · exact .refl _
    · exact ((zd0 x l).cons y).trans (.swap x y l)
theorem zb3 : ∀ l : List Int, (z9L l).Perm l
  | [] => .refl _
  | x :: l => (zd0 x (z9L l)).trans ((zb3 l).cons x)
theorem zcZ (x : Int) : ∀ l : List Int, l.Pairwise (fun a b => leI a b = true) → (zok x l).Pairwise (fun a b => leI a b = true)
  | [], _ => by simp [zok]
  | y :: l, h => by
    unfold zok
    rw [List.pairwise_cons] at h
    split
    · rename_i hxy
      refine List.pairwise_cons.2 ⟨fun z hz => ?_, List.pairwise_cons.2 h⟩
      rcases List.mem_cons.1 hz with rfl | hz
      · exact hxy
      · have := h.1 z hz
        rw [zfb] at *
        omega
    · rename_i hxy
      refine List.pairwise_cons.2 ⟨fun z hz => ?_, zcZ x l h.2⟩
      rcases List.mem_cons.1 ((zd0 x l).mem_iff.1 hz) with rfl | hz
      · rw [zfb] at *
        omega
      · exact h.1 z hz
theorem zbo : ∀ l : List Int, (z9L l).Pairwise (fun a b => leI a b = true)
  | [] => by simp [z9L]
  | x :: l => zcZ x _ (zbo l)
theorem z8J : ∀ {l1 l2 : List Int}, l1.Perm l2 → (∀ x ∈ l1, 0 ≤ x) → l1.Pairwise (fun a b => leI a b = true) → l2.Pairwise (fun a b => leI a b = true) → l1 = l2
  | [], l2, h, _, _, _ => by rw [List.nil_perm] at h; exact h.symm
  | a :: l1, [], h, _, _, _ => by simp at h
  | a :: l1, b :: l2, h, h0, h1, h2 => by
    have hab : a = b := by
      rcases List.mem_cons.1 (h.mem_iff.1 (List.mem_cons_self ..)) with e | ha
      · exact e
      · rcases List.mem_cons.1 (h.mem_iff.2 (List.mem_cons_self ..)) with e | hb
        · exact e.symm
        · have e1 := (List.pairwise_cons.1 h2).1 a ha
          have e2 := (List.pairwise_cons.1 h1).1 b hb
          have p1 := h0 a (List.mem_cons_self ..)
          have p2 := h0 b (h.mem_iff.2 (List.mem_cons_self ..))
          rw [zfb] at e1 e2
          omega
    subst hab
    rw [z8J (List.perm_cons a |>.1 h) (fun x hx => h0 x (List.mem_cons_of_mem _ hx)) (List.pairwise_cons.1 h1).2 (List.pairwise_cons.1 h2).2]
def toF (x : Int) : Fin 128 := ⟨x.toNat % 128, Nat.mod_lt _ (by decide)⟩
def ofF (f : Fin 128) : Int := (f.val : Int)
theorem zoR {x : Int} (h : 0 ≤ x ∧ x < 128) : ofF (toF x) = x := by simp only [ofF, toF]; omega
def zry (B : Nat) (K : Nat → z0f) (b : Nat) : z0f := if B ≤ b then [0] else K b
theorem zhU {xs : List Int} (hx : ∀ x ∈ xs, 0 ≤ x ∧ x < 128) {d' : Array (Fin 128)} (hp : PermIn 0 (xs.map toF).toArray.size (xs.map toF).toArray d') (hs : SortedIn (ltOf cfS) 0 (xs.map toF).toArray.size d') : d'.toList.map ofF = z9L xs := by
  obtain ⟨h1, _, h3⟩ := hp
  have hsz : d'.size = xs.length := by simpa using h1
  have e1 : (xs.map toF).map ofF = xs := by
    rw [List.map_map]
    conv => rhs; rw [← List.map_id xs]
    exact List.map_congr_left fun x hxm => zoR (hx x hxm)
  have hp2 : d'.toList.Perm (xs.map toF) := by
    have : (d'.extract 0 (xs.map toF).toArray.size).toList = d'.toList := by
      rw [← h1]; simp
    rw [this] at h3
    simp at h3
    rwa [List.take_of_length_le (by simp)] at h3
  have hp3 : (d'.toList.map ofF).Perm xs := by
    have := hp2.map ofF
    rwa [e1] at this
  refine z8J (hp3.trans (zb3 xs).symm) (fun x hxm => (hx x (hp3.mem_iff.1 hxm)).1) ?_ (zbo xs)
  rw [List.pairwise_iff_getElem]
  intro i j hi hj hij
  simp only [List.length_map, Array.length_toList] at hi hj
  have := hs i j (by omega) hij (by simp; omega)
  rw [zmF, getElem!_pos d' i hi, getElem!_pos d' j hj] at this
  rw [zfb]
  simp only [List.getElem_map, Array.getElem_toList, ofF, Int.toNat_natCast]
  omega
theorem zjm {w : World} {g n : Nat} {os : Array Obj} {cur : Array Value} {e : TypeId} {fr : Nat × Nat} (d : Array (Fin 128)) (hb : w.heap[g]? = some (.cells cur e fr)) : (sortWorld zlC w g 0 n d os).heap[g]? = some (.cells (putCells zlC 0 d cur) e fr) := by
  unfold sortWorld
  rw [heap_grow_old _ _ (by rw [size_putRow]; exact z2P hb)]
  simp [putRow, mapBlock, Sort.ahead, Array.getElem?_modify, hb, onCells]
theorem zeE {w : World} {g n : Nat} {os : Array Obj} (d : Array (Fin 128)) {b : Nat} (hb : b < w.heap.size) (hne : b ≠ g) : (sortWorld zlC w g 0 n d os).heap[b]? = w.heap[b]? := by
  unfold sortWorld
  rw [heap_grow_old _ _ (by rw [size_putRow]; exact hb)]
  simp [putRow, mapBlock, Sort.ahead, Array.getElem?_modify, Ne.symm hne]
theorem znV {w : World} {g n : Nat} {os : Array Obj} (d : Array (Fin 128)) : w.heap.size ≤ (sortWorld zlC w g 0 n d os).heap.size := by
  unfold sortWorld
  rw [size_grow, size_putRow]
  show w.heap.size ≤ w.heap.size + _
  omega
theorem zlG {I : World → (Nat → z0f) → Prop} : z9s Try.prog I xtC := by
  intro f args r outs h
  unfold xtC at h
  split at h
  case isFalse => cases h
  rename_i hf
  subst hf
  unfold zpf at h
  split at h
  case h_2 => cases h
  rename_i n cs f fs gs
  split at h
  case isFalse => cases h
  rename_i hfg
  obtain ⟨rfl, hfs, hgs⟩ := hfg
  simp only [Array.isEmpty_iff] at hfs hgs
  subst hfs hgs
  split at h
  case h_2 => cases h
  rename_i xs hxs
  split at h
  case isFalse => cases h
  rename_i hn
  subst hn
  unfold zjU at h
  split at h
  case isFalse => cases h
  rename_i hc
  obtain ⟨hne, hlen, hall⟩ := hc
  have hx : ∀ x ∈ xs, 0 ≤ x ∧ x < 128 := by simpa using hall
  obtain ⟨rfl, rfl⟩ : T.tup [] = r ∧ [T.os 1 (z9L xs).length ((z9L xs).map fun x => .sc (.int .i64 x)), .dead] = outs := by simpa using h
  have hcs := zgZ hxs
  subst hcs
  clear h hxs hall
  refine ⟨fun vals w => ?_, fun w K vals hs ha hI => ?_⟩
  · have hb : ∃ c, Try.f64.body = some c := ⟨_, rfl⟩
    obtain ⟨c, hb⟩ := hb
    have hname : Try.f64.name ≠ "runtime.NumGoroutine" := by decide
    simp [callFunc, program, Sem.run, Try.func64, hname, hb]
  · obtain ⟨v, u, rfl⟩ : ∃ v u, vals = #[v, u] := by
      obtain ⟨l⟩ := vals
      match l, hs with
      | [v, u], _ => exact ⟨v, u, rfl⟩
    have hv : TRep w K (col 0) v (.os 1 xs.length (xs.map fun x => .sc (.int .i64 x))) := ha 0 _ rfl
    have hu : TRep w K [] u (.sc (.func (.func 65) #[] #[])) := ha 1 _ rfl
    rw [hu.sc_eq]
    clear hu ha
    have hl0 : 0 < xs.length := List.length_pos_iff.2 hne
    generalize hT : T.os 1 xs.length (xs.map fun x => T.sc (.int .i64 x)) = t at hv
    cases hv with
    | nil => injection hT with _ e _; omega
    | own c g n cap size cs arr e fz F hfz hc0 hK hg hsz hl hz hn hcap hF hh =>
      injection hT with e1 e2 e3
      subst e1 e2 e3
      have hcell : ∀ j (hj : j < xs.length), arr[j]? = some (.int .i64 xs[j]) := fun j hj => by
        rw [hF j (by simpa using hj)]
        have := hh j (.sc (.int .i64 xs[j])) (by simp [hj])
        rw [this.sc_eq]
      have hH : Holds zlC w g 0 (xs.map toF).toArray := fun j hj => by
        have hj' : j < xs.length := by simpa using hj
        constructor
        · rw [Nat.zero_add, z4a hg, hcell j hj', getElem!_pos _ j hj]
          simp only [zlC, List.getElem_toArray, List.getElem_map]
          have := zoR (hx _ (List.getElem_mem hj'))
          unfold ofF at this
          rw [this]
        · unfold World.frozen?
          rw [Nat.zero_add]
          simp only [hg]
          have := hfz j (by omega)
          obtain ⟨lo, hi⟩ := fz
          simp only at this ⊢
          simp only [Bool.and_eq_false_iff, decide_eq_false_iff_not]
          omega
      have eg : ∀ args w, (callFunc 65 args).run Try.prog w = .ok (.enter 65 args) w := enters_of Try.func65 (by kernel_rfl) rfl
      have hcmp : CmpLays1 Try.prog 65 #[] zlC cfS g 0 (xs.map toF).toArray.size w := fun m os dk _ x y => zt7 x y _
      have hcon := Try.slices_SortFunc zlC (fun _ => rfl) cfS ztZ 65 #[] g 0 cap (xs.map toF).toArray w eg hcmp hH (z2P hg) (by simpa using hlen)
      have hsize : (xs.map toF).toArray.size = xs.length := by simp
      rw [hsize] at hcon
      refine hcon.mono fun e' w' ⟨he, d', m, os, hp, hso, hw⟩ => ?_
      subst hw
      have hsort := zhU hx (by rw [hsize]; exact hp) (by rw [hsize]; exact hso)
      have hd : d'.size = xs.length := by have := hp.1; simpa using this
      have hys : (z9L xs).length = xs.length := (zb3 xs).length_eq
      refine ⟨.tuple #[], zry w.heap.size K, he, ?_, fun i t hi hio => ?_, rfl, rfl, rfl, znV d', fun b hb hcb => ⟨by unfold zry; rw [if_neg (by omega)], zeE d' hb ?_⟩, ?_⟩
      · exact .tup _ #[] [] (fun _ => undef) rfl (fun j hj => by simp at hj) (fun j t ht => by simp at ht)
      · match i, hi with
        | 0, hi =>
          refine ⟨_, rfl, ?_⟩
          show TRep _ _ (col 0) (.slice (some ⟨g, 0, none⟩) xs.length cap) _
          rw [← hys]
          refine .own (col 0) g _ cap 1 _ (putCells zlC 0 d' arr) e fz (fun j => .int .i64 ((z9L xs).getD j 0)) (fun i hi => hfz i (by simpa [putCells] using hi)) (by simp [col]) (by unfold zry; rw [if_neg (by have := z2P hg; omega)]; exact hK) (zjm d' hg) (by simpa [putCells] using hsz) (by simp) (by omega) (by omega) hcap (fun j hj => ?_) (fun j t ht => ?_)
          · have hj' : j < xs.length := by simpa [hys] using hj
            have hja : j < arr.size := (Array.getElem?_eq_some_iff.1 (hcell j hj')).1
            have hjd : j < d'.size := by omega
            simp only [putCells, Array.getElem?_mapIdx, hcell j hj', Option.map_some]
            rw [if_pos (by omega), Nat.sub_zero, getElem!_pos d' j hjd]
            have : (z9L xs).getD j 0 = ofF d'[j] := by
              rw [← hsort]; simp [List.getD, hjd]
            rw [this]; rfl
          · simp only [List.getElem?_map, Option.map_eq_some_iff] at ht
            obtain ⟨x, hx', rfl⟩ := ht
            simp only [List.getD, hx']
            exact .sc _ _ rfl
        | 1, hi => cases hi; cases hio
      · rintro rfl
        rw [hK] at hcb
        simp [col] at hcb
      · intro b arr0 e0 fz0 hb0
        by_cases hbg : b = g
        · subst hbg
          rw [hg] at hb0
          cases hb0
          exact ⟨_, _, _, zjm d' hg, by simp [putCells]⟩
        · exact ⟨_, _, _, (zeE d' (z2P hb0) hbg).trans hb0, rfl⟩
    | _ => cases hT
end Go.Proofs.Ytbnnipkanechoaa
end
section
namespace Go.Proofs.Ytbnnipkanechoaa
structure StOk (ops : Array Oper) (t : SchT) (L : Array Bool) (d : Nat) (ns : List Nat) : Prop where
  ord : z3C .any ops true t L = true
  dep : t.depth = d
  nx : ∀ z ∈ t.nexts, z ∈ ns
structure BrOk (ops : Array Oper) (t : SchT) (L : Array Bool) (d : Nat) (ns hs : List Nat) : Prop where
  ord : z3C .any ops false t L = true
  dep : t.depth = d
  nx : ∀ z ∈ t.nexts, z ∈ ns
  hd : ∀ i ∈ hs, i ∈ t.heads
theorem ziV {ops : Array Oper} {L : Array Bool} (h : decide (Region.ready .any ops L = []) = true) : StOk ops .nil L 0 [] := ⟨by simp only [z3C, h, Bool.and_true], rfl, fun z hz => by simp [SchT.nexts] at hz⟩
theorem z4X {ops : Array Oper} {k m : Nat} {rest : SchT} {L L' : Array Bool} {d : Nat} {ns : List Nat} (h : StOk ops rest L' d ns) (hL : L.setIfInBounds k true = L')
    (hc : ((m == 0 || m == 3) && (Region.ready .any ops L).contains k && Region.free .any ops L k && !(ns.contains k) && (m == 3 || ns.all fun z => (zqc .any ops ops.size [z]).contains k)) = true) : StOk ops (.op k m rest) L (d + 1) ns := by
  simp only [Bool.and_eq_true, Bool.or_eq_true, Bool.not_eq_true', beq_iff_eq] at hc
  obtain ⟨⟨⟨⟨h1, h2⟩, h3⟩, h4⟩, h5⟩ := hc
  have hm2 : ¬ m = 2 := by omega
  have hk : k ∉ ns := by simpa using h4
  refine ⟨?_, by simp only [SchT.depth, h.dep], fun z hz => h.nx z (by simpa only [SchT.nexts, if_neg hm2] using hz)⟩
  simp only [z3C]
  rw [if_pos (by simpa using h1), hL, h.ord, h2, h3]
  have h6 : rest.nexts.contains k = false := by
    rw [Bool.eq_false_iff]
    intro hh
    exact hk (h.nx k (by simpa using hh))
  rw [h6]
  simp only [Bool.not_false, Bool.and_self, Bool.true_and, Bool.and_true, Bool.or_eq_true, beq_iff_eq]
  rcases h5 with h5 | h5
  · exact .inl h5
  · exact .inr (List.all_eq_true.2 fun z hz => List.all_eq_true.1 h5 z (h.nx z hz))
theorem z9t {ops : Array Oper} {k m : Nat} {rest : SchT} {L L' : Array Bool} {d : Nat} {ns ns' : List Nat} (h : StOk ops rest L' d ns) (hL : L.setIfInBounds k true = L')
    (hc : ((m == 1 || m == 2) && decide (Region.ready .any ops L = [k])) = true) (hn : (if m = 2 then [k] else ns) = ns') : StOk ops (.op k m rest) L (d + 1) ns' := by
  subst hn
  simp only [Bool.and_eq_true, Bool.or_eq_true, beq_iff_eq] at hc
  obtain ⟨h1, h2⟩ := hc
  refine ⟨?_, by simp only [SchT.depth, h.dep], fun z hz => ?_⟩
  · simp only [z3C]
    rw [if_neg (by omega), hL, h.ord, h2]
    simp [h1]
  · simp only [SchT.nexts] at hz
    split at hz
    · rename_i e; rw [if_pos e]; exact hz
    · rename_i e; rw [if_neg e]; exact h.nx z hz
theorem z1i {ops : Array Oper} {k m : Nat} {rest : SchT} {L L' : Array Bool} {d : Nat} {ns ns' : List Nat} (h : StOk ops rest L' d ns) (hL : L.setIfInBounds k true = L')
    (hc : ((m == 1 || m == 2) && (Region.ready .any ops L).contains k) = true) (hn : (if m = 2 then [k] else ns) = ns') : BrOk ops (.op k m rest) L (d + 1) ns' [k] := by
  subst hn
  simp only [Bool.and_eq_true, Bool.or_eq_true, beq_iff_eq] at hc
  obtain ⟨h1, h2⟩ := hc
  refine ⟨?_, by simp only [SchT.depth, h.dep], fun z hz => ?_, fun i hi => by simpa [SchT.heads] using hi⟩
  · simp only [z3C]
    rw [if_neg (by simp), hL, h.ord, h2]
    simp [h1]
  · simp only [SchT.nexts] at hz
    split at hz
    · rename_i e; rw [if_pos e]; exact hz
    · rename_i e; rw [if_neg e]; exact h.nx z hz
theorem z0l {ops : Array Oper} {a b : SchT} {L : Array Bool} {d : Nat} {n1 n2 h1 h2 : List Nat} (ha : BrOk ops a L d n1 h1) (hb : BrOk ops b L d n2 h2) : BrOk ops (.alt a b) L d (n1 ++ n2) (h1 ++ h2) := by
  refine ⟨?_, by simp only [SchT.depth, ha.dep], fun z hz => ?_, fun i hi => ?_⟩
  · simp only [z3C, ha.ord, hb.ord, ha.dep, hb.dep]; simp
  · simp only [SchT.nexts, List.mem_append] at hz ⊢
    exact hz.imp (ha.nx z) (hb.nx z)
  · simp only [SchT.heads, List.mem_append] at hi ⊢
    exact hi.imp (ha.hd i) (hb.hd i)
theorem z0T {ops : Array Oper} {a b : SchT} {L : Array Bool} {d : Nat} {ns ns' hs : List Nat} (h : BrOk ops (.alt a b) L d ns hs) (hc : ((Region.ready .any ops L).all fun i => hs.contains i) = true) (hn : (ns.all fun z => ns'.contains z) = true) : StOk ops (.alt a b) L d ns' := by
  refine ⟨?_, h.dep, fun z hz => by simpa using List.all_eq_true.1 hn z (h.nx z hz)⟩
  have := h.ord
  simp only [z3C, Bool.and_eq_true, decide_eq_true_eq] at this ⊢
  obtain ⟨⟨⟨h1, h2⟩, h3⟩, h4⟩ := this
  refine ⟨⟨⟨?_, h2⟩, h3⟩, h4⟩
  simp only [Bool.not_true, Bool.false_or, decide_eq_true_eq]
  intro i hi
  have := List.all_eq_true.1 hc i hi
  exact h.hd i (by simpa using this)
def zi6 (cf : Cfg) (sk : Nat → Bool) : Code → Bool
  | .region id ops draw => sk id || (!draw || (match cf.dt id with | some t => z9i ops t | none => (match cf.dr id with | some sch => zmA ops sch | none => true)))
  | .seq a b => zi6 cf sk a && zi6 cf sk b
  | .cond _ x y => zi6 cf sk x && zi6 cf sk y
  | .block _ c => zi6 cf sk c
  | .loop c => zi6 cf sk c
  | .scope c => zi6 cf sk c
  | _ => true
def z4w (i : Nat) : Code → List (Array Oper)
  | .region id ops _ => if Nat.beq id i then [ops] else []
  | .seq a b => z4w i a ++ z4w i b
  | .cond _ x y => z4w i x ++ z4w i y
  | .block _ c => z4w i c
  | .loop c => z4w i c
  | .scope c => z4w i c
  | _ => []
noncomputable def z0r (i : Nat) (c : Code) : Array Oper := match z4w i c with | x :: _ => x | [] => #[]
theorem zbr {cf : Cfg} {sk : Nat → Bool} : ∀ (c : Code), zi6 cf sk c = true → (∀ i, sk i = true → ∃ t, cf.dt i = some t ∧ ∀ o ∈ z4w i c, z9i o t = true) → okC cf c = true
  | .region id ops draw, h, hs => by
    simp only [zi6, Bool.or_eq_true] at h
    simp only [okC, Bool.or_eq_true]
    rcases h with h | h
    · right
      obtain ⟨t, h1, h2⟩ := hs id h
      rw [h1]
      exact h2 ops (by simp [z4w])
    · exact h
  | .seq a b, h, hs => by
    simp only [zi6, Bool.and_eq_true] at h
    simp only [okC, Bool.and_eq_true]
    exact ⟨zbr a h.1 fun i hi => by obtain ⟨t, h1, h2⟩ := hs i hi; exact ⟨t, h1, fun o ho => h2 o (by simp only [z4w, List.mem_append]; exact .inl ho)⟩,
      zbr b h.2 fun i hi => by obtain ⟨t, h1, h2⟩ := hs i hi; exact ⟨t, h1, fun o ho => h2 o (by simp only [z4w, List.mem_append]; exact .inr ho)⟩⟩
  | .cond _ a b, h, hs => by
    simp only [zi6, Bool.and_eq_true] at h
    simp only [okC, Bool.and_eq_true]
    exact ⟨zbr a h.1 fun i hi => by obtain ⟨t, h1, h2⟩ := hs i hi; exact ⟨t, h1, fun o ho => h2 o (by simp only [z4w, List.mem_append]; exact .inl ho)⟩,
      zbr b h.2 fun i hi => by obtain ⟨t, h1, h2⟩ := hs i hi; exact ⟨t, h1, fun o ho => h2 o (by simp only [z4w, List.mem_append]; exact .inr ho)⟩⟩
  | .block _ c, h, hs => by simp only [okC]; exact zbr c (by simpa only [zi6] using h) (by simpa only [z4w] using hs)
  | .loop c, h, hs => by simp only [okC]; exact zbr c (by simpa only [zi6] using h) (by simpa only [z4w] using hs)
  | .scope c, h, hs => by simp only [okC]; exact zbr c (by simpa only [zi6] using h) (by simpa only [z4w] using hs)
  | .skip, _, _ => rfl
  | .label .., _, _ => rfl
  | .exit .., _, _ => rfl
  | .ret, _, _ => rfl
  | .rangeFunc .., _, _ => rfl
  | .goto _, _, _ => rfl
  | .refuse _, _, _ => rfl
theorem zeR {c : Code} {i : Nat} {t : SchT} {n : Nat} {ns : List Nat} {L : Array Bool} (hr : (z4w i c).length = 1) (hs : StOk (z0r i c) t L n ns) (hL : L = Array.replicate (z0r i c).toList.length false) (hd : (decide (n = (z0r i c).toList.length) && Region.noSelect (z0r i c)) = true) : ∀ o ∈ z4w i c, z9i o t = true := by
  intro o ho
  obtain ⟨x, hx⟩ : ∃ x, z4w i c = [x] := List.length_eq_one_iff.1 hr
  have e : z0r i c = x := by unfold z0r; rw [hx]
  rw [hx] at ho
  obtain rfl : o = x := by simpa using ho
  rw [e] at hs hL hd
  subst hL
  simp only [Bool.and_eq_true, decide_eq_true_eq] at hd
  unfold z9i
  simp only [Bool.and_eq_true, decide_eq_true_eq]
  exact ⟨⟨hs.dep.trans hd.1, hd.2⟩, hs.ord⟩
theorem zi5 {P : Program} {f : FuncId} {cf : Cfg} {fn : Func} {c : Code} (l : List Nat) (hf : P.funcs[f]? = some fn) (hb : fn.body = some c) (hn : (fn.name != "runtime.NumGoroutine") = true) (h2 : zi6 cf l.contains c = true)
    (ht : ∀ i ∈ l, ∃ t, cf.dt i = some t ∧ ∀ o ∈ z4w i c, z9i o t = true) : z3p P f cf = true := by
  unfold z3p
  simp only [hf, hb, hn, Bool.true_and]
  exact zbr c h2 fun j hj => ht j (by simpa using hj)
end Go.Proofs.Ytbnnipkanechoaa
end
section
namespace Go.Proofs.Ytbnnipkanechoaa
open Go
set_option maxRecDepth 100000
theorem zuV : z3p Try.prog 3 cf3 = true := by kernel_rfl
theorem zuU : z3p Try.prog 4 cf4 = true := by kernel_rfl
theorem zuT : z3p Try.prog 5 cf5 = true := by kernel_rfl
theorem zuS : z3p Try.prog 6 cf6 = true := by kernel_rfl
theorem zuR : z3p Try.prog 8 cf8 = true := by kernel_rfl
theorem zuQ : z3p Try.prog 9 cf9 = true := by kernel_rfl
theorem zt6 : z3p Try.prog 10 cf10 = true := by kernel_rfl
theorem zt5 : z3p Try.prog 11 cf11 = true := by kernel_rfl
theorem zt4 : z3p Try.prog 12 cf12 = true := by kernel_rfl
theorem zt3 : z3p Try.prog 13 cf13 = true := by kernel_rfl
theorem zhM : StOk (z0r 10 z6A) zej #[true, true, true, true, true, true, true, true, true, true, true, true, true, true] 0 [] := ziV (by kernel_rfl)
theorem zcv : StOk (z0r 10 z6A) zaP #[true, true, true, true, true, true, true, true, true, true, true, true, true, false] 1 [13] := z9t zhM rfl (by kernel_rfl) rfl
theorem z6Y : StOk (z0r 10 z6A) z6D #[true, true, true, true, true, true, true, true, true, true, true, false, true, false] 2 [13] := z4X zcv rfl (by kernel_rfl)
theorem zhN : StOk (z0r 10 z6A) zek #[true, true, true, true, true, true, true, true, true, true, true, true, false, false] 2 [13] := z9t zcv rfl (by kernel_rfl) rfl
theorem z6Z : StOk (z0r 10 z6A) z6E #[true, true, true, true, false, true, true, true, true, true, true, false, true, false] 3 [13] := z9t z6Y rfl (by kernel_rfl) rfl
theorem z7a : StOk (z0r 10 z6A) z6F #[true, true, true, true, true, true, false, true, true, true, true, false, true, false] 3 [13] := z9t z6Y rfl (by kernel_rfl) rfl
theorem z7b : StOk (z0r 10 z6A) z6G #[true, true, true, true, true, true, true, true, false, true, true, false, true, false] 3 [13] := z9t z6Y rfl (by kernel_rfl) rfl
theorem z7c : StOk (z0r 10 z6A) z6H #[true, true, true, true, true, true, true, true, true, true, false, false, true, false] 3 [13] := z9t z6Y rfl (by kernel_rfl) rfl
theorem z7d : StOk (z0r 10 z6A) z6I #[true, true, true, true, true, true, true, true, true, true, true, false, false, false] 3 [13] := z4X zhN rfl (by kernel_rfl)
theorem z8W : StOk (z0r 10 z6A) z8e #[true, true, true, true, false, true, false, true, true, true, true, false, true, false] 4 [13] := z0T (z0l (z1i z7a rfl (by kernel_rfl) rfl) (z1i z6Z rfl (by kernel_rfl) rfl)) (by kernel_rfl) rfl
theorem z8X : StOk (z0r 10 z6A) z8f #[true, true, true, true, false, true, true, true, false, true, true, false, true, false] 4 [13] := z0T (z0l (z1i z7b rfl (by kernel_rfl) rfl) (z1i z6Z rfl (by kernel_rfl) rfl)) (by kernel_rfl) rfl
theorem z8Y : StOk (z0r 10 z6A) z8g #[true, true, true, true, false, true, true, true, true, true, false, false, true, false] 4 [13] := z0T (z0l (z1i z7c rfl (by kernel_rfl) rfl) (z1i z6Z rfl (by kernel_rfl) rfl)) (by kernel_rfl) rfl
theorem z8Z : StOk (z0r 10 z6A) z8h #[true, true, true, true, false, true, true, true, true, true, true, false, false, false] 4 [13] := z0T (z0l (z1i z7d rfl (by kernel_rfl) rfl) (z1i z6Z rfl (by kernel_rfl) rfl)) (by kernel_rfl) rfl
theorem z9a : StOk (z0r 10 z6A) z8i #[true, true, true, true, true, true, false, true, false, true, true, false, true, false] 4 [13] := z0T (z0l (z1i z7b rfl (by kernel_rfl) rfl) (z1i z7a rfl (by kernel_rfl) rfl)) (by kernel_rfl) rfl
theorem z9b : StOk (z0r 10 z6A) z8j #[true, true, true, true, true, true, false, true, true, true, false, false, true, false] 4 [13] := z0T (z0l (z1i z7c rfl (by kernel_rfl) rfl) (z1i z7a rfl (by kernel_rfl) rfl)) (by kernel_rfl) rfl
theorem z9c : StOk (z0r 10 z6A) z8k #[true, true, true, true, true, true, false, true, true, true, true, false, false, false] 4 [13] := z0T (z0l (z1i z7d rfl (by kernel_rfl) rfl) (z1i z7a rfl (by kernel_rfl) rfl)) (by kernel_rfl) rfl
theorem z9d : StOk (z0r 10 z6A) z8l #[true, true, true, true, true, true, true, true, false, true, false, false, true, false] 4 [13] := z0T (z0l (z1i z7c rfl (by kernel_rfl) rfl) (z1i z7b rfl (by kernel_rfl) rfl)) (by kernel_rfl) rfl
theorem z9e : StOk (z0r 10 z6A) z8m #[true, true, true, true, true, true, true, true, false, true, true, false, false, false] 4 [13] := z0T (z0l (z1i z7d rfl (by kernel_rfl) rfl) (z1i z7b rfl (by kernel_rfl) rfl)) (by kernel_rfl) rfl
theorem z9f : StOk (z0r 10 z6A) z8n #[true, true, true, true, true, true, true, true, true, true, false, false, false, false] 4 [13] := z0T (z0l (z1i z7d rfl (by kernel_rfl) rfl) (z1i z7c rfl (by kernel_rfl) rfl)) (by kernel_rfl) rfl
theorem zcw : StOk (z0r 10 z6A) zaQ #[true, true, true, true, false, true, false, true, false, true, true, false, true, false] 5 [13] := z0T (z0l (z1i z9a rfl (by kernel_rfl) rfl) (z0l (z1i z8X rfl (by kernel_rfl) rfl) (z1i z8W rfl (by kernel_rfl) rfl))) (by kernel_rfl) rfl
theorem zcx : StOk (z0r 10 z6A) zaR #[true, true, true, true, false, true, false, true, true, true, false, false, true, false] 5 [13] := z0T (z0l (z1i z9b rfl (by kernel_rfl) rfl) (z0l (z1i z8Y rfl (by kernel_rfl) rfl) (z1i z8W rfl (by kernel_rfl) rfl))) (by kernel_rfl) rfl
theorem zcy : StOk (z0r 10 z6A) zaS #[true, true, true, true, false, true, false, true, true, true, true, false, false, false] 5 [13] := z0T (z0l (z1i z9c rfl (by kernel_rfl) rfl) (z0l (z1i z8Z rfl (by kernel_rfl) rfl) (z1i z8W rfl (by kernel_rfl) rfl))) (by kernel_rfl) rfl
theorem zcz : StOk (z0r 10 z6A) zaT #[true, true, true, true, false, true, true, true, false, true, false, false, true, false] 5 [13] := z0T (z0l (z1i z9d rfl (by kernel_rfl) rfl) (z0l (z1i z8Y rfl (by kernel_rfl) rfl) (z1i z8X rfl (by kernel_rfl) rfl))) (by kernel_rfl) rfl
theorem zcA : StOk (z0r 10 z6A) zaU #[true, true, true, true, false, true, true, true, false, true, true, false, false, false] 5 [13] := z0T (z0l (z1i z9e rfl (by kernel_rfl) rfl) (z0l (z1i z8Z rfl (by kernel_rfl) rfl) (z1i z8X rfl (by kernel_rfl) rfl))) (by kernel_rfl) rfl
theorem zcB : StOk (z0r 10 z6A) zaV #[true, true, true, true, false, true, true, true, true, true, false, false, false, false] 5 [13] := z0T (z0l (z1i z9f rfl (by kernel_rfl) rfl) (z0l (z1i z8Z rfl (by kernel_rfl) rfl) (z1i z8Y rfl (by kernel_rfl) rfl))) (by kernel_rfl) rfl
theorem zcC : StOk (z0r 10 z6A) zaW #[true, true, true, true, true, true, false, true, false, true, false, false, true, false] 5 [13] := z0T (z0l (z1i z9d rfl (by kernel_rfl) rfl) (z0l (z1i z9b rfl (by kernel_rfl) rfl) (z1i z9a rfl (by kernel_rfl) rfl))) (by kernel_rfl) rfl
theorem zcD : StOk (z0r 10 z6A) zaX #[true, true, true, true, true, true, false, true, false, true, true, false, false, false] 5 [13] := z0T (z0l (z1i z9e rfl (by kernel_rfl) rfl) (z0l (z1i z9c rfl (by kernel_rfl) rfl) (z1i z9a rfl (by kernel_rfl) rfl))) (by kernel_rfl) rfl
theorem zcE : StOk (z0r 10 z6A) zaY #[true, true, true, true, true, true, false, true, true, true, false, false, false, false] 5 [13] := z0T (z0l (z1i z9f rfl (by kernel_rfl) rfl) (z0l (z1i z9c rfl (by kernel_rfl) rfl) (z1i z9b rfl (by kernel_rfl) rfl))) (by kernel_rfl) rfl
theorem zcF : StOk (z0r 10 z6A) zaZ #[true, true, true, true, true, true, true, true, false, true, false, false, false, false] 5 [13] := z0T (z0l (z1i z9f rfl (by kernel_rfl) rfl) (z0l (z1i z9e rfl (by kernel_rfl) rfl) (z1i z9d rfl (by kernel_rfl) rfl))) (by kernel_rfl) rfl
theorem zhO : StOk (z0r 10 z6A) zel #[true, true, true, true, false, true, false, true, false, true, false, false, true, false] 6 [13] := z0T (z0l (z1i zcC rfl (by kernel_rfl) rfl) (z0l (z1i zcz rfl (by kernel_rfl) rfl) (z0l (z1i zcx rfl (by kernel_rfl) rfl) (z1i zcw rfl (by kernel_rfl) rfl)))) (by kernel_rfl) rfl
theorem zhP : StOk (z0r 10 z6A) zem #[true, true, true, true, false, true, false, true, false, true, true, false, false, false] 6 [13] := z0T (z0l (z1i zcD rfl (by kernel_rfl) rfl) (z0l (z1i zcA rfl (by kernel_rfl) rfl) (z0l (z1i zcy rfl (by kernel_rfl) rfl) (z1i zcw rfl (by kernel_rfl) rfl)))) (by kernel_rfl) rfl
theorem zhQ : StOk (z0r 10 z6A) zen #[true, true, true, true, false, true, false, true, true, true, false, false, false, false] 6 [13] := z0T (z0l (z1i zcE rfl (by kernel_rfl) rfl) (z0l (z1i zcB rfl (by kernel_rfl) rfl) (z0l (z1i zcy rfl (by kernel_rfl) rfl) (z1i zcx rfl (by kernel_rfl) rfl)))) (by kernel_rfl) rfl
theorem zkz : StOk (z0r 10 z6A) zgf #[true, true, true, true, false, true, true, true, false, true, false, false, false, false] 6 [13] := z0T (z0l (z1i zcF rfl (by kernel_rfl) rfl) (z0l (z1i zcB rfl (by kernel_rfl) rfl) (z0l (z1i zcA rfl (by kernel_rfl) rfl) (z1i zcz rfl (by kernel_rfl) rfl)))) (by kernel_rfl) rfl
theorem zkA : StOk (z0r 10 z6A) zgg #[true, true, true, true, true, true, false, true, false, true, false, false, false, false] 6 [13] := z0T (z0l (z1i zcF rfl (by kernel_rfl) rfl) (z0l (z1i zcE rfl (by kernel_rfl) rfl) (z0l (z1i zcD rfl (by kernel_rfl) rfl) (z1i zcC rfl (by kernel_rfl) rfl)))) (by kernel_rfl) rfl
theorem zkB : StOk (z0r 10 z6A) zgh #[true, true, true, true, false, true, false, true, false, true, false, false, false, false] 7 [13] := z0T (z0l (z1i zkA rfl (by kernel_rfl) rfl) (z0l (z1i zkz rfl (by kernel_rfl) rfl) (z0l (z1i zhQ rfl (by kernel_rfl) rfl) (z0l (z1i zhP rfl (by kernel_rfl) rfl) (z1i zhO rfl (by kernel_rfl) rfl))))) (by kernel_rfl) rfl
theorem zkC : StOk (z0r 10 z6A) zgi #[true, true, true, true, false, true, false, true, false, false, false, false, false, false] 8 [13] := z4X zkB rfl (by kernel_rfl)
theorem zkD : StOk (z0r 10 z6A) zgj #[true, true, true, true, false, true, false, false, false, false, false, false, false, false] 9 [13] := z4X zkC rfl (by kernel_rfl)
theorem zkE : StOk (z0r 10 z6A) zgk #[true, true, true, true, false, false, false, false, false, false, false, false, false, false] 10 [13] := z4X zkD rfl (by kernel_rfl)
theorem zkF : StOk (z0r 10 z6A) zgl #[true, true, true, false, false, false, false, false, false, false, false, false, false, false] 11 [13] := z4X zkE rfl (by kernel_rfl)
theorem zkG : StOk (z0r 10 z6A) zgm #[true, true, false, false, false, false, false, false, false, false, false, false, false, false] 12 [13] := z4X zkF rfl (by kernel_rfl)
theorem zkH : StOk (z0r 10 z6A) zgn #[true, false, false, false, false, false, false, false, false, false, false, false, false, false] 13 [13] := z4X zkG rfl (by kernel_rfl)
theorem zkI : StOk (z0r 10 z6A) zgo #[false, false, false, false, false, false, false, false, false, false, false, false, false, false] 14 [13] := z4X zkH rfl (by kernel_rfl)
theorem zt2 : z3p Try.prog 14 cf14 = true := zi5 [10] ztT ztX rfl (by kernel_rfl) (by simp only [List.forall_mem_cons]; exact ⟨⟨_, rfl, zeR (by kernel_rfl) zkI (by kernel_rfl) (by kernel_rfl)⟩, fun _ h => by cases h⟩)
theorem zhy : StOk (z0r 47 z4b) ze5 #[true, true, true, true, true, true, true, true, true, true, true, true, true, true, true, true] 0 [] := ziV (by kernel_rfl)
theorem zhz : StOk (z0r 47 z4b) ze6 #[true, true, true, true, true, true, true, true, true, true, true, true, true, true, true, false] 1 [15] := z9t zhy rfl (by kernel_rfl) rfl
theorem zcc : StOk (z0r 47 z4b) zaw #[true, true, true, true, true, true, true, true, true, true, true, true, true, true, false, false] 2 [15] := z4X zhz rfl (by kernel_rfl)
theorem zhA : StOk (z0r 47 z4b) ze7 #[true, true, true, true, true, true, true, false, true, true, true, true, true, true, false, false] 3 [15] := z9t zcc rfl (by kernel_rfl) rfl
theorem zcd : StOk (z0r 47 z4b) zax #[true, true, true, true, true, true, true, true, true, true, true, true, true, false, false, false] 3 [13] := z9t zcc rfl (by kernel_rfl) rfl
theorem zhB : StOk (z0r 47 z4b) ze8 #[true, true, true, true, true, true, true, false, true, true, true, true, true, false, false, false] 4 [13] := z0T (z0l (z1i zcd rfl (by kernel_rfl) rfl) (z1i zhA rfl (by kernel_rfl) rfl)) (by kernel_rfl) rfl
theorem zce : StOk (z0r 47 z4b) zay #[true, true, true, true, true, true, true, true, true, true, true, true, false, false, false, false] 4 [13] := z4X zcd rfl (by kernel_rfl)
theorem zcf : StOk (z0r 47 z4b) zaz #[true, true, true, true, true, false, true, true, true, true, true, true, false, false, false, false] 5 [13] := z9t zce rfl (by kernel_rfl) rfl
theorem zcg : StOk (z0r 47 z4b) zaA #[true, true, true, true, true, true, true, false, true, true, true, true, false, false, false, false] 5 [13] := z4X zhB rfl (by kernel_rfl)
theorem z8Q : StOk (z0r 47 z4b) z7Y #[true, true, true, true, true, true, true, true, true, true, true, false, false, false, false, false] 5 [11] := z9t zce rfl (by kernel_rfl) rfl
theorem zhC : StOk (z0r 47 z4b) ze9 #[true, true, true, true, true, false, true, false, true, true, true, true, false, false, false, false] 6 [13] := z0T (z0l (z1i zcg rfl (by kernel_rfl) rfl) (z1i zcf rfl (by kernel_rfl) rfl)) (by kernel_rfl) rfl
theorem zch : StOk (z0r 47 z4b) zaB #[true, true, true, true, true, false, true, true, true, true, true, false, false, false, false, false] 6 [11] := z0T (z0l (z1i z8Q rfl (by kernel_rfl) rfl) (z1i zcf rfl (by kernel_rfl) rfl)) (by kernel_rfl) rfl
theorem zci : StOk (z0r 47 z4b) zaC #[true, true, true, true, true, true, true, false, true, true, true, false, false, false, false, false] 6 [11] := z0T (z0l (z1i z8Q rfl (by kernel_rfl) rfl) (z1i zcg rfl (by kernel_rfl) rfl)) (by kernel_rfl) rfl
theorem zcj : StOk (z0r 47 z4b) zaD #[true, true, true, true, true, true, true, true, true, true, false, false, false, false, false, false] 6 [11] := z4X z8Q rfl (by kernel_rfl)
theorem z8R : StOk (z0r 47 z4b) z7Z #[true, true, true, false, true, true, true, true, true, true, false, false, false, false, false, false] 7 [11] := z9t zcj rfl (by kernel_rfl) rfl
theorem zhD : StOk (z0r 47 z4b) zea #[true, true, true, true, true, false, true, false, true, true, true, false, false, false, false, false] 7 [11] := z0T (z0l (z1i zci rfl (by kernel_rfl) rfl) (z0l (z1i zch rfl (by kernel_rfl) rfl) (z1i zhC rfl (by kernel_rfl) rfl))) (by kernel_rfl) rfl
theorem zck : StOk (z0r 47 z4b) zaE #[true, true, true, true, true, false, true, true, true, true, false, false, false, false, false, false] 7 [11] := z4X zch rfl (by kernel_rfl)
theorem zcl : StOk (z0r 47 z4b) zaF #[true, true, true, true, true, true, true, false, true, true, false, false, false, false, false, false] 7 [11] := z4X zci rfl (by kernel_rfl)
theorem z6X : StOk (z0r 47 z4b) z6C #[true, true, true, true, true, true, true, true, true, false, false, false, false, false, false, false] 7 [9] := z9t zcj rfl (by kernel_rfl) rfl
theorem zcm : StOk (z0r 47 z4b) zaG #[true, true, true, false, true, false, true, true, true, true, false, false, false, false, false, false] 8 [11] := z0T (z0l (z1i zck rfl (by kernel_rfl) rfl) (z1i z8R rfl (by kernel_rfl) rfl)) (by kernel_rfl) rfl
theorem zcn : StOk (z0r 47 z4b) zaH #[true, true, true, false, true, true, true, false, true, true, false, false, false, false, false, false] 8 [11] := z0T (z0l (z1i zcl rfl (by kernel_rfl) rfl) (z1i z8R rfl (by kernel_rfl) rfl)) (by kernel_rfl) rfl
theorem z8S : StOk (z0r 47 z4b) z8a #[true, true, true, false, true, true, true, true, true, false, false, false, false, false, false, false] 8 [9] := z0T (z0l (z1i z6X rfl (by kernel_rfl) rfl) (z1i z8R rfl (by kernel_rfl) rfl)) (by kernel_rfl) rfl
theorem zco : StOk (z0r 47 z4b) zaI #[true, true, true, true, true, false, true, false, true, true, false, false, false, false, false, false] 8 [11] := z4X zhD rfl (by kernel_rfl)
theorem z8T : StOk (z0r 47 z4b) z8b #[true, true, true, true, true, false, true, true, true, false, false, false, false, false, false, false] 8 [9] := z0T (z0l (z1i z6X rfl (by kernel_rfl) rfl) (z1i zck rfl (by kernel_rfl) rfl)) (by kernel_rfl) rfl
theorem z8U : StOk (z0r 47 z4b) z8c #[true, true, true, true, true, true, true, false, true, false, false, false, false, false, false, false] 8 [9] := z0T (z0l (z1i z6X rfl (by kernel_rfl) rfl) (z1i zcl rfl (by kernel_rfl) rfl)) (by kernel_rfl) rfl
theorem zhE : StOk (z0r 47 z4b) zeb #[true, true, true, true, true, true, true, true, false, false, false, false, false, false, false, false] 8 [9] := z4X z6X rfl (by kernel_rfl)
theorem z8V : StOk (z0r 47 z4b) z8d #[true, false, true, true, true, true, true, true, false, false, false, false, false, false, false, false] 9 [9] := z9t zhE rfl (by kernel_rfl) rfl
theorem zhF : StOk (z0r 47 z4b) zec #[true, true, true, false, true, false, true, false, true, true, false, false, false, false, false, false] 9 [11] := z0T (z0l (z1i zco rfl (by kernel_rfl) rfl) (z0l (z1i zcn rfl (by kernel_rfl) rfl) (z1i zcm rfl (by kernel_rfl) rfl))) (by kernel_rfl) rfl
theorem zcp : StOk (z0r 47 z4b) zaJ #[true, true, true, false, true, false, true, true, true, false, false, false, false, false, false, false] 9 [9] := z0T (z0l (z1i z8T rfl (by kernel_rfl) rfl) (z0l (z1i z8S rfl (by kernel_rfl) rfl) (z1i zcm rfl (by kernel_rfl) rfl))) (by kernel_rfl) rfl
theorem zcq : StOk (z0r 47 z4b) zaK #[true, true, true, false, true, true, true, false, true, false, false, false, false, false, false, false] 9 [9] := z0T (z0l (z1i z8U rfl (by kernel_rfl) rfl) (z0l (z1i z8S rfl (by kernel_rfl) rfl) (z1i zcn rfl (by kernel_rfl) rfl))) (by kernel_rfl) rfl
theorem zhG : StOk (z0r 47 z4b) zed #[true, true, true, false, true, true, true, true, false, false, false, false, false, false, false, false] 9 [9] := z4X z8S rfl (by kernel_rfl)
theorem zcr : StOk (z0r 47 z4b) zaL #[true, true, true, true, true, false, true, false, true, false, false, false, false, false, false, false] 9 [9] := z0T (z0l (z1i z8U rfl (by kernel_rfl) rfl) (z0l (z1i z8T rfl (by kernel_rfl) rfl) (z1i zco rfl (by kernel_rfl) rfl))) (by kernel_rfl) rfl
theorem zhH : StOk (z0r 47 z4b) zee #[true, true, true, true, true, false, true, true, false, false, false, false, false, false, false, false] 9 [9] := z4X z8T rfl (by kernel_rfl)
theorem zhI : StOk (z0r 47 z4b) zef #[true, true, true, true, true, true, true, false, false, false, false, false, false, false, false, false] 9 [9] := z4X z8U rfl (by kernel_rfl)
theorem zcs : StOk (z0r 47 z4b) zaM #[true, false, true, false, true, true, true, true, false, false, false, false, false, false, false, false] 10 [9] := z0T (z0l (z1i zhG rfl (by kernel_rfl) rfl) (z1i z8V rfl (by kernel_rfl) rfl)) (by kernel_rfl) rfl
theorem zct : StOk (z0r 47 z4b) zaN #[true, false, true, true, true, false, true, true, false, false, false, false, false, false, false, false] 10 [9] := z0T (z0l (z1i zhH rfl (by kernel_rfl) rfl) (z1i z8V rfl (by kernel_rfl) rfl)) (by kernel_rfl) rfl
theorem zcu : StOk (z0r 47 z4b) zaO #[true, false, true, true, true, true, true, false, false, false, false, false, false, false, false, false] 10 [9] := z0T (z0l (z1i zhI rfl (by kernel_rfl) rfl) (z1i z8V rfl (by kernel_rfl) rfl)) (by kernel_rfl) rfl
theorem zhJ : StOk (z0r 47 z4b) zeg #[true, true, true, false, true, false, true, false, true, false, false, false, false, false, false, false] 10 [9] := z0T (z0l (z1i zcr rfl (by kernel_rfl) rfl) (z0l (z1i zcq rfl (by kernel_rfl) rfl) (z0l (z1i zcp rfl (by kernel_rfl) rfl) (z1i zhF rfl (by kernel_rfl) rfl)))) (by kernel_rfl) rfl
theorem zhK : StOk (z0r 47 z4b) zeh #[true, true, true, false, true, false, true, true, false, false, false, false, false, false, false, false] 10 [9] := z4X zcp rfl (by kernel_rfl)
theorem zhL : StOk (z0r 47 z4b) zei #[true, true, true, false, true, true, true, false, false, false, false, false, false, false, false, false] 10 [9] := z4X zcq rfl (by kernel_rfl)
theorem zkp : StOk (z0r 47 z4b) zg5 #[true, true, true, true, true, false, true, false, false, false, false, false, false, false, false, false] 10 [9] := z4X zcr rfl (by kernel_rfl)
theorem zkq : StOk (z0r 47 z4b) zg6 #[true, false, true, false, true, false, true, true, false, false, false, false, false, false, false, false] 11 [9] := z0T (z0l (z1i zhK rfl (by kernel_rfl) rfl) (z0l (z1i zct rfl (by kernel_rfl) rfl) (z1i zcs rfl (by kernel_rfl) rfl))) (by kernel_rfl) rfl
theorem zkr : StOk (z0r 47 z4b) zg7 #[true, false, true, false, true, true, true, false, false, false, false, false, false, false, false, false] 11 [9] := z0T (z0l (z1i zhL rfl (by kernel_rfl) rfl) (z0l (z1i zcu rfl (by kernel_rfl) rfl) (z1i zcs rfl (by kernel_rfl) rfl))) (by kernel_rfl) rfl
theorem zks : StOk (z0r 47 z4b) zg8 #[true, false, true, true, true, false, true, false, false, false, false, false, false, false, false, false] 11 [9] := z0T (z0l (z1i zkp rfl (by kernel_rfl) rfl) (z0l (z1i zcu rfl (by kernel_rfl) rfl) (z1i zct rfl (by kernel_rfl) rfl))) (by kernel_rfl) rfl
theorem zkt : StOk (z0r 47 z4b) zg9 #[true, true, true, false, true, false, true, false, false, false, false, false, false, false, false, false] 11 [9] := z4X zhJ rfl (by kernel_rfl)
theorem zku : StOk (z0r 47 z4b) zga #[true, false, true, false, true, false, true, false, false, false, false, false, false, false, false, false] 12 [9] := z0T (z0l (z1i zkt rfl (by kernel_rfl) rfl) (z0l (z1i zks rfl (by kernel_rfl) rfl) (z0l (z1i zkr rfl (by kernel_rfl) rfl) (z1i zkq rfl (by kernel_rfl) rfl)))) (by kernel_rfl) rfl
theorem zkv : StOk (z0r 47 z4b) zgb #[true, false, true, false, true, false, false, false, false, false, false, false, false, false, false, false] 13 [9] := z4X zku rfl (by kernel_rfl)
theorem zkw : StOk (z0r 47 z4b) zgc #[true, false, true, false, false, false, false, false, false, false, false, false, false, false, false, false] 14 [9] := z4X zkv rfl (by kernel_rfl)
theorem zkx : StOk (z0r 47 z4b) zgd #[true, false, false, false, false, false, false, false, false, false, false, false, false, false, false, false] 15 [9] := z4X zkw rfl (by kernel_rfl)
theorem zky : StOk (z0r 47 z4b) zge #[false, false, false, false, false, false, false, false, false, false, false, false, false, false, false, false] 16 [9] := z4X zkx rfl (by kernel_rfl)
theorem zhr : StOk (z0r 77 z4b) zdY #[true, true, true, true, true, true, true, true, true, true, true, true, true] 0 [] := ziV (by kernel_rfl)
theorem zhs : StOk (z0r 77 z4b) zdZ #[true, true, true, true, true, true, true, true, true, true, true, true, false] 1 [12] := z9t zhr rfl (by kernel_rfl) rfl
theorem zc6 : StOk (z0r 77 z4b) zaq #[true, true, true, true, true, true, true, true, true, true, true, false, false] 2 [12] := z4X zhs rfl (by kernel_rfl)
theorem zht : StOk (z0r 77 z4b) ze0 #[true, false, true, true, true, true, true, true, true, true, true, false, false] 3 [1] := z9t zc6 rfl (by kernel_rfl) rfl
theorem z8O : StOk (z0r 77 z4b) z7W #[true, true, true, true, true, true, true, true, true, true, false, false, false] 3 [10] := z9t zc6 rfl (by kernel_rfl) rfl
theorem zc7 : StOk (z0r 77 z4b) zar #[true, false, true, true, true, true, true, true, true, true, false, false, false] 4 [1, 10] := z0T (z0l (z1i z8O rfl (by kernel_rfl) rfl) (z1i zht rfl (by kernel_rfl) rfl)) (by kernel_rfl) rfl
theorem z8P : StOk (z0r 77 z4b) z7X #[true, true, true, true, true, true, true, false, true, true, false, false, false] 4 [7] := z9t z8O rfl (by kernel_rfl) rfl
theorem zc8 : StOk (z0r 77 z4b) zas #[true, true, true, true, true, true, true, true, true, false, false, false, false] 4 [10] := z9t z8O rfl (by kernel_rfl) rfl
theorem zc9 : StOk (z0r 77 z4b) zat #[true, false, true, true, true, true, true, false, true, true, false, false, false] 5 [1, 7] := z0T (z0l (z1i z8P rfl (by kernel_rfl) rfl) (z1i zc7 rfl (by kernel_rfl) rfl)) (by kernel_rfl) rfl
theorem zhu : StOk (z0r 77 z4b) ze1 #[true, false, true, true, true, true, true, true, true, false, false, false, false] 5 [1, 10] := z0T (z0l (z1i zc8 rfl (by kernel_rfl) rfl) (z1i zc7 rfl (by kernel_rfl) rfl)) (by kernel_rfl) rfl
theorem zhv : StOk (z0r 77 z4b) ze2 #[true, true, true, true, true, true, false, false, true, true, false, false, false] 5 [7] := z4X z8P rfl (by kernel_rfl)
theorem zca : StOk (z0r 77 z4b) zau #[true, true, true, true, true, true, true, false, true, false, false, false, false] 5 [7] := z0T (z0l (z1i zc8 rfl (by kernel_rfl) rfl) (z1i z8P rfl (by kernel_rfl) rfl)) (by kernel_rfl) rfl
theorem zhw : StOk (z0r 77 z4b) ze3 #[true, false, true, true, true, true, false, false, true, true, false, false, false] 6 [1, 7] := z4X zc9 rfl (by kernel_rfl)
theorem zhx : StOk (z0r 77 z4b) ze4 #[true, false, true, true, true, true, true, false, true, false, false, false, false] 6 [1, 7] := z0T (z0l (z1i zca rfl (by kernel_rfl) rfl) (z0l (z1i zhu rfl (by kernel_rfl) rfl) (z1i zc9 rfl (by kernel_rfl) rfl))) (by kernel_rfl) rfl
theorem zcb : StOk (z0r 77 z4b) zav #[true, true, true, true, false, true, false, false, true, true, false, false, false] 6 [4] := z9t zhv rfl (by kernel_rfl) rfl
theorem zkf : StOk (z0r 77 z4b) zfV #[true, true, true, true, true, true, false, false, true, false, false, false, false] 6 [7] := z4X zca rfl (by kernel_rfl)
theorem zkg : StOk (z0r 77 z4b) zfW #[true, false, true, true, false, true, false, false, true, true, false, false, false] 7 [1, 4] := z0T (z0l (z1i zcb rfl (by kernel_rfl) rfl) (z1i zhw rfl (by kernel_rfl) rfl)) (by kernel_rfl) rfl
theorem zkh : StOk (z0r 77 z4b) zfX #[true, false, true, true, true, true, false, false, true, false, false, false, false] 7 [1, 7] := z4X zhx rfl (by kernel_rfl)
theorem zki : StOk (z0r 77 z4b) zfY #[true, true, true, true, false, true, false, false, true, false, false, false, false] 7 [4] := z0T (z0l (z1i zkf rfl (by kernel_rfl) rfl) (z1i zcb rfl (by kernel_rfl) rfl)) (by kernel_rfl) rfl
theorem zkj : StOk (z0r 77 z4b) zfZ #[true, false, true, true, false, true, false, false, true, false, false, false, false] 8 [1, 4] := z0T (z0l (z1i zki rfl (by kernel_rfl) rfl) (z0l (z1i zkh rfl (by kernel_rfl) rfl) (z1i zkg rfl (by kernel_rfl) rfl))) (by kernel_rfl) rfl
theorem zkk : StOk (z0r 77 z4b) zg0 #[true, false, true, true, false, true, false, false, false, false, false, false, false] 9 [1, 4] := z4X zkj rfl (by kernel_rfl)
theorem zkl : StOk (z0r 77 z4b) zg1 #[true, false, true, true, false, false, false, false, false, false, false, false, false] 10 [1, 4] := z4X zkk rfl (by kernel_rfl)
theorem zkm : StOk (z0r 77 z4b) zg2 #[true, false, true, false, false, false, false, false, false, false, false, false, false] 11 [1, 4] := z4X zkl rfl (by kernel_rfl)
theorem zkn : StOk (z0r 77 z4b) zg3 #[true, false, false, false, false, false, false, false, false, false, false, false, false] 12 [1, 4] := z4X zkm rfl (by kernel_rfl)
theorem zko : StOk (z0r 77 z4b) zg4 #[false, false, false, false, false, false, false, false, false, false, false, false, false] 13 [1, 4] := z4X zkn rfl (by kernel_rfl)
theorem zt1 : z3p Try.prog 15 cf15 = true := zi5 [47, 77] zuM zw6 rfl (by kernel_rfl) (by simp only [List.forall_mem_cons]; exact ⟨⟨_, rfl, zeR (by kernel_rfl) zky (by kernel_rfl) (by kernel_rfl)⟩, ⟨_, rfl, zeR (by kernel_rfl) zko (by kernel_rfl) (by kernel_rfl)⟩, fun _ h => by cases h⟩)
theorem zt0 : z3p Try.prog 16 cf16 = true := by kernel_rfl
theorem zsZ : z3p Try.prog 17 cf17 = true := by kernel_rfl
theorem zsY : z3p Try.prog 18 cf18 = true := by kernel_rfl
theorem zsX : z3p Try.prog 19 cf19 = true := by kernel_rfl
theorem zsW : z3p Try.prog 20 cf20 = true := by kernel_rfl
theorem zsV : z3p Try.prog 21 cf21 = true := by kernel_rfl
theorem zsU : z3p Try.prog 22 cf22 = true := by kernel_rfl
theorem zsT : z3p Try.prog 23 cf23 = true := by kernel_rfl
theorem zsS : z3p Try.prog 24 cf24 = true := by kernel_rfl
theorem zsR : z3p Try.prog 25 cf25 = true := by kernel_rfl
theorem zsQ : z3p Try.prog 26 cf26 = true := by kernel_rfl
theorem zsP : z3p Try.prog 27 cf27 = true := by kernel_rfl
theorem zsO : z3p Try.prog 28 cf28 = true := by kernel_rfl
theorem zsN : z3p Try.prog 29 cf29 = true := by kernel_rfl
theorem zsM : z3p Try.prog 30 cf30 = true := by kernel_rfl
theorem zsL : z3p Try.prog 31 cf31 = true := by kernel_rfl
theorem zjW : StOk (z0r 7 z4t) zfC #[true, true, true, true, true, true, true, true, true, true, true, true, true, true, true, true, true] 0 [] := ziV (by kernel_rfl)
theorem zjX : StOk (z0r 7 z4t) zfD #[true, true, true, true, true, true, true, true, true, true, true, true, true, true, true, true, false] 1 [16] := z9t zjW rfl (by kernel_rfl) rfl
theorem zjY : StOk (z0r 7 z4t) zfE #[true, true, true, true, true, true, true, true, true, true, true, true, true, true, true, false, false] 2 [16] := z4X zjX rfl (by kernel_rfl)
theorem zjZ : StOk (z0r 7 z4t) zfF #[true, true, true, true, true, true, true, true, true, true, true, true, true, true, false, false, false] 3 [14] := z9t zjY rfl (by kernel_rfl) rfl
theorem zdE : StOk (z0r 7 z4t) zbM #[true, true, true, true, true, true, true, true, true, true, true, true, false, true, false, false, false] 4 [12] := z9t zjZ rfl (by kernel_rfl) rfl
theorem zdF : StOk (z0r 7 z4t) zbN #[true, true, true, true, true, true, true, true, true, true, true, false, false, true, false, false, false] 5 [12] := z9t zdE rfl (by kernel_rfl) rfl
theorem zdG : StOk (z0r 7 z4t) zbO #[true, true, true, true, true, true, true, true, true, true, true, true, false, false, false, false, false] 5 [12] := z4X zdE rfl (by kernel_rfl)
theorem z7S : StOk (z0r 7 z4t) z7v #[true, true, true, true, true, true, false, true, true, true, true, true, false, false, false, false, false] 6 [6] := z9t zdG rfl (by kernel_rfl) rfl
theorem zdH : StOk (z0r 7 z4t) zbP #[true, true, true, true, true, true, true, true, false, true, true, true, false, false, false, false, false] 6 [8] := z9t zdG rfl (by kernel_rfl) rfl
theorem zk0 : StOk (z0r 7 z4t) zfG #[true, true, true, true, true, true, true, true, true, true, false, false, false, true, false, false, false] 6 [12] := z9t zdF rfl (by kernel_rfl) rfl
theorem zdI : StOk (z0r 7 z4t) zbQ #[true, true, true, true, true, true, true, true, true, true, true, false, false, false, false, false, false] 6 [12] := z4X zdF rfl (by kernel_rfl)
theorem zae : StOk (z0r 7 z4t) z9x #[true, false, true, true, true, true, false, true, true, true, true, true, false, false, false, false, false] 7 [1] := z9t z7S rfl (by kernel_rfl) rfl
theorem z7T : StOk (z0r 7 z4t) z7w #[true, true, true, true, true, false, false, true, true, true, true, true, false, false, false, false, false] 7 [6] := z9t z7S rfl (by kernel_rfl) rfl
theorem zaf : StOk (z0r 7 z4t) z9y #[true, true, true, true, true, true, false, true, false, true, true, true, false, false, false, false, false] 7 [6, 8] := z0T (z0l (z1i zdH rfl (by kernel_rfl) rfl) (z1i z7S rfl (by kernel_rfl) rfl)) (by kernel_rfl) rfl
theorem z7U : StOk (z0r 7 z4t) z7x #[true, true, true, true, true, true, false, true, true, true, true, false, false, false, false, false, false] 7 [6] := z0T (z0l (z1i zdI rfl (by kernel_rfl) rfl) (z1i z7S rfl (by kernel_rfl) rfl)) (by kernel_rfl) rfl
theorem zdJ : StOk (z0r 7 z4t) zbR #[true, true, true, true, true, true, true, true, false, true, true, false, false, false, false, false, false] 7 [8] := z0T (z0l (z1i zdI rfl (by kernel_rfl) rfl) (z1i zdH rfl (by kernel_rfl) rfl)) (by kernel_rfl) rfl
theorem zdK : StOk (z0r 7 z4t) zbS #[true, true, true, true, true, true, true, true, true, true, false, false, false, false, false, false, false] 7 [12] := z4X zk0 rfl (by kernel_rfl)
theorem zag : StOk (z0r 7 z4t) z9z #[true, false, true, true, true, false, false, true, true, true, true, true, false, false, false, false, false] 8 [1] := z0T (z0l (z1i z7T rfl (by kernel_rfl) rfl) (z1i zae rfl (by kernel_rfl) rfl)) (by kernel_rfl) rfl
theorem zdL : StOk (z0r 7 z4t) zbT #[true, false, true, true, true, true, false, true, false, true, true, true, false, false, false, false, false] 8 [1, 8] := z0T (z0l (z1i zaf rfl (by kernel_rfl) rfl) (z1i zae rfl (by kernel_rfl) rfl)) (by kernel_rfl) rfl
theorem zah : StOk (z0r 7 z4t) z9A #[true, false, true, true, true, true, false, true, true, true, true, false, false, false, false, false, false] 8 [1] := z0T (z0l (z1i z7U rfl (by kernel_rfl) rfl) (z1i zae rfl (by kernel_rfl) rfl)) (by kernel_rfl) rfl
theorem zk1 : StOk (z0r 7 z4t) zfH #[true, true, true, true, false, false, false, true, true, true, true, true, false, false, false, false, false] 8 [6] := z4X z7T rfl (by kernel_rfl)
theorem zai : StOk (z0r 7 z4t) z9B #[true, true, true, true, true, false, false, true, false, true, true, true, false, false, false, false, false] 8 [6, 8] := z0T (z0l (z1i zaf rfl (by kernel_rfl) rfl) (z1i z7T rfl (by kernel_rfl) rfl)) (by kernel_rfl) rfl
theorem z7V : StOk (z0r 7 z4t) z7y #[true, true, true, true, true, false, false, true, true, true, true, false, false, false, false, false, false] 8 [6] := z0T (z0l (z1i z7U rfl (by kernel_rfl) rfl) (z1i z7T rfl (by kernel_rfl) rfl)) (by kernel_rfl) rfl
theorem zaj : StOk (z0r 7 z4t) z9C #[true, true, true, true, true, true, false, true, false, true, true, false, false, false, false, false, false] 8 [6, 8] := z0T (z0l (z1i zdJ rfl (by kernel_rfl) rfl) (z0l (z1i z7U rfl (by kernel_rfl) rfl) (z1i zaf rfl (by kernel_rfl) rfl))) (by kernel_rfl) rfl
theorem zak : StOk (z0r 7 z4t) z9D #[true, true, true, true, true, true, false, true, true, true, false, false, false, false, false, false, false] 8 [6] := z0T (z0l (z1i zdK rfl (by kernel_rfl) rfl) (z1i z7U rfl (by kernel_rfl) rfl)) (by kernel_rfl) rfl
theorem zk2 : StOk (z0r 7 z4t) zfI #[true, true, true, true, true, true, true, true, false, true, false, false, false, false, false, false, false] 8 [8] := z0T (z0l (z1i zdK rfl (by kernel_rfl) rfl) (z1i zdJ rfl (by kernel_rfl) rfl)) (by kernel_rfl) rfl
theorem zk3 : StOk (z0r 7 z4t) zfJ #[true, false, true, true, false, false, false, true, true, true, true, true, false, false, false, false, false] 9 [1] := z4X zag rfl (by kernel_rfl)
theorem zdM : StOk (z0r 7 z4t) zbU #[true, false, true, true, true, false, false, true, false, true, true, true, false, false, false, false, false] 9 [1, 8] := z0T (z0l (z1i zai rfl (by kernel_rfl) rfl) (z0l (z1i zdL rfl (by kernel_rfl) rfl) (z1i zag rfl (by kernel_rfl) rfl))) (by kernel_rfl) rfl
theorem zal : StOk (z0r 7 z4t) z9E #[true, false, true, true, true, false, false, true, true, true, true, false, false, false, false, false, false] 9 [1] := z0T (z0l (z1i z7V rfl (by kernel_rfl) rfl) (z0l (z1i zah rfl (by kernel_rfl) rfl) (z1i zag rfl (by kernel_rfl) rfl))) (by kernel_rfl) rfl
theorem zdN : StOk (z0r 7 z4t) zbV #[true, false, true, true, true, true, false, true, false, true, true, false, false, false, false, false, false] 9 [1, 8] := z0T (z0l (z1i zaj rfl (by kernel_rfl) rfl) (z0l (z1i zah rfl (by kernel_rfl) rfl) (z1i zdL rfl (by kernel_rfl) rfl))) (by kernel_rfl) rfl
theorem zdO : StOk (z0r 7 z4t) zbW #[true, false, true, true, true, true, false, true, true, true, false, false, false, false, false, false, false] 9 [1] := z0T (z0l (z1i zak rfl (by kernel_rfl) rfl) (z1i zah rfl (by kernel_rfl) rfl)) (by kernel_rfl) rfl
theorem zam : StOk (z0r 7 z4t) z9F #[true, true, true, false, false, false, false, true, true, true, true, true, false, false, false, false, false] 9 [6] := z9t zk1 rfl (by kernel_rfl) rfl
theorem zk4 : StOk (z0r 7 z4t) zfK #[true, true, true, true, false, false, false, true, false, true, true, true, false, false, false, false, false] 9 [6, 8] := z4X zai rfl (by kernel_rfl)
theorem zk5 : StOk (z0r 7 z4t) zfL #[true, true, true, true, false, false, false, true, true, true, true, false, false, false, false, false, false] 9 [6] := z4X z7V rfl (by kernel_rfl)
theorem zan : StOk (z0r 7 z4t) z9G #[true, true, true, true, true, false, false, true, false, true, true, false, false, false, false, false, false] 9 [6, 8] := z0T (z0l (z1i zaj rfl (by kernel_rfl) rfl) (z0l (z1i z7V rfl (by kernel_rfl) rfl) (z1i zai rfl (by kernel_rfl) rfl))) (by kernel_rfl) rfl
theorem zao : StOk (z0r 7 z4t) z9H #[true, true, true, true, true, false, false, true, true, true, false, false, false, false, false, false, false] 9 [6] := z0T (z0l (z1i zak rfl (by kernel_rfl) rfl) (z1i z7V rfl (by kernel_rfl) rfl)) (by kernel_rfl) rfl
theorem zdP : StOk (z0r 7 z4t) zbX #[true, true, true, true, true, true, false, true, false, true, false, false, false, false, false, false, false] 9 [6, 8] := z0T (z0l (z1i zk2 rfl (by kernel_rfl) rfl) (z0l (z1i zak rfl (by kernel_rfl) rfl) (z1i zaj rfl (by kernel_rfl) rfl))) (by kernel_rfl) rfl
theorem zdQ : StOk (z0r 7 z4t) zbY #[true, false, true, false, false, false, false, true, true, true, true, true, false, false, false, false, false] 10 [1] := z0T (z0l (z1i zam rfl (by kernel_rfl) rfl) (z1i zk3 rfl (by kernel_rfl) rfl)) (by kernel_rfl) rfl
theorem zk6 : StOk (z0r 7 z4t) zfM #[true, false, true, true, false, false, false, true, false, true, true, true, false, false, false, false, false] 10 [1, 8] := z4X zdM rfl (by kernel_rfl)
theorem zk7 : StOk (z0r 7 z4t) zfN #[true, false, true, true, false, false, false, true, true, true, true, false, false, false, false, false, false] 10 [1] := z4X zal rfl (by kernel_rfl)
theorem zdR : StOk (z0r 7 z4t) zbZ #[true, false, true, true, true, false, false, true, false, true, true, false, false, false, false, false, false] 10 [1, 8] := z0T (z0l (z1i zan rfl (by kernel_rfl) rfl) (z0l (z1i zdN rfl (by kernel_rfl) rfl) (z0l (z1i zal rfl (by kernel_rfl) rfl) (z1i zdM rfl (by kernel_rfl) rfl)))) (by kernel_rfl) rfl
theorem zdS : StOk (z0r 7 z4t) zc0 #[true, false, true, true, true, false, false, true, true, true, false, false, false, false, false, false, false] 10 [1] := z0T (z0l (z1i zao rfl (by kernel_rfl) rfl) (z0l (z1i zdO rfl (by kernel_rfl) rfl) (z1i zal rfl (by kernel_rfl) rfl))) (by kernel_rfl) rfl
theorem zk8 : StOk (z0r 7 z4t) zfO #[true, false, true, true, true, true, false, true, false, true, false, false, false, false, false, false, false] 10 [1, 8] := z0T (z0l (z1i zdP rfl (by kernel_rfl) rfl) (z0l (z1i zdO rfl (by kernel_rfl) rfl) (z1i zdN rfl (by kernel_rfl) rfl))) (by kernel_rfl) rfl
theorem zdT : StOk (z0r 7 z4t) zc1 #[true, true, true, false, false, false, false, true, false, true, true, true, false, false, false, false, false] 10 [6, 8] := z0T (z0l (z1i zk4 rfl (by kernel_rfl) rfl) (z1i zam rfl (by kernel_rfl) rfl)) (by kernel_rfl) rfl
theorem zap : StOk (z0r 7 z4t) z9I #[true, true, true, false, false, false, false, true, true, true, true, false, false, false, false, false, false] 10 [6] := z0T (z0l (z1i zk5 rfl (by kernel_rfl) rfl) (z1i zam rfl (by kernel_rfl) rfl)) (by kernel_rfl) rfl
theorem zk9 : StOk (z0r 7 z4t) zfP #[true, true, true, true, false, false, false, true, false, true, true, false, false, false, false, false, false] 10 [6, 8] := z4X zan rfl (by kernel_rfl)
theorem zka : StOk (z0r 7 z4t) zfQ #[true, true, true, true, false, false, false, true, true, true, false, false, false, false, false, false, false] 10 [6] := z4X zao rfl (by kernel_rfl)
theorem zdU : StOk (z0r 7 z4t) zc2 #[true, true, true, true, true, false, false, true, false, true, false, false, false, false, false, false, false] 10 [6, 8] := z0T (z0l (z1i zdP rfl (by kernel_rfl) rfl) (z0l (z1i zao rfl (by kernel_rfl) rfl) (z1i zan rfl (by kernel_rfl) rfl))) (by kernel_rfl) rfl
theorem zkb : StOk (z0r 7 z4t) zfR #[true, false, true, false, false, false, false, true, false, true, true, true, false, false, false, false, false] 11 [1, 8] := z0T (z0l (z1i zdT rfl (by kernel_rfl) rfl) (z0l (z1i zk6 rfl (by kernel_rfl) rfl) (z1i zdQ rfl (by kernel_rfl) rfl))) (by kernel_rfl) rfl
theorem zdV : StOk (z0r 7 z4t) zc3 #[true, false, true, false, false, false, false, true, true, true, true, false, false, false, false, false, false] 11 [1] := z0T (z0l (z1i zap rfl (by kernel_rfl) rfl) (z0l (z1i zk7 rfl (by kernel_rfl) rfl) (z1i zdQ rfl (by kernel_rfl) rfl))) (by kernel_rfl) rfl
theorem zkc : StOk (z0r 7 z4t) zfS #[true, false, true, true, false, false, false, true, false, true, true, false, false, false, false, false, false] 11 [1, 8] := z4X zdR rfl (by kernel_rfl)
theorem zkd : StOk (z0r 7 z4t) zfT #[true, false, true, true, false, false, false, true, true, true, false, false, false, false, false, false, false] 11 [1] := z4X zdS rfl (by kernel_rfl)
theorem zke : StOk (z0r 7 z4t) zfU #[true, false, true, true, true, false, false, true, false, true, false, false, false, false, false, false, false] 11 [1, 8] := z0T (z0l (z1i zdU rfl (by kernel_rfl) rfl) (z0l (z1i zk8 rfl (by kernel_rfl) rfl) (z0l (z1i zdS rfl (by kernel_rfl) rfl) (z1i zdR rfl (by kernel_rfl) rfl)))) (by kernel_rfl) rfl
theorem zdW : StOk (z0r 7 z4t) zc4 #[true, true, true, false, false, false, false, true, false, true, true, false, false, false, false, false, false] 11 [6, 8] := z0T (z0l (z1i zk9 rfl (by kernel_rfl) rfl) (z0l (z1i zap rfl (by kernel_rfl) rfl) (z1i zdT rfl (by kernel_rfl) rfl))) (by kernel_rfl) rfl
theorem zdX : StOk (z0r 7 z4t) zc5 #[true, true, true, false, false, false, false, true, true, true, false, false, false, false, false, false, false] 11 [6] := z0T (z0l (z1i zka rfl (by kernel_rfl) rfl) (z1i zap rfl (by kernel_rfl) rfl)) (by kernel_rfl) rfl
theorem zlO : StOk (z0r 7 z4t) ziG #[true, true, true, true, false, false, false, true, false, true, false, false, false, false, false, false, false] 11 [6, 8] := z4X zdU rfl (by kernel_rfl)
theorem zlP : StOk (z0r 7 z4t) ziH #[true, false, true, false, false, false, false, true, false, true, true, false, false, false, false, false, false] 12 [1, 8] := z0T (z0l (z1i zdW rfl (by kernel_rfl) rfl) (z0l (z1i zkc rfl (by kernel_rfl) rfl) (z0l (z1i zdV rfl (by kernel_rfl) rfl) (z1i zkb rfl (by kernel_rfl) rfl)))) (by kernel_rfl) rfl
theorem zlQ : StOk (z0r 7 z4t) ziI #[true, false, true, false, false, false, false, true, true, true, false, false, false, false, false, false, false] 12 [1] := z0T (z0l (z1i zdX rfl (by kernel_rfl) rfl) (z0l (z1i zkd rfl (by kernel_rfl) rfl) (z1i zdV rfl (by kernel_rfl) rfl))) (by kernel_rfl) rfl
theorem zlR : StOk (z0r 7 z4t) ziJ #[true, false, true, true, false, false, false, true, false, true, false, false, false, false, false, false, false] 12 [1, 8] := z4X zke rfl (by kernel_rfl)
theorem zlS : StOk (z0r 7 z4t) ziK #[true, true, true, false, false, false, false, true, false, true, false, false, false, false, false, false, false] 12 [6, 8] := z0T (z0l (z1i zlO rfl (by kernel_rfl) rfl) (z0l (z1i zdX rfl (by kernel_rfl) rfl) (z1i zdW rfl (by kernel_rfl) rfl))) (by kernel_rfl) rfl
theorem zlT : StOk (z0r 7 z4t) ziL #[true, false, true, false, false, false, false, true, false, true, false, false, false, false, false, false, false] 13 [1, 8] := z0T (z0l (z1i zlS rfl (by kernel_rfl) rfl) (z0l (z1i zlR rfl (by kernel_rfl) rfl) (z0l (z1i zlQ rfl (by kernel_rfl) rfl) (z1i zlP rfl (by kernel_rfl) rfl)))) (by kernel_rfl) rfl
theorem zlU : StOk (z0r 7 z4t) ziM #[true, false, true, false, false, false, false, true, false, false, false, false, false, false, false, false, false] 14 [1, 8] := z4X zlT rfl (by kernel_rfl)
theorem zlV : StOk (z0r 7 z4t) ziN #[true, false, true, false, false, false, false, false, false, false, false, false, false, false, false, false, false] 15 [1, 8] := z4X zlU rfl (by kernel_rfl)
theorem zlW : StOk (z0r 7 z4t) ziO #[true, false, false, false, false, false, false, false, false, false, false, false, false, false, false, false, false] 16 [1, 8] := z4X zlV rfl (by kernel_rfl)
theorem zlX : StOk (z0r 7 z4t) ziP #[false, false, false, false, false, false, false, false, false, false, false, false, false, false, false, false, false] 17 [1, 8] := z4X zlW rfl (by kernel_rfl)
theorem zsK : z3p Try.prog 32 cf32 = true := zi5 [7] ztS ztW rfl (by kernel_rfl) (by simp only [List.forall_mem_cons]; exact ⟨⟨_, rfl, zeR (by kernel_rfl) zlX (by kernel_rfl) (by kernel_rfl)⟩, fun _ h => by cases h⟩)
theorem zsJ : z3p Try.prog 33 cf33 = true := by kernel_rfl
theorem zsI : z3p Try.prog 34 cf34 = true := by kernel_rfl
theorem zsH : z3p Try.prog 35 cf35 = true := by kernel_rfl
theorem zsG : z3p Try.prog 36 cf36 = true := by kernel_rfl
theorem zsF : z3p Try.prog 37 cf37 = true := by kernel_rfl
theorem zsE : z3p Try.prog 38 cf38 = true := by kernel_rfl
theorem zsD : z3p Try.prog 39 cf39 = true := by kernel_rfl
theorem zsC : z3p Try.prog 40 cf40 = true := by kernel_rfl
theorem zsB : z3p Try.prog 41 cf41 = true := by kernel_rfl
theorem zsA : z3p Try.prog 42 cf42 = true := by kernel_rfl
theorem zsz : z3p Try.prog 43 cf43 = true := by kernel_rfl
theorem zsy : z3p Try.prog 44 cf44 = true := by kernel_rfl
theorem zsx : z3p Try.prog 45 cf45 = true := by kernel_rfl
theorem zsw : z3p Try.prog 46 cf46 = true := by kernel_rfl
theorem zsv : z3p Try.prog 47 cf47 = true := by kernel_rfl
theorem zsu : z3p Try.prog 48 cf48 = true := by kernel_rfl
theorem zst : z3p Try.prog 49 cf49 = true := by kernel_rfl
theorem zss : z3p Try.prog 50 cf50 = true := by kernel_rfl
theorem zsr : z3p Try.prog 51 cf51 = true := by kernel_rfl
theorem zsq : z3p Try.prog 52 cf52 = true := by kernel_rfl
theorem zsp : z3p Try.prog 53 cf53 = true := by kernel_rfl
theorem zso : z3p Try.prog 54 cf54 = true := by kernel_rfl
theorem zsn : z3p Try.prog 55 cf55 = true := by kernel_rfl
theorem zsm : z3p Try.prog 56 cf56 = true := by kernel_rfl
theorem zsl : z3p Try.prog 57 cf57 = true := by kernel_rfl
theorem zsk : z3p Try.prog 58 cf58 = true := by kernel_rfl
theorem zsj : z3p Try.prog 59 cf59 = true := by kernel_rfl
theorem zsi : z3p Try.prog 60 cf60 = true := by kernel_rfl
theorem zsh : z3p Try.prog 61 cf61 = true := by kernel_rfl
theorem zsg : z3p Try.prog 62 cf62 = true := by kernel_rfl
theorem zsf : z3p Try.prog 63 cf63 = true := by kernel_rfl
theorem zse : z3p Try.prog 65 cf65 = true := by kernel_rfl
theorem zsd : z3p Try.prog 66 cf66 = true := by kernel_rfl
theorem zsc : z3p Try.prog 67 cf67 = true := by kernel_rfl
theorem zsb : z3p Try.prog 68 cf68 = true := by kernel_rfl
theorem zsa : z3p Try.prog 69 cf69 = true := by kernel_rfl
theorem zs9 : z3p Try.prog 70 cf70 = true := by kernel_rfl
theorem zs8 : z3p Try.prog 71 cf71 = true := by kernel_rfl
theorem zs7 : z3p Try.prog 72 cf72 = true := by kernel_rfl
theorem zs6 : z3p Try.prog 73 cf73 = true := by kernel_rfl
theorem zs5 : z3p Try.prog 74 cf74 = true := by kernel_rfl
theorem zs4 : z3p Try.prog 76 cf76 = true := by kernel_rfl
theorem zs3 : z3p Try.prog 77 cf77 = true := by kernel_rfl
theorem zs2 : z3p Try.prog 78 cf78 = true := by kernel_rfl
theorem zs1 : z3p Try.prog 79 cf79 = true := by kernel_rfl
theorem zs0 : z3p Try.prog 80 cf80 = true := by kernel_rfl
theorem zrZ : z3p Try.prog 88 cf88 = true := by kernel_rfl
theorem zrY : z3p Try.prog 89 cf89 = true := by kernel_rfl
theorem zrX : z3p Try.prog 90 cf90 = true := by kernel_rfl
theorem zrW : z3p Try.prog 91 cf91 = true := by kernel_rfl
theorem zrV : z3p Try.prog 92 cf92 = true := by kernel_rfl
theorem zrU : z3p Try.prog 98 cf98 = true := by kernel_rfl
theorem zqY : z3p Try.prog 100 cf100 = true := by kernel_rfl
theorem z1C {p : Prop} [Decidable p] {a c : Cfg} {r : Option Cfg} {G : Prop} (h : (if p then some a else r) = some c) (h1 : p → a = c → G) (h2 : r = some c → G) : G := by
  split at h
  · rename_i hp; exact h1 hp (Option.some.inj h)
  · exact h2 h
theorem zuX : ∀ f c, z2M f = some c → z3p Try.prog f c = true := by
  intro f c h
  unfold z2M at h
  refine z1C h (fun e h => by rw [e, ← h]; exact zuV) fun h => ?_
  refine z1C h (fun e h => by rw [e, ← h]; exact zuU) fun h => ?_
  refine z1C h (fun e h => by rw [e, ← h]; exact zuT) fun h => ?_
  refine z1C h (fun e h => by rw [e, ← h]; exact zuS) fun h => ?_
  refine z1C h (fun e h => by rw [e, ← h]; exact zuR) fun h => ?_
  refine z1C h (fun e h => by rw [e, ← h]; exact zuQ) fun h => ?_
  refine z1C h (fun e h => by rw [e, ← h]; exact zt6) fun h => ?_
  refine z1C h (fun e h => by rw [e, ← h]; exact zt5) fun h => ?_
  refine z1C h (fun e h => by rw [e, ← h]; exact zt4) fun h => ?_
  refine z1C h (fun e h => by rw [e, ← h]; exact zt3) fun h => ?_
  refine z1C h (fun e h => by rw [e, ← h]; exact zt2) fun h => ?_
  refine z1C h (fun e h => by rw [e, ← h]; exact zt1) fun h => ?_
  refine z1C h (fun e h => by rw [e, ← h]; exact zt0) fun h => ?_
  refine z1C h (fun e h => by rw [e, ← h]; exact zsZ) fun h => ?_
  refine z1C h (fun e h => by rw [e, ← h]; exact zsY) fun h => ?_
  refine z1C h (fun e h => by rw [e, ← h]; exact zsX) fun h => ?_
  refine z1C h (fun e h => by rw [e, ← h]; exact zsW) fun h => ?_
  refine z1C h (fun e h => by rw [e, ← h]; exact zsV) fun h => ?_
  refine z1C h (fun e h => by rw [e, ← h]; exact zsU) fun h => ?_
  refine z1C h (fun e h => by rw [e, ← h]; exact zsT) fun h => ?_
  refine z1C h (fun e h => by rw [e, ← h]; exact zsS) fun h => ?_
  refine z1C h (fun e h => by rw [e, ← h]; exact zsR) fun h => ?_
  refine z1C h (fun e h => by rw [e, ← h]; exact zsQ) fun h => ?_
  refine z1C h (fun e h => by rw [e, ← h]; exact zsP) fun h => ?_
  refine z1C h (fun e h => by rw [e, ← h]; exact zsO) fun h => ?_
  refine z1C h (fun e h => by rw [e, ← h]; exact zsN) fun h => ?_
  refine z1C h (fun e h => by rw [e, ← h]; exact zsM) fun h => ?_
  refine z1C h (fun e h => by rw [e, ← h]; exact zsL) fun h => ?_
  refine z1C h (fun e h => by rw [e, ← h]; exact zsK) fun h => ?_
  refine z1C h (fun e h => by rw [e, ← h]; exact zsJ) fun h => ?_
  refine z1C h (fun e h => by rw [e, ← h]; exact zsI) fun h => ?_
  refine z1C h (fun e h => by rw [e, ← h]; exact zsH) fun h => ?_
  refine z1C h (fun e h => by rw [e, ← h]; exact zsG) fun h => ?_
  refine z1C h (fun e h => by rw [e, ← h]; exact zsF) fun h => ?_
  refine z1C h (fun e h => by rw [e, ← h]; exact zsE) fun h => ?_
  refine z1C h (fun e h => by rw [e, ← h]; exact zsD) fun h => ?_
  refine z1C h (fun e h => by rw [e, ← h]; exact zsC) fun h => ?_
  refine z1C h (fun e h => by rw [e, ← h]; exact zsB) fun h => ?_
  refine z1C h (fun e h => by rw [e, ← h]; exact zsA) fun h => ?_
  refine z1C h (fun e h => by rw [e, ← h]; exact zsz) fun h => ?_
  refine z1C h (fun e h => by rw [e, ← h]; exact zsy) fun h => ?_
  refine z1C h (fun e h => by rw [e, ← h]; exact zsx) fun h => ?_
  refine z1C h (fun e h => by rw [e, ← h]; exact zsw) fun h => ?_
  refine z1C h (fun e h => by rw [e, ← h]; exact zsv) fun h => ?_
  refine z1C h (fun e h => by rw [e, ← h]; exact zsu) fun h => ?_
  refine z1C h (fun e h => by rw [e, ← h]; exact zst) fun h => ?_
  refine z1C h (fun e h => by rw [e, ← h]; exact zss) fun h => ?_
  refine z1C h (fun e h => by rw [e, ← h]; exact zsr) fun h => ?_
  refine z1C h (fun e h => by rw [e, ← h]; exact zsq) fun h => ?_
  refine z1C h (fun e h => by rw [e, ← h]; exact zsp) fun h => ?_
  refine z1C h (fun e h => by rw [e, ← h]; exact zso) fun h => ?_
  refine z1C h (fun e h => by rw [e, ← h]; exact zsn) fun h => ?_
  refine z1C h (fun e h => by rw [e, ← h]; exact zsm) fun h => ?_
  refine z1C h (fun e h => by rw [e, ← h]; exact zsl) fun h => ?_
  refine z1C h (fun e h => by rw [e, ← h]; exact zsk) fun h => ?_
  refine z1C h (fun e h => by rw [e, ← h]; exact zsj) fun h => ?_
  refine z1C h (fun e h => by rw [e, ← h]; exact zsi) fun h => ?_
  refine z1C h (fun e h => by rw [e, ← h]; exact zsh) fun h => ?_
  refine z1C h (fun e h => by rw [e, ← h]; exact zsg) fun h => ?_
  refine z1C h (fun e h => by rw [e, ← h]; exact zsf) fun h => ?_
  refine z1C h (fun e h => by rw [e, ← h]; exact zse) fun h => ?_
  refine z1C h (fun e h => by rw [e, ← h]; exact zsd) fun h => ?_
  refine z1C h (fun e h => by rw [e, ← h]; exact zsc) fun h => ?_
  refine z1C h (fun e h => by rw [e, ← h]; exact zsb) fun h => ?_
  refine z1C h (fun e h => by rw [e, ← h]; exact zsa) fun h => ?_
  refine z1C h (fun e h => by rw [e, ← h]; exact zs9) fun h => ?_
  refine z1C h (fun e h => by rw [e, ← h]; exact zs8) fun h => ?_
  refine z1C h (fun e h => by rw [e, ← h]; exact zs7) fun h => ?_
  refine z1C h (fun e h => by rw [e, ← h]; exact zs6) fun h => ?_
  refine z1C h (fun e h => by rw [e, ← h]; exact zs5) fun h => ?_
  refine z1C h (fun e h => by rw [e, ← h]; exact zs4) fun h => ?_
  refine z1C h (fun e h => by rw [e, ← h]; exact zs3) fun h => ?_
  refine z1C h (fun e h => by rw [e, ← h]; exact zs2) fun h => ?_
  refine z1C h (fun e h => by rw [e, ← h]; exact zs1) fun h => ?_
  refine z1C h (fun e h => by rw [e, ← h]; exact zs0) fun h => ?_
  refine z1C h (fun e h => by rw [e, ← h]; exact zrZ) fun h => ?_
  refine z1C h (fun e h => by rw [e, ← h]; exact zrY) fun h => ?_
  refine z1C h (fun e h => by rw [e, ← h]; exact zrX) fun h => ?_
  refine z1C h (fun e h => by rw [e, ← h]; exact zrW) fun h => ?_
  refine z1C h (fun e h => by rw [e, ← h]; exact zrV) fun h => ?_
  refine z1C h (fun e h => by rw [e, ← h]; exact zrU) fun h => ?_
  refine z1C h (fun e h => by rw [e, ← h]; exact zqY) fun h => ?_
  cases h
end Go.Proofs.Ytbnnipkanechoaa
end
section
namespace Go.Proofs.Ytbnnipkanechoaa
open Go.RowKit
def zdc (P : Program) : Nat → TypeId → Bool
  | 0, _ => false
  | m + 1, t =>
    match P.underlying t with
    | some (.slice e) => P.cellsOf e != 0 && zdc P m e
    | some (.pointer e) => zdc P m e
    | some (.struct fs) => fs.toList.all fun f => zdc P m f.type
    | some (.array _ e) => zdc P m e
    | some (.map _ e) => zdc P m e
    | _ => true
section
variable {H : Type} {enc : TypeId × Value → H} {P : Program} {w : World} {base : Nat}
theorem zds {m : Nat} {r r' : TypeId → List Value → Option (DataW H × List MemPlace)}
    (hr : ∀ t cs x, zdc P m t = true → r t cs = some x → r' t cs = some x) {t : TypeId} {cs : List Value} {x : DataW H × List MemPlace} (hf : zdc P (m + 1) t = true)
    (h : DataW.trodStep enc P w base (fun _ => true) true r t cs = some x) : DataW.trodStep enc P w base (fun b => decide (b < w.heap.size)) true r' t cs = some x := by
  unfold DataW.trodStep at h ⊢
  unfold zdc at hf
  split at h
  case h_1 => exact h
  case h_2 => exact h
  case h_3 => exact h
  case h_4 => exact h
  case h_5 => exact h
  case h_6 e a hu =>
    rw [hu] at hf
    simp only [Option.map_eq_some_iff, Option.bind_eq_some_iff] at h ⊢
    obtain ⟨y, ⟨cs', hc, hy⟩, rfl⟩ := h
    exact ⟨y, ⟨cs', hc, hr _ _ _ hf hy⟩, rfl⟩
  case h_7 => exact h
  case h_8 e a len cap hu =>
    rw [hu] at hf
    simp only [Bool.and_eq_true, bne_iff_ne, ne_eq] at hf
    obtain ⟨hcell, hfe⟩ := hf
    simp only at h ⊢
    split at h
    · rename_i hc
      rw [if_pos hc]
      simp only [Option.map_eq_some_iff, Option.bind_eq_some_iff, if_true] at h ⊢
      obtain ⟨elems, he, rest, hrest, rfl⟩ := h
      have one : ∀ (i : Nat) (y : DataW H × List MemPlace), (w.cells? base (a.add (i * P.cellsOf e)) (P.cellsOf e)).bind (r e) = some y → (w.cells? base (a.add (i * P.cellsOf e)) (P.cellsOf e)).bind (r' e) = some y := by
        intro i y hv
        simp only [Option.bind_eq_some_iff] at hv ⊢
        obtain ⟨cs', hc', hy'⟩ := hv
        exact ⟨cs', hc', hr _ _ _ hfe hy'⟩
      refine ⟨elems, mapM_carry he (fun i y _ _ hy => one i y hy), rest, ?_, rfl⟩
      by_cases hb : a.block < w.heap.size
      · rw [if_pos (by simpa using hb)]
        exact mapM_carry hrest (fun j y _ _ hy => one (len + j) y hy)
      · rw [if_neg (by simpa using hb)]
        have hz : cap - len = 0 := by
          rcases Nat.eq_zero_or_pos (cap - len) with h0 | h0
          · exact h0
          · exfalso
            have hl : rest.length = cap - len := by simpa using mapM_some_length hrest
            have h1 := mapM_some_get hrest 0 0 (by simp [h0])
            obtain ⟨y, hy⟩ : ∃ y, rest[0]? = some y := ⟨rest[0], List.getElem?_eq_getElem (by omega)⟩
            rw [hy] at h1
            simp only [Option.bind_eq_some_iff] at h1
            obtain ⟨cs', hc', _⟩ := h1
            have h2 := World.cells?_block hc' (by omega)
            have h3 : (a.add ((len + 0) * P.cellsOf e)).block = a.block := by unfold Addr.add; split <;> rfl
            omega
        rw [hz] at hrest
        simpa using hrest
    · cases h
  case h_9 fs _ hu =>
    rw [hu] at hf
    split at h
    · rename_i hc
      rw [if_pos hc]
      simp only [Option.map_eq_some_iff] at h ⊢
      obtain ⟨xs, hx, rfl⟩ := h
      exact ⟨xs, mapM_carry hx (fun f y hin _ hv => hr _ _ _ (List.all_eq_true.1 hf f hin) hv), rfl⟩
    · cases h
  case h_10 n e _ hu =>
    rw [hu] at hf
    split at h
    · rename_i hc
      rw [if_pos hc]
      simp only [Option.map_eq_some_iff] at h ⊢
      obtain ⟨xs, hx, rfl⟩ := h
      exact ⟨xs, mapM_carry hx (fun f y _ _ hv => hr _ _ _ hf hv), rfl⟩
    · cases h
  case h_11 => exact h
  case h_12 => exact h
  case h_13 => exact h
  case h_14 k e b hu =>
    rw [hu] at hf
    split at h
    · rename_i es clock hb
      split at h
      · rename_i hc
        simp only [Option.bind_eq_some_iff] at h
        obtain ⟨entries, he, hd⟩ := h
        split at hd
        · rename_i hris
          have hx := Option.some.inj hd
          subst hx
          simp only [if_pos hc, Option.bind_eq_some_iff]
          refine ⟨entries, mapM_carry he (fun x y _ hy hv => ?_), by simp [hris]⟩
          simp only [Option.bind_eq_some_iff] at hv ⊢
          obtain ⟨key, hk, hz⟩ := hv
          refine ⟨key, hk, ?_⟩
          split at hz
          · rename_i hfm
            rw [if_pos hfm]
            simp only [Option.map_eq_some_iff] at hz ⊢
            obtain ⟨q, hq, rfl⟩ := hz
            exact ⟨q, hr _ _ _ hf hq, rfl⟩
          · cases hz
        · cases hd
      · cases h
    · cases h
  case h_15 => exact h
  case h_16 => exact h
  case h_17 => exact h
  case h_18 => exact h
  case h_19 => exact h
  case h_20 => exact h
  case h_21 => cases h
theorem zjV : ∀ (n m : Nat) (t : TypeId) (cs : List Value) (x : DataW H × List MemPlace), zdc P m t = true →
    DataW.trod enc P w base (fun _ => true) true n t cs = some x → DataW.trod enc P w base (fun b => decide (b < w.heap.size)) true n t cs = some x := by
  intro n
  induction n with
  | zero => intro m t cs x _ h; simp [DataW.trod] at h
  | succ n ih =>
    intro m t cs x hf h
    cases m with
    | zero => simp [zdc] at hf
    | succ m =>
      rw [DataW.trod_step] at h ⊢
      exact zds (m := m) (fun t cs x hf hx => ih m t cs x hf hx) hf h
theorem zgy {w' : World} (hb : Below w.heap.size w w') {p : MemPlace} (hp : p.block < w.heap.size) : w.sameAt w' p := by
  cases p with
  | cell b off => exact hb.cell (p := ⟨b, off, none⟩) hp
  | map b => exact hb.block b hp
theorem z9w {w' : World} (m : Nat) (hb : Below w.heap.size w w') : ∀ {ts : List TypeId} {vs : List Value} {ds : List (DataW H)} {ps : List MemPlace}, (ts.all (zdc P m)) = true →
    DataW.TrodAll enc P w 0 (fun _ => true) true ts vs ds ps → DataW.TrodAll enc P w' 0 (fun b => decide (b < w.heap.size)) true ts vs ds ps
  | [], [], [], ps, _, h => h
  | t :: ts, v :: vs, d :: ds, ps, hf, ⟨p, q, ⟨n, h1⟩, h2, e⟩ => by
    simp only [List.all_cons, Bool.and_eq_true] at hf
    have h3 := zjV n m t _ _ hf.1 h1
    exact ⟨p, q, ⟨n, DataW.trod_carry n _ _ _ h3 (fun z hz => zgy hb (DataW.trod_lt n _ _ _ h3 z hz))⟩, z9w m hb hf.2 h2, e⟩
  | [], _ :: _, _, _, _, h => by cases h
  | [], [], _ :: _, _, _, h => by cases h
  | _ :: _, [], _, _, _, h => by cases h
  | _ :: _, _ :: _, [], _, _, h => by cases h
end
section
variable {H : Type} {enc : TypeId × Value → H} {P : Program} {w : World} {r : Reach} {b0 : Nat}
open Go.ChangeShapes Go.WideShapes
open Go.Deep (open_bools)
theorem znD (a : Addr) (j : Nat) : (a.add j).block = a.block := by unfold Addr.add; split <;> rfl
end
end Go.Proofs.Ytbnnipkanechoaa
end
section
namespace Go.Proofs.Ytbnnipkanechoaa
open Go.ChangeShapes Go.WideShapes Go.RowKit
def KZ : Nat → z0f := fun _ => []
theorem zmJ {P : Program} {Xc : z0C} {cf : FuncId → Option Cfg} {f : FuncId} {args : List T} {outs : List T} (hX : z9s P (fun _ _ => True) Xc) (hm : P.follows .mixedOrders = true) (hf : ∀ f c, cf f = some c → z3p P f c = true)
    (h : Lim P Xc cf f args = some (.sc (.bool true), outs)) (hio : args.all (fun t => !z3V t) = true) (W : World) (vals : Array Value) (hs : vals.size = args.length)
    (ha : ∀ i t, args[i]? = some t → TRep W KZ [] (vals.getD i undef) t) : Calls P f vals W fun e W' => e = .returned (.bool true) ∧ Below W.heap.size W W' := by
  have hc := zqK (I := fun _ _ => True) EnvS.none hX hm hf h
  refine (hc.calls W KZ vals hs (fun i t hi => ?_) trivial).mono fun e W' ⟨v, K', he, hv, _, hst⟩ => ?_
  · have h1 := List.all_eq_true.1 hio t (List.mem_of_getElem? hi)
    unfold zeL
    rw [if_neg (by simpa using h1)]
    exact ha i t hi
  · generalize hT : T.sc (.bool true) = t at hv
    cases hv with
    | sc c v hb => cases hT; exact ⟨he, hst.os, hst.tape, hst.output, hst.size, fun b hb => (hst.old b hb (.inl rfl)).2⟩
    | _ => cases hT
section
variable {H : Type} {enc : TypeId × Value → H} {P : Program} {w : World} {r : Reach} {b0 : Nat}
theorem zmy {t e : TypeId} {v : Value} {d : DataW H} {ps : List MemPlace} (ht : P.underlying t = some (.slice e)) (he : P.underlying e = some (.int .i64)) (hc : P.cellsOf e = 1)
    (hval : Value.okWide P w r b0 t v) (hd : DataW.Trod enc P w 0 (fun _ => true) true t v d ps) :
    ∃ xs : List Int, TRep w KZ [] v (.sl xs.length (xs.map fun x => .sc (.int .i64 x))) ∧ xs.length ≤ maxLen ∧ ∀ x ∈ xs, (Lit.int .i64 x).wf = true := by
  obtain ⟨ga, n, cap, rfl⟩ := okWide_slice ht hval
  obtain ⟨fuel, hf⟩ := hd
  rcases open_ints ht he hc hf with ⟨hcs, _⟩ | ⟨a, len', cap', zs, hcs, _, hl, hm, hz, _, hcell, hwz⟩
  · simp [Value.cells] at hcs
    obtain ⟨rfl, rfl, rfl⟩ := hcs
    exact ⟨[], .emp _ _ _ (by decide), by decide, fun x hx => by cases hx⟩
  · simp [Value.cells] at hcs
    obtain ⟨rfl, rfl, rfl⟩ := hcs
    simp only [if_true] at hz
    refine ⟨zs.take n, ?_, by simp; omega, fun x hx => hwz x (List.mem_of_mem_take hx)⟩
    have hln : (zs.take n).length = n := by simp; omega
    rw [hln]
    by_cases h0 : n = 0
    · subst h0
      simp only [List.take_zero, List.map_nil]
      exact .emp _ _ _ hm
    · have hc0 := hcell 0 (by omega)
      have hb := World.block_lt_of_cell? w _ hc0
      rw [znD] at hb
      have hsp : a.spot = none := by
        have : a.add 0 = a := by simp [Addr.add]
        rw [this] at hc0
        unfold World.cell? at hc0
        split at hc0
        · split at hc0
          · cases hc0
          · rename_i hh
            simpa using hh
        · cases hc0
      obtain ⟨g, o, sp⟩ := a
      simp only at hsp
      subst hsp
      refine .fro [] g o n cap _ (fun j => .int .i64 (zs.getD j 0)) rfl hb hl hm (fun j hj => ?_) (fun j t hj => ?_)
      · have h1 := hcell j (by simp at hj; omega)
        have e : (⟨g, o, none⟩ : Addr).add j = ⟨g, o + j, none⟩ := by
          unfold Addr.add
          split
          · rename_i h; subst h; rfl
          · rfl
        rw [e] at h1
        exact h1
      · simp only [List.getElem?_map, Option.map_eq_some_iff] at hj
        obtain ⟨x, hx, rfl⟩ := hj
        have hjn : j < n := by
          have := (List.getElem?_eq_some_iff.1 hx).1
          simp at this; omega
        rw [List.getElem?_take_of_lt hjn] at hx
        simp only [List.getD, hx]
        exact .sc _ _ rfl
end
end Go.Proofs.Ytbnnipkanechoaa
end
section
/- Proved here: the law ImagesClasses returns true for every input, and its arguments read afterwards as before. No condition. -/
namespace Go.Proofs.Ytbnnipkanechoaa.imagesClasses
open Go.ChangeShapes Go.WideShapes Go.ChangeAt Go.RowKit
open Go.ChangeMaps (open_string shut_string)
theorem own : ownKnob Try.prog.godebug = none := by kernel_rfl
set_option maxRecDepth 100000 in
theorem zow (H : Type) (enc : TypeId × Value → H) (W : World) (base : Nat) (args : Array Value) (ds gs : List (DataW H)) (before : List MemPlace)
    (hval0 : ∀ (j : Nat) t v, Try.f5.params[j]? = some t → args[j]? = some v → Value.okWide Try.prog W .any base t v)
    (hW : DataW.Whole enc Try.prog Try.f5.params.toList Rows.imagesClassesSpec.vars false W args.toList ds gs before) :
    Calls Try.prog 5 args W fun e W' => ∃ v, e = .returned v ∧ Rows.imagesClassesSpec.post enc Try.prog Try.f5 false true false false W args v W' := by
  have hW' := hW
  obtain ⟨p, q, hA0, hV, rfl, hfz, hnd⟩ := hW
  have hval := hval0
  have hA : DataW.TrodAll enc Try.prog W 0 (fun _ => true) true Try.f5.params.toList args.toList ds p := hA0
  rw [Try.params5] at hA hval
  obtain ⟨v0, vs0, d0, ds0, p0, q0, hargs, rfl, rfl, h0, r0⟩ := trodAll_cons hA
  obtain ⟨rfl, rfl, rfl⟩ := trodAll_nil r0
  obtain rfl : args = #[v0] := by cases args; simp_all
  obtain ⟨rfl, rfl⟩ := trodVars_none hV
  obtain ⟨a0, t0, w0, z0⟩ := zmy Try.underlying22 Try.underlying3 (by kernel_rfl) (hval 0 22 v0 rfl rfl) h0
  obtain ⟨outs, hlaw⟩ := zl1 a0 w0 z0
  refine (zmJ zlG (by kernel_rfl) zuX hlaw rfl W _ rfl (fun i t hi => ?_)).mono fun e W' ⟨he, bel⟩ => ?_
  · match i, hi with
    | 0, hi => cases hi; exact t0
  · subst he
    exact ⟨_, rfl, _, _, _, [], _, [], hW', trodAll_mk1 (shut_bool Try.underlying4 _), z9w 12 bel (by kernel_rfl) hA0, rfl, bel.frame _, fun h => by cases h⟩
theorem z9r {a b : Bool} (ha : a = true) (hb : b = true) : (a && b) = true := by rw [ha, hb]; rfl
set_option maxHeartbeats 4000000 in
theorem zrK : joinedFacts Try.checked.prog 5 Try.f5 Rows.imagesClassesSpec Rows.imagesClassesRow = true :=
  (z9r (z9r (z9r (z9r (z9r (z9r (z9r (z9r (z9r (z9r (z9r (z9r (z9r (z9r (z9r (z9r (z9r (z9r (z9r (z9r (z9r (z9r (z9r (z9r (z9r (z9r (z9r (z9r (z9r (z9r (z9r (by as_aux_lemma => kernel_rfl)
    (by as_aux_lemma => kernel_rfl))
    (by as_aux_lemma => kernel_rfl))
    (by as_aux_lemma => kernel_rfl))
    (by as_aux_lemma => kernel_rfl))
    (by as_aux_lemma => kernel_rfl))
    (by as_aux_lemma => kernel_rfl))
    (by as_aux_lemma => kernel_rfl))
    (by as_aux_lemma => kernel_rfl))
    (by as_aux_lemma => kernel_rfl))
    (by as_aux_lemma => kernel_rfl))
    (by as_aux_lemma => kernel_rfl))
    (by as_aux_lemma => kernel_rfl))
    (by as_aux_lemma => kernel_rfl))
    (by as_aux_lemma => kernel_rfl))
    (by as_aux_lemma => kernel_rfl))
    (by as_aux_lemma => kernel_rfl))
    (by as_aux_lemma => kernel_rfl))
    (by as_aux_lemma => kernel_rfl))
    (by as_aux_lemma => kernel_rfl))
    (by as_aux_lemma => kernel_rfl))
    (by as_aux_lemma => kernel_rfl))
    (by as_aux_lemma => kernel_rfl))
    (by as_aux_lemma => kernel_rfl))
    (by as_aux_lemma => kernel_rfl))
    (by as_aux_lemma => kernel_rfl))
    (by as_aux_lemma => kernel_rfl))
    (by as_aux_lemma => kernel_rfl))
    (by as_aux_lemma => kernel_rfl))
    (by as_aux_lemma => kernel_rfl))
    (by as_aux_lemma => kernel_rfl))
    (by as_aux_lemma => kernel_rfl))
set_option maxRecDepth 100000 in
theorem zqL (os : Os) (started : os.Started) (H : Type) (enc : TypeId × Value → H) :
    ReturnsInHanded {} Try.checked os 5 .any (Rows.imagesClassesSpec.pre6 enc Try.prog Try.f5 Rows.imagesClassesRow.domain false) (Rows.imagesClassesSpec.post enc Try.prog Try.f5 false true false false) := by
  refine returnsInHanded_of_change (C := Try.checked) (by kernel_rfl) started (by kernel_rfl) Try.func5
    (ChangeSpec.witness6 (enc := enc) (C := Try.checked) false ⟨#[], #[.slice none 0 0], []⟩ 8 (by kernel_rfl) (by kernel_rfl) (by kernel_rfl) (by kernel_rfl)) ?_
  intro W base args ds gs before hval0 hW hcnd _
  exact zow H enc W base args ds gs before hval0 hW
theorem zu5 : Rows.imagesClassesRow.holds Try.pinned (OpenSpec.ofChange Rows.imagesClassesSpec) :=
  OpenClaim.holds_of_wide 5 Try.f5 rfl rfl rfl rfl rfl rfl rfl ⟨rfl, rfl, rfl, rfl, rfl⟩ rfl rfl rfl rfl rfl (by kernel_rfl) Try.func5 zrK
    (of_decide_eq_true (by kernel_rfl)) (by unfold Func.isWrapper; first | (rw [if_pos (by decide +kernel)]; kernel_rfl) | (rw [if_neg (by decide +kernel)]; exact ⟨rfl, rfl⟩))
    (fun os started H enc _ => zqL os started H enc)
theorem proved : Rows.ImagesClassesSaid :=
  zu5
#print axioms proved
end Go.Proofs.Ytbnnipkanechoaa.imagesClasses
end

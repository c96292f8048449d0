/- Proved here: a part of the proof of the law at hand, in one text: no condition. -/
import Derived.Test.YtbnnipkanechoaaB4
import Derived.KernelRfl
import Derived.WalkKit
import Derived.WalkSpells
import Derived.WalkLawsBesides
import Derived.Lib.Hide
import Derived.Deep.OwnRows
import Derived.Deep.RegionLaw
import Derived.Shelf.Small.Bits
import Derived.Shelf.Strconv.Itoa0
import Derived.Ground.Names2Prog
import Derived.Shelf.Slices.SearchI
import Derived.Ground.SlgcProg
import Derived.Shelf.SlicesG.Cmp
import Derived.Ground.SlsfProg
import Derived.Shelf.SlSortCmp.Insertion
import Derived.Shelf.SlSortCmp.SiftDown1
import Derived.Shelf.SlSortCmp.HeapSort1
import Derived.Shelf.SlSortCmp.Insertion1
import Derived.Shelf.SlSortCmp.Median1
import Derived.Shelf.SlSortCmp.Pivot1
import Derived.Shelf.SlSortCmp.ReverseRange1
import Derived.Shelf.SlSortCmp.PartialInsertion1
import Derived.Shelf.SlSortCmp.PartitionEqual1
import Derived.Shelf.SlSortCmp.Partition1
import Derived.Shelf.SlSortCmp.Pdq1
import Derived.Shelf.SlSortCmp.Whole1
import Derived.Test.YtbnnipkanechoaaProg
import Derived.ChangeOld
import Derived.ChangeReads
import Derived.Below
import Derived.ChangeSlices
import Derived.Deep.Grids
import Derived.WideShapes
import Derived.ProofKit
set_option linter.unusedVariables false
set_option linter.unusedSimpArgs false
section
namespace Go.Proofs.Ytbnnipkanechoaa
open Go
set_option maxRecDepth 100000
def z6E (g : Nat → Nat) : Nat → Nat
  | 0 => 0
  | k + 1 => max (z6E g k) (g k)
theorem zoM {g : Nat → Nat} {k j : Nat} (h : j < k) : g j ≤ z6E g k := by
  induction k with
  | zero => omega
  | succ k ih =>
    simp only [z6E]
    by_cases e : j = k
    · subst e; omega
    · have := ih (by omega); omega
theorem z9J {g : Nat → Nat} {k b : Nat} (h : ∀ j, j < k → g j ≤ b) : z6E g k ≤ b := by
  induction k with
  | zero => simp [z6E]
  | succ k ih =>
    have := ih fun j hj => h j (by omega)
    have := h k (by omega)
    simp only [z6E]; omega
theorem ziK {g g' : Nat → Nat} {k : Nat} (h : ∀ j, j < k → g j = g' j) : z6E g k = z6E g' k := by
  induction k with
  | zero => rfl
  | succ k ih => simp only [z6E]; rw [ih fun j hj => h j (by omega), h k (by omega)]
def z4O (p : Nat → Bool) : Nat → Nat
  | 0 => 0
  | k + 1 => z4O p k + (if p k = true then 1 else 0)
theorem zki (p : Nat → Bool) (k : Nat) : z4O p k ≤ k := by
  induction k with
  | zero => simp [z4O]
  | succ k ih => simp only [z4O]; split <;> omega
theorem zkh {p q : Nat → Bool} {k : Nat} (h : ∀ j, j < k → p j = true → q j = true) : z4O p k ≤ z4O q k := by
  induction k with
  | zero => simp [z4O]
  | succ k ih =>
    have := ih fun j hj => h j (by omega)
    have := h k (by omega)
    simp only [z4O]
    by_cases h1 : p k = true
    · rw [if_pos h1, if_pos (this h1)]; omega
    · rw [if_neg h1]; split <;> omega
theorem zfd {p q : Nat → Bool} {k i : Nat} (h : ∀ j, j < k → p j = true → q j = true) (hi : i < k) (hp : p i = false) (hq : q i = true) : z4O p k < z4O q k := by
  induction k with
  | zero => omega
  | succ k ih =>
    simp only [z4O]
    by_cases e : i = k
    · subst e
      have := zkh (p := p) (q := q) (k := i) fun j hj => h j (by omega)
      rw [hp, hq]; simp; omega
    · have h1 := ih (fun j hj => h j (by omega)) (by omega)
      have := h k (by omega)
      by_cases h2 : p k = true
      · rw [if_pos h2, if_pos (this h2)]; omega
      · rw [if_neg h2]; split <;> omega
structure BelN (N : Nat) (b : Nat → Nat → Bool) : Prop where
  refl : ∀ i, i < N → b i i = true
  trans : ∀ i j k, i < N → j < N → k < N → b i j = true → b j k = true → b i k = true
def zfJ (N : Nat) (b : Nat → Nat → Bool) (i : Nat) : Nat := z4O (fun j => b j i) N
def sbN (b : Nat → Nat → Bool) (j i : Nat) : Bool := b j i && !b i j
theorem zno {N : Nat} {b : Nat → Nat → Bool} (hb : BelN N b) {i j : Nat} (hi : i < N) (hj : j < N) (h : sbN b j i = true) : zfJ N b j < zfJ N b i := by
  simp only [sbN, Bool.and_eq_true, Bool.not_eq_true'] at h
  exact zfd (fun k hk hkj => hb.trans k j i hk hj hi hkj h.1) hi h.2 (hb.refl i hi)
def zuk (N : Nat) (b : Nat → Nat → Bool) (z : Nat → Bool) (h : Nat → Nat) : Prop := ∀ i, i < N → h i = if z i = true then 0 else z6E (fun j => if sbN b j i = true then h j + 1 else 0) N
def zro (N : Nat) (b : Nat → Nat → Bool) (z : Nat → Bool) : Nat → Nat → Nat
  | 0, _ => 0
  | f + 1, i => if z i = true then 0 else z6E (fun j => if sbN b j i = true then zro N b z f j + 1 else 0) N
def zpD (N : Nat) (b : Nat → Nat → Bool) (z : Nat → Bool) (i : Nat) : Nat := zro N b z N i
theorem zfa {N : Nat} {b : Nat → Nat → Bool} (hb : BelN N b) (z : Nat → Bool) : ∀ f i, i < N → zfJ N b i ≤ f → ∀ g, zfJ N b i ≤ g → zro N b z f i = zro N b z g i
  | 0, i, hi, hl, g, hg => by
    exfalso
    have := zfd (p := fun _ => false) (q := fun j => b j i) (k := N) (i := i) (fun j _ hf => by simp at hf) hi rfl (hb.refl i hi)
    unfold zfJ at hl; omega
  | f + 1, i, hi, hl, 0, hg => by
    exfalso
    have := zfd (p := fun _ => false) (q := fun j => b j i) (k := N) (i := i) (fun j _ hf => by simp at hf) hi rfl (hb.refl i hi)
    unfold zfJ at hg; omega
  | f + 1, i, hi, hl, g + 1, hg => by
    simp only [zro]
    split
    · rfl
    · refine ziK fun j hj => ?_
      by_cases hs : sbN b j i = true
      · have := zno hb hi hj hs
        rw [if_pos hs, if_pos hs, zfa hb z f j hj (by omega) g (by omega)]
      · rw [if_neg hs, if_neg hs]
theorem zjV {N : Nat} {b : Nat → Nat → Bool} (hb : BelN N b) (z : Nat → Bool) : zuk N b z (zpD N b z) := fun i hi => by
  have hl : zfJ N b i ≤ N := zki _ _
  unfold zpD
  rw [zfa hb z N i hi hl (N + 1) (by omega)]
  rfl
theorem zpC {N : Nat} {b : Nat → Nat → Bool} (hb : BelN N b) (z : Nat → Bool) {i : Nat} (hi : i < N) : zpD N b z i ≤ N := by
  have : ∀ L i, i < N → zfJ N b i ≤ L → zpD N b z i ≤ L := by
    intro L
    induction L with
    | zero =>
      intro i hi hl
      exfalso
      have := zfd (p := fun _ => false) (q := fun j => b j i) (k := N) (i := i) (fun j _ hf => by simp at hf) hi rfl (hb.refl i hi)
      unfold zfJ at hl; omega
    | succ L ih =>
      intro i hi hl
      rw [zjV hb z i hi]
      split
      · omega
      · refine z9J fun j hj => ?_
        by_cases hs : sbN b j i = true
        · have := zno hb hi hj hs
          have := ih j hj (by omega)
          rw [if_pos hs]; omega
        · rw [if_neg hs]; omega
  exact this N i hi (zki _ _)
theorem zko {d : DFA} {m n : Nat} (hd : DfaOk d m n) {S : List Nat} (hS : SetsP d m n S) : BelN S.length (z6h d m n S) where
  refl i hi := (z4l hd hS hi).2 (zkn d m _)
  trans i j k hi hj hk h1 h2 := (z4l hd hS hk).2 (zdS hd ((z4l hd hS hj).1 h1) ((z4l hd hS hk).1 h2))
theorem zmO {s : Nat} (h : s < 128) : z5v (s : Int) = some ((szN s : Nat) : Int) := by
  unfold z5v z4h
  rw [zrY (by omega)]
  have : z2R (s : Int) = some ((szN s : Nat) : Int) := by
    unfold z2R
    rw [z1s _ (by omega), z1s _ (by omega), z1s _ (by omega), z1s _ (by omega), z1s _ (by omega), z1s _ (by omega)]
    congr 1
    revert s
    decide +kernel
  rw [this]; rfl
def zo1 (S : List Nat) (i : Nat) : Bool := decide (szN (S.getD i 0) = 1)
def z9N (d : DFA) (m n : Nat) (S : List Nat) (i : Nat) : Nat := zpD S.length (z6h d m n S) (zo1 S) i
def zqH (d : DFA) (m n : Nat) (S : List Nat) : List Int := (List.range S.length).map fun i => ((z9N d m n S i : Nat) : Int)
theorem zmC (N : Nat) : toI (List.range N) = (List.range N).map fun i => ((i : Nat) : Int) := rfl
theorem zlF {d : DFA} {m n : Nat} {S : List Nat} (hl : S.length < 4611686018427387904) {i : Nat} (hi : i < S.length) (C O : List Int) (L : List Int) (hL : L.length = S.length) (h0 : L.getD i 0 = 0) :
    z1q (z2c (dgm d m n S) (i : Int) O) LFm (0, L) = z0Z (((i + 1 : Nat) : Int), L.set i ((zfJ S.length (z6h d m n S) i : Nat) : Int), O.set i (i : Int)) := by
  refine z2f (s := ((0 : Int), L)) S.length (fun k => ((k : Int), L.set i ((z4O (fun j => z6h d m n S j i) k : Nat) : Int))) ?_ (by simp only [LFm]; omega) (fun k hk => ?_) ?_
  · refine Prod.ext rfl ?_
    show L = L.set i 0
    apply List.ext_getElem (by simp)
    intro j h1 h2
    rw [List.getElem_set]
    by_cases e : i = j
    · subst e
      rw [if_pos rfl]
      rw [List.getD, List.getElem?_eq_getElem h1, Option.getD_some] at h0
      exact h0
    · rw [if_neg e]
  · have hc := zki (fun j => z6h d m n S j i) k
    have ed : (dgm d m n S).sets = toI S := rfl
    have eb : (dgm d m n S).below = zpe d m n S := rfl
    simp only [z2c]
    rw [ed, eb, if_pos (by rw [z0G]; omega), zkp hk, Option.bind_some, z3k hi, Option.bind_some, z3n (by omega)]
    simp only [z4O]
    by_cases h : z6h d m n S k i = true
    · rw [if_pos h, if_pos h, zjy (by omega), Option.bind_some, Int.toNat_natCast, ziz, z3n (by omega)]
    · rw [if_neg h, if_neg h]; rfl
  · have ed : (dgm d m n S).sets = toI S := rfl
    simp only [z2c]
    rw [ed, if_neg (by rw [z0G]; omega), z3n (by omega), Int.toNat_natCast]
    rfl
theorem znw {d : DFA} {m n : Nat} (hd : DfaOk d m n) {S : List Nat} (hS : SetsP d m n S) (hl : S.length < 100000) (k : Int) {i : Nat} (hi : i < S.length) {H : Nat → Nat} (h0 : H i = 0) (hlow : ∀ j, j < S.length → sbN (z6h d m n S) j i = true → H j = z9N d m n S j) :
    z1q (z1X (dgm d m n S) (zp6 d m n S) k (i : Int)) LFm (0, (List.range S.length).map fun j => ((H j : Nat) : Int)) = z0Z (IntKind.i64.wrap (k + 1), (List.range S.length).map fun j => (((if j = i then z6E (fun j => if sbN (z6h d m n S) j i = true then z9N d m n S j + 1 else 0) S.length else H j) : Nat) : Int)) := by
  have he := zhL hd hS
  have hb := zko hd hS
  have ed : (dgm d m n S).sets = toI S := rfl
  have eb : (dgm d m n S).below = zpe d m n S := rfl
  refine z2f (s := ((0 : Int), (List.range S.length).map fun j => ((H j : Nat) : Int))) S.length (fun q => ((q : Int), (List.range S.length).map fun j => (((if j = i then z6E (fun j => if sbN (z6h d m n S) j i = true then z9N d m n S j + 1 else 0) q else H j) : Nat) : Int))) ?_ (by simp only [LFm]; omega) (fun q hq => ?_) ?_
  · refine Prod.ext rfl ?_
    refine List.map_congr_left fun j hj => ?_
    by_cases e : j = i
    · subst e; simp [z6E, h0]
    · rw [if_neg e]
  · have hle := zpC hb (zo1 S) hq
    have hmx : z6E (fun j => if sbN (z6h d m n S) j i = true then z9N d m n S j + 1 else 0) q ≤ S.length + 1 := z9J fun j hj => by
      have := zpC hb (zo1 S) (i := j) (by omega)
      unfold z9N; split <;> omega
    have hse : z6h d m n S q i = true → (sbN (z6h d m n S) q i = true ↔ ¬ z6n (z2G d m n S) S.length q = z6n (z2G d m n S) S.length i) := fun h => by
      rw [zqs he hq hi]
      simp only [sbN, z2G, h, Bool.true_and, Bool.not_eq_true', Bool.not_eq_true]
    have hfin : ∀ v : Nat, v = (if sbN (z6h d m n S) q i = true then max (z6E (fun j => if sbN (z6h d m n S) j i = true then z9N d m n S j + 1 else 0) q) (z9N d m n S q + 1) else z6E (fun j => if sbN (z6h d m n S) j i = true then z9N d m n S j + 1 else 0) q) → ((List.range S.length).map fun j => (((if j = i then v else H j) : Nat) : Int)) = (List.range S.length).map fun j => (((if j = i then z6E (fun j => if sbN (z6h d m n S) j i = true then z9N d m n S j + 1 else 0) (q + 1) else H j) : Nat) : Int) := fun v hv => by
      refine List.map_congr_left fun j hj => ?_
      by_cases e : j = i
      · rw [if_pos e, if_pos e, hv]
        simp only [z6E]
        by_cases h : sbN (z6h d m n S) q i = true
        · rw [if_pos h, if_pos h]
        · rw [if_neg h, if_neg h]; congr 1; omega
      · rw [if_neg e, if_neg e]
    simp only [z1X]
    rw [ed, eb, if_pos (by rw [z0G]; omega), zkp hq, Option.bind_some, z3k hi, Option.bind_some, z3n (by omega)]
    by_cases h : z6h d m n S q i = true
    · rw [if_pos h, zp6, z3k hq, Option.bind_some, z3k hi, Option.bind_some]
      by_cases hc : z6n (z2G d m n S) S.length q = z6n (z2G d m n S) S.length i
      · have hs : ¬ sbN (z6h d m n S) q i = true := fun hh => (hse h).1 hh hc
        rw [if_pos (by rw [hc]), hfin _ (by rw [if_neg hs])]
      · have hs := (hse h).2 hc
        have hqi : q ≠ i := fun e => by subst e; exact hc rfl
        rw [if_neg (by omega), z3k hi, Option.bind_some, z3k hq, Option.bind_some, if_pos rfl, if_neg hqi, hlow q hq hs, z3n (by unfold z9N; omega), Int.toNat_natCast]
        have hset : ∀ v : Nat, ((List.range S.length).map fun j => (((if j = i then z6E (fun j => if sbN (z6h d m n S) j i = true then z9N d m n S j + 1 else 0) q else H j) : Nat) : Int)).set i (v : Int) = (List.range S.length).map fun j => (((if j = i then v else H j) : Nat) : Int) := fun v => by
          apply List.ext_getElem (by simp)
          intro j h1 h2
          simp only [List.getElem_set, List.getElem_map, List.getElem_range]
          by_cases e : i = j
          · subst e; rw [if_pos rfl, if_pos rfl]
          · rw [if_neg e, if_neg (fun hh => e hh.symm), if_neg (fun hh => e hh.symm)]
        by_cases hlt : ((z6E (fun j => if sbN (z6h d m n S) j i = true then z9N d m n S j + 1 else 0) q : Nat) : Int) < ((z9N d m n S q + 1 : Nat) : Int)
        · rw [if_pos hlt, hset, hfin _ (by rw [if_pos hs]; omega)]
        · rw [if_neg hlt, hset, hfin _ (by rw [if_pos hs]; omega)]
    · have hs : ¬ sbN (z6h d m n S) q i = true := fun hh => by simp only [sbN, Bool.and_eq_true] at hh; exact h hh.1
      rw [if_neg h, hfin _ (by rw [if_neg hs])]
  · simp only [z1X]
    rw [ed, if_neg (by rw [z0G]; omega)]
theorem zlV {d : DFA} {m n : Nat} (hd : DfaOk d m n) (hn : n ≤ 7) {S : List Nat} (hS : SetsP d m n S) : z2B (dgm d m n S) (zp6 d m n S) = some (zqH d m n S) := by
  have h128 : 2 ^ n ≤ 128 := Nat.pow_le_pow_right (n := 2) (by omega) hn
  have hSl := z1L hS.nd hS.lt
  have hb := zko hd hS
  have he := zhL hd hS
  have ed : (dgm d m n S).sets = toI S := rfl
  unfold z2B
  rw [ed, z0G, z1s _ (by unfold z3w; omega), Int.toNat_natCast]
  have f1 : List.replicate S.length (0 : Int) = z2F S.length (fun i => ((zfJ S.length (z6h d m n S) i : Nat) : Int)) 0 0 := (zas _ _ _).symm
  have f2 : (List.replicate S.length (0 : Int)) = z2F S.length (fun i => ((i : Nat) : Int)) 0 0 := (zas _ _ _).symm
  conv => lhs; arg 3; rw [show ((0 : Int), List.replicate S.length (0 : Int), List.replicate S.length (0 : Int)) = ((0 : Int), z2F S.length (fun i => ((zfJ S.length (z6h d m n S) i : Nat) : Int)) 0 0, z2F S.length (fun i => ((i : Nat) : Int)) 0 0) by rw [← f1, ← f2]]
  refine z2f (s := ((0 : Int), z2F S.length (fun i => ((zfJ S.length (z6h d m n S) i : Nat) : Int)) 0 0, z2F S.length (fun i => ((i : Nat) : Int)) 0 0)) S.length (fun k => ((k : Int), z2F S.length (fun i => ((zfJ S.length (z6h d m n S) i : Nat) : Int)) 0 k, z2F S.length (fun i => ((i : Nat) : Int)) 0 k)) rfl (by simp only [LFm]; omega) (fun i hi => ?_) ?_
  · simp only [z2O]
    rw [ed, if_pos (by rw [z0G]; omega), z8h hi, Option.bind_some, zlF (by omega) hi [] _ _ (zc5 _ _ _ _) (by simp [z2F, List.getD, hi])]
    have e1 := z6f (f := fun i => ((zfJ S.length (z6h d m n S) i : Nat) : Int)) (z := 0) hi
    have e2 := z6f (f := fun i => ((i : Nat) : Int)) (z := 0) hi
    rw [e1, e2]
  · simp only [z2O]
    rw [ed, if_neg (by rw [z0G]; omega), zar, zar]
    have hK : ((List.range S.length).map fun i => ((zfJ S.length (z6h d m n S) i : Nat) : Int)).length = S.length := by simp
    have hv : zg6 ((List.range S.length).map fun i => ((zfJ S.length (z6h d m n S) i : Nat) : Int)) (toI (List.range S.length)) := fun x hx => by
      simp only [toI, List.mem_map, List.mem_range] at hx
      obtain ⟨i, hi, rfl⟩ := hx
      exact ⟨by omega, by rw [hK]; omega⟩
    obtain ⟨O, hO, hs, hp⟩ := zmL hv (by rw [z0G, List.length_range]; omega)
    rw [← zmC, hO, Option.bind_some, z0G, z1s _ (by unfold z3w; omega), Int.toNat_natCast]
    have hOl : O.length = S.length := by rw [hp.length_eq, z0G, List.length_range]
    have hOn : O.Nodup := hp.nodup_iff.2 (by
      unfold toI
      exact List.Pairwise.map _ (fun a b h e => h (by omega)) List.nodup_range)
    have hmem : ∀ x, x ∈ O ↔ ∃ i, i < S.length ∧ x = (i : Int) := fun x => by
      rw [hp.mem_iff]; simp only [toI, List.mem_map, List.mem_range]
      constructor
      · rintro ⟨i, hi, rfl⟩; exact ⟨i, hi, rfl⟩
      · rintro ⟨i, hi, rfl⟩; exact ⟨i, hi, rfl⟩
    have hkv : ∀ i, i < S.length → kv ((List.range S.length).map fun i => ((zfJ S.length (z6h d m n S) i : Nat) : Int)) (i : Int) = ((zfJ S.length (z6h d m n S) i : Nat) : Int) := fun i hi => by
      simp [kv, List.getD, hi]
    congr 1
    have f3 : List.replicate S.length (0 : Int) = (List.range S.length).map fun (j : Nat) => (((if (j : Int) ∈ O.take 0 then z9N d m n S j else 0) : Nat) : Int) := by
      apply List.ext_getElem (by simp); intro i h1 h2; simp
    rw [f3]
    refine z2f (s := ((0 : Int), (List.range S.length).map fun (j : Nat) => (((if (j : Int) ∈ O.take 0 then z9N d m n S j else 0) : Nat) : Int))) S.length (fun k => ((k : Int), (List.range S.length).map fun (j : Nat) => (((if (j : Int) ∈ O.take k then z9N d m n S j else 0) : Nat) : Int))) rfl (by simp only [LFm]; omega) (fun k hk => ?_) ?_
    · have hkO : k < O.length := by omega
      obtain ⟨i, hi, hOk⟩ := (hmem O[k]).1 (List.getElem_mem hkO)
      have hnot : (i : Int) ∉ O.take k := fun h => by
        obtain ⟨j, hj, hji⟩ := List.getElem_of_mem h
        rw [List.length_take] at hj
        rw [List.getElem_take, ← hOk] at hji
        have := (List.getElem_inj hOn).1 hji
        omega
      have htake : ∀ j : Nat, (j : Int) ∈ O.take (k + 1) ↔ (j = i ∨ (j : Int) ∈ O.take k) := fun j => by
        rw [List.take_succ_eq_append_getElem hkO, List.mem_append, List.mem_singleton, hOk]
        constructor
        · rintro (h | h)
          · exact .inr h
          · exact .inl (by omega)
        · rintro (h | h)
          · exact .inr (by omega)
          · exact .inl h
      have hupd : ((List.range S.length).map fun (j : Nat) => (((if j = i then z9N d m n S i else if (j : Int) ∈ O.take k then z9N d m n S j else 0) : Nat) : Int)) = (List.range S.length).map fun (j : Nat) => (((if (j : Int) ∈ O.take (k + 1) then z9N d m n S j else 0) : Nat) : Int) := by
        refine List.map_congr_left fun j hj => ?_
        by_cases e : j = i
        · subst e; rw [if_pos rfl, if_pos ((htake j).2 (.inl rfl))]
        · rw [if_neg e]
          by_cases h : (j : Int) ∈ O.take k
          · rw [if_pos h, if_pos ((htake j).2 (.inr h))]
          · rw [if_neg h, if_neg (fun hh => ((htake j).1 hh).elim e h)]
      have hlt128 : S.getD i 0 < 2 ^ n := hS.lt _ (z1r hi)
      simp only [z2w]
      rw [if_pos (by omega), z3s hkO, Option.bind_some, hOk, ed, z3z hi, Option.bind_some, zmO (by omega), Option.bind_some]
      have hok := zjV hb (zo1 S) i hi
      by_cases hz : szN (S.getD i 0) = 1
      · rw [if_pos (by omega), z3n (by omega)]
        have hh : z9N d m n S i = 0 := by
          unfold z9N; rw [hok, if_pos (by simp only [zo1, hz, decide_true])]
        refine congrArg z0Z (Prod.ext rfl ?_)
        refine List.map_congr_left fun j hj => ?_
        by_cases e : j = i
        · subst e; rw [if_neg hnot, if_pos ((htake j).2 (.inl rfl)), hh]
        · by_cases h : (j : Int) ∈ O.take k
          · rw [if_pos h, if_pos ((htake j).2 (.inr h))]
          · rw [if_neg h, if_neg (fun hh => ((htake j).1 hh).elim e h)]
      · rw [if_neg (by omega), znw hd hS (by omega) (k : Int) hi (H := fun (j : Nat) => if (j : Int) ∈ O.take k then z9N d m n S j else 0) (if_neg hnot) (fun j hj hsb => ?_), z3n (by omega)]
        · have hh : z6E (fun j => if sbN (z6h d m n S) j i = true then z9N d m n S j + 1 else 0) S.length = z9N d m n S i := by
            have : z9N d m n S i = _ := hok
            rw [this, if_neg (by simp only [zo1, hz, decide_false]; simp)]; rfl
          rw [hh, hupd]
        · have hl := zno hb hi hj hsb
          have hjO : (j : Int) ∈ O := (hmem _).2 ⟨j, hj, rfl⟩
          obtain ⟨p, hpO, hpj⟩ := List.getElem_of_mem hjO
          refine if_pos ?_
          rcases Nat.lt_trichotomy p k with h | h | h
          · rw [← hpj]
            exact List.mem_take_iff_getElem.2 ⟨p, by omega, rfl⟩
          · subst h
            rw [hOk] at hpj
            have : i = j := by omega
            subst this; omega
          · have := List.pairwise_iff_getElem.1 hs k p hkO hpO h
            rw [hOk, hpj, hkv i hi, hkv j hj] at this
            omega
    · simp only [z2w]
      rw [if_neg (by omega)]
      congr 2
      unfold zqH
      refine List.map_congr_left fun j hj => ?_
      rw [List.take_of_length_le (by omega), if_pos ((hmem _).2 ⟨j, List.mem_range.1 hj, rfl⟩)]
end Go.Proofs.Ytbnnipkanechoaa
end
section
namespace Go.Proofs.Ytbnnipkanechoaa
open Go
set_option maxRecDepth 100000
def zoV (S : List Nat) (i j : Nat) : Bool := !decide (j = i) && decide (S.getD j 0 &&& S.getD i 0 = S.getD j 0)
def z7Q (S : List Nat) (i : Nat) : List Nat := (List.range S.length).filter (zoV S i)
def zln (S : List Nat) (i j : Nat) : Bool := (z7Q S i).all fun k => decide (k = j) || !decide (S.getD j 0 &&& S.getD k 0 = S.getD j 0)
def z4U (S : List Nat) (i : Nat) : List Nat := if szN (S.getD i 0) = 1 then [] else (z7Q S i).filter (zln S i)
theorem zdK {α : Type} {p : α → Bool} {l : List α} {k : Nat} (h : k < l.length) : (l.take (k + 1)).filter p = (l.take k).filter p ++ (if p l[k] = true then [l[k]] else []) := by
  rw [List.take_succ_eq_append_getElem h, List.filter_append, List.filter_cons, List.filter_nil]
theorem zpA {S : List Nat} {i j : Nat} (h : j ∈ z7Q S i) : j < S.length := List.mem_range.1 (List.mem_filter.1 h).1
theorem zbF {α : Type} (p : α → Bool) (l : List α) : (l.filter p).length ≤ l.length := List.length_filter_le p l
theorem zor {d : DFA} {m n : Nat} (hn : n ≤ 7) {S : List Nat} (hS : SetsP d m n S) {i : Nat} (hi : i < S.length) : z3f (dgm d m n S) (i : Int) = some (toI (z4U S i)) := by
  have h128 : 2 ^ n ≤ 128 := Nat.pow_le_pow_right (n := 2) (by omega) hn
  have hSl := z1L hS.nd hS.lt
  have ed : (dgm d m n S).sets = toI S := rfl
  have lt62 : ∀ j, j < S.length → S.getD j 0 < 2 ^ 62 := fun j hj => by have := hS.lt _ (z1r hj); omega
  have hil := hS.lt _ (z1r hi)
  unfold z3f z4U
  rw [ed, z3z hi, Option.bind_some, zmO (by omega), Option.bind_some]
  by_cases hz : szN (S.getD i 0) = 1
  · rw [if_pos (by omega), if_pos hz]; rfl
  rw [if_neg (by omega), if_neg hz]
  have hrl : (List.range S.length).length = S.length := List.length_range
  refine z2f (s := ((0 : Int), ([] : List Int))) S.length (fun j => ((j : Int), toI (((List.range S.length).take j).filter (zoV S i)))) rfl (by simp only [LFm]; omega) (fun j hj => ?_) ?_
  · have hfl : (((List.range S.length).take j).filter (zoV S i)).length ≤ j := Nat.le_trans (zbF _ _) (by rw [List.length_take]; omega)
    have hst := zdK (p := zoV S i) (l := List.range S.length) (k := j) (by omega)
    rw [List.getElem_range] at hst
    simp only [z3j]
    rw [ed, if_pos (by rw [z0G]; omega), z3z hj, Option.bind_some, z3n (by omega), hst]
    by_cases e : j = i
    · have : zoV S i j = false := by unfold zoV; rw [decide_eq_true e]; rfl
      rw [if_pos (by omega), this, if_neg (by simp), List.append_nil]
    · rw [if_neg (by omega), z3z hi, Option.bind_some, z9O (lt62 i hi) (lt62 j hj), Option.bind_some]
      have : zoV S i j = decide (S.getD j 0 &&& S.getD i 0 = S.getD j 0) := by unfold zoV; rw [decide_eq_false e]; rfl
      rw [this]
      by_cases h : decide (S.getD j 0 &&& S.getD i 0 = S.getD j 0) = true
      · rw [if_pos h, if_pos h, z1s _ (by unfold z3O; rw [z0G]; omega), z8L]
      · rw [if_neg h, if_neg h, List.append_nil]
  · simp only [z3j]
    rw [ed, if_neg (by rw [z0G]; omega), List.take_of_length_le (by omega)]
    congr 1
    have hil : (z7Q S i).length ≤ S.length := Nat.le_trans (zbF _ _) (by omega)
    show z1q (z2k (dgm d m n S) (toI (z7Q S i))) LFm (0, []) = _
    refine z2f (s := ((0 : Int), ([] : List Int))) (z7Q S i).length (fun q => ((q : Int), toI (((z7Q S i).take q).filter (zln S i)))) rfl (by simp only [LFm]; omega) (fun q hq => ?_) ?_
    · have hfl : (((z7Q S i).take q).filter (zln S i)).length ≤ q := Nat.le_trans (zbF _ _) (by rw [List.length_take]; omega)
      have hst := zdK (p := zln S i) (l := z7Q S i) (k := q) hq
      have hg : (z7Q S i).getD q 0 = (z7Q S i)[q] := by rw [List.getD, List.getElem?_eq_getElem hq, Option.getD_some]
      have hjl : (z7Q S i)[q] < S.length := zpA (List.getElem_mem hq)
      simp only [z2k]
      rw [if_pos (by rw [z0G]; omega), z3z hq, Option.bind_some, hg, hst]
      generalize (z7Q S i)[q] = j at hjl
      rw [z8a (s := (0 : Int)) (z7Q S i).length (fun k => (k : Int)) (fun k => !(decide ((z7Q S i).getD k 0 = j) || !decide (S.getD j 0 &&& S.getD ((z7Q S i).getD k 0) 0 = S.getD j 0))) (fun _ => z0Z (((q + 1 : Nat) : Int), toI (((z7Q S i).take q).filter (zln S i)))) (x := z0Z (((q + 1 : Nat) : Int), toI (((z7Q S i).take q).filter (zln S i)) ++ [(j : Int)])) rfl (by simp only [LFm]; omega)]
      · rw [zfU]
        simp only [Bool.not_not]
        rw [zdi (fun k => decide (k = j) || !decide (S.getD j 0 &&& S.getD k 0 = S.getD j 0))]
        show (if zln S i j = true then _ else _) = _
        by_cases h : zln S i j = true
        · rw [if_pos h, if_pos h, z8L]
        · rw [if_neg h, if_neg h, List.append_nil]
      · intro k hk
        have hkl : (z7Q S i).getD k 0 < S.length := zpA (z1r hk)
        simp only [z3b]
        rw [if_pos (by rw [z0G]; omega), z3z hk, Option.bind_some]
        by_cases e : (z7Q S i).getD k 0 = j
        · rw [if_pos (by omega), decide_eq_true e, z3n (by omega)]; rfl
        · rw [if_neg (by omega), decide_eq_false e, ed, z3z hkl, Option.bind_some, z3z hjl, Option.bind_some, z9O (lt62 _ hkl) (lt62 _ hjl), Option.bind_some, Bool.false_or, Bool.not_not, z3n (by omega), z3n (by omega)]
      · simp only [z3b]
        rw [if_neg (by rw [z0G]; omega), z1s _ (by unfold z3O; rw [z0G]; omega), z3n (by omega)]
    · simp only [z2k]
      rw [if_neg (by rw [z0G]; omega), List.take_length]
def znG (d : DFA) (m n : Nat) (S : List Nat) (i : Nat) : Nat := (ziW d m n S).getD (z6n (z2G d m n S) S.length i) 0
def zfj (d : DFA) (m n : Nat) (S : List Nat) (i : Nat) : ByteArray := z5G (z1H d m n (S.getD (znG d m n S i) 0)) (S.getD i 0)
def zol (d : DFA) (m n : Nat) (S : List Nat) (i : Nat) : ByteArray := z5G (z1H d m n (S.getD i 0)) (S.getD (znG d m n S i) 0)
def z5p (d : DFA) (m n : Nat) (S : List Nat) : Imgs := ⟨toI S, zp6 d m n S, zqH d m n S, (List.range S.length).map fun i => toI (z4U S i), (List.range S.length).map (zfj d m n S), (List.range S.length).map (zol d m n S)⟩
theorem znE {d : DFA} {m n : Nat} {S : List Nat} {c : Nat} (hc : c < (ziW d m n S).length) : (ziW d m n S).getD c 0 < S.length := zdE _ _ _ (z1r hc)
theorem zi3 {d : DFA} {m n : Nat} (hd : DfaOk d m n) {S : List Nat} (hS : SetsP d m n S) (hSl : S.length < 100000) {c : Nat} (hc : c < (ziW d m n S).length) (q : List Int) :
    z1q (z5k (toI S) (zp6 d m n S, toI (ziW d m n S)) (c : Int) (q, zg9 S (z1H d m n (S.getD ((ziW d m n S).getD c 0) 0)))) LFm (0, (List.range S.length).map fun j => if z6n (z2G d m n S) S.length j < c then zfj d m n S j else ByteArray.empty) =
      z0Z (((c + 1 : Nat) : Int), (List.range S.length).map fun j => if z6n (z2G d m n S) S.length j < c + 1 then zfj d m n S j else ByteArray.empty) := by
  have hcl : (ziW d m n S).length ≤ S.length := zfT _ _
  refine z2f (s := ((0 : Int), (List.range S.length).map fun j => if z6n (z2G d m n S) S.length j < c then zfj d m n S j else ByteArray.empty)) S.length (fun k => ((k : Int), (List.range S.length).map fun j => if z6n (z2G d m n S) S.length j < c ∨ (z6n (z2G d m n S) S.length j = c ∧ j < k) then zfj d m n S j else ByteArray.empty)) ?_ (by simp only [LFm]; omega) (fun k hk => ?_) ?_
  · refine Prod.ext rfl (List.map_congr_left fun j hj => ?_)
    simp
  · simp only [z5k]
    rw [if_pos (by rw [z0G]; omega), zp6, z3k hk, Option.bind_some, z3n (by omega)]
    by_cases h : z6n (z2G d m n S) S.length k = c
    · have hw : z5G (z1H d m n (S.getD ((ziW d m n S).getD c 0) 0)) (S.getD k 0) = zfj d m n S k := by unfold zfj znG; rw [h]
      rw [if_pos (by omega), zg9, z3k hk, Option.bind_some, hw, z3k hk, Option.bind_some, Int.toNat_natCast]
      refine congrArg z0Z (Prod.ext rfl ?_)
      apply List.ext_getElem (by simp)
      intro j h1 h2
      simp only [List.getElem_set, List.getElem_map, List.getElem_range]
      by_cases e : k = j
      · subst e; rw [if_pos rfl, if_pos (.inr ⟨h, by omega⟩)]
      · rw [if_neg e]
        congr 1
        refine propext ⟨fun hh => hh.imp id fun hh => ⟨hh.1, by omega⟩, fun hh => hh.imp id fun hh => ⟨hh.1, by omega⟩⟩
    · rw [if_neg (by omega)]
      refine congrArg z0Z (Prod.ext rfl (List.map_congr_left fun j hj => ?_))
      congr 1
      refine propext ⟨fun hh => hh.imp id fun hh => ⟨hh.1, by omega⟩, fun hh => hh.imp id fun hh => ⟨hh.1, ?_⟩⟩
      have : j ≠ k := fun e => h (e ▸ hh.1)
      omega
  · simp only [z5k]
    rw [if_neg (by rw [z0G]; omega), z3n (by omega)]
    congr 3
    refine List.map_congr_left fun j hj => ?_
    have hj := List.mem_range.1 hj
    congr 1
    refine propext ⟨fun hh => ?_, fun hh => ?_⟩
    · rcases hh with hh | hh <;> omega
    · by_cases e : z6n (z2G d m n S) S.length j = c
      · exact .inr ⟨e, hj⟩
      · exact .inl (by omega)
theorem zqy {d : DFA} {m n : Nat} (hd : DfaOk d m n) (hn : n ≤ 7) : z6A d = some (z5p d m n (z4q d m n), 0) := by
  have h128 : 2 ^ n ≤ 128 := Nat.pow_le_pow_right (n := 2) (by omega) hn
  have hS := zdb hd
  have hSl := z1L hS.nd hS.lt
  have he := zhL hd hS
  unfold z6A
  rw [zcd (zpH hd (by omega)), zpx hd (by omega), Option.bind_some, if_pos rfl, zqd hd hn, Option.bind_some]
  generalize z4q d m n = S at hS hSl he
  have hcl : (ziW d m n S).length ≤ S.length := zfT _ _
  rw [if_neg (by rw [z0G]; omega), zm4 hd (by omega) hS, Option.bind_some, zm9 hd (by omega) hS, Option.bind_some]
  simp only
  rw [zlV hd hn hS, Option.bind_some, z0G, z1s _ (by unfold z3w; omega), z1s _ (by unfold z3w; omega), Int.toNat_natCast]
  have f1 : List.replicate S.length ([] : List Int) = z2F S.length (fun i => toI (z4U S i)) [] 0 := (zas _ _ _).symm
  have f2 : List.replicate S.length (ByteArray.empty : ByteArray) = z2F S.length (zol d m n S) ByteArray.empty 0 := (zas _ _ _).symm
  rw [f1, f2]
  refine z2f (s := ((0 : Int), z2F S.length (fun i => toI (z4U S i)) [] 0, z2F S.length (zol d m n S) ByteArray.empty 0)) S.length (fun k => ((k : Int), z2F S.length (fun i => toI (z4U S i)) [] k, z2F S.length (zol d m n S) ByteArray.empty k)) rfl (by simp only [LFm]; omega) (fun k hk => ?_) ?_
  · obtain ⟨c1, c2⟩ := zdN he hk
    have c1 : z6n (z2G d m n S) S.length k < (ziW d m n S).length := c1
    have hf : (ziW d m n S).getD (z6n (z2G d m n S) S.length k) 0 < S.length := znE c1
    simp only [z6c]
    rw [if_pos (by rw [z0G]; omega), zor hn hS hk, Option.bind_some, z8h hk, Option.bind_some, show dgm d m n S = ⟨toI S, zqG d m S, zpe d m n S⟩ from rfl, zdd hd (by omega) hS _ hk, Option.bind_some, zp6, z3k hk, Option.bind_some, z3z c1, Option.bind_some, show (ze2 S (z1H d m n (S.getD k 0)), zg9 S (z1H d m n (S.getD k 0))).2 = zg9 S (z1H d m n (S.getD k 0)) from rfl, zg9, z3k hf, Option.bind_some, z8h hk, Option.bind_some, z3n (by omega), Int.toNat_natCast]
    have e1 := z6f (f := fun i => toI (z4U S i)) (z := []) hk
    have e2 := z6f (f := zol d m n S) (z := ByteArray.empty) hk
    have e3 : z5G (z1H d m n (S.getD k 0)) (S.getD ((ziW d m n S).getD (z6n (z2G d m n S) S.length k) 0) 0) = zol d m n S k := rfl
    rw [e1, e3, e2]
  · simp only [z6c]
    rw [if_neg (by rw [z0G]; omega), z0G, zar, zar, Int.toNat_natCast]
    congr 1
    have f3 : List.replicate S.length (ByteArray.empty : ByteArray) = (List.range S.length).map fun j => if z6n (z2G d m n S) S.length j < 0 then zfj d m n S j else ByteArray.empty := by
      apply List.ext_getElem (by simp); intro i h1 h2; simp
    rw [f3]
    refine z2f (s := ((0 : Int), (List.range S.length).map fun j => if z6n (z2G d m n S) S.length j < 0 then zfj d m n S j else ByteArray.empty)) (ziW d m n S).length (fun c => ((c : Int), (List.range S.length).map fun j => if z6n (z2G d m n S) S.length j < c then zfj d m n S j else ByteArray.empty)) rfl (by simp only [LFm]; omega) (fun c hc => ?_) ?_
    · have hf := znE hc
      simp only [z6b]
      rw [if_pos (by rw [z0G]; omega), z3z hc, Option.bind_some, show dgm d m n S = ⟨toI S, zqG d m S, zpe d m n S⟩ from rfl, zdd hd (by omega) hS _ hf, Option.bind_some, zi3 hd hS (by omega) hc]
    · simp only [z6b]
      rw [if_neg (by rw [z0G]; omega)]
      have : ((List.range S.length).map fun j => if z6n (z2G d m n S) S.length j < (ziW d m n S).length then zfj d m n S j else ByteArray.empty) = (List.range S.length).map (zfj d m n S) := List.map_congr_left fun j hj => if_pos (zdN he (List.mem_range.1 hj)).1
      rw [this]; rfl
end Go.Proofs.Ytbnnipkanechoaa
end
section
namespace Go.Proofs.Ytbnnipkanechoaa
open Go
set_option maxRecDepth 100000
theorem z7e (s : Nat) : szN s = z4O (fun q => s.testBit q) 7 := by
  simp only [szN, z4O, List.range, List.range.loop, List.countP_cons, List.countP_nil]
  omega
theorem zus {s : Nat} (h : s < 128) {q : Nat} (hq : s.testBit q = true) : q < 7 := by
  rcases Nat.lt_or_ge q 7 with h' | h'
  · exact h'
  · have : s.testBit q = false := Nat.testBit_lt_two_pow (Nat.lt_of_lt_of_le h (Nat.pow_le_pow_right (n := 2) (by omega) h'))
    rw [this] at hq; cases hq
theorem ziw {a b : Nat} (h : z6D a b) : szN a ≤ szN b := by
  rw [z7e, z7e]; exact zkh fun q _ hq => z1Z.1 h q hq
theorem zpW {a b : Nat} (hb : b < 128) (h : z6D a b) (hne : a ≠ b) : szN a < szN b := by
  have : ∃ q, b.testBit q = true ∧ a.testBit q = false := by
    refine Classical.byContradiction fun hn => hne (z6F h (z1Z.2 fun q hq => ?_))
    cases ha : a.testBit q with
    | true => rfl
    | false => exact absurd ⟨q, hq, ha⟩ hn
  obtain ⟨q, h1, h2⟩ := this
  rw [z7e, z7e]
  exact zfd (fun q _ hq => z1Z.1 h q hq) (zus hb h1) h2 h1
theorem zpX {a b : Nat} (hb : b < 128) (h : z6D a b) (he : szN b ≤ szN a) : a = b := by
  refine Classical.byContradiction fun hne => ?_
  have := zpW hb h hne
  omega
theorem zmG {x p : Nat} (hx : x < 128) (hp : p < 7) : szN (x ||| 2 ^ p) ≤ szN x + 1 := by
  revert p; revert x; decide +kernel
theorem zrZ {x y : Nat} (hx : x < 128) (hy : y < 128) : szN (x ||| y) ≤ szN x + szN y := by
  rw [z7e, z7e, z7e]
  have : ∀ k, z4O (fun q => (x ||| y).testBit q) k ≤ z4O (fun q => x.testBit q) k + z4O (fun q => y.testBit q) k := by
    intro k
    induction k with
    | zero => simp [z4O]
    | succ k ih =>
      simp only [z4O, Nat.testBit_or]
      simp only [Nat.testBit_or] at ih
      have : ∀ a b : Bool, (if (a || b) = true then 1 else 0) ≤ (if a = true then 1 else 0) + (if b = true then 1 else 0) := by decide
      have := this (x.testBit k) (y.testBit k)
      omega
  exact this 7
theorem zs6 {d : DFA} {m n : Nat} (hd : DfaOk d m n) {x y a : Nat} (ha : a < m) : mvN d (x ||| y) a = mvN d x a ||| mvN d y a := by
  apply Nat.eq_of_testBit_eq
  intro p
  rw [Bool.eq_iff_iff, Nat.testBit_or, Bool.or_eq_true, z9I hd ha, z9I hd ha, z9I hd ha]
  constructor
  · rintro ⟨i, h1, h2, h3⟩
    rw [Nat.testBit_or, Bool.or_eq_true] at h2
    exact h2.imp (fun h => ⟨i, h1, h, h3⟩) fun h => ⟨i, h1, h, h3⟩
  · rintro (⟨i, h1, h2, h3⟩ | ⟨i, h1, h2, h3⟩)
    · exact ⟨i, h1, by rw [Nat.testBit_or, h2]; rfl, h3⟩
    · exact ⟨i, h1, by rw [Nat.testBit_or, h2, Bool.or_true], h3⟩
abbrev zoh (m : Nat) (w : List UInt8) : Prop := ∀ c ∈ w, 97 ≤ c.toNat ∧ c.toNat < 97 + m
theorem ziN {m : Nat} {c : UInt8} {w : List UInt8} (h : zoh m (c :: w)) : zoh m w ∧ c.toNat - 97 < m := ⟨fun c' hc' => h c' (List.mem_cons_of_mem _ hc'), by have := h c (List.mem_cons_self ..); omega⟩
theorem zmY {d : DFA} {m n : Nat} (hd : DfaOk d m n) : ∀ {w : List UInt8} {x y : Nat}, zoh m w → z6j d (x ||| y) w = z6j d x w ||| z6j d y w
  | [], x, y, _ => rfl
  | c :: w, x, y, hw => by
    obtain ⟨h1, h2⟩ := ziN hw
    simp only [z6j]
    rw [zs6 hd h2, zmY hd h1]
theorem zs5 {d : DFA} {m n : Nat} (hd : DfaOk d m n) (hn : n ≤ 7) {s a : Nat} (hs : s < 2 ^ n) (ha : a < m) : szN (mvN d s a) ≤ szN s := by
  have h128 : 2 ^ n ≤ 128 := Nat.pow_le_pow_right (n := 2) (by omega) hn
  have key : ∀ q, q ≤ n → szN (zjG d.next s a q) ≤ z4O (fun q => s.testBit q) q := by
    intro q
    induction q with
    | zero => intro _; exact (by decide : szN 0 ≤ 0)
    | succ q ih =>
      intro hq
      have hlt := zfB hd (s := s) ha q (by omega)
      obtain ⟨h1, h2, e, h3, h4⟩ := zfu hd (q := q) (by omega) ha
      simp only [zjG, z4O]
      by_cases hb : s.testBit q = true
      · rw [if_pos hb, if_pos hb]
        have := zmG (x := zjG d.next s a q) (p := ((d.next.getD q []).getD a 0).toNat) (by omega) (by rw [e]; omega)
        have := ih (by omega)
        omega
      · rw [if_neg hb, if_neg hb]
        have := ih (by omega)
        omega
  have h1 := key n (Nat.le_refl _)
  have h2 : z4O (fun q => s.testBit q) n ≤ szN s := by
    rw [z7e]
    have : ∀ j, z4O (fun q => s.testBit q) n ≤ z4O (fun q => s.testBit q) (n + j) := by
      intro j
      induction j with
      | zero => exact Nat.le_refl _
      | succ j ih => rw [← Nat.add_assoc]; simp only [z4O]; omega
    have := this (7 - n)
    rwa [show n + (7 - n) = 7 by omega] at this
  unfold mvN
  rw [hd.nl]
  omega
theorem zbu {d : DFA} {m n : Nat} (hd : DfaOk d m n) (hn : n ≤ 7) : ∀ {w : List UInt8} {s : Nat}, s < 2 ^ n → zoh m w → szN (z6j d s w) ≤ szN s
  | [], s, _, _ => Nat.le_refl _
  | c :: w, s, hs, hw => by
    obtain ⟨h1, h2⟩ := ziN hw
    simp only [z6j]
    exact Nat.le_trans (zbu hd hn (zf5 hd h2) h1) (zs5 hd hn hs h2)
theorem zrc {d : DFA} {m n : Nat} (hd : DfaOk d m n) {s a : Nat} (hs : s < 2 ^ n) (h0 : s ≠ 0) (ha : a < m) : mvN d s a ≠ 0 := by
  obtain ⟨q, hq⟩ : ∃ q, s.testBit q = true := Nat.exists_testBit_of_ne_zero h0
  have hqn : q < n := by
    rcases Nat.lt_or_ge q n with h' | h'
    · exact h'
    · have : s.testBit q = false := Nat.testBit_lt_two_pow (Nat.lt_of_lt_of_le hs (Nat.pow_le_pow_right (n := 2) (by omega) h'))
      rw [this] at hq; cases hq
  intro h
  have := (z9I hd ha (s := s) ((d.next.getD q []).getD a 0).toNat).2 ⟨q, hqn, hq, rfl⟩
  rw [h, Nat.zero_testBit] at this
  cases this
theorem zjx {d : DFA} {m n : Nat} (hd : DfaOk d m n) {x : Nat} (hx : x ∈ z4q d m n) : x ≠ 0 := by
  have hp := Nat.two_pow_pos n
  have h2n : 2 ≤ 2 ^ n := by have := Nat.pow_le_pow_right (n := 2) (by omega) hd.n1; omega
  have hf : 2 ^ n - 1 < 2 ^ n := by omega
  have hi := z6v hd hf
  obtain ⟨_, h2, _⟩ := z7n hi.nd n
  have hpm := zbr (z9f (z1H d m n (2 ^ n - 1)).1 n)
  rcases (h2 x).1 (hpm.mem_iff.1 hx) with h | ⟨i, _, rfl⟩
  · obtain ⟨i, hil, rfl⟩ := List.getElem_of_mem h
    obtain ⟨_, o2, o3⟩ := hi.ok i hil
    rw [List.getD, List.getD, List.getElem?_eq_getElem hil, Option.getD_some] at o3
    rw [← o3]
    have : ∀ {w : List UInt8} {s : Nat}, s < 2 ^ n → s ≠ 0 → zoh m w → z6j d s w ≠ 0 := by
      intro w
      induction w with
      | nil => intro s _ h0 _; exact h0
      | cons c w ih =>
        intro s hs h0 hw
        obtain ⟨q1, q2⟩ := ziN hw
        exact ih (zf5 hd q2) (zrc hd hs h0 q2) q1
    exact this hf (by omega) o2
  · exact Nat.ne_of_gt (Nat.two_pow_pos i)
theorem z5g {S : List Nat} {i j : Nat} : j ∈ z7Q S i ↔ j < S.length ∧ j ≠ i ∧ z6D (S.getD j 0) (S.getD i 0) := by
  unfold z7Q zoV z6D
  rw [List.mem_filter, List.mem_range]
  simp
theorem zfo {S : List Nat} {i j : Nat} : zln S i j = true ↔ ∀ k, k ∈ z7Q S i → k ≠ j → ¬ z6D (S.getD j 0) (S.getD k 0) := by
  unfold zln z6D
  rw [List.all_eq_true]
  constructor
  · intro h k hk hne hs
    have := h k hk
    simp only [Bool.or_eq_true, decide_eq_true_eq, Bool.not_eq_true', decide_eq_false_iff_not] at this
    exact this.elim hne fun hh => hh hs
  · intro h k hk
    simp only [Bool.or_eq_true, decide_eq_true_eq, Bool.not_eq_true', decide_eq_false_iff_not]
    by_cases e : k = j
    · exact .inl e
    · exact .inr (h k hk e)
theorem zfn {S : List Nat} {i j : Nat} (hz : szN (S.getD i 0) ≠ 1) : j ∈ z4U S i ↔ j ∈ z7Q S i ∧ zln S i j = true := by
  unfold z4U
  rw [if_neg hz, List.mem_filter]
theorem zd9 {S : List Nat} {i j : Nat} (h : j ∈ z4U S i) : j ∈ z7Q S i ∧ zln S i j = true ∧ szN (S.getD i 0) ≠ 1 := by
  by_cases hz : szN (S.getD i 0) = 1
  · unfold z4U at h; rw [if_pos hz] at h; simp at h
  · exact ⟨((zfn hz).1 h).1, ((zfn hz).1 h).2, hz⟩
theorem za8 (S : List Nat) (i : Nat) : (z4U S i).Nodup := by
  unfold z4U
  split
  · simp
  · exact List.Pairwise.filter _ (List.Pairwise.filter _ List.nodup_range)
theorem zqi {d : DFA} {m n : Nat} (hn : n ≤ 7) {S : List Nat} (hS : SetsP d m n S) {i : Nat} (hi : i < S.length) (hz : szN (S.getD i 0) ≠ 1) : ∀ f j, 8 - szN (S.getD j 0) ≤ f → j ∈ z7Q S i → ∃ t, t ∈ z4U S i ∧ z6D (S.getD j 0) (S.getD t 0) := by
  have h128 : 2 ^ n ≤ 128 := Nat.pow_le_pow_right (n := 2) (by omega) hn
  have h8 : ∀ s, szN s ≤ 7 := fun s => by rw [z7e]; exact zki _ _
  intro f
  induction f with
  | zero => intro j hf _; have := h8 (S.getD j 0); omega
  | succ f ih =>
    intro j hf hj
    by_cases hp : zln S i j = true
    · exact ⟨j, (zfn hz).2 ⟨hj, hp⟩, za9 _⟩
    · have : ∃ k, k ∈ z7Q S i ∧ k ≠ j ∧ z6D (S.getD j 0) (S.getD k 0) := by
        refine Classical.byContradiction fun hn' => hp (zfo.2 fun k hk hne hs => hn' ⟨k, hk, hne, hs⟩)
      obtain ⟨k, hk, hne, hs⟩ := this
      have hkl := (z5g.1 hk).1
      have hjl := (z5g.1 hj).1
      have hlt := zpW (a := S.getD j 0) (b := S.getD k 0) (by have := hS.lt _ (z1r hkl); omega) hs fun e => hne (zbE hS.nd hkl hjl e.symm)
      obtain ⟨t, h1, h2⟩ := ih k (by omega) hk
      exact ⟨t, h1, zh0 hs h2⟩
theorem zgZ {d : DFA} {m n : Nat} (hd : DfaOk d m n) (hn : n ≤ 7) {S : List Nat} (hS : SetsP d m n S) {i : Nat} (hi : i < S.length) (hz : szN (S.getD i 0) ≠ 1) {q : Nat} (hq : (S.getD i 0).testBit q = true) : ∃ t, t ∈ z4U S i ∧ (S.getD t 0).testBit q = true := by
  have h128 : 2 ^ n ≤ 128 := Nat.pow_le_pow_right (n := 2) (by omega) hn
  have hil := hS.lt _ (z1r hi)
  have hqn : q < n := by
    rcases Nat.lt_or_ge q n with h' | h'
    · exact h'
    · have : (S.getD i 0).testBit q = false := Nat.testBit_lt_two_pow (Nat.lt_of_lt_of_le hil (Nat.pow_le_pow_right (n := 2) (by omega) h'))
      rw [this] at hq; cases hq
  have h1 := hS.one q hqn
  have hg := z5w h1
  have hsz : szN (2 ^ q) = 1 := by
    have : ∀ q, q < 7 → szN (2 ^ q) = 1 := by decide +kernel
    exact this q (by omega)
  have hinn : S.idxOf (2 ^ q) ∈ z7Q S i := z5g.2 ⟨z9k h1, fun e => by rw [← e, hg] at hz; exact hz hsz, by
    rw [hg]
    refine z1Z.2 fun p hp => ?_
    rw [Nat.testBit_two_pow, decide_eq_true_iff] at hp
    rw [← hp]; exact hq⟩
  obtain ⟨t, h2, h3⟩ := zqi hn hS hi hz _ _ (Nat.le_refl _) hinn
  refine ⟨t, h2, z1Z.1 h3 q ?_⟩
  rw [hg, Nat.testBit_two_pow]; simp
theorem z6s {d : DFA} {m n : Nat} (hn : n ≤ 7) {S : List Nat} (hS : SetsP d m n S) {i k : Nat} (hi : i < S.length) (h : k ∈ z4U S i) : i < k ∧ k < S.length ∧ z6D (S.getD k 0) (S.getD i 0) ∧ S.getD k 0 ≠ S.getD i 0 := by
  have h128 : 2 ^ n ≤ 128 := Nat.pow_le_pow_right (n := 2) (by omega) hn
  obtain ⟨h1, _, _⟩ := zd9 h
  obtain ⟨hk, hne, hs⟩ := z5g.1 h1
  have hx : S.getD k 0 ≠ S.getD i 0 := fun e => hne (zbE hS.nd hk hi e)
  refine ⟨?_, hk, hs, hx⟩
  have hlt := zpW (by have := hS.lt _ (z1r hi); omega) hs hx
  rcases Nat.lt_trichotomy i k with h' | h' | h'
  · exact h'
  · exact absurd h'.symm hne
  · have := List.pairwise_iff_getElem.1 hS.srt k i hk hi h'
    rw [zjc] at this
    rw [List.getD, List.getD, List.getElem?_eq_getElem hk, List.getElem?_eq_getElem hi, Option.getD_some, Option.getD_some] at hlt
    omega
theorem zfP {N : Nat} {b : Nat → Nat → Bool} (hb : BelN N b) {z : Nat → Bool} (hz : ∀ i k, i < N → k < N → z k = true → b i k = true → z i = true) {i k : Nat} (hi : i < N) (hk : k < N) (h : b i k = true) : zpD N b z i ≤ zpD N b z k := by
  rw [zjV hb z i hi]
  split
  · omega
  · rename_i hzi
    have hzk : ¬ z k = true := fun hh => hzi (hz i k hi hk hh h)
    rw [zjV hb z k hk, if_neg hzk]
    refine z9J fun j hj => ?_
    by_cases hs : sbN b j i = true
    · rw [if_pos hs]
      have hsk : sbN b j k = true := by
        simp only [sbN, Bool.and_eq_true, Bool.not_eq_true'] at hs ⊢
        refine ⟨hb.trans j i k hj hi hk hs.1 h, ?_⟩
        cases hkj : b k j with
        | false => rfl
        | true =>
          have := hb.trans i k j hi hk hj h hkj
          rw [this] at hs; cases hs.2
      have := zoM (g := fun j => if sbN b j k = true then zpD N b z j + 1 else 0) hj
      simp only [hsk, if_true] at this
      exact this
    · rw [if_neg hs]; omega
theorem zhS {d : DFA} {m n : Nat} (hd : DfaOk d m n) (hn : n ≤ 7) {i k : Nat} (hi : i < (z4q d m n).length) (hk : k < (z4q d m n).length) (hz : zo1 (z4q d m n) k = true) (h : z6h d m n (z4q d m n) i k = true) : zo1 (z4q d m n) i = true := by
  have hS := zdb hd
  have h128 : 2 ^ n ≤ 128 := Nat.pow_le_pow_right (n := 2) (by omega) hn
  obtain ⟨w, h1, h2⟩ := (z4l hd hS hk).1 h
  have hkl := hS.lt _ (z1r hk)
  simp only [zo1, decide_eq_true_eq] at hz ⊢
  have a1 := ziw h2
  have a2 := zbu hd hn hkl h1
  have h0 := zjx hd (z1r hi)
  have : 1 ≤ szN ((z4q d m n).getD i 0) := by
    obtain ⟨q, hq⟩ := Nat.exists_testBit_of_ne_zero h0
    have hil := hS.lt _ (z1r hi)
    have := zfd (p := fun _ => false) (q := fun q => ((z4q d m n).getD i 0).testBit q) (k := 7) (i := q) (fun j _ hf => by simp at hf) (zus (by omega) hq) rfl hq
    rw [z7e]; omega
  omega
end Go.Proofs.Ytbnnipkanechoaa
end
section
namespace Go.Proofs.Ytbnnipkanechoaa
open Go
set_option maxRecDepth 100000
def zrH (a : Nat) : ByteArray := ⟨#[UInt8.ofNat (IntKind.u8.wrap (IntKind.i64.wrap (97 + (a : Int)))).toNat]⟩
def zpr (W : List ByteArray) (w : ByteArray) : Nat → Option (List Int)
  | 0 => some []
  | a + 1 => match zpr W w a with
    | none => none
    | some row => if zaw w (zrH a) then (match z1q (z3u W (a : Int) row) LFm (w ++ zrH a, -1) with
      | some (.inl (x, r)) => if x = ((a + 1 : Nat) : Int) then some r else none
      | _ => none) else none
def zqK (m L : Nat) : Bool := match z8R m L with
  | none => false
  | some W => decide (1 ≤ W.length) && decide (W.length ≤ 7) && W.all fun w => match zpr W w m with
    | none => false
    | some r => decide (r.length = m) && r.all fun x => decide (0 ≤ x ∧ x < (W.length : Int))
theorem zqt : zqK 1 1 = true ∧ zqK 1 2 = true ∧ zqK 2 1 = true ∧ zqK 2 2 = true := ⟨by kernel_rfl, by kernel_rfl, by kernel_rfl, by kernel_rfl⟩
theorem zry {m : Nat} {W : List ByteArray} {i : Int} {fs : List Bool} {rs : List (List Int)} {w : ByteArray} {v : Int × Tape} {r : List Int} (hm : m ≤ 6) (h : zpr W w m = some r) :
    z1q (z2S (m : Int) W i fs rs w v) LFm (0, []) = chk (z3O 24 (rs.length + 1)) (z0Z (IntKind.i64.wrap (i + 1), v.2.l, v.2.at_, fs ++ [decide (v.1 = 1)], rs ++ [r])) := by
  have key : ∀ a, a ≤ m → ∃ r', zpr W w a = some r' := by
    have : ∀ j a, a + j = m → ∃ r', zpr W w a = some r' := by
      intro j
      induction j with
      | zero => intro a ha; obtain rfl : a = m := by omega
                exact ⟨r, h⟩
      | succ j ih =>
        intro a ha
        obtain ⟨r', hr'⟩ := ih (a + 1) (by omega)
        rw [zpr] at hr'
        split at hr'
        · cases hr'
        · rename_i row hrow; exact ⟨row, hrow⟩
    intro a ha
    exact this (m - a) a (by omega)
  refine z2f (s := ((0 : Int), ([] : List Int))) m (fun a => ((a : Int), (zpr W w a).getD [])) rfl (by simp only [LFm]; omega) (fun a ha => ?_) ?_
  · obtain ⟨r1, h1⟩ := key a (by omega)
    obtain ⟨r2, h2⟩ := key (a + 1) (by omega)
    rw [h1, h2, Option.getD_some, Option.getD_some]
    rw [zpr, h1] at h2
    simp only [z2S]
    rw [if_pos (by omega)]
    dsimp only at h2
    split at h2
    case isFalse => cases h2
    rename_i hc
    change chk (zaw w (zrH a)) (z1q (z3u W (a : Int) r1) LFm (w ++ zrH a, -1)) = _
    rw [z1s _ hc]
    split at h2
    · rename_i x q hq
      split at h2
      · rename_i hx
        cases h2
        rw [← hx]
        exact hq
      · cases h2
    · cases h2
  · simp only [z2S]
    rw [if_neg (by omega), h, Option.getD_some]
theorem zj5 {t : Tape} (ht : TapeOk t) (m : Nat) (hm : 1 ≤ m ∧ m ≤ 2) : ∃ d t' n, z3E t m = some (d, t') ∧ DfaOk d m n ∧ n ≤ 7 ∧ TapeOk t' := by
  unfold z3E
  obtain ⟨v, t1, e1, v0, v1, ht1⟩ := z5e ht 2 (by omega) (by omega)
  simp only [e1, Option.bind_some]
  obtain ⟨k, rfl⟩ := Int.eq_ofNat_of_zero_le v0
  have hw : IntKind.i64.wrap (1 + (k : Int)) = ((k + 1 : Nat) : Int) := by rw [z2r (by omega) (by omega)]; omega
  rw [hw]
  have hchk : zqK m (k + 1) = true := by
    obtain ⟨c1, c2, c3, c4⟩ := zqt
    rcases (by omega : (m = 1 ∧ k = 0) ∨ (m = 1 ∧ k = 1) ∨ (m = 2 ∧ k = 0) ∨ (m = 2 ∧ k = 1)) with ⟨rfl, rfl⟩ | ⟨rfl, rfl⟩ | ⟨rfl, rfl⟩ | ⟨rfl, rfl⟩
    · exact c1
    · exact c2
    · exact c3
    · exact c4
  unfold zqK at hchk
  split at hchk
  · cases hchk
  rename_i W hW
  simp only [Bool.and_eq_true, decide_eq_true_eq, List.all_eq_true] at hchk
  obtain ⟨⟨hW1, hW7⟩, hrow⟩ := hchk
  rw [hW, Option.bind_some]
  refine Exists.elim (z2E (b := z3D (m : Int) W) (fun z => 0 ≤ z.1 ∧ z.1 ≤ W.length ∧ TapeOk ⟨z.2.1, z.2.2.1⟩ ∧ (z.2.2.2.1.length : Int) = z.1 ∧ (z.2.2.2.2.length : Int) = z.1 ∧ ∀ r ∈ z.2.2.2.2, z7o m W.length r) (fun z => W.length + 1 - z.1.toNat)
    (fun r => DfaOk r.1 m W.length ∧ TapeOk r.2) ?_ LFm (0, t1.l, t1.at_, [], []) ⟨by simp, by simp, ht1, by simp, by simp, by simp⟩ (by simp only [LFm]; omega)) fun r h => ⟨r.1, r.2, W.length, h.1, h.2.1, hW7, h.2.2⟩
  rintro ⟨i, tl, ta, fs, rs⟩ ⟨i0, i1, i2, i3, i4, i5⟩
  simp only at i0 i1 i2 i3 i4 i5 ⊢
  obtain ⟨i, rfl⟩ := Int.eq_ofNat_of_zero_le i0
  simp only [z3D]
  by_cases hi : (i : Int) < (W.length : Int)
  · left
    have hi' : i < W.length := by omega
    rw [if_pos hi, z3s hi', Option.bind_some]
    obtain ⟨u, t3, e3, u0, u1, ht3⟩ := z5e i2 2 (by omega) (by omega)
    rw [e3, Option.bind_some, z1s _ (by unfold z3O; omega)]
    have hr := hrow _ (List.getElem_mem hi')
    split at hr
    · cases hr
    rename_i r hr0
    simp only [Bool.and_eq_true, decide_eq_true_eq, List.all_eq_true] at hr
    rw [zry (by omega) hr0, z1s _ (by unfold z3O; omega), z2r (by omega) (by omega)]
    refine ⟨_, rfl, ⟨by simp only; omega, by simp only; omega, ht3, by simp only [List.length_append, List.length_singleton]; omega, by simp only [List.length_append, List.length_singleton]; omega, fun y hy => ?_⟩, by simp only; omega⟩
    rcases zag.1 hy with h | rfl
    · exact i5 y h
    · exact ⟨hr.1, fun x hx => hr.2 x hx⟩
  · right
    rw [if_neg hi]
    exact ⟨_, rfl, ⟨rfl, by omega, by omega, by omega, by simp only; omega, by simp only; omega, by simp only; omega, by simp only; omega, i5⟩, i2⟩
theorem zob {t : Tape} (ht : TapeOk t) (m most : Nat) (hm : 1 ≤ m ∧ m ≤ 2) (hk : 1 ≤ most ∧ most ≤ 7) : ∃ d t' n, z2M t m most = some (d, t') ∧ DfaOk d m n ∧ n ≤ 7 ∧ TapeOk t' := by
  unfold z2M
  obtain ⟨v, t1, e1, v0, v1, ht1⟩ := z5e ht 6 (by omega) (by omega)
  simp only [e1, Option.bind_some]
  split
  · obtain ⟨d, t', n, e, h1, h2, h3⟩ := zlz ht1 m most (by omega) (by omega)
    exact ⟨d, t', n, by rw [e, Option.bind_some], h1, by omega, h3⟩
  · split
    · have : (if (4 : Int) < (most : Int) then (4 : Int) else (most : Int)) = ((min most 4 : Nat) : Int) := by split <;> omega
      rw [this]
      obtain ⟨d, t', n, e, h1, h2, h3⟩ := zoI ht1 m (min most 4) (by omega) (by omega)
      exact ⟨d, t', n, by rw [e, Option.bind_some], h1, by omega, h3⟩
    · split
      · obtain ⟨d, t', n, e, h1, h2, h3⟩ := zj5 ht1 m hm
        exact ⟨d, t', n, by rw [e, Option.bind_some], h1, h2, h3⟩
      · obtain ⟨d, t', n, e, h1, h2, h3⟩ := zpG ht1 m most (by omega) (by omega)
        exact ⟨d, t', n, by rw [e, Option.bind_some], h1, by omega, h3⟩
end Go.Proofs.Ytbnnipkanechoaa
end
section
namespace Go.Proofs.Ytbnnipkanechoaa
def Mo (C0 C1 : z0C) : Prop := ∀ f a o, C0 f a = some o → C1 f a = some o
section
variable {P : Program} {C0 C1 : z0C}
theorem zca (hMo : Mo C0 C1) {wio : FuncId → Nat → Bool} {fr fr' : Fr} {f : FuncId} {args : List E} {dst : Option Nat} (h : zay C0 wio fr f args dst = some fr') : Ev fun m => zay C1 wio fr f args dst = some fr' := by
  unfold zay at h ⊢
  split at h
  · cases h
  · rename_i ts deps io ha
    split at h
    · cases h
    · rename_i r outs hc
      refine ⟨0, fun m _ => ?_⟩
      show (match C1 f ts with | none => none | some (r, outs) => _) = _
      rw [hMo _ _ _ hc]
      exact h
theorem znb (hMo : Mo C0 C1) {wio : FuncId → Nat → Bool} {fr fr' : Fr} {o : Oper} (h : opF P C0 wio fr o = some fr') : Ev fun m => opF P C1 wio fr o = some fr' := by
  unfold opF at h ⊢
  split at h
  · exact .pure fun _ => h
  · split at h
    · exact zca hMo h
    · cases h
  · exact .pure fun _ => h
  · exact .pure fun _ => h
theorem zkj (hMo : Mo C0 C1) {wio : FuncId → Nat → Bool} {fr fr' : Fr} {o : Oper} (h : z9e P C0 wio fr o = some fr') : Ev fun m => z9e P C1 wio fr o = some fr' := by
  unfold z9e at h ⊢
  split at h
  · split at h
    · split at h
      · exact zca hMo h
      · cases h
    · cases h
  · exact .pure fun _ => h
theorem zpl (hMo : Mo C0 C1) {wio : FuncId → Nat → Bool} {M : Nat → Bool} {fr fr' : Fr} {o : Oper} (h : wrF P C0 wio M fr o = some fr') : Ev fun m => wrF P C1 wio M fr o = some fr' := by
  unfold wrF at h ⊢
  split at h
  · split at h
    · cases h
    · split at h
      · exact zca hMo h
      · split at h
        · rename_i hM
          simp only [hM, if_true]
          exact zca hMo h
        · cases h
      · cases h
  · exact .pure fun _ => h
  · exact .pure fun _ => h
  · exact .pure fun _ => h
  · cases h
theorem ziB (hMo : Mo C0 C1) {wio : FuncId → Nat → Bool} {ops : Array Oper} : ∀ {l : List Oper} {fr fr' : Fr}, ziC P C0 wio ops l fr = some fr' → Ev fun m => ziC P C1 wio ops l fr = some fr'
  | [], fr, fr', h => .pure fun _ => h
  | o :: rest, fr, fr', h => by
    simp only [ziC] at h ⊢
    split at h
    · cases h
    · split at h
      · rename_i fr1 h1
        exact (znb hMo h1).both (ziB hMo h) fun m a1 a2 => by rw [a1]; exact a2
      · cases h
    · split at h
      · rename_i fr1 h1
        exact (ziB hMo h)
      · cases h
theorem zc7 (hMo : Mo C0 C1) {wio : FuncId → Nat → Bool} {same : Bool} {M : Nat → Bool} {ops : Array Oper} : ∀ {l : List (Nat × Oper × Nat)} {fr fr' : Fr}, z8i P C0 wio same M ops l fr = some fr' → Ev fun m => z8i P C1 wio same M ops l fr = some fr'
  | [], fr, fr', h => .pure fun _ => h
  | (k, o, mk) :: rest, fr, fr', h => by
    simp only [z8i] at h ⊢
    split at h
    · cases h
    · split at h
      · exact zc7 hMo h
      · cases h
    · split at h
      · rename_i hm
        simp only [if_pos hm]
        split at h
        · split at h
          · exact zc7 hMo h
          · cases h
        · cases h
      · rename_i hm
        simp only [if_neg hm]
        split at h
        · rename_i fr1 h1
          have h2 : Ev fun m => (if mk = 2 then opF P C1 wio fr o else if same = true then z9e P C1 wio fr o else wrF P C1 wio M fr o) = some fr1 := by
            by_cases e : mk = 2
            · simp only [if_pos e] at h1 ⊢; exact znb hMo h1
            · simp only [if_neg e] at h1 ⊢
              by_cases e2 : same = true
              · simp only [if_pos e2] at h1 ⊢; exact zkj hMo h1
              · simp only [if_neg e2] at h1 ⊢; exact zpl hMo h1
          exact h2.both (zc7 hMo h) fun m a1 a2 => by rw [a1]; exact a2
        · cases h
theorem z8V (hMo : Mo C0 C1) {wio : FuncId → Nat → Bool} {same : Bool} {M : Nat → Bool} {ops : Array Oper} : ∀ {l : SchT} {fr fr' : Fr}, z5z P C0 wio same M ops l fr = some fr' → Ev fun m => z5z P C1 wio same M ops l fr = some fr'
  | .nil, fr, fr', h => .pure fun _ => h
  | .alt x y, fr, fr', h => by
    simp only [z5z] at h ⊢
    split at h
    · rename_i f1 f2 h1 h2
      obtain ⟨rfl, hs⟩ := zbz h
      exact (z8V hMo h1).both (z8V hMo h2) fun m a1 a2 => by rw [a1, a2]; exact zc2 hs
    · cases h
  | .op k mk rest, fr, fr', h => by
    simp only [z5z] at h ⊢
    split at h
    · cases h
    rename_i o ho
    try simp only [ho]
    split at h
    · cases h
    · split at h
      · exact z8V hMo h
      · cases h
    · split at h
      · rename_i hm
        simp only [if_pos hm]
        split at h
        · split at h
          · exact z8V hMo h
          · cases h
        · cases h
      · rename_i hm
        simp only [if_neg hm]
        split at h
        · rename_i fr1 h1
          have h2 : Ev fun m => (if mk = 2 then opF P C1 wio fr o else if same = true then z9e P C1 wio fr o else wrF P C1 wio M fr o) = some fr1 := by
            by_cases e : mk = 2
            · simp only [if_pos e] at h1 ⊢; exact znb hMo h1
            · simp only [if_neg e] at h1 ⊢
              by_cases e2 : same = true
              · simp only [if_pos e2] at h1 ⊢; exact zkj hMo h1
              · simp only [if_neg e2] at h1 ⊢; exact zpl hMo h1
          exact h2.both (z8V hMo h) fun m a1 a2 => by rw [a1]; exact a2
        · cases h
theorem zm2 (hMo : Mo C0 C1) {c : Cfg} {id : Nat} {ops : Array Oper} {fr fr' : Fr} (h : z6U P C0 c id ops fr = some fr') : Ev fun m => z6U P C1 c id ops fr = some fr' := by
  unfold z6U at h ⊢
  split at h
  · exact z8V hMo h
  · split at h
    · exact zc7 hMo h
    · cases h
theorem zjQ (hMo : Mo C0 C1) {B : z0C → Fr → Option (X × Fr)} {cn : Fr → Fr} (hB : ∀ fr o, B C0 fr = some o → Ev fun m => B C1 fr = some o) : ∀ {n : Nat} {fr : Fr} {o : X × Fr}, zao (B C0) cn n fr = some o → Ev fun m => zao (B C1) cn n fr = some o
  | 0, fr, o, h => by cases h
  | n + 1, fr, o, h => by
    simp only [zao] at h ⊢
    split at h
    · rename_i fr1 h1
      exact (hB _ _ h1).both (zjQ hMo hB h) fun m a1 a2 => by rw [a1]; exact a2
    · rename_i x fr1 hne h1
      refine (hB _ _ h1).imp fun m a1 => ?_
      rw [a1]
      cases x with
      | n => exact absurd rfl hne
      | x i => exact h
      | r => exact h
    · cases h
theorem zkg (hMo : Mo C0 C1) {c : Cfg} {LF : Nat} : ∀ (b : Code) {fr : Fr} {o : X × Fr}, z2X P C0 c LF b fr = some o → Ev fun m => z2X P C1 c LF b fr = some o := by
  intro b
  induction b with
  | skip => intro fr o h; exact .pure fun _ => h
  | label l => intro fr o h; exact .pure fun _ => h
  | exit id => intro fr o h; exact .pure fun _ => h
  | ret => intro fr o h; exact .pure fun _ => h
  | goto l => intro fr o h; cases h
  | scope c ih => intro fr o h; simp only [z2X] at h ⊢; exact ih h
  | refuse s => intro fr o h; cases h
  | rangeFunc => intro fr o h; cases h
  | region id ops draw =>
    intro fr o h
    simp only [z2X] at h ⊢
    split at h
    · rename_i hd
      simp only [hd, if_true]
      split at h
      · rename_i fr1 h1
        exact (zm2 hMo h1).imp fun m a1 => by rw [a1]; exact h
      · cases h
    · rename_i hd
      simp only [hd, Bool.false_eq_true, if_false]
      split at h
      · rename_i fr1 h1
        exact (ziB hMo h1).imp fun m a1 => by rw [a1]; exact h
      · cases h
  | seq a b ih1 ih2 =>
    intro fr o h
    simp only [z2X] at h ⊢
    split at h
    · rename_i fr1 h1
      exact (ih1 h1).both (ih2 h) fun m a1 a2 => by rw [a1]; exact a2
    · rename_i hne
      refine (ih1 h).imp fun m a1 => ?_
      rw [a1]
      obtain ⟨x, fr1⟩ := o
      cases x with
      | n => exact absurd h (hne _)
      | x i => rfl
      | r => rfl
  | cond c x y ih1 ih2 =>
    intro fr o h
    simp only [z2X] at h ⊢
    split at h
    · exact ih1 h
    · exact ih2 h
    · cases h
  | block id c ih =>
    intro fr o h
    simp only [z2X] at h ⊢
    split at h
    · rename_i i fr1 h1
      exact (ih h1).imp fun m a1 => by rw [a1]; exact h
    · rename_i hne
      refine (ih h).imp fun m a1 => ?_
      rw [a1]
      obtain ⟨x, fr1⟩ := o
      cases x with
      | n => rfl
      | x i => exact absurd h (hne _ _)
      | r => rfl
  | loop b ih =>
    intro fr o h
    simp only [z2X] at h ⊢
    exact zjQ hMo (B := fun C fr => z2X P C c LF b fr) (fun fr o h => ih h) h
theorem zmZ (hMo : Mo C0 C1) {c : Cfg} {LF : Nat} {fn : Func} {args : List T} {o : T × List T} (h : zg7 P C0 c LF fn args = some o) : Ev fun m => zg7 P C1 c LF fn args = some o := by
  unfold zg7 at h ⊢
  split at h
  · rename_i hc
    simp only [if_pos hc]
    split at h
    · cases h
    · rename_i b hb
      split at h
      · rename_i fr h1
        exact (zkg hMo _ h1).imp fun m a1 => by rw [a1]; exact h
      · rename_i fr h1
        exact (zkg hMo _ h1).imp fun m a1 => by rw [a1]; exact h
      · cases h
  · cases h
end
theorem zjK {P : Program} {X : z0C} {cf : FuncId → Option Cfg} : ∀ n, Mo (z3x P X cf n) (z3x P X cf (n + 1))
  | 0 => fun f a o h => by
    simp only [z3x] at h ⊢
    split at h
    · cases h
    · rename_i hc
      first
        | exact h
        | (rw [hc]; exact h)
  | n + 1 => fun f a o h => by
    simp only [z3x] at h
    split at h
    · rename_i c hc
      split at h
      · rename_i fn hfn
        obtain ⟨k, hk⟩ := zmZ (zjK n) h
        exact zhu hc hfn (hk k (Nat.le_refl _))
      · cases h
    · rename_i hc
      simp only [z3x, hc]
      exact h
theorem zak {P : Program} {X : z0C} {cf : FuncId → Option Cfg} (n : Nat) {f : FuncId} {a : List T} {o : T × List T} (h : z3x P X cf n f a = some o) : Lim P X cf f a = some o := by
  refine znk (d := n) fun m hm => ?_
  obtain ⟨k, rfl⟩ := Nat.exists_eq_add_of_le hm
  clear hm
  induction k with
  | zero => exact h
  | succ k ih => exact zjK (n + k) f a o ih
def tab : List (FuncId × List T × T × List T) → z0C
  | [] => fun _ _ => none
  | (g, b, r, os) :: l => fun f a => if (Nat.beq g f && zkd b a) = true then some (r, os) else tab l f a
theorem zpp {C : z0C} : ∀ {l : List (FuncId × List T × T × List T)}, (∀ x ∈ l, C x.1 x.2.1 = some x.2.2) → Mo (tab l) C
  | [], _ => fun f a o h => by cases h
  | (g, b, r, os) :: l, hl => fun f a o h => by
    simp only [tab] at h
    split at h
    · rename_i hc
      simp only [Bool.and_eq_true] at hc
      cases h
      have := hl _ (List.mem_cons_self ..)
      rw [← Nat.eq_of_beq_eq_true hc.1, ← z6T hc.2]
      exact this
    · exact zpp (fun x hx => hl x (List.mem_cons_of_mem _ hx)) f a o h
noncomputable def zhw (P : Program) (X : z0C) (cf : FuncId → Option Cfg) (S : z0C) : Nat → z0C
  | 0 => S
  | n + 1 => fun f a => match S f a with
    | some o => some o
    | none => match cf f with
      | some c => (match P.funcs[f]? with | some fn => zg7 P (zhw P X cf S n) c LFm fn a | none => none)
      | none => X f a
theorem zhv {P : Program} {X : z0C} {cf : FuncId → Option Cfg} {S : z0C} (hS : Mo S (Lim P X cf)) : ∀ n, Mo (zhw P X cf S n) (Lim P X cf)
  | 0 => hS
  | n + 1 => fun f a o h => by
    simp only [zhw] at h
    split at h
    · rename_i o' ho
      cases h
      exact hS f a o ho
    · split at h
      · rename_i c hc
        split at h
        · rename_i fn hfn
          obtain ⟨k, hk⟩ := zmZ (zhv hS n) h
          exact znj hc hfn (hk k (Nat.le_refl _))
        · cases h
      · rename_i hc
        exact znl hc h
theorem zqe {P : Program} {X : z0C} {cf : FuncId → Option Cfg} (l : List (FuncId × List T × T × List T)) (n : Nat) {f : FuncId} {a : List T} {o : T × List T} (h : zhw P X cf (tab l) n f a = some o) (hl : ∀ x ∈ l, Lim P X cf x.1 x.2.1 = some x.2.2) : Lim P X cf f a = some o :=
  zhv (zpp hl) n f a o h
end Go.Proofs.Ytbnnipkanechoaa
end
section
namespace Go.Proofs.Ytbnnipkanechoaa
open Go
set_option maxRecDepth 100000
def exT : T := .agg [.sc (.int .i64 2), .sc (.int .i64 0), .sl 3 [.sc (.bool true), .sc (.bool false), .sc (.bool false)], .sl 3 [.sl 2 [.sc (.int .i64 1), .sc (.int .i64 0)], .sl 2 [.sc (.int .i64 2), .sc (.int .i64 0)], .sl 2 [.sc (.int .i64 0), .sc (.int .i64 2)]]]
def zka : List T := [.sc (.int .i64 7), .sc (.int .i64 3), .sc (.int .i64 5), .sc (.int .i64 6), .sc (.int .i64 1), .sc (.int .i64 2), .sc (.int .i64 4)]
def dgT : T := .agg [.sl 7 [.sc (.int .i64 7), .sc (.int .i64 3), .sc (.int .i64 5), .sc (.int .i64 6), .sc (.int .i64 1), .sc (.int .i64 2), .sc (.int .i64 4)], .sl 7 [.sl 2 [.sc (.int .i64 0), .sc (.int .i64 2)], .sl 2 [.sc (.int .i64 3), .sc (.int .i64 4)], .sl 2 [.sc (.int .i64 1), .sc (.int .i64 2)], .sl 2 [.sc (.int .i64 2), .sc (.int .i64 2)], .sl 2 [.sc (.int .i64 5), .sc (.int .i64 4)], .sl 2 [.sc (.int .i64 6), .sc (.int .i64 4)], .sl 2 [.sc (.int .i64 4), .sc (.int .i64 6)]], .sl 7 [.sl 7 [.sc (.bool true), .sc (.bool false), .sc (.bool false), .sc (.bool false), .sc (.bool false), .sc (.bool false), .sc (.bool false)], .sl 7 [.sc (.bool true), .sc (.bool true), .sc (.bool true), .sc (.bool true), .sc (.bool false), .sc (.bool false), .sc (.bool false)], .sl 7 [.sc (.bool true), .sc (.bool true), .sc (.bool true), .sc (.bool true), .sc (.bool false), .sc (.bool false), .sc (.bool false)], .sl 7 [.sc (.bool true), .sc (.bool true), .sc (.bool true), .sc (.bool true), .sc (.bool false), .sc (.bool false), .sc (.bool false)], .sl 7 [.sc (.bool true), .sc (.bool true), .sc (.bool true), .sc (.bool true), .sc (.bool true), .sc (.bool true), .sc (.bool true)], .sl 7 [.sc (.bool true), .sc (.bool true), .sc (.bool true), .sc (.bool true), .sc (.bool true), .sc (.bool true), .sc (.bool true)], .sl 7 [.sc (.bool true), .sc (.bool true), .sc (.bool true), .sc (.bool true), .sc (.bool true), .sc (.bool true), .sc (.bool true)]]]
theorem e36 : z3x Try.prog xt z2p 10 36 [exT] = some (.os 1 7 zka, [.dead]) := by kernel_rfl
theorem e37 : z3x Try.prog xt z2p 10 37 [exT, .sl 7 zka] = some (.agg [.sl 7 [.sc (.int .i64 7), .sc (.int .i64 3), .sc (.int .i64 5), .sc (.int .i64 6), .sc (.int .i64 1), .sc (.int .i64 2), .sc (.int .i64 4)], .os 1 7 [.os 1 2 [.sc (.int .i64 0), .sc (.int .i64 2)], .os 1 2 [.sc (.int .i64 3), .sc (.int .i64 4)], .os 1 2 [.sc (.int .i64 1), .sc (.int .i64 2)], .os 1 2 [.sc (.int .i64 2), .sc (.int .i64 2)], .os 1 2 [.sc (.int .i64 5), .sc (.int .i64 4)], .os 1 2 [.sc (.int .i64 6), .sc (.int .i64 4)], .os 1 2 [.sc (.int .i64 4), .sc (.int .i64 6)]], .os 1 7 [.os 1 7 [.sc (.bool true), .sc (.bool false), .sc (.bool false), .sc (.bool false), .sc (.bool false), .sc (.bool false), .sc (.bool false)], .os 1 7 [.sc (.bool true), .sc (.bool true), .sc (.bool true), .sc (.bool true), .sc (.bool false), .sc (.bool false), .sc (.bool false)], .os 1 7 [.sc (.bool true), .sc (.bool true), .sc (.bool true), .sc (.bool true), .sc (.bool false), .sc (.bool false), .sc (.bool false)], .os 1 7 [.sc (.bool true), .sc (.bool true), .sc (.bool true), .sc (.bool true), .sc (.bool false), .sc (.bool false), .sc (.bool false)], .os 1 7 [.sc (.bool true), .sc (.bool true), .sc (.bool true), .sc (.bool true), .sc (.bool true), .sc (.bool true), .sc (.bool true)], .os 1 7 [.sc (.bool true), .sc (.bool true), .sc (.bool true), .sc (.bool true), .sc (.bool true), .sc (.bool true), .sc (.bool true)], .os 1 7 [.sc (.bool true), .sc (.bool true), .sc (.bool true), .sc (.bool true), .sc (.bool true), .sc (.bool true), .sc (.bool true)]]], [.dead, .dead]) := by kernel_rfl
def sr0 : T := .tup [.os 1 7 [.sc (.int .i64 0), .sc (.int .i64 2), .sc (.int .i64 1), .sc (.int .i64 3), .sc (.int .i64 4), .sc (.int .i64 5), .sc (.int .i64 6)], .os 1 7 [.sc (.string ByteArray.empty), .sc (.string ⟨#[98, 97]⟩), .sc (.string ⟨#[98]⟩), .sc (.string ⟨#[98, 97, 97]⟩), .sc (.string ⟨#[98, 97, 98]⟩), .sc (.string ⟨#[98, 97, 98, 97]⟩), .sc (.string ⟨#[98, 97, 98, 97, 97]⟩)]]
theorem zsm : z3x Try.prog xt z2p 6 41 [dgT, .sc (.int .i64 0)] = some (sr0, [.dead, .dead]) := by kernel_rfl
def sr1 : T := .tup [.os 1 6 [.sc (.int .i64 1), .sc (.int .i64 3), .sc (.int .i64 4), .sc (.int .i64 2), .sc (.int .i64 5), .sc (.int .i64 6)], .os 1 7 [.sc (.string ByteArray.empty), .sc (.string ByteArray.empty), .sc (.string ⟨#[97, 97]⟩), .sc (.string ⟨#[97]⟩), .sc (.string ⟨#[98]⟩), .sc (.string ⟨#[98, 97]⟩), .sc (.string ⟨#[98, 97, 97]⟩)]]
theorem zsl : z3x Try.prog xt z2p 6 41 [dgT, .sc (.int .i64 1)] = some (sr1, [.dead, .dead]) := by kernel_rfl
def sr2 : T := .tup [.os 1 6 [.sc (.int .i64 2), .sc (.int .i64 1), .sc (.int .i64 3), .sc (.int .i64 4), .sc (.int .i64 5), .sc (.int .i64 6)], .os 1 7 [.sc (.string ByteArray.empty), .sc (.string ⟨#[97]⟩), .sc (.string ByteArray.empty), .sc (.string ⟨#[97, 97]⟩), .sc (.string ⟨#[97, 98]⟩), .sc (.string ⟨#[97, 98, 97]⟩), .sc (.string ⟨#[97, 98, 97, 97]⟩)]]
theorem zsk : z3x Try.prog xt z2p 6 41 [dgT, .sc (.int .i64 2)] = some (sr2, [.dead, .dead]) := by kernel_rfl
def sr3 : T := .tup [.os 1 6 [.sc (.int .i64 3), .sc (.int .i64 2), .sc (.int .i64 1), .sc (.int .i64 4), .sc (.int .i64 5), .sc (.int .i64 6)], .os 1 7 [.sc (.string ByteArray.empty), .sc (.string ⟨#[97, 97]⟩), .sc (.string ⟨#[97]⟩), .sc (.string ByteArray.empty), .sc (.string ⟨#[97, 97, 98]⟩), .sc (.string ⟨#[97, 97, 98, 97]⟩), .sc (.string ⟨#[97, 97, 98, 97, 97]⟩)]]
theorem zsj : z3x Try.prog xt z2p 6 41 [dgT, .sc (.int .i64 3)] = some (sr3, [.dead, .dead]) := by kernel_rfl
def sr4 : T := .tup [.os 1 3 [.sc (.int .i64 4), .sc (.int .i64 5), .sc (.int .i64 6)], .os 1 7 [.sc (.string ByteArray.empty), .sc (.string ByteArray.empty), .sc (.string ByteArray.empty), .sc (.string ByteArray.empty), .sc (.string ByteArray.empty), .sc (.string ⟨#[97]⟩), .sc (.string ⟨#[97, 97]⟩)]]
theorem zsi : z3x Try.prog xt z2p 6 41 [dgT, .sc (.int .i64 4)] = some (sr4, [.dead, .dead]) := by kernel_rfl
def sr5 : T := .tup [.os 1 3 [.sc (.int .i64 5), .sc (.int .i64 6), .sc (.int .i64 4)], .os 1 7 [.sc (.string ByteArray.empty), .sc (.string ByteArray.empty), .sc (.string ByteArray.empty), .sc (.string ByteArray.empty), .sc (.string ⟨#[98]⟩), .sc (.string ByteArray.empty), .sc (.string ⟨#[97]⟩)]]
theorem zsh : z3x Try.prog xt z2p 6 41 [dgT, .sc (.int .i64 5)] = some (sr5, [.dead, .dead]) := by kernel_rfl
def sr6 : T := .tup [.os 1 3 [.sc (.int .i64 6), .sc (.int .i64 4), .sc (.int .i64 5)], .os 1 7 [.sc (.string ByteArray.empty), .sc (.string ByteArray.empty), .sc (.string ByteArray.empty), .sc (.string ByteArray.empty), .sc (.string ⟨#[97]⟩), .sc (.string ⟨#[97, 97]⟩), .sc (.string ByteArray.empty)]]
theorem zsg : z3x Try.prog xt z2p 6 41 [dgT, .sc (.int .i64 6)] = some (sr6, [.dead, .dead]) := by kernel_rfl
def zp0 : List (FuncId × List T × T × List T) := [(36, [exT], .os 1 7 zka, [.dead]), (37, [exT, .sl 7 zka], .agg [.sl 7 [.sc (.int .i64 7), .sc (.int .i64 3), .sc (.int .i64 5), .sc (.int .i64 6), .sc (.int .i64 1), .sc (.int .i64 2), .sc (.int .i64 4)], .os 1 7 [.os 1 2 [.sc (.int .i64 0), .sc (.int .i64 2)], .os 1 2 [.sc (.int .i64 3), .sc (.int .i64 4)], .os 1 2 [.sc (.int .i64 1), .sc (.int .i64 2)], .os 1 2 [.sc (.int .i64 2), .sc (.int .i64 2)], .os 1 2 [.sc (.int .i64 5), .sc (.int .i64 4)], .os 1 2 [.sc (.int .i64 6), .sc (.int .i64 4)], .os 1 2 [.sc (.int .i64 4), .sc (.int .i64 6)]], .os 1 7 [.os 1 7 [.sc (.bool true), .sc (.bool false), .sc (.bool false), .sc (.bool false), .sc (.bool false), .sc (.bool false), .sc (.bool false)], .os 1 7 [.sc (.bool true), .sc (.bool true), .sc (.bool true), .sc (.bool true), .sc (.bool false), .sc (.bool false), .sc (.bool false)], .os 1 7 [.sc (.bool true), .sc (.bool true), .sc (.bool true), .sc (.bool true), .sc (.bool false), .sc (.bool false), .sc (.bool false)], .os 1 7 [.sc (.bool true), .sc (.bool true), .sc (.bool true), .sc (.bool true), .sc (.bool false), .sc (.bool false), .sc (.bool false)], .os 1 7 [.sc (.bool true), .sc (.bool true), .sc (.bool true), .sc (.bool true), .sc (.bool true), .sc (.bool true), .sc (.bool true)], .os 1 7 [.sc (.bool true), .sc (.bool true), .sc (.bool true), .sc (.bool true), .sc (.bool true), .sc (.bool true), .sc (.bool true)], .os 1 7 [.sc (.bool true), .sc (.bool true), .sc (.bool true), .sc (.bool true), .sc (.bool true), .sc (.bool true), .sc (.bool true)]]], [.dead, .dead]), (41, [dgT, .sc (.int .i64 0)], sr0, [.dead, .dead]), (41, [dgT, .sc (.int .i64 1)], sr1, [.dead, .dead]), (41, [dgT, .sc (.int .i64 2)], sr2, [.dead, .dead]), (41, [dgT, .sc (.int .i64 3)], sr3, [.dead, .dead]), (41, [dgT, .sc (.int .i64 4)], sr4, [.dead, .dead]), (41, [dgT, .sc (.int .i64 5)], sr5, [.dead, .dead]), (41, [dgT, .sc (.int .i64 6)], sr6, [.dead, .dead])]
theorem zoZ : ∀ x ∈ zp0, L x.1 x.2.1 = some x.2.2 := by
  simp only [zp0, List.forall_mem_cons]
  exact ⟨zak 10 e36, zak 10 e37, zak 6 zsm, zak 6 zsl, zak 6 zsk, zak 6 zsj, zak 6 zsi, zak 6 zsh, zak 6 zsg, fun x h => by cases h⟩
theorem zw9 : zhw Try.prog xt z2p (tab zp0) 14 17 [] = some (.sc (.bool true), []) := by kernel_rfl
theorem c17 : L 17 [] = some (.sc (.bool true), []) := zqe zp0 14 zw9 zoZ
def zjg : Option Bool := some true
theorem zcc {r : Bool} (h : zjg = some r) : L 17 [] = some (.sc (.bool r), []) := by cases h; exact c17
end Go.Proofs.Ytbnnipkanechoaa
end
section
namespace Go.Proofs.Ytbnnipkanechoaa
open Go.RowKit
def Arr (w : World) (g n : Nat) (f : Nat → Value) : Prop :=
  ∀ i, i < n → w.cell? ⟨g, i, none⟩ = some (f i) ∧ w.frozen? ⟨g, i, none⟩ = false
theorem Arr.set {w : World} {g n : Nat} {f : Nat → Value} (h : Arr w g n f) (j : Nat) (hj : j < n) (c : Value) :
    Arr (w.setCell ⟨g, j, none⟩ c) g n (fun i => if i = j then c else f i) := by
  intro i hi
  refine ⟨?_, by rw [World.frozen?_setCell]; exact (h i hi).2⟩
  by_cases hij : i = j
  · subst hij
    rw [World.cell?_setCell_same _ _ _ (h i hi).1]; simp
  · rw [World.cell?_setCell_other _ _ _ _ (fun e => hij (by cases e; rfl)), (h i hi).1]; simp [hij]
theorem Arr.setOther {w : World} {g n : Nat} {f : Nat → Value} (h : Arr w g n f) {g' : Nat} (hg : g ≠ g') (j : Nat) (c : Value) : Arr (w.setCell ⟨g', j, none⟩ c) g n f := by
  intro i hi
  refine ⟨?_, by rw [World.frozen?_setCell]; exact (h i hi).2⟩
  rw [World.cell?_setCell_other _ _ _ _ (fun e => hg (by cases e; rfl))]; exact (h i hi).1
theorem Arr.drew {w : World} {g n : Nat} {f : Nat → Value} (h : Arr w g n f) : Arr w.drew g n f := h
theorem Arr.congr {w : World} {g n : Nat} {f f' : Nat → Value} (h : Arr w g n f) (e : ∀ i, i < n → f i = f' i) : Arr w g n f' :=
  fun i hi => by rw [← e i hi]; exact h i hi
theorem Arr.below {w w' : World} {g n B : Nat} {f : Nat → Value} (h : Arr w g n f) (hb : Below B w w') (hg : g < B) : Arr w' g n f :=
  fun i hi => ⟨(hb.cell (p := ⟨g, i, none⟩) hg).trans (h i hi).1, (hb.frozen (p := ⟨g, i, none⟩) hg).trans (h i hi).2⟩
theorem Arr.grown {w w' : World} {g n : Nat} {row : Option Nat} {f : Nat → Value} (h : Arr w g n f) (hb : w.grownBy w' row) (hg : some g ≠ row) : Arr w' g n f :=
  fun i hi => by
    have hlt := World.block_lt_of_cell? w _ (h i hi).1
    have e := hb.block g hlt hg
    exact ⟨(World.cell?_of_block (a := ⟨g, i, none⟩) e).trans (h i hi).1, (World.frozen?_of_block (a := ⟨g, i, none⟩) e).trans (h i hi).2⟩
theorem Arr.made (w : World) (z : Value) (n : Nat) (e : TypeId) : Arr (w.alloc (.cells (madeCells #[z] n) e)) w.heap.size n (fun _ => z) := by
  intro i hi
  refine ⟨?_, by rw [World.frozen?_alloc_new]⟩
  rw [World.cell?_alloc_new]
  simp [madeCells, hi, Nat.mod_one]
theorem Arr.lt {w : World} {g n : Nat} {f : Nat → Value} (h : Arr w g n f) (hn : 0 < n) : g < w.heap.size := World.block_lt_of_cell? w _ (h 0 hn).1
theorem Arr.get {w : World} {g n : Nat} {f : Nat → Value} (h : Arr w g n f) (i : Nat) (hi : i < n) {v : Value} (e : f i = v) : w.cell? ⟨g, i, none⟩ = some v := by rw [(h i hi).1, e]
theorem Arr.free {w : World} {g n : Nat} {f : Nat → Value} (h : Arr w g n f) (i : Nat) (hi : i < n) : w.frozen? ⟨g, i, none⟩ = false := (h i hi).2
end Go.Proofs.Ytbnnipkanechoaa
end
section
namespace Go.Proofs
open Go.Shelf
def Try.lays128_ren : Go.Shelf.Ren := ⟨fun | 128 => 88 | n => n, fun | 51 => 102 | 3 => 3 | 4 => 4 | 46 => 51 | 5 => 5 | 9 => 9 | n => n, fun | n => n⟩
theorem Try.lays128 : Go.Proofs.Lays.n128 Try.prog Try.lays128_ren := {
  mixed := by kernel_rfl
  f128 := Try.func88.trans (congrArg some (by kernel_rfl))
  t3 := Try.underlying3
  a3 := Try.isAgg3
  z3 := Try.sizeOf3
  v3 := Try.zeroValue3
  t4 := Try.underlying4
  a4 := Try.isAgg4
  z4 := Try.sizeOf4
  v4 := Try.zeroValue4
  t5 := Try.underlying5
  a5 := Try.isAgg5
  z5 := Try.sizeOf5
  v5 := Try.zeroValue5
  t9 := Try.underlying9
  a9 := Try.isAgg9
  z9 := Try.sizeOf9
  v9 := Try.zeroValue9
  t46 := Try.underlying51
  a46 := Try.isAgg51
  z46 := Try.sizeOf51
  v46 := Try.zeroValue51
  t51 := Try.underlying102
  a51 := Try.isAgg102
  z51 := Try.sizeOf102
  v51 := Try.zeroValue102 }
theorem Try.bits_Len32 (x : Int) (w : World) (h0 : 0 ≤ x) (h1 : x ≤ 4294967295) :
    Calls Try.prog 88 #[.int .u32 x] w fun e w' => e = .returned (.int .i64 (Lib.bitLen x.toNat)) ∧ w' = w := Any.bits_Len32 Try.lays128 x w h0 h1
def Try.lays125_ren : Go.Shelf.Ren := ⟨fun | 125 => 76 | 128 => 88 | 129 => 89 | n => n, fun | 46 => 51 | 3 => 3 | 51 => 102 | 53 => 104 | 4 => 4 | 5 => 5 | 9 => 9 | n => n, fun | n => n⟩
theorem Try.lays125 : Go.Proofs.Lays.n125 Try.prog Try.lays125_ren := {
  mixed := by kernel_rfl
  f125 := Try.func76.trans (congrArg some (by kernel_rfl))
  f128 := Try.func88.trans (congrArg some (by kernel_rfl))
  f129 := Try.func89.trans (congrArg some (by kernel_rfl))
  t3 := Try.underlying3
  a3 := Try.isAgg3
  z3 := Try.sizeOf3
  v3 := Try.zeroValue3
  t4 := Try.underlying4
  a4 := Try.isAgg4
  z4 := Try.sizeOf4
  v4 := Try.zeroValue4
  t5 := Try.underlying5
  a5 := Try.isAgg5
  z5 := Try.sizeOf5
  v5 := Try.zeroValue5
  t9 := Try.underlying9
  a9 := Try.isAgg9
  z9 := Try.sizeOf9
  v9 := Try.zeroValue9
  t46 := Try.underlying51
  a46 := Try.isAgg51
  z46 := Try.sizeOf51
  v46 := Try.zeroValue51
  t51 := Try.underlying102
  a51 := Try.isAgg102
  z51 := Try.sizeOf102
  v51 := Try.zeroValue102
  t53 := Try.underlying104
  a53 := Try.isAgg104
  z53 := Try.sizeOf104
  v53 := Try.zeroValue104 }
theorem Try.bits_Len (x : Int) (w : World) (h0 : 0 ≤ x) (h1 : x ≤ 18446744073709551615) :
    Calls Try.prog 76 #[.int .u64 x] w fun e w' => e = .returned (.int .i64 (Lib.bitLen x.toNat)) ∧ w' = w := Any.bits_Len Try.lays125 x w h0 h1
def Try.lays129_ren : Go.Shelf.Ren := ⟨fun | 129 => 89 | n => n, fun | 53 => 104 | 3 => 3 | 4 => 4 | 46 => 51 | 5 => 5 | 9 => 9 | n => n, fun | n => n⟩
theorem Try.lays129 : Go.Proofs.Lays.n129 Try.prog Try.lays129_ren := {
  mixed := by kernel_rfl
  f129 := Try.func89.trans (congrArg some (by kernel_rfl))
  t3 := Try.underlying3
  a3 := Try.isAgg3
  z3 := Try.sizeOf3
  v3 := Try.zeroValue3
  t4 := Try.underlying4
  a4 := Try.isAgg4
  z4 := Try.sizeOf4
  v4 := Try.zeroValue4
  t5 := Try.underlying5
  a5 := Try.isAgg5
  z5 := Try.sizeOf5
  v5 := Try.zeroValue5
  t9 := Try.underlying9
  a9 := Try.isAgg9
  z9 := Try.sizeOf9
  v9 := Try.zeroValue9
  t46 := Try.underlying51
  a46 := Try.isAgg51
  z46 := Try.sizeOf51
  v46 := Try.zeroValue51
  t53 := Try.underlying104
  a53 := Try.isAgg104
  z53 := Try.sizeOf104
  v53 := Try.zeroValue104 }
theorem Try.bits_Len64 (x : Int) (w : World) (h0 : 0 ≤ x) (h1 : x ≤ 18446744073709551615) :
    Calls Try.prog 89 #[.int .u64 x] w fun e w' => e = .returned (.int .i64 (Lib.bitLen x.toNat)) ∧ w' = w := Any.bits_Len64 Try.lays129 x w h0 h1
def Try.laysNm237_ren : Go.Shelf.Ren := ⟨fun | 37 => 77 | n => n, fun | 3 => 3 | 4 => 4 | n => n, fun | n => n⟩
theorem Try.laysNm237 : Go.Proofs.Lays2.n37 Try.prog Try.laysNm237_ren := {
  mixed := by kernel_rfl
  f37 := Try.func77.trans (congrArg some (by kernel_rfl))
  t3 := Try.underlying3
  a3 := Try.isAgg3
  z3 := Try.sizeOf3
  v3 := Try.zeroValue3
  t4 := Try.underlying4
  a4 := Try.isAgg4
  z4 := Try.sizeOf4
  v4 := Try.zeroValue4 }
open Go.RowKit Go.Lib in
theorem Try.cmp_isNaN_int2 (x : Int) (w : World) :
    Calls Try.prog 77 #[.int .i64 x] w fun e w' => e = .returned (.bool false) ∧ w' = w := Any.cmp_isNaN_int2 Try.laysNm237 x w
def Try.laysSlC27_f77_ren : Go.Shelf.Ren := ⟨fun | 7 => 77 | n => n, fun | 22 => 3 | 4 => 4 | n => n, fun | n => n⟩
theorem Try.laysSlC27_f77 : Go.Proofs.SlLaysC2.n7 Try.prog Try.laysSlC27_f77_ren := {
  mixed := by kernel_rfl
  f7 := ⟨Try.f77.name, by decide, Try.func77.trans (congrArg some (by kernel_rfl))⟩
  t4 := Try.underlying4
  a4 := Try.isAgg4
  z4 := Try.sizeOf4
  v4 := Try.zeroValue4
  t22 := Try.underlying3
  a22 := Try.isAgg3
  z22 := Try.sizeOf3
  v22 := Try.zeroValue3 }
open Go.Lib in
theorem Try.cmp_isNaN_int (x : Int) (w : World) :
    Calls Try.prog 77 #[.int .i64 x] w fun e w' => e = .returned (.bool false) ∧ w' = w := AnyG.cmp_isNaN_int Try.laysSlC27_f77 x w
def Try.laysSlC25_f67_ren : Go.Shelf.Ren := ⟨fun | 5 => 67 | 7 => 77 | n => n, fun | 22 => 3 | 3 => 3 | 4 => 4 | n => n, fun | n => n⟩
theorem Try.laysSlC25_f67 : Go.Proofs.SlLaysC2.n5 Try.prog Try.laysSlC25_f67_ren := {
  mixed := by kernel_rfl
  f5 := ⟨Try.f67.name, by decide, Try.func67.trans (congrArg some (by kernel_rfl))⟩
  f7 := ⟨Try.f77.name, by decide, Try.func77.trans (congrArg some (by kernel_rfl))⟩
  t3 := Try.underlying3
  a3 := Try.isAgg3
  z3 := Try.sizeOf3
  v3 := Try.zeroValue3
  t4 := Try.underlying4
  a4 := Try.isAgg4
  z4 := Try.sizeOf4
  v4 := Try.zeroValue4
  t22 := Try.underlying3
  a22 := Try.isAgg3
  z22 := Try.sizeOf3
  v22 := Try.zeroValue3 }
open Go.Lib in
theorem Try.cmp_Compare_int (x y : Int) (w : World) :
    Calls Try.prog 67 #[.int .i64 x, .int .i64 y] w fun e w' => e = .returned (.int .i64 (Lib.compareInt x y)) ∧ w' = w := AnyG.cmp_Compare_int Try.laysSlC25_f67 x y w
def Try.laysSlF20_f80_ren : Go.Shelf.Ren := ⟨fun | 20 => 80 | n => n, fun | 24 => 3 | 22 => 22 | 3 => 3 | 25 => 46 | 4 => 4 | 0 => 0 | n => n, fun | n => n⟩
theorem Try.laysSlF20_f80 : Go.Proofs.SlLaysF.n20 Try.prog Try.laysSlF20_f80_ren := {
  mixed := by kernel_rfl
  f20 := ⟨Try.f80.name, by decide, Try.func80.trans (congrArg some (by kernel_rfl))⟩
  t0 := Try.underlying0
  a0 := Try.isAgg0
  z0 := Try.sizeOf0
  v0 := Try.zeroValue0
  t3 := Try.underlying3
  a3 := Try.isAgg3
  z3 := Try.sizeOf3
  v3 := Try.zeroValue3
  t4 := Try.underlying4
  a4 := Try.isAgg4
  z4 := Try.sizeOf4
  v4 := Try.zeroValue4
  t22 := Try.underlying22
  a22 := Try.isAgg22
  z22 := Try.sizeOf22
  v22 := Try.zeroValue22
  a24 := Try.isAgg3
  z24 := Try.sizeOf3
  t25 := Try.underlying46
  a25 := Try.isAgg46
  z25 := Try.sizeOf46
  v25 := Try.zeroValue46 }
open Go.RowKit Go.Lib Go.Sort in
theorem Try.insertionSortCmpFunc_one {α : Type} [Inhabited α] (enc : α → Value) (hO : OneCell enc) (cf : α → α → Int) (g : Nat) (cb : Array Value) (blk off cap a b : Nat) (d : Array α) (w : World) (eg : ∀ args w, (callFunc g args).run Try.prog w = .ok (.enter g args) w) (hcmp : CmpReads Try.prog g cb enc cf blk off d.size w) (hH : Holds enc w blk off d) (hab : a ≤ b) (hb : b ≤ d.size) (hsz : d.size < 4611686018427387904) :
    Calls Try.prog 80 #[.slice (some ⟨blk, off, none⟩) d.size cap, .int .i64 a, .int .i64 b, .func (.func g) #[] cb] w fun e w' =>
      e = .returned (.tuple #[]) ∧ ∃ n, w' = (putRow enc w blk off (Sort.insertionSort (ltOf cf) d a b)).drewN n := Any.insertionSortCmpFunc_one Try.laysSlF20_f80 enc hO cf g cb blk off cap a b d w eg hcmp hH hab hb hsz
def Try.laysSlF46_f93_ren : Go.Shelf.Ren := ⟨fun | 46 => 93 | n => n, fun | 24 => 3 | 22 => 22 | 3 => 3 | 25 => 46 | 4 => 4 | 0 => 0 | n => n, fun | n => n⟩
theorem Try.laysSlF46_f93 : Go.Proofs.SlLaysF.n46 Try.prog Try.laysSlF46_f93_ren := {
  mixed := by kernel_rfl
  f46 := ⟨Try.f93.name, by decide, Try.func93.trans (congrArg some (by kernel_rfl))⟩
  t0 := Try.underlying0
  a0 := Try.isAgg0
  z0 := Try.sizeOf0
  v0 := Try.zeroValue0
  t3 := Try.underlying3
  a3 := Try.isAgg3
  z3 := Try.sizeOf3
  v3 := Try.zeroValue3
  t4 := Try.underlying4
  a4 := Try.isAgg4
  z4 := Try.sizeOf4
  v4 := Try.zeroValue4
  t22 := Try.underlying22
  a22 := Try.isAgg22
  z22 := Try.sizeOf22
  v22 := Try.zeroValue22
  a24 := Try.isAgg3
  z24 := Try.sizeOf3
  t25 := Try.underlying46
  a25 := Try.isAgg46
  z25 := Try.sizeOf46
  v25 := Try.zeroValue46 }
open Go.RowKit Go.Lib Go.Sort in
theorem Try.siftDownCmpFunc {α : Type} [Inhabited α] (enc : α → Value) (cf : α → α → Int) (g : Nat) (cb : Array Value) (blk off cap lo hi first : Nat) (d0 d : Array α) (w0 w : World) (eg : ∀ args w, (callFunc g args).run Try.prog w = .ok (.enter g args) w) (hcmp : CmpLays1 Try.prog g cb enc cf blk off d0.size w0) (R : Row1 enc w0 blk off d0) (hs : d0.size = d.size) (S : SW enc w0 blk off d w) (hlo : lo ≤ hi) (hb : first + hi ≤ d.size) (hsz : d.size < 4611686018427387904) :
    Calls Try.prog 93 #[.slice (some ⟨blk, off, none⟩) d.size cap, .int .i64 lo, .int .i64 hi, .int .i64 first, .func (.func g) #[] cb] w fun e w' =>
      e = .returned (.tuple #[]) ∧ SW enc w0 blk off (siftDown (ltOf cf) hi first lo d) w' := Any.siftDownCmpFunc Try.laysSlF46_f93 enc cf g cb blk off cap lo hi first d0 d w0 w eg hcmp R hs S hlo hb hsz
def Try.laysSlF21_f81_ren : Go.Shelf.Ren := ⟨fun | 21 => 81 | 46 => 93 | n => n, fun | 24 => 3 | 22 => 22 | 3 => 3 | 25 => 46 | 4 => 4 | 0 => 0 | n => n, fun | n => n⟩
theorem Try.laysSlF21_f81 : Go.Proofs.SlLaysF.n21 Try.prog Try.laysSlF21_f81_ren := {
  mixed := by kernel_rfl
  f21 := ⟨Try.f81.name, by decide, Try.func81.trans (congrArg some (by kernel_rfl))⟩
  f46 := ⟨Try.f93.name, by decide, Try.func93.trans (congrArg some (by kernel_rfl))⟩
  t0 := Try.underlying0
  a0 := Try.isAgg0
  z0 := Try.sizeOf0
  v0 := Try.zeroValue0
  t3 := Try.underlying3
  a3 := Try.isAgg3
  z3 := Try.sizeOf3
  v3 := Try.zeroValue3
  t4 := Try.underlying4
  a4 := Try.isAgg4
  z4 := Try.sizeOf4
  v4 := Try.zeroValue4
  t22 := Try.underlying22
  a22 := Try.isAgg22
  z22 := Try.sizeOf22
  v22 := Try.zeroValue22
  a24 := Try.isAgg3
  z24 := Try.sizeOf3
  t25 := Try.underlying46
  a25 := Try.isAgg46
  z25 := Try.sizeOf46
  v25 := Try.zeroValue46 }
open Go.RowKit Go.Lib Go.Sort in
theorem Try.heapSortCmpFunc {α : Type} [Inhabited α] (enc : α → Value) (cf : α → α → Int) (g : Nat) (cb : Array Value) (blk off cap a b : Nat) (d0 d : Array α) (w0 w : World) (eg : ∀ args w, (callFunc g args).run Try.prog w = .ok (.enter g args) w) (hcmp : CmpLays1 Try.prog g cb enc cf blk off d0.size w0) (R : Row1 enc w0 blk off d0) (hs : d0.size = d.size) (S : SW enc w0 blk off d w) (hab : a ≤ b) (hb : b ≤ d.size) (hsz : d.size < 4611686018427387904) :
    Calls Try.prog 81 #[.slice (some ⟨blk, off, none⟩) d.size cap, .int .i64 a, .int .i64 b, .func (.func g) #[] cb] w fun e w' =>
      e = .returned (.tuple #[]) ∧ SW enc w0 blk off (heapSort (ltOf cf) d a b) w' := Any.heapSortCmpFunc Try.laysSlF21_f81 enc cf g cb blk off cap a b d0 d w0 w eg hcmp R hs S hab hb hsz
open Go.RowKit Go.Lib Go.Sort in
theorem Try.insertionSortCmpFunc_s {α : Type} [Inhabited α] (enc : α → Value) (cf : α → α → Int) (g : Nat) (cb : Array Value) (blk off cap a b : Nat) (d0 d : Array α) (w0 w : World) (eg : ∀ args w, (callFunc g args).run Try.prog w = .ok (.enter g args) w) (hcmp : CmpLays1 Try.prog g cb enc cf blk off d0.size w0) (R : Row1 enc w0 blk off d0) (hs : d0.size = d.size) (S : SW enc w0 blk off d w) (hab : a ≤ b) (hb : b ≤ d.size) (hsz : d.size < 4611686018427387904) :
    Calls Try.prog 80 #[.slice (some ⟨blk, off, none⟩) d.size cap, .int .i64 a, .int .i64 b, .func (.func g) #[] cb] w fun e w' => e = .returned (.tuple #[]) ∧ SW enc w0 blk off (Sort.insertionSort (ltOf cf) d a b) w' := Any.insertionSortCmpFunc_s Try.laysSlF20_f80 enc cf g cb blk off cap a b d0 d w0 w eg hcmp R hs S hab hb hsz
def Try.laysSlF57_f99_ren : Go.Shelf.Ren := ⟨fun | 57 => 99 | n => n, fun | 24 => 3 | 22 => 22 | 3 => 3 | 70 => 109 | 25 => 46 | 0 => 0 | 4 => 4 | n => n, fun | n => n⟩
theorem Try.laysSlF57_f99 : Go.Proofs.SlLaysF.n57 Try.prog Try.laysSlF57_f99_ren := {
  mixed := by kernel_rfl
  f57 := ⟨Try.f99.name, by decide, Try.func99.trans (congrArg some (by kernel_rfl))⟩
  t0 := Try.underlying0
  a0 := Try.isAgg0
  z0 := Try.sizeOf0
  v0 := Try.zeroValue0
  t3 := Try.underlying3
  a3 := Try.isAgg3
  z3 := Try.sizeOf3
  v3 := Try.zeroValue3
  t4 := Try.underlying4
  a4 := Try.isAgg4
  z4 := Try.sizeOf4
  v4 := Try.zeroValue4
  t22 := Try.underlying22
  a22 := Try.isAgg22
  z22 := Try.sizeOf22
  v22 := Try.zeroValue22
  a24 := Try.isAgg3
  z24 := Try.sizeOf3
  t25 := Try.underlying46
  a25 := Try.isAgg46
  z25 := Try.sizeOf46
  v25 := Try.zeroValue46
  t70 := Try.underlying109
  a70 := Try.isAgg109
  z70 := Try.sizeOf109
  v70 := Try.zeroValue109 }
open Go.RowKit Go.Lib Go.Sort in
theorem Try.order2CmpFunc {α : Type} [Inhabited α] (enc : α → Value) (cf : α → α → Int) (g : Nat) (cb : Array Value) (blk off cap a b c s : Nat) (d0 d : Array α) (w0 W : World) (eg : ∀ args w, (callFunc g args).run Try.prog w = .ok (.enter g args) w) (hcmp : CmpLays1 Try.prog g cb enc cf blk off d0.size w0) (R : Row1 enc w0 blk off d0) (hs : d0.size = d.size) (C : Cnt1 enc w0 blk off d c s W) (ha : a < d.size) (hb : b < d.size) (hsz : d.size < 4611686018427387904) (hss : s < 4611686018427387904) :
    Calls Try.prog 99 #[.slice (some ⟨blk, off, none⟩) d.size cap, .int .i64 a, .int .i64 b, .pointer (some ⟨c, 0, none⟩), .func (.func g) #[] cb] W fun e w' =>
      e = .returned (.tuple #[.int .i64 (order2 (ltOf cf) d a b s).1, .int .i64 (order2 (ltOf cf) d a b s).2.1]) ∧ Cnt1 enc w0 blk off d c (order2 (ltOf cf) d a b s).2.2 w' := Any.order2CmpFunc Try.laysSlF57_f99 enc cf g cb blk off cap a b c s d0 d w0 W eg hcmp R hs C ha hb hsz hss
def Try.laysSlF50_f97_ren : Go.Shelf.Ren := ⟨fun | 50 => 97 | 57 => 99 | n => n, fun | 24 => 3 | 22 => 22 | 3 => 3 | 70 => 109 | 25 => 46 | 77 => 112 | 0 => 0 | 4 => 4 | n => n, fun | n => n⟩
theorem Try.laysSlF50_f97 : Go.Proofs.SlLaysF.n50 Try.prog Try.laysSlF50_f97_ren := {
  mixed := by kernel_rfl
  f50 := ⟨Try.f97.name, by decide, Try.func97.trans (congrArg some (by kernel_rfl))⟩
  f57 := ⟨Try.f99.name, by decide, Try.func99.trans (congrArg some (by kernel_rfl))⟩
  t0 := Try.underlying0
  a0 := Try.isAgg0
  z0 := Try.sizeOf0
  v0 := Try.zeroValue0
  t3 := Try.underlying3
  a3 := Try.isAgg3
  z3 := Try.sizeOf3
  v3 := Try.zeroValue3
  t4 := Try.underlying4
  a4 := Try.isAgg4
  z4 := Try.sizeOf4
  v4 := Try.zeroValue4
  t22 := Try.underlying22
  a22 := Try.isAgg22
  z22 := Try.sizeOf22
  v22 := Try.zeroValue22
  a24 := Try.isAgg3
  z24 := Try.sizeOf3
  t25 := Try.underlying46
  a25 := Try.isAgg46
  z25 := Try.sizeOf46
  v25 := Try.zeroValue46
  t70 := Try.underlying109
  a70 := Try.isAgg109
  z70 := Try.sizeOf109
  v70 := Try.zeroValue109
  t77 := Try.underlying112
  a77 := Try.isAgg112
  z77 := Try.sizeOf112
  v77 := Try.zeroValue112 }
open Go.RowKit Go.Lib Go.Sort in
theorem Try.medianCmpFunc {α : Type} [Inhabited α] (enc : α → Value) (cf : α → α → Int) (g : Nat) (cb : Array Value) (blk off cap a b c' c s : Nat) (d0 d : Array α) (w0 W : World) (eg : ∀ args w, (callFunc g args).run Try.prog w = .ok (.enter g args) w) (hcmp : CmpLays1 Try.prog g cb enc cf blk off d0.size w0) (R : Row1 enc w0 blk off d0) (hs : d0.size = d.size) (C : Cnt1 enc w0 blk off d c s W) (ha : a < d.size) (hb : b < d.size) (hc : c' < d.size) (hsz : d.size < 4611686018427387904) (hss : s + 3 < 4611686018427387904) :
    Calls Try.prog 97 #[.slice (some ⟨blk, off, none⟩) d.size cap, .int .i64 a, .int .i64 b, .int .i64 c', .pointer (some ⟨c, 0, none⟩), .func (.func g) #[] cb] W fun e w' =>
      e = .returned (.int .i64 (median (ltOf cf) d a b c' s).1) ∧ Cnt1 enc w0 blk off d c (median (ltOf cf) d a b c' s).2 w' := Any.medianCmpFunc Try.laysSlF50_f97 enc cf g cb blk off cap a b c' c s d0 d w0 W eg hcmp R hs C ha hb hc hsz hss
def Try.laysSlF49_f96_ren : Go.Shelf.Ren := ⟨fun | 49 => 96 | 50 => 97 | 57 => 99 | n => n, fun | 24 => 3 | 22 => 22 | 3 => 3 | 70 => 109 | 25 => 46 | 77 => 112 | 0 => 0 | 4 => 4 | n => n, fun | n => n⟩
theorem Try.laysSlF49_f96 : Go.Proofs.SlLaysF.n49 Try.prog Try.laysSlF49_f96_ren := {
  mixed := by kernel_rfl
  f49 := ⟨Try.f96.name, by decide, Try.func96.trans (congrArg some (by kernel_rfl))⟩
  f50 := ⟨Try.f97.name, by decide, Try.func97.trans (congrArg some (by kernel_rfl))⟩
  f57 := ⟨Try.f99.name, by decide, Try.func99.trans (congrArg some (by kernel_rfl))⟩
  t0 := Try.underlying0
  a0 := Try.isAgg0
  z0 := Try.sizeOf0
  v0 := Try.zeroValue0
  t3 := Try.underlying3
  a3 := Try.isAgg3
  z3 := Try.sizeOf3
  v3 := Try.zeroValue3
  t4 := Try.underlying4
  a4 := Try.isAgg4
  z4 := Try.sizeOf4
  v4 := Try.zeroValue4
  t22 := Try.underlying22
  a22 := Try.isAgg22
  z22 := Try.sizeOf22
  v22 := Try.zeroValue22
  a24 := Try.isAgg3
  z24 := Try.sizeOf3
  t25 := Try.underlying46
  a25 := Try.isAgg46
  z25 := Try.sizeOf46
  v25 := Try.zeroValue46
  t70 := Try.underlying109
  a70 := Try.isAgg109
  z70 := Try.sizeOf109
  v70 := Try.zeroValue109
  t77 := Try.underlying112
  a77 := Try.isAgg112
  z77 := Try.sizeOf112
  v77 := Try.zeroValue112 }
open Go.RowKit Go.Lib Go.Sort in
theorem Try.medianAdjacentCmpFunc {α : Type} [Inhabited α] (enc : α → Value) (cf : α → α → Int) (g : Nat) (cb : Array Value) (blk off cap a c s : Nat) (d0 d : Array α) (w0 W : World) (eg : ∀ args w, (callFunc g args).run Try.prog w = .ok (.enter g args) w) (hcmp : CmpLays1 Try.prog g cb enc cf blk off d0.size w0) (R : Row1 enc w0 blk off d0) (hs : d0.size = d.size) (C : Cnt1 enc w0 blk off d c s W) (ha1 : 1 ≤ a) (ha2 : a + 1 < d.size) (hsz : d.size < 4611686018427387904) (hss : s + 3 < 4611686018427387904) :
    Calls Try.prog 96 #[.slice (some ⟨blk, off, none⟩) d.size cap, .int .i64 a, .pointer (some ⟨c, 0, none⟩), .func (.func g) #[] cb] W fun e w' =>
      e = .returned (.int .i64 (medianAdjacent (ltOf cf) d a s).1) ∧ Cnt1 enc w0 blk off d c (medianAdjacent (ltOf cf) d a s).2 w' := Any.medianAdjacentCmpFunc Try.laysSlF49_f96 enc cf g cb blk off cap a c s d0 d w0 W eg hcmp R hs C ha1 ha2 hsz hss
def Try.laysSlF23_f83_ren : Go.Shelf.Ren := ⟨fun | 23 => 83 | 49 => 96 | 50 => 97 | 57 => 99 | n => n, fun | 24 => 3 | 22 => 22 | 3 => 3 | 25 => 46 | 45 => 95 | 0 => 0 | 4 => 4 | 70 => 109 | 77 => 112 | n => n, fun | n => n⟩
theorem Try.laysSlF23_f83 : Go.Proofs.SlLaysF.n23 Try.prog Try.laysSlF23_f83_ren := {
  mixed := by kernel_rfl
  f23 := ⟨Try.f83.name, by decide, Try.func83.trans (congrArg some (by kernel_rfl))⟩
  f49 := ⟨Try.f96.name, by decide, Try.func96.trans (congrArg some (by kernel_rfl))⟩
  f50 := ⟨Try.f97.name, by decide, Try.func97.trans (congrArg some (by kernel_rfl))⟩
  f57 := ⟨Try.f99.name, by decide, Try.func99.trans (congrArg some (by kernel_rfl))⟩
  t0 := Try.underlying0
  a0 := Try.isAgg0
  z0 := Try.sizeOf0
  v0 := Try.zeroValue0
  t3 := Try.underlying3
  a3 := Try.isAgg3
  z3 := Try.sizeOf3
  v3 := Try.zeroValue3
  t4 := Try.underlying4
  a4 := Try.isAgg4
  z4 := Try.sizeOf4
  v4 := Try.zeroValue4
  t22 := Try.underlying22
  a22 := Try.isAgg22
  z22 := Try.sizeOf22
  v22 := Try.zeroValue22
  a24 := Try.isAgg3
  z24 := Try.sizeOf3
  t25 := Try.underlying46
  a25 := Try.isAgg46
  z25 := Try.sizeOf46
  v25 := Try.zeroValue46
  t45 := Try.underlying95
  a45 := Try.isAgg95
  z45 := Try.sizeOf95
  v45 := Try.zeroValue95
  t70 := Try.underlying109
  a70 := Try.isAgg109
  z70 := Try.sizeOf109
  v70 := Try.zeroValue109
  t77 := Try.underlying112
  a77 := Try.isAgg112
  z77 := Try.sizeOf112
  v77 := Try.zeroValue112 }
open Go.RowKit Go.Lib Go.Sort in
theorem Try.choosePivotCmpFunc {α : Type} [Inhabited α] (enc : α → Value) (cf : α → α → Int) (g : Nat) (cb : Array Value) (blk off cap a b : Nat) (d0 d : Array α) (w0 W : World) (eg : ∀ args w, (callFunc g args).run Try.prog w = .ok (.enter g args) w) (hcmp : CmpLays1 Try.prog g cb enc cf blk off d0.size w0) (R : Row1 enc w0 blk off d0) (hs : d0.size = d.size) (S : SW enc w0 blk off d W) (hab : a < b) (hb : b ≤ d.size) (hsz : d.size < 4611686018427387904) :
    Calls Try.prog 83 #[.slice (some ⟨blk, off, none⟩) d.size cap, .int .i64 a, .int .i64 b, .func (.func g) #[] cb] W fun e w' =>
      e = .returned (.tuple #[.int .i64 (choosePivot (ltOf cf) d a b).1, .int .i64 (hintCode (choosePivot (ltOf cf) d a b).2)]) ∧ SW enc w0 blk off d w' := Any.choosePivotCmpFunc Try.laysSlF23_f83 enc cf g cb blk off cap a b d0 d w0 W eg hcmp R hs S hab hb hsz
def Try.laysSlF24_f84_ren : Go.Shelf.Ren := ⟨fun | 24 => 84 | n => n, fun | 24 => 3 | 22 => 22 | 3 => 3 | 25 => 46 | 4 => 4 | 0 => 0 | n => n, fun | n => n⟩
theorem Try.laysSlF24_f84 : Go.Proofs.SlLaysF.n24 Try.prog Try.laysSlF24_f84_ren := {
  mixed := by kernel_rfl
  f24 := ⟨Try.f84.name, by decide, Try.func84.trans (congrArg some (by kernel_rfl))⟩
  t0 := Try.underlying0
  a0 := Try.isAgg0
  z0 := Try.sizeOf0
  v0 := Try.zeroValue0
  t3 := Try.underlying3
  a3 := Try.isAgg3
  z3 := Try.sizeOf3
  v3 := Try.zeroValue3
  t4 := Try.underlying4
  a4 := Try.isAgg4
  z4 := Try.sizeOf4
  v4 := Try.zeroValue4
  t22 := Try.underlying22
  a22 := Try.isAgg22
  z22 := Try.sizeOf22
  v22 := Try.zeroValue22
  a24 := Try.isAgg3
  z24 := Try.sizeOf3
  t25 := Try.underlying46
  a25 := Try.isAgg46
  z25 := Try.sizeOf46
  v25 := Try.zeroValue46 }
open Go.RowKit Go.Lib Go.Sort in
theorem Try.reverseRangeCmpFunc {α : Type} [Inhabited α] (enc : α → Value) (g : Nat) (cb : Array Value) (blk off cap a b : Nat) (d0 d : Array α) (w0 w : World) (R : Row1 enc w0 blk off d0) (hs : d0.size = d.size) (S : SW enc w0 blk off d w) (hab : a ≤ b) (hb : b ≤ d.size) (hsz : d.size < 4611686018427387904) :
    Calls Try.prog 84 #[.slice (some ⟨blk, off, none⟩) d.size cap, .int .i64 a, .int .i64 b, .func (.func g) #[] cb] w fun e w' => e = .returned (.tuple #[]) ∧ SW enc w0 blk off (reverseRange d a b) w' := Any.reverseRangeCmpFunc Try.laysSlF24_f84 enc g cb blk off cap a b d0 d w0 w R hs S hab hb hsz
def Try.laysSlF25_f85_ren : Go.Shelf.Ren := ⟨fun | 25 => 85 | n => n, fun | 24 => 3 | 22 => 22 | 3 => 3 | 25 => 46 | 4 => 4 | 0 => 0 | n => n, fun | n => n⟩
theorem Try.laysSlF25_f85 : Go.Proofs.SlLaysF.n25 Try.prog Try.laysSlF25_f85_ren := {
  mixed := by kernel_rfl
  f25 := ⟨Try.f85.name, by decide, Try.func85.trans (congrArg some (by kernel_rfl))⟩
  t0 := Try.underlying0
  a0 := Try.isAgg0
  z0 := Try.sizeOf0
  v0 := Try.zeroValue0
  t3 := Try.underlying3
  a3 := Try.isAgg3
  z3 := Try.sizeOf3
  v3 := Try.zeroValue3
  t4 := Try.underlying4
  a4 := Try.isAgg4
  z4 := Try.sizeOf4
  v4 := Try.zeroValue4
  t22 := Try.underlying22
  a22 := Try.isAgg22
  z22 := Try.sizeOf22
  v22 := Try.zeroValue22
  a24 := Try.isAgg3
  z24 := Try.sizeOf3
  t25 := Try.underlying46
  a25 := Try.isAgg46
  z25 := Try.sizeOf46
  v25 := Try.zeroValue46 }
open Go.RowKit Go.Lib Go.Sort in
theorem Try.partialInsertionSortCmpFunc {α : Type} [Inhabited α] (enc : α → Value) (cf : α → α → Int) (g : Nat) (cb : Array Value) (blk off cap a b : Nat) (d0 d : Array α) (w0 w : World) (eg : ∀ args w, (callFunc g args).run Try.prog w = .ok (.enter g args) w) (hcmp : CmpLays1 Try.prog g cb enc cf blk off d0.size w0) (R : Row1 enc w0 blk off d0) (hs : d0.size = d.size) (S : SW enc w0 blk off d w) (hab : a < b) (hb : b ≤ d.size) (hsz : d.size < 4611686018427387904) :
    Calls Try.prog 85 #[.slice (some ⟨blk, off, none⟩) d.size cap, .int .i64 a, .int .i64 b, .func (.func g) #[] cb] w fun e w' =>
      e = .returned (.bool (Sort.partialInsertionSort (ltOf cf) d a b).2) ∧ SW enc w0 blk off (Sort.partialInsertionSort (ltOf cf) d a b).1 w' := Any.partialInsertionSortCmpFunc Try.laysSlF25_f85 enc cf g cb blk off cap a b d0 d w0 w eg hcmp R hs S hab hb hsz
def Try.laysSlF26_f86_ren : Go.Shelf.Ren := ⟨fun | 26 => 86 | n => n, fun | 24 => 3 | 22 => 22 | 3 => 3 | 25 => 46 | 0 => 0 | 4 => 4 | n => n, fun | n => n⟩
theorem Try.laysSlF26_f86 : Go.Proofs.SlLaysF.n26 Try.prog Try.laysSlF26_f86_ren := {
  mixed := by kernel_rfl
  f26 := ⟨Try.f86.name, by decide, Try.func86.trans (congrArg some (by kernel_rfl))⟩
  t0 := Try.underlying0
  a0 := Try.isAgg0
  z0 := Try.sizeOf0
  v0 := Try.zeroValue0
  t3 := Try.underlying3
  a3 := Try.isAgg3
  z3 := Try.sizeOf3
  v3 := Try.zeroValue3
  t4 := Try.underlying4
  a4 := Try.isAgg4
  z4 := Try.sizeOf4
  v4 := Try.zeroValue4
  t22 := Try.underlying22
  a22 := Try.isAgg22
  z22 := Try.sizeOf22
  v22 := Try.zeroValue22
  a24 := Try.isAgg3
  z24 := Try.sizeOf3
  t25 := Try.underlying46
  a25 := Try.isAgg46
  z25 := Try.sizeOf46
  v25 := Try.zeroValue46 }
open Go.RowKit Go.Lib Go.Sort in
theorem Try.partitionEqualCmpFunc {α : Type} [Inhabited α] (enc : α → Value) (cf : α → α → Int) (g : Nat) (cb : Array Value) (blk off cap a b pivot : Nat) (d0 d : Array α) (w0 w : World) (eg : ∀ args w, (callFunc g args).run Try.prog w = .ok (.enter g args) w) (hcmp : CmpLays1 Try.prog g cb enc cf blk off d0.size w0) (R : Row1 enc w0 blk off d0) (hs : d0.size = d.size) (S : SW enc w0 blk off d w) (hap : a ≤ pivot) (hpb : pivot < b) (hb : b ≤ d.size) (hsz : d.size < 4611686018427387904) :
    Calls Try.prog 86 #[.slice (some ⟨blk, off, none⟩) d.size cap, .int .i64 a, .int .i64 b, .int .i64 pivot, .func (.func g) #[] cb] w fun e w' =>
      e = .returned (.int .i64 (Sort.partitionEqual (ltOf cf) d a b pivot).1) ∧ SW enc w0 blk off (Sort.partitionEqual (ltOf cf) d a b pivot).2 w' := Any.partitionEqualCmpFunc Try.laysSlF26_f86 enc cf g cb blk off cap a b pivot d0 d w0 w eg hcmp R hs S hap hpb hb hsz
def Try.laysSlF27_f87_ren : Go.Shelf.Ren := ⟨fun | 27 => 87 | n => n, fun | 24 => 3 | 22 => 22 | 3 => 3 | 25 => 46 | 4 => 4 | 0 => 0 | n => n, fun | n => n⟩
theorem Try.laysSlF27_f87 : Go.Proofs.SlLaysF.n27 Try.prog Try.laysSlF27_f87_ren := {
  mixed := by kernel_rfl
  f27 := ⟨Try.f87.name, by decide, Try.func87.trans (congrArg some (by kernel_rfl))⟩
  t0 := Try.underlying0
  a0 := Try.isAgg0
  z0 := Try.sizeOf0
  v0 := Try.zeroValue0
  t3 := Try.underlying3
  a3 := Try.isAgg3
  z3 := Try.sizeOf3
  v3 := Try.zeroValue3
  t4 := Try.underlying4
  a4 := Try.isAgg4
  z4 := Try.sizeOf4
  v4 := Try.zeroValue4
  t22 := Try.underlying22
  a22 := Try.isAgg22
  z22 := Try.sizeOf22
  v22 := Try.zeroValue22
  a24 := Try.isAgg3
  z24 := Try.sizeOf3
  t25 := Try.underlying46
  a25 := Try.isAgg46
  z25 := Try.sizeOf46
  v25 := Try.zeroValue46 }
open Go.RowKit Go.Lib Go.Sort in
theorem Try.partitionCmpFunc {α : Type} [Inhabited α] (enc : α → Value) (cf : α → α → Int) (g : Nat) (cb : Array Value) (blk off cap a b pivot : Nat) (d0 d : Array α) (w0 w : World) (eg : ∀ args w, (callFunc g args).run Try.prog w = .ok (.enter g args) w) (hcmp : CmpLays1 Try.prog g cb enc cf blk off d0.size w0) (R : Row1 enc w0 blk off d0) (hs : d0.size = d.size) (S : SW enc w0 blk off d w) (hap : a ≤ pivot) (hpb : pivot < b) (hb : b ≤ d.size) (hsz : d.size < 4611686018427387904) :
    Calls Try.prog 87 #[.slice (some ⟨blk, off, none⟩) d.size cap, .int .i64 a, .int .i64 b, .int .i64 pivot, .func (.func g) #[] cb] w fun e w' =>
      e = .returned (.tuple #[.int .i64 (Sort.partition (ltOf cf) d a b pivot).1, .bool (Sort.partition (ltOf cf) d a b pivot).2.1]) ∧ SW enc w0 blk off (Sort.partition (ltOf cf) d a b pivot).2.2 w' := Any.partitionCmpFunc Try.laysSlF27_f87 enc cf g cb blk off cap a b pivot d0 d w0 w eg hcmp R hs S hap hpb hb hsz
def Try.laysSlF14_f75_ren : Go.Shelf.Ren := ⟨fun | 14 => 75 | 20 => 80 | 21 => 81 | 22 => 82 | 23 => 83 | 24 => 84 | 25 => 85 | 26 => 86 | 27 => 87 | 46 => 93 | 47 => 94 | 48 => 95 | 49 => 96 | 50 => 97 | 15 => 76 | 57 => 99 | 28 => 88 | 29 => 89 | n => n, fun | 24 => 3 | 22 => 22 | 3 => 3 | 25 => 46 | 4 => 4 | 0 => 0 | 46 => 96 | 45 => 95 | 50 => 42 | 66 => 105 | 39 => 51 | 55 => 104 | 70 => 109 | 76 => 111 | 77 => 112 | 53 => 102 | 5 => 5 | 9 => 9 | n => n, fun | n => n⟩
theorem Try.laysSlF14_f75 : Go.Proofs.SlLaysF.n14 Try.prog Try.laysSlF14_f75_ren := {
  mixed := by kernel_rfl
  f14 := ⟨Try.f75.name, by decide, Try.func75.trans (congrArg some (by kernel_rfl))⟩
  f15 := Try.func76.trans (congrArg some (by kernel_rfl))
  f20 := ⟨Try.f80.name, by decide, Try.func80.trans (congrArg some (by kernel_rfl))⟩
  f21 := ⟨Try.f81.name, by decide, Try.func81.trans (congrArg some (by kernel_rfl))⟩
  f22 := ⟨Try.f82.name, by decide, Try.func82.trans (congrArg some (by kernel_rfl))⟩
  f23 := ⟨Try.f83.name, by decide, Try.func83.trans (congrArg some (by kernel_rfl))⟩
  f24 := ⟨Try.f84.name, by decide, Try.func84.trans (congrArg some (by kernel_rfl))⟩
  f25 := ⟨Try.f85.name, by decide, Try.func85.trans (congrArg some (by kernel_rfl))⟩
  f26 := ⟨Try.f86.name, by decide, Try.func86.trans (congrArg some (by kernel_rfl))⟩
  f27 := ⟨Try.f87.name, by decide, Try.func87.trans (congrArg some (by kernel_rfl))⟩
  f28 := Try.func88.trans (congrArg some (by kernel_rfl))
  f29 := Try.func89.trans (congrArg some (by kernel_rfl))
  f46 := ⟨Try.f93.name, by decide, Try.func93.trans (congrArg some (by kernel_rfl))⟩
  f47 := Try.func94.trans (congrArg some (by kernel_rfl))
  f48 := Try.func95.trans (congrArg some (by kernel_rfl))
  f49 := ⟨Try.f96.name, by decide, Try.func96.trans (congrArg some (by kernel_rfl))⟩
  f50 := ⟨Try.f97.name, by decide, Try.func97.trans (congrArg some (by kernel_rfl))⟩
  f57 := ⟨Try.f99.name, by decide, Try.func99.trans (congrArg some (by kernel_rfl))⟩
  t0 := Try.underlying0
  a0 := Try.isAgg0
  z0 := Try.sizeOf0
  v0 := Try.zeroValue0
  t3 := Try.underlying3
  a3 := Try.isAgg3
  z3 := Try.sizeOf3
  v3 := Try.zeroValue3
  t4 := Try.underlying4
  a4 := Try.isAgg4
  z4 := Try.sizeOf4
  v4 := Try.zeroValue4
  t5 := Try.underlying5
  a5 := Try.isAgg5
  z5 := Try.sizeOf5
  v5 := Try.zeroValue5
  t9 := Try.underlying9
  a9 := Try.isAgg9
  z9 := Try.sizeOf9
  v9 := Try.zeroValue9
  t22 := Try.underlying22
  a22 := Try.isAgg22
  z22 := Try.sizeOf22
  v22 := Try.zeroValue22
  a24 := Try.isAgg3
  z24 := Try.sizeOf3
  t25 := Try.underlying46
  a25 := Try.isAgg46
  z25 := Try.sizeOf46
  v25 := Try.zeroValue46
  t39 := Try.underlying51
  a39 := Try.isAgg51
  z39 := Try.sizeOf51
  v39 := Try.zeroValue51
  t45 := Try.underlying95
  a45 := Try.isAgg95
  z45 := Try.sizeOf95
  v45 := Try.zeroValue95
  t46 := Try.underlying96
  a46 := Try.isAgg96
  z46 := Try.sizeOf96
  v46 := Try.zeroValue96
  t50 := Try.underlying42
  a50 := Try.isAgg42
  z50 := Try.sizeOf42
  v50 := Try.zeroValue42
  t53 := Try.underlying102
  a53 := Try.isAgg102
  z53 := Try.sizeOf102
  v53 := Try.zeroValue102
  t55 := Try.underlying104
  a55 := Try.isAgg104
  z55 := Try.sizeOf104
  v55 := Try.zeroValue104
  t66 := Try.underlying105
  a66 := Try.isAgg105
  z66 := Try.sizeOf105
  v66 := Try.zeroValue105
  t70 := Try.underlying109
  a70 := Try.isAgg109
  z70 := Try.sizeOf109
  v70 := Try.zeroValue109
  t76 := Try.underlying111
  a76 := Try.isAgg111
  z76 := Try.sizeOf111
  v76 := Try.zeroValue111
  t77 := Try.underlying112
  a77 := Try.isAgg112
  z77 := Try.sizeOf112
  v77 := Try.zeroValue112 }
open Go.RowKit Go.Lib Go.Sort in
theorem Try.pdqsortCmpFunc_all {α : Type} [Inhabited α] (enc : α → Value) (cf : α → α → Int) (g : Nat) (cb : Array Value) (hO : SWO (ltOf cf)) (blk off cap : Nat) (d0 : Array α) (w0 : World) (eg : ∀ args w, (callFunc g args).run Try.prog w = .ok (.enter g args) w) (hcmp : CmpLays1 Try.prog g cb enc cf blk off d0.size w0) (R : Row1 enc w0 blk off d0) :
    ∀ (N a b limit : Nat) (d : Array α) (w : World), b - a < N → d0.size = d.size → SW enc w0 blk off d w → a ≤ b → b ≤ d.size → d.size < 4611686018427387904 → limit < 4611686018427387904 → Below (ltOf cf) a b d →
    Calls Try.prog 75 #[.slice (some ⟨blk, off, none⟩) d.size cap, .int .i64 a, .int .i64 b, .int .i64 limit, .func (.func g) #[] cb] w fun e w' => e = .returned (.tuple #[]) ∧ SW enc w0 blk off (pdq (ltOf cf) d a b limit true true) w' := Any.pdqsortCmpFunc_all Try.laysSlF14_f75 enc cf g cb hO blk off cap d0 w0 eg hcmp R
def Try.laysSlF6_f64_ren : Go.Shelf.Ren := ⟨fun | 6 => 64 | 15 => 76 | 14 => 75 | 28 => 88 | 29 => 89 | 20 => 80 | 21 => 81 | 22 => 82 | 23 => 83 | 24 => 84 | 25 => 85 | 26 => 86 | 27 => 87 | 46 => 93 | 47 => 94 | 48 => 95 | 49 => 96 | 50 => 97 | 57 => 99 | n => n, fun | 22 => 22 | 24 => 3 | 25 => 46 | 3 => 3 | 39 => 51 | 0 => 0 | 53 => 102 | 55 => 104 | 4 => 4 | 46 => 96 | 45 => 95 | 50 => 42 | 5 => 5 | 9 => 9 | 66 => 105 | 70 => 109 | 76 => 111 | 77 => 112 | n => n, fun | n => n⟩
theorem Try.laysSlF6_f64 : Go.Proofs.SlLaysF.n6 Try.prog Try.laysSlF6_f64_ren := {
  mixed := by kernel_rfl
  f6 := ⟨Try.f64.name, by decide, Try.func64.trans (congrArg some (by kernel_rfl))⟩
  f14 := ⟨Try.f75.name, by decide, Try.func75.trans (congrArg some (by kernel_rfl))⟩
  f15 := Try.func76.trans (congrArg some (by kernel_rfl))
  f20 := ⟨Try.f80.name, by decide, Try.func80.trans (congrArg some (by kernel_rfl))⟩
  f21 := ⟨Try.f81.name, by decide, Try.func81.trans (congrArg some (by kernel_rfl))⟩
  f22 := ⟨Try.f82.name, by decide, Try.func82.trans (congrArg some (by kernel_rfl))⟩
  f23 := ⟨Try.f83.name, by decide, Try.func83.trans (congrArg some (by kernel_rfl))⟩
  f24 := ⟨Try.f84.name, by decide, Try.func84.trans (congrArg some (by kernel_rfl))⟩
  f25 := ⟨Try.f85.name, by decide, Try.func85.trans (congrArg some (by kernel_rfl))⟩
  f26 := ⟨Try.f86.name, by decide, Try.func86.trans (congrArg some (by kernel_rfl))⟩
  f27 := ⟨Try.f87.name, by decide, Try.func87.trans (congrArg some (by kernel_rfl))⟩
  f28 := Try.func88.trans (congrArg some (by kernel_rfl))
  f29 := Try.func89.trans (congrArg some (by kernel_rfl))
  f46 := ⟨Try.f93.name, by decide, Try.func93.trans (congrArg some (by kernel_rfl))⟩
  f47 := Try.func94.trans (congrArg some (by kernel_rfl))
  f48 := Try.func95.trans (congrArg some (by kernel_rfl))
  f49 := ⟨Try.f96.name, by decide, Try.func96.trans (congrArg some (by kernel_rfl))⟩
  f50 := ⟨Try.f97.name, by decide, Try.func97.trans (congrArg some (by kernel_rfl))⟩
  f57 := ⟨Try.f99.name, by decide, Try.func99.trans (congrArg some (by kernel_rfl))⟩
  t0 := Try.underlying0
  a0 := Try.isAgg0
  z0 := Try.sizeOf0
  v0 := Try.zeroValue0
  t3 := Try.underlying3
  a3 := Try.isAgg3
  z3 := Try.sizeOf3
  v3 := Try.zeroValue3
  t4 := Try.underlying4
  a4 := Try.isAgg4
  z4 := Try.sizeOf4
  v4 := Try.zeroValue4
  t5 := Try.underlying5
  a5 := Try.isAgg5
  z5 := Try.sizeOf5
  v5 := Try.zeroValue5
  t9 := Try.underlying9
  a9 := Try.isAgg9
  z9 := Try.sizeOf9
  v9 := Try.zeroValue9
  t22 := Try.underlying22
  a22 := Try.isAgg22
  z22 := Try.sizeOf22
  v22 := Try.zeroValue22
  a24 := Try.isAgg3
  z24 := Try.sizeOf3
  t25 := Try.underlying46
  a25 := Try.isAgg46
  z25 := Try.sizeOf46
  v25 := Try.zeroValue46
  t39 := Try.underlying51
  a39 := Try.isAgg51
  z39 := Try.sizeOf51
  v39 := Try.zeroValue51
  t45 := Try.underlying95
  a45 := Try.isAgg95
  z45 := Try.sizeOf95
  v45 := Try.zeroValue95
  t46 := Try.underlying96
  a46 := Try.isAgg96
  z46 := Try.sizeOf96
  v46 := Try.zeroValue96
  t50 := Try.underlying42
  a50 := Try.isAgg42
  z50 := Try.sizeOf42
  v50 := Try.zeroValue42
  t53 := Try.underlying102
  a53 := Try.isAgg102
  z53 := Try.sizeOf102
  v53 := Try.zeroValue102
  t55 := Try.underlying104
  a55 := Try.isAgg104
  z55 := Try.sizeOf104
  v55 := Try.zeroValue104
  t66 := Try.underlying105
  a66 := Try.isAgg105
  z66 := Try.sizeOf105
  v66 := Try.zeroValue105
  t70 := Try.underlying109
  a70 := Try.isAgg109
  z70 := Try.sizeOf109
  v70 := Try.zeroValue109
  t76 := Try.underlying111
  a76 := Try.isAgg111
  z76 := Try.sizeOf111
  v76 := Try.zeroValue111
  t77 := Try.underlying112
  a77 := Try.isAgg112
  z77 := Try.sizeOf112
  v77 := Try.zeroValue112 }
open Go.RowKit Go.Lib Go.Sort in
theorem Try.slices_SortFunc_eq {α : Type} [Inhabited α] (enc : α → Value) (h1 : OneCell enc) (cf : α → α → Int) (hO : SWO (ltOf cf)) (g : Nat) (cb : Array Value) (blk off cap : Nat) (d : Array α) (w : World) (eg : ∀ args w, (callFunc g args).run Try.prog w = .ok (.enter g args) w) (hcmp : CmpLays1 Try.prog g cb enc cf blk off d.size w) (hH : Holds enc w blk off d) (hblk : blk < w.heap.size) (hsz : d.size < 4611686018427387904) :
    Calls Try.prog 64 #[.slice (some ⟨blk, off, none⟩) d.size cap, .func (.func g) #[] cb] w fun e w' =>
      e = .returned (.tuple #[]) ∧ ∃ n os, w' = sortWorld enc w blk off n (pdq (ltOf cf) d 0 d.size (Lib.bitLen d.size) true true) os := Any.slices_SortFunc_eq Try.laysSlF6_f64 enc h1 cf hO g cb blk off cap d w eg hcmp hH hblk hsz
open Go.RowKit Go.Lib Go.Sort in
theorem Try.slices_SortFunc {α : Type} [Inhabited α] (enc : α → Value) (h1 : OneCell enc) (cf : α → α → Int) (hO : SWO (ltOf cf)) (g : Nat) (cb : Array Value) (blk off cap : Nat) (d : Array α) (w : World) (eg : ∀ args w, (callFunc g args).run Try.prog w = .ok (.enter g args) w) (hcmp : CmpLays1 Try.prog g cb enc cf blk off d.size w) (hH : Holds enc w blk off d) (hblk : blk < w.heap.size) (hsz : d.size < 4611686018427387904) :
    Calls Try.prog 64 #[.slice (some ⟨blk, off, none⟩) d.size cap, .func (.func g) #[] cb] w fun e w' =>
      e = .returned (.tuple #[]) ∧ ∃ d' n os, PermIn 0 d.size d d' ∧ SortedIn (ltOf cf) 0 d.size d' ∧ w' = sortWorld enc w blk off n d' os := Any.slices_SortFunc Try.laysSlF6_f64 enc h1 cf hO g cb blk off cap d w eg hcmp hH hblk hsz
end Go.Proofs
end
section
namespace Go.Proofs.Ytbnnipkanechoaa
open Go Go.RowKit Go.Sort
set_option maxRecDepth 100000
set_option maxHeartbeats 4000000
def zmh (x : Fin 128) : Value := .int .i64 ((x.val : Nat) : Int)
def cfS (p r : Fin 128) : Int := if Lib.compareInt (szN r.val) (szN p.val) ≠ 0 then Lib.compareInt (szN r.val) (szN p.val) else Lib.compareInt (p.val : Nat) (r.val : Nat)
theorem zs3 (k : Nat) (W : World) (hk : k < 128) : Calls Try.prog 91 #[.int .u64 (k : Int)] W fun e w' => e = .returned (.int .i64 (szN k)) ∧ w' = W := by
  have h0 : (0 : Int) ≤ (k : Int) := by omega
  have h1 : (k : Int) < 128 := by omega
  go_enter Try.func91, Try.ntmps91
  go_wp2
  all_goals go_ret
  all_goals refine ⟨congrArg Ending.returned (congrArg (Value.int IntKind.i64) ?_), rfl⟩
  clear h0 h1
  revert k
  decide +kernel
theorem zr8 (k : Nat) (W : World) (hk : k < 128) : Calls Try.prog 78 #[.int .u64 (k : Int)] W fun e w' => e = .returned (.int .i64 (szN k)) ∧ w' = W := by
  go_enter Try.func78, Try.ntmps78
  go_wp2_with (go_at_call 91; refine (zs3 k _ hk).mono ?_; rintro e w' ⟨rfl, rfl⟩)
  go_ret
  exact ⟨rfl, rfl⟩
theorem zpq (k : Nat) (W : World) (hk : k < 128) : Calls Try.prog 68 #[.int .i64 (k : Int)] W fun e w' => e = .returned (.int .i64 (szN k)) ∧ w' = W := by
  have hw : IntKind.u64.wrap (k : Int) = (k : Int) := by rw [IntKind.wrap_u64]; omega
  go_enter Try.func68, Try.ntmps68
  go_wp2_with (go_at_call 78; refine (zr8 k _ hk).mono ?_; rintro e w' ⟨rfl, rfl⟩)
  go_ret
  exact ⟨rfl, rfl⟩
theorem or2 (a b : Int) (g : Nat) (W : World) (ha : W.cell? ⟨g, 0, none⟩ = some (.int .i64 a)) (hb : W.cell? ⟨g, 1, none⟩ = some (.int .i64 b)) : Calls Try.prog 66 #[.slice (some ⟨g, 0, none⟩) 2 2] W fun e w' => e = .returned (.int .i64 (if a ≠ 0 then a else b)) ∧ w' = W := by
  go_enter Try.func66, Try.ntmps66
  go_wp2
  go_loop [8] (fun vi => ∃ k : Nat, k ≤ 2 ∧ vi = .int .i64 k ∧ (0 < k → a = 0) ∧ (1 < k → b = 0)) (fun vi => 2 - (intOf vi).toNat)
  case atStart => exact ⟨0, by omega, rfl, by omega, by omega⟩
  case round =>
    obtain ⟨k, hk, rfl, h1, h2⟩ := hrel
    rcases (by omega : k = 0 ∨ k = 1 ∨ k = 2) with rfl | rfl | rfl
    · clear h1 h2
      by_cases h : a = 0
      · subst h
        go_wp2
        go_round
        case rel => exact ⟨1, by omega, by go_num, by simp, by simp⟩
        case measure => simp [intOf]
      · go_wp2
        go_ret
        simp [h]
    · have h1 := h1 (by omega)
      clear h2
      subst h1
      by_cases h : b = 0
      · subst h
        go_wp2
        go_round
        case rel => exact ⟨2, by omega, by go_num, by simp, by simp⟩
        case measure => simp [intOf]
      · go_wp2
        go_ret
        simp
    · have h1 := h1 (by omega)
      have h2 := h2 (by omega)
      subst h1 h2
      go_wp2
      go_ret
      simp
theorem ztC (x y : Fin 128) (W : World) : Calls Try.prog 65 #[zmh x, zmh y] W fun e w' => e = .returned (.int .i64 (cfS x y)) ∧ ∃ q os', w' = grow (W.drewN q) os' := by
  obtain ⟨x, hx⟩ := x
  obtain ⟨y, hy⟩ := y
  unfold cfS zmh
  simp only
  generalize hc1 : Lib.compareInt (szN y) (szN x) = c1
  generalize hc2 : Lib.compareInt (x : Int) (y : Int) = c2
  have H1 := Lib.hid hc1
  have H2 := Lib.hid hc2
  clear hc1 hc2
  go_enter Try.func65, Try.ntmps65
  go_wp2_with (first | (go_at_call 68; first | (refine (zpq y _ hy).mono ?_; rintro e w' ⟨rfl, rfl⟩) | (refine (zpq x _ hx).mono ?_; rintro e w' ⟨rfl, rfl⟩)) | (go_at_call 67; refine (Try.cmp_Compare_int _ _ _).mono ?_; rintro e w' ⟨rfl, rfl⟩; first | rw [H1.out] | rw [H2.out]) | (go_at_call 66; refine (or2 c1 c2 _ _ ?_ ?_).mono ?_))
  · simp
  · simp
  all_goals go_ret
  all_goals exact ⟨rfl, 0, #[_], alloc_eq_grow _ _⟩
theorem znT (a b : Int) : Lib.compareInt a b < 0 ↔ a < b := by unfold Lib.compareInt; split <;> (try split) <;> omega
theorem zpI (a b : Int) : Lib.compareInt a b = 0 ↔ a = b := by unfold Lib.compareInt; split <;> (try split) <;> omega
theorem zpy (p r : Fin 128) : ltOf cfS p r = true ↔ (szN r.val < szN p.val ∨ (szN r.val = szN p.val ∧ p.val < r.val)) := by
  unfold ltOf cfS
  rw [decide_eq_true_iff]
  split
  · rename_i h
    have := (not_congr (zpI (szN r.val) (szN p.val))).1 h
    rw [znT]
    omega
  · rename_i h
    have := (zpI (szN r.val) (szN p.val)).1 (by simpa using h)
    rw [znT]
    omega
theorem zni (p r : Fin 128) : ltOf cfS p r = false ↔ ¬ (szN r.val < szN p.val ∨ (szN r.val = szN p.val ∧ p.val < r.val)) := by
  rw [← zpy]; simp
theorem zuw : SWO (ltOf cfS) where
  irrefl x := by rw [zni]; omega
  trans x y z h1 h2 := by rw [zpy] at *; omega
  ntrans x y z h1 h2 := by rw [zni] at *; omega
theorem zfL (a b : Int) : leI a b = true ↔ (szN b.toNat < szN a.toNat ∨ (szN a.toNat = szN b.toNat ∧ a.toNat ≤ b.toNat)) := by
  unfold leI zpL; simp
theorem zdx (x : Int) : ∀ l : List Int, (zoU x l).Perm (x :: l)
  | [] => .refl _
  | y :: l => by
    unfold zoU
    split
    · exact .refl _
    · exact ((zdx x l).cons y).trans (.swap x y l)
theorem zbs : ∀ l : List Int, (zab l).Perm l
  | [] => .refl _
  | x :: l => (zdx x (zab l)).trans ((zbs l).cons x)
theorem zdw (x : Int) : ∀ l : List Int, l.Pairwise (fun a b => leI a b = true) → (zoU x l).Pairwise (fun a b => leI a b = true)
  | [], _ => by simp [zoU]
  | y :: l, h => by
    unfold zoU
    rw [List.pairwise_cons] at h
    split
    · rename_i hxy
      refine List.pairwise_cons.2 ⟨fun z hz => ?_, List.pairwise_cons.2 h⟩
      rcases List.mem_cons.1 hz with rfl | hz
      · exact hxy
      · have := h.1 z hz
        rw [zfL] at *
        omega
    · rename_i hxy
      refine List.pairwise_cons.2 ⟨fun z hz => ?_, zdw x l h.2⟩
      rcases List.mem_cons.1 ((zdx x l).mem_iff.1 hz) with rfl | hz
      · rw [zfL] at *
        omega
      · exact h.1 z hz
theorem zbQ : ∀ l : List Int, (zab l).Pairwise (fun a b => leI a b = true)
  | [] => by simp [zab]
  | x :: l => zdw x _ (zbQ l)
theorem z9h : ∀ {l1 l2 : List Int}, l1.Perm l2 → (∀ x ∈ l1, 0 ≤ x) → l1.Pairwise (fun a b => leI a b = true) → l2.Pairwise (fun a b => leI a b = true) → l1 = l2
  | [], l2, h, _, _, _ => by rw [List.nil_perm] at h; exact h.symm
  | a :: l1, [], h, _, _, _ => by simp at h
  | a :: l1, b :: l2, h, h0, h1, h2 => by
    have hab : a = b := by
      rcases List.mem_cons.1 (h.mem_iff.1 (List.mem_cons_self ..)) with e | ha
      · exact e
      · rcases List.mem_cons.1 (h.mem_iff.2 (List.mem_cons_self ..)) with e | hb
        · exact e.symm
        · have e1 := (List.pairwise_cons.1 h2).1 a ha
          have e2 := (List.pairwise_cons.1 h1).1 b hb
          have p1 := h0 a (List.mem_cons_self ..)
          have p2 := h0 b (h.mem_iff.2 (List.mem_cons_self ..))
          rw [zfL] at e1 e2
          omega
    subst hab
    rw [z9h (List.perm_cons a |>.1 h) (fun x hx => h0 x (List.mem_cons_of_mem _ hx)) (List.pairwise_cons.1 h1).2 (List.pairwise_cons.1 h2).2]
def toF (x : Int) : Fin 128 := ⟨x.toNat % 128, Nat.mod_lt _ (by decide)⟩
def ofF (f : Fin 128) : Int := (f.val : Int)
theorem zpo {x : Int} (h : 0 ≤ x ∧ x < 128) : ofF (toF x) = x := by simp only [ofF, toF]; omega
def zs4 (B : Nat) (K : Nat → z0h) (b : Nat) : z0h := if B ≤ b then [0] else K b
theorem zix {xs : List Int} (hx : ∀ x ∈ xs, 0 ≤ x ∧ x < 128) {d' : Array (Fin 128)} (hp : PermIn 0 (xs.map toF).toArray.size (xs.map toF).toArray d') (hs : SortedIn (ltOf cfS) 0 (xs.map toF).toArray.size d') : d'.toList.map ofF = zab xs := by
  obtain ⟨h1, _, h3⟩ := hp
  have hsz : d'.size = xs.length := by simpa using h1
  have e1 : (xs.map toF).map ofF = xs := by
    rw [List.map_map]
    conv => rhs; rw [← List.map_id xs]
    exact List.map_congr_left fun x hxm => zpo (hx x hxm)
  have hp2 : d'.toList.Perm (xs.map toF) := by
    have : (d'.extract 0 (xs.map toF).toArray.size).toList = d'.toList := by
      rw [← h1]; simp
    rw [this] at h3
    simp at h3
    rwa [List.take_of_length_le (by simp)] at h3
  have hp3 : (d'.toList.map ofF).Perm xs := by
    have := hp2.map ofF
    rwa [e1] at this
  refine z9h (hp3.trans (zbs xs).symm) (fun x hxm => (hx x (hp3.mem_iff.1 hxm)).1) ?_ (zbQ xs)
  rw [List.pairwise_iff_getElem]
  intro i j hi hj hij
  simp only [List.length_map, Array.length_toList] at hi hj
  have := hs i j (by omega) hij (by simp; omega)
  rw [zni, getElem!_pos d' i hi, getElem!_pos d' j hj] at this
  rw [zfL]
  simp only [List.getElem_map, Array.getElem_toList, ofF, Int.toNat_natCast]
  omega
theorem zjW {w : World} {g n : Nat} {os : Array Obj} {cur : Array Value} {e : TypeId} {fr : Nat × Nat} (d : Array (Fin 128)) (hb : w.heap[g]? = some (.cells cur e fr)) : (sortWorld zmh w g 0 n d os).heap[g]? = some (.cells (putCells zmh 0 d cur) e fr) := by
  unfold sortWorld
  rw [heap_grow_old _ _ (by rw [size_putRow]; exact z2T hb)]
  simp [putRow, mapBlock, Sort.ahead, Array.getElem?_modify, hb, onCells]
theorem zfb {w : World} {g n : Nat} {os : Array Obj} (d : Array (Fin 128)) {b : Nat} (hb : b < w.heap.size) (hne : b ≠ g) : (sortWorld zmh w g 0 n d os).heap[b]? = w.heap[b]? := by
  unfold sortWorld
  rw [heap_grow_old _ _ (by rw [size_putRow]; exact hb)]
  simp [putRow, mapBlock, Sort.ahead, Array.getElem?_modify, Ne.symm hne]
theorem zow {w : World} {g n : Nat} {os : Array Obj} (d : Array (Fin 128)) : w.heap.size ≤ (sortWorld zmh w g 0 n d os).heap.size := by
  unfold sortWorld
  rw [size_grow, size_putRow]
  show w.heap.size ≤ w.heap.size + _
  omega
theorem zcb {I : World → (Nat → z0h) → Prop} : z9S Try.prog I xtC := by
  intro f args r outs h
  unfold xtC at h
  split at h
  case isFalse => cases h
  rename_i hf
  subst hf
  unfold zpM at h
  split at h
  case h_2 => cases h
  rename_i n cs f fs gs
  split at h
  case isFalse => cases h
  rename_i hfg
  obtain ⟨rfl, hfs, hgs⟩ := hfg
  simp only [Array.isEmpty_iff] at hfs hgs
  subst hfs hgs
  split at h
  case h_2 => cases h
  rename_i xs hxs
  split at h
  case isFalse => cases h
  rename_i hn
  subst hn
  unfold zky at h
  split at h
  case isFalse => cases h
  rename_i hc
  obtain ⟨hne, hlen, hall⟩ := hc
  have hx : ∀ x ∈ xs, 0 ≤ x ∧ x < 128 := by simpa using hall
  obtain ⟨rfl, rfl⟩ : T.tup [] = r ∧ [T.os 1 (zab xs).length ((zab xs).map fun x => .sc (.int .i64 x)), .dead] = outs := by simpa using h
  have hcs := zhD hxs
  subst hcs
  clear h hxs hall
  refine ⟨fun vals w => ?_, fun w K vals hs ha hI => ?_⟩
  · have hb : ∃ c, Try.f64.body = some c := ⟨_, rfl⟩
    obtain ⟨c, hb⟩ := hb
    have hname : Try.f64.name ≠ "runtime.NumGoroutine" := by decide
    simp [callFunc, program, Sem.run, Try.func64, hname, hb]
  · obtain ⟨v, u, rfl⟩ : ∃ v u, vals = #[v, u] := by
      obtain ⟨l⟩ := vals
      match l, hs with
      | [v, u], _ => exact ⟨v, u, rfl⟩
    have hv : TRep w K (col 0) v (.os 1 xs.length (xs.map fun x => .sc (.int .i64 x))) := ha 0 _ rfl
    have hu : TRep w K [] u (.sc (.func (.func 65) #[] #[])) := ha 1 _ rfl
    rw [hu.sc_eq]
    clear hu ha
    have hl0 : 0 < xs.length := List.length_pos_iff.2 hne
    generalize hT : T.os 1 xs.length (xs.map fun x => T.sc (.int .i64 x)) = t at hv
    cases hv with
    | nil => injection hT with _ e _; omega
    | own c g n cap size cs arr e fz F hfz hc0 hK hg hsz hl hz hn hcap hF hh =>
      injection hT with e1 e2 e3
      subst e1 e2 e3
      have hcell : ∀ j (hj : j < xs.length), arr[j]? = some (.int .i64 xs[j]) := fun j hj => by
        rw [hF j (by simpa using hj)]
        have := hh j (.sc (.int .i64 xs[j])) (by simp [hj])
        rw [this.sc_eq]
      have hH : Holds zmh w g 0 (xs.map toF).toArray := fun j hj => by
        have hj' : j < xs.length := by simpa using hj
        constructor
        · rw [Nat.zero_add, z4k hg, hcell j hj', getElem!_pos _ j hj]
          simp only [zmh, List.getElem_toArray, List.getElem_map]
          have := zpo (hx _ (List.getElem_mem hj'))
          unfold ofF at this
          rw [this]
        · unfold World.frozen?
          rw [Nat.zero_add]
          simp only [hg]
          have := hfz j (by omega)
          obtain ⟨lo, hi⟩ := fz
          simp only at this ⊢
          simp only [Bool.and_eq_false_iff, decide_eq_false_iff_not]
          omega
      have eg : ∀ args w, (callFunc 65 args).run Try.prog w = .ok (.enter 65 args) w := enters_of Try.func65 (by kernel_rfl) rfl
      have hcmp : CmpLays1 Try.prog 65 #[] zmh cfS g 0 (xs.map toF).toArray.size w := fun m os dk _ x y => ztC x y _
      have hcon := Try.slices_SortFunc zmh (fun _ => rfl) cfS zuw 65 #[] g 0 cap (xs.map toF).toArray w eg hcmp hH (z2T hg) (by simpa using hlen)
      have hsize : (xs.map toF).toArray.size = xs.length := by simp
      rw [hsize] at hcon
      refine hcon.mono fun e' w' ⟨he, d', m, os, hp, hso, hw⟩ => ?_
      subst hw
      have hsort := zix hx (by rw [hsize]; exact hp) (by rw [hsize]; exact hso)
      have hd : d'.size = xs.length := by have := hp.1; simpa using this
      have hys : (zab xs).length = xs.length := (zbs xs).length_eq
      refine ⟨.tuple #[], zs4 w.heap.size K, he, ?_, fun i t hi hio => ?_, rfl, rfl, rfl, zow d', fun b hb hcb => ⟨by unfold zs4; rw [if_neg (by omega)], zfb d' hb ?_⟩, ?_⟩
      · exact .tup _ #[] [] (fun _ => undef) rfl (fun j hj => by simp at hj) (fun j t ht => by simp at ht)
      · match i, hi with
        | 0, hi =>
          refine ⟨_, rfl, ?_⟩
          show TRep _ _ (col 0) (.slice (some ⟨g, 0, none⟩) xs.length cap) _
          rw [← hys]
          refine .own (col 0) g _ cap 1 _ (putCells zmh 0 d' arr) e fz (fun j => .int .i64 ((zab xs).getD j 0)) (fun i hi => hfz i (by simpa [putCells] using hi)) (by simp [col]) (by unfold zs4; rw [if_neg (by have := z2T hg; omega)]; exact hK) (zjW d' hg) (by simpa [putCells] using hsz) (by simp) (by omega) (by omega) hcap (fun j hj => ?_) (fun j t ht => ?_)
          · have hj' : j < xs.length := by simpa [hys] using hj
            have hja : j < arr.size := (Array.getElem?_eq_some_iff.1 (hcell j hj')).1
            have hjd : j < d'.size := by omega
            simp only [putCells, Array.getElem?_mapIdx, hcell j hj', Option.map_some]
            rw [if_pos (by omega), Nat.sub_zero, getElem!_pos d' j hjd]
            have : (zab xs).getD j 0 = ofF d'[j] := by
              rw [← hsort]; simp [List.getD, hjd]
            rw [this]; rfl
          · simp only [List.getElem?_map, Option.map_eq_some_iff] at ht
            obtain ⟨x, hx', rfl⟩ := ht
            simp only [List.getD, hx']
            exact .sc _ _ rfl
        | 1, hi => cases hi; cases hio
      · rintro rfl
        rw [hK] at hcb
        simp [col] at hcb
      · intro b arr0 e0 fz0 hb0
        by_cases hbg : b = g
        · subst hbg
          rw [hg] at hb0
          cases hb0
          exact ⟨_, _, _, zjW d' hg, by simp [putCells]⟩
        · exact ⟨_, _, _, (zfb d' (z2T hb0) hbg).trans hb0, rfl⟩
    | _ => cases hT
end Go.Proofs.Ytbnnipkanechoaa
end
section
namespace Go.Proofs.Ytbnnipkanechoaa
structure StOk (ops : Array Oper) (t : SchT) (L : Array Bool) (d : Nat) (ns : List Nat) : Prop where
  ord : z3P .any ops true t L = true
  dep : t.depth = d
  nx : ∀ z ∈ t.nexts, z ∈ ns
structure BrOk (ops : Array Oper) (t : SchT) (L : Array Bool) (d : Nat) (ns hs : List Nat) : Prop where
  ord : z3P .any ops false t L = true
  dep : t.depth = d
  nx : ∀ z ∈ t.nexts, z ∈ ns
  hd : ∀ i ∈ hs, i ∈ t.heads
theorem zjv {ops : Array Oper} {L : Array Bool} (h : decide (Region.ready .any ops L = []) = true) : StOk ops .nil L 0 [] := ⟨by simp only [z3P, h, Bool.and_true], rfl, fun z hz => by simp [SchT.nexts] at hz⟩
theorem z5o {ops : Array Oper} {k m : Nat} {rest : SchT} {L L' : Array Bool} {d : Nat} {ns : List Nat} (h : StOk ops rest L' d ns) (hL : L.setIfInBounds k true = L')
    (hc : ((m == 0 || m == 3) && (Region.ready .any ops L).contains k && Region.free .any ops L k && !(ns.contains k) && (m == 3 || ns.all fun z => (zqN .any ops ops.size [z]).contains k)) = true) : StOk ops (.op k m rest) L (d + 1) ns := by
  simp only [Bool.and_eq_true, Bool.or_eq_true, Bool.not_eq_true', beq_iff_eq] at hc
  obtain ⟨⟨⟨⟨h1, h2⟩, h3⟩, h4⟩, h5⟩ := hc
  have hm2 : ¬ m = 2 := by omega
  have hk : k ∉ ns := by simpa using h4
  refine ⟨?_, by simp only [SchT.depth, h.dep], fun z hz => h.nx z (by simpa only [SchT.nexts, if_neg hm2] using hz)⟩
  simp only [z3P]
  rw [if_pos (by simpa using h1), hL, h.ord, h2, h3]
  have h6 : rest.nexts.contains k = false := by
    rw [Bool.eq_false_iff]
    intro hh
    exact hk (h.nx k (by simpa using hh))
  rw [h6]
  simp only [Bool.not_false, Bool.and_self, Bool.true_and, Bool.and_true, Bool.or_eq_true, beq_iff_eq]
  rcases h5 with h5 | h5
  · exact .inl h5
  · exact .inr (List.all_eq_true.2 fun z hz => List.all_eq_true.1 h5 z (h.nx z hz))
theorem z9T {ops : Array Oper} {k m : Nat} {rest : SchT} {L L' : Array Bool} {d : Nat} {ns ns' : List Nat} (h : StOk ops rest L' d ns) (hL : L.setIfInBounds k true = L')
    (hc : ((m == 1 || m == 2) && decide (Region.ready .any ops L = [k])) = true) (hn : (if m = 2 then [k] else ns) = ns') : StOk ops (.op k m rest) L (d + 1) ns' := by
  subst hn
  simp only [Bool.and_eq_true, Bool.or_eq_true, beq_iff_eq] at hc
  obtain ⟨h1, h2⟩ := hc
  refine ⟨?_, by simp only [SchT.depth, h.dep], fun z hz => ?_⟩
  · simp only [z3P]
    rw [if_neg (by omega), hL, h.ord, h2]
    simp [h1]
  · simp only [SchT.nexts] at hz
    split at hz
    · rename_i e; rw [if_pos e]; exact hz
    · rename_i e; rw [if_neg e]; exact h.nx z hz
theorem z1l {ops : Array Oper} {k m : Nat} {rest : SchT} {L L' : Array Bool} {d : Nat} {ns ns' : List Nat} (h : StOk ops rest L' d ns) (hL : L.setIfInBounds k true = L')
    (hc : ((m == 1 || m == 2) && (Region.ready .any ops L).contains k) = true) (hn : (if m = 2 then [k] else ns) = ns') : BrOk ops (.op k m rest) L (d + 1) ns' [k] := by
  subst hn
  simp only [Bool.and_eq_true, Bool.or_eq_true, beq_iff_eq] at hc
  obtain ⟨h1, h2⟩ := hc
  refine ⟨?_, by simp only [SchT.depth, h.dep], fun z hz => ?_, fun i hi => by simpa [SchT.heads] using hi⟩
  · simp only [z3P]
    rw [if_neg (by simp), hL, h.ord, h2]
    simp [h1]
  · simp only [SchT.nexts] at hz
    split at hz
    · rename_i e; rw [if_pos e]; exact hz
    · rename_i e; rw [if_neg e]; exact h.nx z hz
theorem z0o {ops : Array Oper} {a b : SchT} {L : Array Bool} {d : Nat} {n1 n2 h1 h2 : List Nat} (ha : BrOk ops a L d n1 h1) (hb : BrOk ops b L d n2 h2) : BrOk ops (.alt a b) L d (n1 ++ n2) (h1 ++ h2) := by
  refine ⟨?_, by simp only [SchT.depth, ha.dep], fun z hz => ?_, fun i hi => ?_⟩
  · simp only [z3P, ha.ord, hb.ord, ha.dep, hb.dep]; simp
  · simp only [SchT.nexts, List.mem_append] at hz ⊢
    exact hz.imp (ha.nx z) (hb.nx z)
  · simp only [SchT.heads, List.mem_append] at hi ⊢
    exact hi.imp (ha.hd i) (hb.hd i)
theorem z0V {ops : Array Oper} {a b : SchT} {L : Array Bool} {d : Nat} {ns ns' hs : List Nat} (h : BrOk ops (.alt a b) L d ns hs) (hc : ((Region.ready .any ops L).all fun i => hs.contains i) = true) (hn : (ns.all fun z => ns'.contains z) = true) : StOk ops (.alt a b) L d ns' := by
  refine ⟨?_, h.dep, fun z hz => by simpa using List.all_eq_true.1 hn z (h.nx z hz)⟩
  have := h.ord
  simp only [z3P, Bool.and_eq_true, decide_eq_true_eq] at this ⊢
  obtain ⟨⟨⟨h1, h2⟩, h3⟩, h4⟩ := this
  refine ⟨⟨⟨?_, h2⟩, h3⟩, h4⟩
  simp only [Bool.not_true, Bool.false_or, decide_eq_true_eq]
  intro i hi
  have := List.all_eq_true.1 hc i hi
  exact h.hd i (by simpa using this)
def ziI (cf : Cfg) (sk : Nat → Bool) : Code → Bool
  | .region id ops draw => sk id || (!draw || (match cf.dt id with | some t => z9H ops t | none => (match cf.dr id with | some sch => znc ops sch | none => true)))
  | .seq a b => ziI cf sk a && ziI cf sk b
  | .cond _ x y => ziI cf sk x && ziI cf sk y
  | .block _ c => ziI cf sk c
  | .loop c => ziI cf sk c
  | .scope c => ziI cf sk c
  | _ => true
def z4J (i : Nat) : Code → List (Array Oper)
  | .region id ops _ => if Nat.beq id i then [ops] else []
  | .seq a b => z4J i a ++ z4J i b
  | .cond _ x y => z4J i x ++ z4J i y
  | .block _ c => z4J i c
  | .loop c => z4J i c
  | .scope c => z4J i c
  | _ => []
noncomputable def z0u (i : Nat) (c : Code) : Array Oper := match z4J i c with | x :: _ => x | [] => #[]
theorem zbT {cf : Cfg} {sk : Nat → Bool} : ∀ (c : Code), ziI cf sk c = true → (∀ i, sk i = true → ∃ t, cf.dt i = some t ∧ ∀ o ∈ z4J i c, z9H o t = true) → okC cf c = true
  | .region id ops draw, h, hs => by
    simp only [ziI, Bool.or_eq_true] at h
    simp only [okC, Bool.or_eq_true]
    rcases h with h | h
    · right
      obtain ⟨t, h1, h2⟩ := hs id h
      rw [h1]
      exact h2 ops (by simp [z4J])
    · exact h
  | .seq a b, h, hs => by
    simp only [ziI, Bool.and_eq_true] at h
    simp only [okC, Bool.and_eq_true]
    exact ⟨zbT a h.1 fun i hi => by obtain ⟨t, h1, h2⟩ := hs i hi; exact ⟨t, h1, fun o ho => h2 o (by simp only [z4J, List.mem_append]; exact .inl ho)⟩,
      zbT b h.2 fun i hi => by obtain ⟨t, h1, h2⟩ := hs i hi; exact ⟨t, h1, fun o ho => h2 o (by simp only [z4J, List.mem_append]; exact .inr ho)⟩⟩
  | .cond _ a b, h, hs => by
    simp only [ziI, Bool.and_eq_true] at h
    simp only [okC, Bool.and_eq_true]
    exact ⟨zbT a h.1 fun i hi => by obtain ⟨t, h1, h2⟩ := hs i hi; exact ⟨t, h1, fun o ho => h2 o (by simp only [z4J, List.mem_append]; exact .inl ho)⟩,
      zbT b h.2 fun i hi => by obtain ⟨t, h1, h2⟩ := hs i hi; exact ⟨t, h1, fun o ho => h2 o (by simp only [z4J, List.mem_append]; exact .inr ho)⟩⟩
  | .block _ c, h, hs => by simp only [okC]; exact zbT c (by simpa only [ziI] using h) (by simpa only [z4J] using hs)
  | .loop c, h, hs => by simp only [okC]; exact zbT c (by simpa only [ziI] using h) (by simpa only [z4J] using hs)
  | .scope c, h, hs => by simp only [okC]; exact zbT c (by simpa only [ziI] using h) (by simpa only [z4J] using hs)
  | .skip, _, _ => rfl
  | .label .., _, _ => rfl
  | .exit .., _, _ => rfl
  | .ret, _, _ => rfl
  | .rangeFunc .., _, _ => rfl
  | .goto _, _, _ => rfl
  | .refuse _, _, _ => rfl
theorem zfp {c : Code} {i : Nat} {t : SchT} {n : Nat} {ns : List Nat} {L : Array Bool} (hr : (z4J i c).length = 1) (hs : StOk (z0u i c) t L n ns) (hL : L = Array.replicate (z0u i c).toList.length false) (hd : (decide (n = (z0u i c).toList.length) && Region.noSelect (z0u i c)) = true) : ∀ o ∈ z4J i c, z9H o t = true := by
  intro o ho
  obtain ⟨x, hx⟩ : ∃ x, z4J i c = [x] := List.length_eq_one_iff.1 hr
  have e : z0u i c = x := by unfold z0u; rw [hx]
  rw [hx] at ho
  obtain rfl : o = x := by simpa using ho
  rw [e] at hs hL hd
  subst hL
  simp only [Bool.and_eq_true, decide_eq_true_eq] at hd
  unfold z9H
  simp only [Bool.and_eq_true, decide_eq_true_eq]
  exact ⟨⟨hs.dep.trans hd.1, hd.2⟩, hs.ord⟩
theorem ziH {P : Program} {f : FuncId} {cf : Cfg} {fn : Func} {c : Code} (l : List Nat) (hf : P.funcs[f]? = some fn) (hb : fn.body = some c) (hn : (fn.name != "runtime.NumGoroutine") = true) (h2 : ziI cf l.contains c = true)
    (ht : ∀ i ∈ l, ∃ t, cf.dt i = some t ∧ ∀ o ∈ z4J i c, z9H o t = true) : z3y P f cf = true := by
  unfold z3y
  simp only [hf, hb, hn, Bool.true_and]
  exact zbT c h2 fun j hj => ht j (by simpa using hj)
end Go.Proofs.Ytbnnipkanechoaa
end
section
namespace Go.Proofs.Ytbnnipkanechoaa
open Go
set_option maxRecDepth 100000
theorem zvt : z3y Try.prog 3 cf3 = true := by kernel_rfl
theorem zvs : z3y Try.prog 4 cf4 = true := by kernel_rfl
theorem zvr : z3y Try.prog 5 cf5 = true := by kernel_rfl
theorem zvq : z3y Try.prog 6 cf6 = true := by kernel_rfl
theorem zvp : z3y Try.prog 8 cf8 = true := by kernel_rfl
theorem zvo : z3y Try.prog 9 cf9 = true := by kernel_rfl
theorem ztB : z3y Try.prog 10 cf10 = true := by kernel_rfl
theorem ztA : z3y Try.prog 11 cf11 = true := by kernel_rfl
theorem ztz : z3y Try.prog 12 cf12 = true := by kernel_rfl
theorem zty : z3y Try.prog 13 cf13 = true := by kernel_rfl
theorem ziq : StOk (z0u 10 z6V) zeQ #[true, true, true, true, true, true, true, true, true, true, true, true, true, true] 0 [] := zjv (by kernel_rfl)
theorem zcX : StOk (z0u 10 z6V) zbe #[true, true, true, true, true, true, true, true, true, true, true, true, true, false] 1 [13] := z9T ziq rfl (by kernel_rfl) rfl
theorem z7s : StOk (z0u 10 z6V) z6Y #[true, true, true, true, true, true, true, true, true, true, true, false, true, false] 2 [13] := z5o zcX rfl (by kernel_rfl)
theorem zir : StOk (z0u 10 z6V) zeR #[true, true, true, true, true, true, true, true, true, true, true, true, false, false] 2 [13] := z9T zcX rfl (by kernel_rfl) rfl
theorem z7t : StOk (z0u 10 z6V) z6Z #[true, true, true, true, false, true, true, true, true, true, true, false, true, false] 3 [13] := z9T z7s rfl (by kernel_rfl) rfl
theorem z7u : StOk (z0u 10 z6V) z7a #[true, true, true, true, true, true, false, true, true, true, true, false, true, false] 3 [13] := z9T z7s rfl (by kernel_rfl) rfl
theorem z7v : StOk (z0u 10 z6V) z7b #[true, true, true, true, true, true, true, true, false, true, true, false, true, false] 3 [13] := z9T z7s rfl (by kernel_rfl) rfl
theorem z7w : StOk (z0u 10 z6V) z7c #[true, true, true, true, true, true, true, true, true, true, false, false, true, false] 3 [13] := z9T z7s rfl (by kernel_rfl) rfl
theorem z7x : StOk (z0u 10 z6V) z7d #[true, true, true, true, true, true, true, true, true, true, true, false, false, false] 3 [13] := z5o zir rfl (by kernel_rfl)
theorem z9v : StOk (z0u 10 z6V) z8B #[true, true, true, true, false, true, false, true, true, true, true, false, true, false] 4 [13] := z0V (z0o (z1l z7u rfl (by kernel_rfl) rfl) (z1l z7t rfl (by kernel_rfl) rfl)) (by kernel_rfl) rfl
theorem z9w : StOk (z0u 10 z6V) z8C #[true, true, true, true, false, true, true, true, false, true, true, false, true, false] 4 [13] := z0V (z0o (z1l z7v rfl (by kernel_rfl) rfl) (z1l z7t rfl (by kernel_rfl) rfl)) (by kernel_rfl) rfl
theorem z9x : StOk (z0u 10 z6V) z8D #[true, true, true, true, false, true, true, true, true, true, false, false, true, false] 4 [13] := z0V (z0o (z1l z7w rfl (by kernel_rfl) rfl) (z1l z7t rfl (by kernel_rfl) rfl)) (by kernel_rfl) rfl
theorem z9y : StOk (z0u 10 z6V) z8E #[true, true, true, true, false, true, true, true, true, true, true, false, false, false] 4 [13] := z0V (z0o (z1l z7x rfl (by kernel_rfl) rfl) (z1l z7t rfl (by kernel_rfl) rfl)) (by kernel_rfl) rfl
theorem z9z : StOk (z0u 10 z6V) z8F #[true, true, true, true, true, true, false, true, false, true, true, false, true, false] 4 [13] := z0V (z0o (z1l z7v rfl (by kernel_rfl) rfl) (z1l z7u rfl (by kernel_rfl) rfl)) (by kernel_rfl) rfl
theorem z9A : StOk (z0u 10 z6V) z8G #[true, true, true, true, true, true, false, true, true, true, false, false, true, false] 4 [13] := z0V (z0o (z1l z7w rfl (by kernel_rfl) rfl) (z1l z7u rfl (by kernel_rfl) rfl)) (by kernel_rfl) rfl
theorem z9B : StOk (z0u 10 z6V) z8H #[true, true, true, true, true, true, false, true, true, true, true, false, false, false] 4 [13] := z0V (z0o (z1l z7x rfl (by kernel_rfl) rfl) (z1l z7u rfl (by kernel_rfl) rfl)) (by kernel_rfl) rfl
theorem z9C : StOk (z0u 10 z6V) z8I #[true, true, true, true, true, true, true, true, false, true, false, false, true, false] 4 [13] := z0V (z0o (z1l z7w rfl (by kernel_rfl) rfl) (z1l z7v rfl (by kernel_rfl) rfl)) (by kernel_rfl) rfl
theorem z9D : StOk (z0u 10 z6V) z8J #[true, true, true, true, true, true, true, true, false, true, true, false, false, false] 4 [13] := z0V (z0o (z1l z7x rfl (by kernel_rfl) rfl) (z1l z7v rfl (by kernel_rfl) rfl)) (by kernel_rfl) rfl
theorem z9E : StOk (z0u 10 z6V) z8K #[true, true, true, true, true, true, true, true, true, true, false, false, false, false] 4 [13] := z0V (z0o (z1l z7x rfl (by kernel_rfl) rfl) (z1l z7w rfl (by kernel_rfl) rfl)) (by kernel_rfl) rfl
theorem zcY : StOk (z0u 10 z6V) zbf #[true, true, true, true, false, true, false, true, false, true, true, false, true, false] 5 [13] := z0V (z0o (z1l z9z rfl (by kernel_rfl) rfl) (z0o (z1l z9w rfl (by kernel_rfl) rfl) (z1l z9v rfl (by kernel_rfl) rfl))) (by kernel_rfl) rfl
theorem zcZ : StOk (z0u 10 z6V) zbg #[true, true, true, true, false, true, false, true, true, true, false, false, true, false] 5 [13] := z0V (z0o (z1l z9A rfl (by kernel_rfl) rfl) (z0o (z1l z9x rfl (by kernel_rfl) rfl) (z1l z9v rfl (by kernel_rfl) rfl))) (by kernel_rfl) rfl
theorem zd0 : StOk (z0u 10 z6V) zbh #[true, true, true, true, false, true, false, true, true, true, true, false, false, false] 5 [13] := z0V (z0o (z1l z9B rfl (by kernel_rfl) rfl) (z0o (z1l z9y rfl (by kernel_rfl) rfl) (z1l z9v rfl (by kernel_rfl) rfl))) (by kernel_rfl) rfl
theorem zd1 : StOk (z0u 10 z6V) zbi #[true, true, true, true, false, true, true, true, false, true, false, false, true, false] 5 [13] := z0V (z0o (z1l z9C rfl (by kernel_rfl) rfl) (z0o (z1l z9x rfl (by kernel_rfl) rfl) (z1l z9w rfl (by kernel_rfl) rfl))) (by kernel_rfl) rfl
theorem zd2 : StOk (z0u 10 z6V) zbj #[true, true, true, true, false, true, true, true, false, true, true, false, false, false] 5 [13] := z0V (z0o (z1l z9D rfl (by kernel_rfl) rfl) (z0o (z1l z9y rfl (by kernel_rfl) rfl) (z1l z9w rfl (by kernel_rfl) rfl))) (by kernel_rfl) rfl
theorem zd3 : StOk (z0u 10 z6V) zbk #[true, true, true, true, false, true, true, true, true, true, false, false, false, false] 5 [13] := z0V (z0o (z1l z9E rfl (by kernel_rfl) rfl) (z0o (z1l z9y rfl (by kernel_rfl) rfl) (z1l z9x rfl (by kernel_rfl) rfl))) (by kernel_rfl) rfl
theorem zd4 : StOk (z0u 10 z6V) zbl #[true, true, true, true, true, true, false, true, false, true, false, false, true, false] 5 [13] := z0V (z0o (z1l z9C rfl (by kernel_rfl) rfl) (z0o (z1l z9A rfl (by kernel_rfl) rfl) (z1l z9z rfl (by kernel_rfl) rfl))) (by kernel_rfl) rfl
theorem zd5 : StOk (z0u 10 z6V) zbm #[true, true, true, true, true, true, false, true, false, true, true, false, false, false] 5 [13] := z0V (z0o (z1l z9D rfl (by kernel_rfl) rfl) (z0o (z1l z9B rfl (by kernel_rfl) rfl) (z1l z9z rfl (by kernel_rfl) rfl))) (by kernel_rfl) rfl
theorem zd6 : StOk (z0u 10 z6V) zbn #[true, true, true, true, true, true, false, true, true, true, false, false, false, false] 5 [13] := z0V (z0o (z1l z9E rfl (by kernel_rfl) rfl) (z0o (z1l z9B rfl (by kernel_rfl) rfl) (z1l z9A rfl (by kernel_rfl) rfl))) (by kernel_rfl) rfl
theorem zd7 : StOk (z0u 10 z6V) zbo #[true, true, true, true, true, true, true, true, false, true, false, false, false, false] 5 [13] := z0V (z0o (z1l z9E rfl (by kernel_rfl) rfl) (z0o (z1l z9D rfl (by kernel_rfl) rfl) (z1l z9C rfl (by kernel_rfl) rfl))) (by kernel_rfl) rfl
theorem zis : StOk (z0u 10 z6V) zeS #[true, true, true, true, false, true, false, true, false, true, false, false, true, false] 6 [13] := z0V (z0o (z1l zd4 rfl (by kernel_rfl) rfl) (z0o (z1l zd1 rfl (by kernel_rfl) rfl) (z0o (z1l zcZ rfl (by kernel_rfl) rfl) (z1l zcY rfl (by kernel_rfl) rfl)))) (by kernel_rfl) rfl
theorem zit : StOk (z0u 10 z6V) zeT #[true, true, true, true, false, true, false, true, false, true, true, false, false, false] 6 [13] := z0V (z0o (z1l zd5 rfl (by kernel_rfl) rfl) (z0o (z1l zd2 rfl (by kernel_rfl) rfl) (z0o (z1l zd0 rfl (by kernel_rfl) rfl) (z1l zcY rfl (by kernel_rfl) rfl)))) (by kernel_rfl) rfl
theorem ziu : StOk (z0u 10 z6V) zeU #[true, true, true, true, false, true, false, true, true, true, false, false, false, false] 6 [13] := z0V (z0o (z1l zd6 rfl (by kernel_rfl) rfl) (z0o (z1l zd3 rfl (by kernel_rfl) rfl) (z0o (z1l zd0 rfl (by kernel_rfl) rfl) (z1l zcZ rfl (by kernel_rfl) rfl)))) (by kernel_rfl) rfl
theorem zld : StOk (z0u 10 z6V) zgP #[true, true, true, true, false, true, true, true, false, true, false, false, false, false] 6 [13] := z0V (z0o (z1l zd7 rfl (by kernel_rfl) rfl) (z0o (z1l zd3 rfl (by kernel_rfl) rfl) (z0o (z1l zd2 rfl (by kernel_rfl) rfl) (z1l zd1 rfl (by kernel_rfl) rfl)))) (by kernel_rfl) rfl
theorem zle : StOk (z0u 10 z6V) zgQ #[true, true, true, true, true, true, false, true, false, true, false, false, false, false] 6 [13] := z0V (z0o (z1l zd7 rfl (by kernel_rfl) rfl) (z0o (z1l zd6 rfl (by kernel_rfl) rfl) (z0o (z1l zd5 rfl (by kernel_rfl) rfl) (z1l zd4 rfl (by kernel_rfl) rfl)))) (by kernel_rfl) rfl
theorem zlf : StOk (z0u 10 z6V) zgR #[true, true, true, true, false, true, false, true, false, true, false, false, false, false] 7 [13] := z0V (z0o (z1l zle rfl (by kernel_rfl) rfl) (z0o (z1l zld rfl (by kernel_rfl) rfl) (z0o (z1l ziu rfl (by kernel_rfl) rfl) (z0o (z1l zit rfl (by kernel_rfl) rfl) (z1l zis rfl (by kernel_rfl) rfl))))) (by kernel_rfl) rfl
theorem zlg : StOk (z0u 10 z6V) zgS #[true, true, true, true, false, true, false, true, false, false, false, false, false, false] 8 [13] := z5o zlf rfl (by kernel_rfl)
theorem zlh : StOk (z0u 10 z6V) zgT #[true, true, true, true, false, true, false, false, false, false, false, false, false, false] 9 [13] := z5o zlg rfl (by kernel_rfl)
theorem zli : StOk (z0u 10 z6V) zgU #[true, true, true, true, false, false, false, false, false, false, false, false, false, false] 10 [13] := z5o zlh rfl (by kernel_rfl)
theorem zlj : StOk (z0u 10 z6V) zgV #[true, true, true, false, false, false, false, false, false, false, false, false, false, false] 11 [13] := z5o zli rfl (by kernel_rfl)
theorem zlk : StOk (z0u 10 z6V) zgW #[true, true, false, false, false, false, false, false, false, false, false, false, false, false] 12 [13] := z5o zlj rfl (by kernel_rfl)
theorem zll : StOk (z0u 10 z6V) zgX #[true, false, false, false, false, false, false, false, false, false, false, false, false, false] 13 [13] := z5o zlk rfl (by kernel_rfl)
theorem zlm : StOk (z0u 10 z6V) zgY #[false, false, false, false, false, false, false, false, false, false, false, false, false, false] 14 [13] := z5o zll rfl (by kernel_rfl)
theorem ztx : z3y Try.prog 14 cf14 = true := ziH [10] zuq zuu rfl (by kernel_rfl) (by simp only [List.forall_mem_cons]; exact ⟨⟨_, rfl, zfp (by kernel_rfl) zlm (by kernel_rfl) (by kernel_rfl)⟩, fun _ h => by cases h⟩)
theorem zic : StOk (z0u 47 z4m) zeC #[true, true, true, true, true, true, true, true, true, true, true, true, true, true, true, true] 0 [] := zjv (by kernel_rfl)
theorem zid : StOk (z0u 47 z4m) zeD #[true, true, true, true, true, true, true, true, true, true, true, true, true, true, true, false] 1 [15] := z9T zic rfl (by kernel_rfl) rfl
theorem zcE : StOk (z0u 47 z4m) zaV #[true, true, true, true, true, true, true, true, true, true, true, true, true, true, false, false] 2 [15] := z5o zid rfl (by kernel_rfl)
theorem zie : StOk (z0u 47 z4m) zeE #[true, true, true, true, true, true, true, false, true, true, true, true, true, true, false, false] 3 [15] := z9T zcE rfl (by kernel_rfl) rfl
theorem zcF : StOk (z0u 47 z4m) zaW #[true, true, true, true, true, true, true, true, true, true, true, true, true, false, false, false] 3 [13] := z9T zcE rfl (by kernel_rfl) rfl
theorem zif : StOk (z0u 47 z4m) zeF #[true, true, true, true, true, true, true, false, true, true, true, true, true, false, false, false] 4 [13] := z0V (z0o (z1l zcF rfl (by kernel_rfl) rfl) (z1l zie rfl (by kernel_rfl) rfl)) (by kernel_rfl) rfl
theorem zcG : StOk (z0u 47 z4m) zaX #[true, true, true, true, true, true, true, true, true, true, true, true, false, false, false, false] 4 [13] := z5o zcF rfl (by kernel_rfl)
theorem zcH : StOk (z0u 47 z4m) zaY #[true, true, true, true, true, false, true, true, true, true, true, true, false, false, false, false] 5 [13] := z9T zcG rfl (by kernel_rfl) rfl
theorem zcI : StOk (z0u 47 z4m) zaZ #[true, true, true, true, true, true, true, false, true, true, true, true, false, false, false, false] 5 [13] := z5o zif rfl (by kernel_rfl)
theorem z9p : StOk (z0u 47 z4m) z8v #[true, true, true, true, true, true, true, true, true, true, true, false, false, false, false, false] 5 [11] := z9T zcG rfl (by kernel_rfl) rfl
theorem zig : StOk (z0u 47 z4m) zeG #[true, true, true, true, true, false, true, false, true, true, true, true, false, false, false, false] 6 [13] := z0V (z0o (z1l zcI rfl (by kernel_rfl) rfl) (z1l zcH rfl (by kernel_rfl) rfl)) (by kernel_rfl) rfl
theorem zcJ : StOk (z0u 47 z4m) zb0 #[true, true, true, true, true, false, true, true, true, true, true, false, false, false, false, false] 6 [11] := z0V (z0o (z1l z9p rfl (by kernel_rfl) rfl) (z1l zcH rfl (by kernel_rfl) rfl)) (by kernel_rfl) rfl
theorem zcK : StOk (z0u 47 z4m) zb1 #[true, true, true, true, true, true, true, false, true, true, true, false, false, false, false, false] 6 [11] := z0V (z0o (z1l z9p rfl (by kernel_rfl) rfl) (z1l zcI rfl (by kernel_rfl) rfl)) (by kernel_rfl) rfl
theorem zcL : StOk (z0u 47 z4m) zb2 #[true, true, true, true, true, true, true, true, true, true, false, false, false, false, false, false] 6 [11] := z5o z9p rfl (by kernel_rfl)
theorem z9q : StOk (z0u 47 z4m) z8w #[true, true, true, false, true, true, true, true, true, true, false, false, false, false, false, false] 7 [11] := z9T zcL rfl (by kernel_rfl) rfl
theorem zih : StOk (z0u 47 z4m) zeH #[true, true, true, true, true, false, true, false, true, true, true, false, false, false, false, false] 7 [11] := z0V (z0o (z1l zcK rfl (by kernel_rfl) rfl) (z0o (z1l zcJ rfl (by kernel_rfl) rfl) (z1l zig rfl (by kernel_rfl) rfl))) (by kernel_rfl) rfl
theorem zcM : StOk (z0u 47 z4m) zb3 #[true, true, true, true, true, false, true, true, true, true, false, false, false, false, false, false] 7 [11] := z5o zcJ rfl (by kernel_rfl)
theorem zcN : StOk (z0u 47 z4m) zb4 #[true, true, true, true, true, true, true, false, true, true, false, false, false, false, false, false] 7 [11] := z5o zcK rfl (by kernel_rfl)
theorem z7r : StOk (z0u 47 z4m) z6X #[true, true, true, true, true, true, true, true, true, false, false, false, false, false, false, false] 7 [9] := z9T zcL rfl (by kernel_rfl) rfl
theorem zcO : StOk (z0u 47 z4m) zb5 #[true, true, true, false, true, false, true, true, true, true, false, false, false, false, false, false] 8 [11] := z0V (z0o (z1l zcM rfl (by kernel_rfl) rfl) (z1l z9q rfl (by kernel_rfl) rfl)) (by kernel_rfl) rfl
theorem zcP : StOk (z0u 47 z4m) zb6 #[true, true, true, false, true, true, true, false, true, true, false, false, false, false, false, false] 8 [11] := z0V (z0o (z1l zcN rfl (by kernel_rfl) rfl) (z1l z9q rfl (by kernel_rfl) rfl)) (by kernel_rfl) rfl
theorem z9r : StOk (z0u 47 z4m) z8x #[true, true, true, false, true, true, true, true, true, false, false, false, false, false, false, false] 8 [9] := z0V (z0o (z1l z7r rfl (by kernel_rfl) rfl) (z1l z9q rfl (by kernel_rfl) rfl)) (by kernel_rfl) rfl
theorem zcQ : StOk (z0u 47 z4m) zb7 #[true, true, true, true, true, false, true, false, true, true, false, false, false, false, false, false] 8 [11] := z5o zih rfl (by kernel_rfl)
theorem z9s : StOk (z0u 47 z4m) z8y #[true, true, true, true, true, false, true, true, true, false, false, false, false, false, false, false] 8 [9] := z0V (z0o (z1l z7r rfl (by kernel_rfl) rfl) (z1l zcM rfl (by kernel_rfl) rfl)) (by kernel_rfl) rfl
theorem z9t : StOk (z0u 47 z4m) z8z #[true, true, true, true, true, true, true, false, true, false, false, false, false, false, false, false] 8 [9] := z0V (z0o (z1l z7r rfl (by kernel_rfl) rfl) (z1l zcN rfl (by kernel_rfl) rfl)) (by kernel_rfl) rfl
theorem zii : StOk (z0u 47 z4m) zeI #[true, true, true, true, true, true, true, true, false, false, false, false, false, false, false, false] 8 [9] := z5o z7r rfl (by kernel_rfl)
theorem z9u : StOk (z0u 47 z4m) z8A #[true, false, true, true, true, true, true, true, false, false, false, false, false, false, false, false] 9 [9] := z9T zii rfl (by kernel_rfl) rfl
theorem zij : StOk (z0u 47 z4m) zeJ #[true, true, true, false, true, false, true, false, true, true, false, false, false, false, false, false] 9 [11] := z0V (z0o (z1l zcQ rfl (by kernel_rfl) rfl) (z0o (z1l zcP rfl (by kernel_rfl) rfl) (z1l zcO rfl (by kernel_rfl) rfl))) (by kernel_rfl) rfl
theorem zcR : StOk (z0u 47 z4m) zb8 #[true, true, true, false, true, false, true, true, true, false, false, false, false, false, false, false] 9 [9] := z0V (z0o (z1l z9s rfl (by kernel_rfl) rfl) (z0o (z1l z9r rfl (by kernel_rfl) rfl) (z1l zcO rfl (by kernel_rfl) rfl))) (by kernel_rfl) rfl
theorem zcS : StOk (z0u 47 z4m) zb9 #[true, true, true, false, true, true, true, false, true, false, false, false, false, false, false, false] 9 [9] := z0V (z0o (z1l z9t rfl (by kernel_rfl) rfl) (z0o (z1l z9r rfl (by kernel_rfl) rfl) (z1l zcP rfl (by kernel_rfl) rfl))) (by kernel_rfl) rfl
theorem zik : StOk (z0u 47 z4m) zeK #[true, true, true, false, true, true, true, true, false, false, false, false, false, false, false, false] 9 [9] := z5o z9r rfl (by kernel_rfl)
theorem zcT : StOk (z0u 47 z4m) zba #[true, true, true, true, true, false, true, false, true, false, false, false, false, false, false, false] 9 [9] := z0V (z0o (z1l z9t rfl (by kernel_rfl) rfl) (z0o (z1l z9s rfl (by kernel_rfl) rfl) (z1l zcQ rfl (by kernel_rfl) rfl))) (by kernel_rfl) rfl
theorem zil : StOk (z0u 47 z4m) zeL #[true, true, true, true, true, false, true, true, false, false, false, false, false, false, false, false] 9 [9] := z5o z9s rfl (by kernel_rfl)
theorem zim : StOk (z0u 47 z4m) zeM #[true, true, true, true, true, true, true, false, false, false, false, false, false, false, false, false] 9 [9] := z5o z9t rfl (by kernel_rfl)
theorem zcU : StOk (z0u 47 z4m) zbb #[true, false, true, false, true, true, true, true, false, false, false, false, false, false, false, false] 10 [9] := z0V (z0o (z1l zik rfl (by kernel_rfl) rfl) (z1l z9u rfl (by kernel_rfl) rfl)) (by kernel_rfl) rfl
theorem zcV : StOk (z0u 47 z4m) zbc #[true, false, true, true, true, false, true, true, false, false, false, false, false, false, false, false] 10 [9] := z0V (z0o (z1l zil rfl (by kernel_rfl) rfl) (z1l z9u rfl (by kernel_rfl) rfl)) (by kernel_rfl) rfl
theorem zcW : StOk (z0u 47 z4m) zbd #[true, false, true, true, true, true, true, false, false, false, false, false, false, false, false, false] 10 [9] := z0V (z0o (z1l zim rfl (by kernel_rfl) rfl) (z1l z9u rfl (by kernel_rfl) rfl)) (by kernel_rfl) rfl
theorem zin : StOk (z0u 47 z4m) zeN #[true, true, true, false, true, false, true, false, true, false, false, false, false, false, false, false] 10 [9] := z0V (z0o (z1l zcT rfl (by kernel_rfl) rfl) (z0o (z1l zcS rfl (by kernel_rfl) rfl) (z0o (z1l zcR rfl (by kernel_rfl) rfl) (z1l zij rfl (by kernel_rfl) rfl)))) (by kernel_rfl) rfl
theorem zio : StOk (z0u 47 z4m) zeO #[true, true, true, false, true, false, true, true, false, false, false, false, false, false, false, false] 10 [9] := z5o zcR rfl (by kernel_rfl)
theorem zip : StOk (z0u 47 z4m) zeP #[true, true, true, false, true, true, true, false, false, false, false, false, false, false, false, false] 10 [9] := z5o zcS rfl (by kernel_rfl)
theorem zl3 : StOk (z0u 47 z4m) zgF #[true, true, true, true, true, false, true, false, false, false, false, false, false, false, false, false] 10 [9] := z5o zcT rfl (by kernel_rfl)
theorem zl4 : StOk (z0u 47 z4m) zgG #[true, false, true, false, true, false, true, true, false, false, false, false, false, false, false, false] 11 [9] := z0V (z0o (z1l zio rfl (by kernel_rfl) rfl) (z0o (z1l zcV rfl (by kernel_rfl) rfl) (z1l zcU rfl (by kernel_rfl) rfl))) (by kernel_rfl) rfl
theorem zl5 : StOk (z0u 47 z4m) zgH #[true, false, true, false, true, true, true, false, false, false, false, false, false, false, false, false] 11 [9] := z0V (z0o (z1l zip rfl (by kernel_rfl) rfl) (z0o (z1l zcW rfl (by kernel_rfl) rfl) (z1l zcU rfl (by kernel_rfl) rfl))) (by kernel_rfl) rfl
theorem zl6 : StOk (z0u 47 z4m) zgI #[true, false, true, true, true, false, true, false, false, false, false, false, false, false, false, false] 11 [9] := z0V (z0o (z1l zl3 rfl (by kernel_rfl) rfl) (z0o (z1l zcW rfl (by kernel_rfl) rfl) (z1l zcV rfl (by kernel_rfl) rfl))) (by kernel_rfl) rfl
theorem zl7 : StOk (z0u 47 z4m) zgJ #[true, true, true, false, true, false, true, false, false, false, false, false, false, false, false, false] 11 [9] := z5o zin rfl (by kernel_rfl)
theorem zl8 : StOk (z0u 47 z4m) zgK #[true, false, true, false, true, false, true, false, false, false, false, false, false, false, false, false] 12 [9] := z0V (z0o (z1l zl7 rfl (by kernel_rfl) rfl) (z0o (z1l zl6 rfl (by kernel_rfl) rfl) (z0o (z1l zl5 rfl (by kernel_rfl) rfl) (z1l zl4 rfl (by kernel_rfl) rfl)))) (by kernel_rfl) rfl
theorem zl9 : StOk (z0u 47 z4m) zgL #[true, false, true, false, true, false, false, false, false, false, false, false, false, false, false, false] 13 [9] := z5o zl8 rfl (by kernel_rfl)
theorem zla : StOk (z0u 47 z4m) zgM #[true, false, true, false, false, false, false, false, false, false, false, false, false, false, false, false] 14 [9] := z5o zl9 rfl (by kernel_rfl)
theorem zlb : StOk (z0u 47 z4m) zgN #[true, false, false, false, false, false, false, false, false, false, false, false, false, false, false, false] 15 [9] := z5o zla rfl (by kernel_rfl)
theorem zlc : StOk (z0u 47 z4m) zgO #[false, false, false, false, false, false, false, false, false, false, false, false, false, false, false, false] 16 [9] := z5o zlb rfl (by kernel_rfl)
theorem zi5 : StOk (z0u 77 z4m) zev #[true, true, true, true, true, true, true, true, true, true, true, true, true] 0 [] := zjv (by kernel_rfl)
theorem zi6 : StOk (z0u 77 z4m) zew #[true, true, true, true, true, true, true, true, true, true, true, true, false] 1 [12] := z9T zi5 rfl (by kernel_rfl) rfl
theorem zcy : StOk (z0u 77 z4m) zaP #[true, true, true, true, true, true, true, true, true, true, true, false, false] 2 [12] := z5o zi6 rfl (by kernel_rfl)
theorem zi7 : StOk (z0u 77 z4m) zex #[true, false, true, true, true, true, true, true, true, true, true, false, false] 3 [1] := z9T zcy rfl (by kernel_rfl) rfl
theorem z9n : StOk (z0u 77 z4m) z8t #[true, true, true, true, true, true, true, true, true, true, false, false, false] 3 [10] := z9T zcy rfl (by kernel_rfl) rfl
theorem zcz : StOk (z0u 77 z4m) zaQ #[true, false, true, true, true, true, true, true, true, true, false, false, false] 4 [1, 10] := z0V (z0o (z1l z9n rfl (by kernel_rfl) rfl) (z1l zi7 rfl (by kernel_rfl) rfl)) (by kernel_rfl) rfl
theorem z9o : StOk (z0u 77 z4m) z8u #[true, true, true, true, true, true, true, false, true, true, false, false, false] 4 [7] := z9T z9n rfl (by kernel_rfl) rfl
theorem zcA : StOk (z0u 77 z4m) zaR #[true, true, true, true, true, true, true, true, true, false, false, false, false] 4 [10] := z9T z9n rfl (by kernel_rfl) rfl
theorem zcB : StOk (z0u 77 z4m) zaS #[true, false, true, true, true, true, true, false, true, true, false, false, false] 5 [1, 7] := z0V (z0o (z1l z9o rfl (by kernel_rfl) rfl) (z1l zcz rfl (by kernel_rfl) rfl)) (by kernel_rfl) rfl
theorem zi8 : StOk (z0u 77 z4m) zey #[true, false, true, true, true, true, true, true, true, false, false, false, false] 5 [1, 10] := z0V (z0o (z1l zcA rfl (by kernel_rfl) rfl) (z1l zcz rfl (by kernel_rfl) rfl)) (by kernel_rfl) rfl
theorem zi9 : StOk (z0u 77 z4m) zez #[true, true, true, true, true, true, false, false, true, true, false, false, false] 5 [7] := z5o z9o rfl (by kernel_rfl)
theorem zcC : StOk (z0u 77 z4m) zaT #[true, true, true, true, true, true, true, false, true, false, false, false, false] 5 [7] := z0V (z0o (z1l zcA rfl (by kernel_rfl) rfl) (z1l z9o rfl (by kernel_rfl) rfl)) (by kernel_rfl) rfl
theorem zia : StOk (z0u 77 z4m) zeA #[true, false, true, true, true, true, false, false, true, true, false, false, false] 6 [1, 7] := z5o zcB rfl (by kernel_rfl)
theorem zib : StOk (z0u 77 z4m) zeB #[true, false, true, true, true, true, true, false, true, false, false, false, false] 6 [1, 7] := z0V (z0o (z1l zcC rfl (by kernel_rfl) rfl) (z0o (z1l zi8 rfl (by kernel_rfl) rfl) (z1l zcB rfl (by kernel_rfl) rfl))) (by kernel_rfl) rfl
theorem zcD : StOk (z0u 77 z4m) zaU #[true, true, true, true, false, true, false, false, true, true, false, false, false] 6 [4] := z9T zi9 rfl (by kernel_rfl) rfl
theorem zkT : StOk (z0u 77 z4m) zgv #[true, true, true, true, true, true, false, false, true, false, false, false, false] 6 [7] := z5o zcC rfl (by kernel_rfl)
theorem zkU : StOk (z0u 77 z4m) zgw #[true, false, true, true, false, true, false, false, true, true, false, false, false] 7 [1, 4] := z0V (z0o (z1l zcD rfl (by kernel_rfl) rfl) (z1l zia rfl (by kernel_rfl) rfl)) (by kernel_rfl) rfl
theorem zkV : StOk (z0u 77 z4m) zgx #[true, false, true, true, true, true, false, false, true, false, false, false, false] 7 [1, 7] := z5o zib rfl (by kernel_rfl)
theorem zkW : StOk (z0u 77 z4m) zgy #[true, true, true, true, false, true, false, false, true, false, false, false, false] 7 [4] := z0V (z0o (z1l zkT rfl (by kernel_rfl) rfl) (z1l zcD rfl (by kernel_rfl) rfl)) (by kernel_rfl) rfl
theorem zkX : StOk (z0u 77 z4m) zgz #[true, false, true, true, false, true, false, false, true, false, false, false, false] 8 [1, 4] := z0V (z0o (z1l zkW rfl (by kernel_rfl) rfl) (z0o (z1l zkV rfl (by kernel_rfl) rfl) (z1l zkU rfl (by kernel_rfl) rfl))) (by kernel_rfl) rfl
theorem zkY : StOk (z0u 77 z4m) zgA #[true, false, true, true, false, true, false, false, false, false, false, false, false] 9 [1, 4] := z5o zkX rfl (by kernel_rfl)
theorem zkZ : StOk (z0u 77 z4m) zgB #[true, false, true, true, false, false, false, false, false, false, false, false, false] 10 [1, 4] := z5o zkY rfl (by kernel_rfl)
theorem zl0 : StOk (z0u 77 z4m) zgC #[true, false, true, false, false, false, false, false, false, false, false, false, false] 11 [1, 4] := z5o zkZ rfl (by kernel_rfl)
theorem zl1 : StOk (z0u 77 z4m) zgD #[true, false, false, false, false, false, false, false, false, false, false, false, false] 12 [1, 4] := z5o zl0 rfl (by kernel_rfl)
theorem zl2 : StOk (z0u 77 z4m) zgE #[false, false, false, false, false, false, false, false, false, false, false, false, false] 13 [1, 4] := z5o zl1 rfl (by kernel_rfl)
theorem ztw : z3y Try.prog 15 cf15 = true := ziH [47, 77] zvk zwJ rfl (by kernel_rfl) (by simp only [List.forall_mem_cons]; exact ⟨⟨_, rfl, zfp (by kernel_rfl) zlc (by kernel_rfl) (by kernel_rfl)⟩, ⟨_, rfl, zfp (by kernel_rfl) zl2 (by kernel_rfl) (by kernel_rfl)⟩, fun _ h => by cases h⟩)
theorem ztv : z3y Try.prog 16 cf16 = true := by kernel_rfl
theorem ztu : z3y Try.prog 17 cf17 = true := by kernel_rfl
theorem ztt : z3y Try.prog 18 cf18 = true := by kernel_rfl
theorem zts : z3y Try.prog 19 cf19 = true := by kernel_rfl
theorem ztr : z3y Try.prog 20 cf20 = true := by kernel_rfl
theorem ztq : z3y Try.prog 21 cf21 = true := by kernel_rfl
theorem ztp : z3y Try.prog 22 cf22 = true := by kernel_rfl
theorem zto : z3y Try.prog 23 cf23 = true := by kernel_rfl
theorem ztn : z3y Try.prog 24 cf24 = true := by kernel_rfl
theorem ztm : z3y Try.prog 25 cf25 = true := by kernel_rfl
theorem ztl : z3y Try.prog 26 cf26 = true := by kernel_rfl
theorem ztk : z3y Try.prog 27 cf27 = true := by kernel_rfl
theorem ztj : z3y Try.prog 28 cf28 = true := by kernel_rfl
theorem zti : z3y Try.prog 29 cf29 = true := by kernel_rfl
theorem zth : z3y Try.prog 30 cf30 = true := by kernel_rfl
theorem ztg : z3y Try.prog 31 cf31 = true := by kernel_rfl
theorem zkA : StOk (z0u 7 z4G) zgc #[true, true, true, true, true, true, true, true, true, true, true, true, true, true, true, true, true] 0 [] := zjv (by kernel_rfl)
theorem zkB : StOk (z0u 7 z4G) zgd #[true, true, true, true, true, true, true, true, true, true, true, true, true, true, true, true, false] 1 [16] := z9T zkA rfl (by kernel_rfl) rfl
theorem zkC : StOk (z0u 7 z4G) zge #[true, true, true, true, true, true, true, true, true, true, true, true, true, true, true, false, false] 2 [16] := z5o zkB rfl (by kernel_rfl)
theorem zkD : StOk (z0u 7 z4G) zgf #[true, true, true, true, true, true, true, true, true, true, true, true, true, true, false, false, false] 3 [14] := z9T zkC rfl (by kernel_rfl) rfl
theorem zeb : StOk (z0u 7 z4G) zce #[true, true, true, true, true, true, true, true, true, true, true, true, false, true, false, false, false] 4 [12] := z9T zkD rfl (by kernel_rfl) rfl
theorem zec : StOk (z0u 7 z4G) zcf #[true, true, true, true, true, true, true, true, true, true, true, false, false, true, false, false, false] 5 [12] := z9T zeb rfl (by kernel_rfl) rfl
theorem zed : StOk (z0u 7 z4G) zcg #[true, true, true, true, true, true, true, true, true, true, true, true, false, false, false, false, false] 5 [12] := z5o zeb rfl (by kernel_rfl)
theorem z8p : StOk (z0u 7 z4G) z7R #[true, true, true, true, true, true, false, true, true, true, true, true, false, false, false, false, false] 6 [6] := z9T zed rfl (by kernel_rfl) rfl
theorem zee : StOk (z0u 7 z4G) zch #[true, true, true, true, true, true, true, true, false, true, true, true, false, false, false, false, false] 6 [8] := z9T zed rfl (by kernel_rfl) rfl
theorem zkE : StOk (z0u 7 z4G) zgg #[true, true, true, true, true, true, true, true, true, true, false, false, false, true, false, false, false] 6 [12] := z9T zec rfl (by kernel_rfl) rfl
theorem zef : StOk (z0u 7 z4G) zci #[true, true, true, true, true, true, true, true, true, true, true, false, false, false, false, false, false] 6 [12] := z5o zec rfl (by kernel_rfl)
theorem zaD : StOk (z0u 7 z4G) z9W #[true, false, true, true, true, true, false, true, true, true, true, true, false, false, false, false, false] 7 [1] := z9T z8p rfl (by kernel_rfl) rfl
theorem z8q : StOk (z0u 7 z4G) z7S #[true, true, true, true, true, false, false, true, true, true, true, true, false, false, false, false, false] 7 [6] := z9T z8p rfl (by kernel_rfl) rfl
theorem zaE : StOk (z0u 7 z4G) z9X #[true, true, true, true, true, true, false, true, false, true, true, true, false, false, false, false, false] 7 [6, 8] := z0V (z0o (z1l zee rfl (by kernel_rfl) rfl) (z1l z8p rfl (by kernel_rfl) rfl)) (by kernel_rfl) rfl
theorem z8r : StOk (z0u 7 z4G) z7T #[true, true, true, true, true, true, false, true, true, true, true, false, false, false, false, false, false] 7 [6] := z0V (z0o (z1l zef rfl (by kernel_rfl) rfl) (z1l z8p rfl (by kernel_rfl) rfl)) (by kernel_rfl) rfl
theorem zeg : StOk (z0u 7 z4G) zcj #[true, true, true, true, true, true, true, true, false, true, true, false, false, false, false, false, false] 7 [8] := z0V (z0o (z1l zef rfl (by kernel_rfl) rfl) (z1l zee rfl (by kernel_rfl) rfl)) (by kernel_rfl) rfl
theorem zeh : StOk (z0u 7 z4G) zck #[true, true, true, true, true, true, true, true, true, true, false, false, false, false, false, false, false] 7 [12] := z5o zkE rfl (by kernel_rfl)
theorem zaF : StOk (z0u 7 z4G) z9Y #[true, false, true, true, true, false, false, true, true, true, true, true, false, false, false, false, false] 8 [1] := z0V (z0o (z1l z8q rfl (by kernel_rfl) rfl) (z1l zaD rfl (by kernel_rfl) rfl)) (by kernel_rfl) rfl
theorem zei : StOk (z0u 7 z4G) zcl #[true, false, true, true, true, true, false, true, false, true, true, true, false, false, false, false, false] 8 [1, 8] := z0V (z0o (z1l zaE rfl (by kernel_rfl) rfl) (z1l zaD rfl (by kernel_rfl) rfl)) (by kernel_rfl) rfl
theorem zaG : StOk (z0u 7 z4G) z9Z #[true, false, true, true, true, true, false, true, true, true, true, false, false, false, false, false, false] 8 [1] := z0V (z0o (z1l z8r rfl (by kernel_rfl) rfl) (z1l zaD rfl (by kernel_rfl) rfl)) (by kernel_rfl) rfl
theorem zkF : StOk (z0u 7 z4G) zgh #[true, true, true, true, false, false, false, true, true, true, true, true, false, false, false, false, false] 8 [6] := z5o z8q rfl (by kernel_rfl)
theorem zaH : StOk (z0u 7 z4G) za0 #[true, true, true, true, true, false, false, true, false, true, true, true, false, false, false, false, false] 8 [6, 8] := z0V (z0o (z1l zaE rfl (by kernel_rfl) rfl) (z1l z8q rfl (by kernel_rfl) rfl)) (by kernel_rfl) rfl
theorem z8s : StOk (z0u 7 z4G) z7U #[true, true, true, true, true, false, false, true, true, true, true, false, false, false, false, false, false] 8 [6] := z0V (z0o (z1l z8r rfl (by kernel_rfl) rfl) (z1l z8q rfl (by kernel_rfl) rfl)) (by kernel_rfl) rfl
theorem zaI : StOk (z0u 7 z4G) za1 #[true, true, true, true, true, true, false, true, false, true, true, false, false, false, false, false, false] 8 [6, 8] := z0V (z0o (z1l zeg rfl (by kernel_rfl) rfl) (z0o (z1l z8r rfl (by kernel_rfl) rfl) (z1l zaE rfl (by kernel_rfl) rfl))) (by kernel_rfl) rfl
theorem zaJ : StOk (z0u 7 z4G) za2 #[true, true, true, true, true, true, false, true, true, true, false, false, false, false, false, false, false] 8 [6] := z0V (z0o (z1l zeh rfl (by kernel_rfl) rfl) (z1l z8r rfl (by kernel_rfl) rfl)) (by kernel_rfl) rfl
theorem zkG : StOk (z0u 7 z4G) zgi #[true, true, true, true, true, true, true, true, false, true, false, false, false, false, false, false, false] 8 [8] := z0V (z0o (z1l zeh rfl (by kernel_rfl) rfl) (z1l zeg rfl (by kernel_rfl) rfl)) (by kernel_rfl) rfl
theorem zkH : StOk (z0u 7 z4G) zgj #[true, false, true, true, false, false, false, true, true, true, true, true, false, false, false, false, false] 9 [1] := z5o zaF rfl (by kernel_rfl)
theorem zej : StOk (z0u 7 z4G) zcm #[true, false, true, true, true, false, false, true, false, true, true, true, false, false, false, false, false] 9 [1, 8] := z0V (z0o (z1l zaH rfl (by kernel_rfl) rfl) (z0o (z1l zei rfl (by kernel_rfl) rfl) (z1l zaF rfl (by kernel_rfl) rfl))) (by kernel_rfl) rfl
theorem zaK : StOk (z0u 7 z4G) za3 #[true, false, true, true, true, false, false, true, true, true, true, false, false, false, false, false, false] 9 [1] := z0V (z0o (z1l z8s rfl (by kernel_rfl) rfl) (z0o (z1l zaG rfl (by kernel_rfl) rfl) (z1l zaF rfl (by kernel_rfl) rfl))) (by kernel_rfl) rfl
theorem zek : StOk (z0u 7 z4G) zcn #[true, false, true, true, true, true, false, true, false, true, true, false, false, false, false, false, false] 9 [1, 8] := z0V (z0o (z1l zaI rfl (by kernel_rfl) rfl) (z0o (z1l zaG rfl (by kernel_rfl) rfl) (z1l zei rfl (by kernel_rfl) rfl))) (by kernel_rfl) rfl
theorem zel : StOk (z0u 7 z4G) zco #[true, false, true, true, true, true, false, true, true, true, false, false, false, false, false, false, false] 9 [1] := z0V (z0o (z1l zaJ rfl (by kernel_rfl) rfl) (z1l zaG rfl (by kernel_rfl) rfl)) (by kernel_rfl) rfl
theorem zaL : StOk (z0u 7 z4G) za4 #[true, true, true, false, false, false, false, true, true, true, true, true, false, false, false, false, false] 9 [6] := z9T zkF rfl (by kernel_rfl) rfl
theorem zkI : StOk (z0u 7 z4G) zgk #[true, true, true, true, false, false, false, true, false, true, true, true, false, false, false, false, false] 9 [6, 8] := z5o zaH rfl (by kernel_rfl)
theorem zkJ : StOk (z0u 7 z4G) zgl #[true, true, true, true, false, false, false, true, true, true, true, false, false, false, false, false, false] 9 [6] := z5o z8s rfl (by kernel_rfl)
theorem zaM : StOk (z0u 7 z4G) za5 #[true, true, true, true, true, false, false, true, false, true, true, false, false, false, false, false, false] 9 [6, 8] := z0V (z0o (z1l zaI rfl (by kernel_rfl) rfl) (z0o (z1l z8s rfl (by kernel_rfl) rfl) (z1l zaH rfl (by kernel_rfl) rfl))) (by kernel_rfl) rfl
theorem zaN : StOk (z0u 7 z4G) za6 #[true, true, true, true, true, false, false, true, true, true, false, false, false, false, false, false, false] 9 [6] := z0V (z0o (z1l zaJ rfl (by kernel_rfl) rfl) (z1l z8s rfl (by kernel_rfl) rfl)) (by kernel_rfl) rfl
theorem zem : StOk (z0u 7 z4G) zcp #[true, true, true, true, true, true, false, true, false, true, false, false, false, false, false, false, false] 9 [6, 8] := z0V (z0o (z1l zkG rfl (by kernel_rfl) rfl) (z0o (z1l zaJ rfl (by kernel_rfl) rfl) (z1l zaI rfl (by kernel_rfl) rfl))) (by kernel_rfl) rfl
theorem zen : StOk (z0u 7 z4G) zcq #[true, false, true, false, false, false, false, true, true, true, true, true, false, false, false, false, false] 10 [1] := z0V (z0o (z1l zaL rfl (by kernel_rfl) rfl) (z1l zkH rfl (by kernel_rfl) rfl)) (by kernel_rfl) rfl
theorem zkK : StOk (z0u 7 z4G) zgm #[true, false, true, true, false, false, false, true, false, true, true, true, false, false, false, false, false] 10 [1, 8] := z5o zej rfl (by kernel_rfl)
theorem zkL : StOk (z0u 7 z4G) zgn #[true, false, true, true, false, false, false, true, true, true, true, false, false, false, false, false, false] 10 [1] := z5o zaK rfl (by kernel_rfl)
theorem zeo : StOk (z0u 7 z4G) zcr #[true, false, true, true, true, false, false, true, false, true, true, false, false, false, false, false, false] 10 [1, 8] := z0V (z0o (z1l zaM rfl (by kernel_rfl) rfl) (z0o (z1l zek rfl (by kernel_rfl) rfl) (z0o (z1l zaK rfl (by kernel_rfl) rfl) (z1l zej rfl (by kernel_rfl) rfl)))) (by kernel_rfl) rfl
theorem zep : StOk (z0u 7 z4G) zcs #[true, false, true, true, true, false, false, true, true, true, false, false, false, false, false, false, false] 10 [1] := z0V (z0o (z1l zaN rfl (by kernel_rfl) rfl) (z0o (z1l zel rfl (by kernel_rfl) rfl) (z1l zaK rfl (by kernel_rfl) rfl))) (by kernel_rfl) rfl
theorem zkM : StOk (z0u 7 z4G) zgo #[true, false, true, true, true, true, false, true, false, true, false, false, false, false, false, false, false] 10 [1, 8] := z0V (z0o (z1l zem rfl (by kernel_rfl) rfl) (z0o (z1l zel rfl (by kernel_rfl) rfl) (z1l zek rfl (by kernel_rfl) rfl))) (by kernel_rfl) rfl
theorem zeq : StOk (z0u 7 z4G) zct #[true, true, true, false, false, false, false, true, false, true, true, true, false, false, false, false, false] 10 [6, 8] := z0V (z0o (z1l zkI rfl (by kernel_rfl) rfl) (z1l zaL rfl (by kernel_rfl) rfl)) (by kernel_rfl) rfl
theorem zaO : StOk (z0u 7 z4G) za7 #[true, true, true, false, false, false, false, true, true, true, true, false, false, false, false, false, false] 10 [6] := z0V (z0o (z1l zkJ rfl (by kernel_rfl) rfl) (z1l zaL rfl (by kernel_rfl) rfl)) (by kernel_rfl) rfl
theorem zkN : StOk (z0u 7 z4G) zgp #[true, true, true, true, false, false, false, true, false, true, true, false, false, false, false, false, false] 10 [6, 8] := z5o zaM rfl (by kernel_rfl)
theorem zkO : StOk (z0u 7 z4G) zgq #[true, true, true, true, false, false, false, true, true, true, false, false, false, false, false, false, false] 10 [6] := z5o zaN rfl (by kernel_rfl)
theorem zer : StOk (z0u 7 z4G) zcu #[true, true, true, true, true, false, false, true, false, true, false, false, false, false, false, false, false] 10 [6, 8] := z0V (z0o (z1l zem rfl (by kernel_rfl) rfl) (z0o (z1l zaN rfl (by kernel_rfl) rfl) (z1l zaM rfl (by kernel_rfl) rfl))) (by kernel_rfl) rfl
theorem zkP : StOk (z0u 7 z4G) zgr #[true, false, true, false, false, false, false, true, false, true, true, true, false, false, false, false, false] 11 [1, 8] := z0V (z0o (z1l zeq rfl (by kernel_rfl) rfl) (z0o (z1l zkK rfl (by kernel_rfl) rfl) (z1l zen rfl (by kernel_rfl) rfl))) (by kernel_rfl) rfl
theorem zes : StOk (z0u 7 z4G) zcv #[true, false, true, false, false, false, false, true, true, true, true, false, false, false, false, false, false] 11 [1] := z0V (z0o (z1l zaO rfl (by kernel_rfl) rfl) (z0o (z1l zkL rfl (by kernel_rfl) rfl) (z1l zen rfl (by kernel_rfl) rfl))) (by kernel_rfl) rfl
theorem zkQ : StOk (z0u 7 z4G) zgs #[true, false, true, true, false, false, false, true, false, true, true, false, false, false, false, false, false] 11 [1, 8] := z5o zeo rfl (by kernel_rfl)
theorem zkR : StOk (z0u 7 z4G) zgt #[true, false, true, true, false, false, false, true, true, true, false, false, false, false, false, false, false] 11 [1] := z5o zep rfl (by kernel_rfl)
theorem zkS : StOk (z0u 7 z4G) zgu #[true, false, true, true, true, false, false, true, false, true, false, false, false, false, false, false, false] 11 [1, 8] := z0V (z0o (z1l zer rfl (by kernel_rfl) rfl) (z0o (z1l zkM rfl (by kernel_rfl) rfl) (z0o (z1l zep rfl (by kernel_rfl) rfl) (z1l zeo rfl (by kernel_rfl) rfl)))) (by kernel_rfl) rfl
theorem zet : StOk (z0u 7 z4G) zcw #[true, true, true, false, false, false, false, true, false, true, true, false, false, false, false, false, false] 11 [6, 8] := z0V (z0o (z1l zkN rfl (by kernel_rfl) rfl) (z0o (z1l zaO rfl (by kernel_rfl) rfl) (z1l zeq rfl (by kernel_rfl) rfl))) (by kernel_rfl) rfl
theorem zeu : StOk (z0u 7 z4G) zcx #[true, true, true, false, false, false, false, true, true, true, false, false, false, false, false, false, false] 11 [6] := z0V (z0o (z1l zkO rfl (by kernel_rfl) rfl) (z1l zaO rfl (by kernel_rfl) rfl)) (by kernel_rfl) rfl
theorem zmr : StOk (z0u 7 z4G) zjh #[true, true, true, true, false, false, false, true, false, true, false, false, false, false, false, false, false] 11 [6, 8] := z5o zer rfl (by kernel_rfl)
theorem zms : StOk (z0u 7 z4G) zji #[true, false, true, false, false, false, false, true, false, true, true, false, false, false, false, false, false] 12 [1, 8] := z0V (z0o (z1l zet rfl (by kernel_rfl) rfl) (z0o (z1l zkQ rfl (by kernel_rfl) rfl) (z0o (z1l zes rfl (by kernel_rfl) rfl) (z1l zkP rfl (by kernel_rfl) rfl)))) (by kernel_rfl) rfl
theorem zmt : StOk (z0u 7 z4G) zjj #[true, false, true, false, false, false, false, true, true, true, false, false, false, false, false, false, false] 12 [1] := z0V (z0o (z1l zeu rfl (by kernel_rfl) rfl) (z0o (z1l zkR rfl (by kernel_rfl) rfl) (z1l zes rfl (by kernel_rfl) rfl))) (by kernel_rfl) rfl
theorem zmu : StOk (z0u 7 z4G) zjk #[true, false, true, true, false, false, false, true, false, true, false, false, false, false, false, false, false] 12 [1, 8] := z5o zkS rfl (by kernel_rfl)
theorem zmv : StOk (z0u 7 z4G) zjl #[true, true, true, false, false, false, false, true, false, true, false, false, false, false, false, false, false] 12 [6, 8] := z0V (z0o (z1l zmr rfl (by kernel_rfl) rfl) (z0o (z1l zeu rfl (by kernel_rfl) rfl) (z1l zet rfl (by kernel_rfl) rfl))) (by kernel_rfl) rfl
theorem zmw : StOk (z0u 7 z4G) zjm #[true, false, true, false, false, false, false, true, false, true, false, false, false, false, false, false, false] 13 [1, 8] := z0V (z0o (z1l zmv rfl (by kernel_rfl) rfl) (z0o (z1l zmu rfl (by kernel_rfl) rfl) (z0o (z1l zmt rfl (by kernel_rfl) rfl) (z1l zms rfl (by kernel_rfl) rfl)))) (by kernel_rfl) rfl
theorem zmx : StOk (z0u 7 z4G) zjn #[true, false, true, false, false, false, false, true, false, false, false, false, false, false, false, false, false] 14 [1, 8] := z5o zmw rfl (by kernel_rfl)
theorem zmy : StOk (z0u 7 z4G) zjo #[true, false, true, false, false, false, false, false, false, false, false, false, false, false, false, false, false] 15 [1, 8] := z5o zmx rfl (by kernel_rfl)
theorem zmz : StOk (z0u 7 z4G) zjp #[true, false, false, false, false, false, false, false, false, false, false, false, false, false, false, false, false] 16 [1, 8] := z5o zmy rfl (by kernel_rfl)
theorem zmA : StOk (z0u 7 z4G) zjq #[false, false, false, false, false, false, false, false, false, false, false, false, false, false, false, false, false] 17 [1, 8] := z5o zmz rfl (by kernel_rfl)
theorem ztf : z3y Try.prog 32 cf32 = true := ziH [7] zup zut rfl (by kernel_rfl) (by simp only [List.forall_mem_cons]; exact ⟨⟨_, rfl, zfp (by kernel_rfl) zmA (by kernel_rfl) (by kernel_rfl)⟩, fun _ h => by cases h⟩)
theorem zte : z3y Try.prog 33 cf33 = true := by kernel_rfl
theorem ztd : z3y Try.prog 34 cf34 = true := by kernel_rfl
theorem ztc : z3y Try.prog 35 cf35 = true := by kernel_rfl
theorem ztb : z3y Try.prog 36 cf36 = true := by kernel_rfl
theorem zta : z3y Try.prog 37 cf37 = true := by kernel_rfl
theorem zt9 : z3y Try.prog 38 cf38 = true := by kernel_rfl
theorem zt8 : z3y Try.prog 39 cf39 = true := by kernel_rfl
theorem zt7 : z3y Try.prog 40 cf40 = true := by kernel_rfl
theorem zt6 : z3y Try.prog 41 cf41 = true := by kernel_rfl
theorem zt5 : z3y Try.prog 42 cf42 = true := by kernel_rfl
theorem zt4 : z3y Try.prog 43 cf43 = true := by kernel_rfl
theorem zt3 : z3y Try.prog 44 cf44 = true := by kernel_rfl
theorem zt2 : z3y Try.prog 45 cf45 = true := by kernel_rfl
theorem zt1 : z3y Try.prog 46 cf46 = true := by kernel_rfl
theorem zt0 : z3y Try.prog 47 cf47 = true := by kernel_rfl
theorem zsZ : z3y Try.prog 48 cf48 = true := by kernel_rfl
theorem zsY : z3y Try.prog 49 cf49 = true := by kernel_rfl
theorem zsX : z3y Try.prog 50 cf50 = true := by kernel_rfl
theorem zsW : z3y Try.prog 51 cf51 = true := by kernel_rfl
theorem zsV : z3y Try.prog 52 cf52 = true := by kernel_rfl
theorem zsU : z3y Try.prog 53 cf53 = true := by kernel_rfl
theorem zsT : z3y Try.prog 54 cf54 = true := by kernel_rfl
theorem zsS : z3y Try.prog 55 cf55 = true := by kernel_rfl
theorem zsR : z3y Try.prog 56 cf56 = true := by kernel_rfl
theorem zsQ : z3y Try.prog 57 cf57 = true := by kernel_rfl
theorem zsP : z3y Try.prog 58 cf58 = true := by kernel_rfl
theorem zsO : z3y Try.prog 59 cf59 = true := by kernel_rfl
theorem zsN : z3y Try.prog 60 cf60 = true := by kernel_rfl
theorem zsM : z3y Try.prog 61 cf61 = true := by kernel_rfl
theorem zsL : z3y Try.prog 62 cf62 = true := by kernel_rfl
theorem zsK : z3y Try.prog 63 cf63 = true := by kernel_rfl
theorem zsJ : z3y Try.prog 65 cf65 = true := by kernel_rfl
theorem zsI : z3y Try.prog 66 cf66 = true := by kernel_rfl
theorem zsH : z3y Try.prog 67 cf67 = true := by kernel_rfl
theorem zsG : z3y Try.prog 68 cf68 = true := by kernel_rfl
theorem zsF : z3y Try.prog 69 cf69 = true := by kernel_rfl
theorem zsE : z3y Try.prog 70 cf70 = true := by kernel_rfl
theorem zsD : z3y Try.prog 71 cf71 = true := by kernel_rfl
theorem zsC : z3y Try.prog 72 cf72 = true := by kernel_rfl
theorem zsB : z3y Try.prog 73 cf73 = true := by kernel_rfl
theorem zsA : z3y Try.prog 74 cf74 = true := by kernel_rfl
theorem zsz : z3y Try.prog 76 cf76 = true := by kernel_rfl
theorem zsy : z3y Try.prog 77 cf77 = true := by kernel_rfl
theorem zsx : z3y Try.prog 78 cf78 = true := by kernel_rfl
theorem zsw : z3y Try.prog 79 cf79 = true := by kernel_rfl
theorem zsv : z3y Try.prog 80 cf80 = true := by kernel_rfl
theorem zsu : z3y Try.prog 88 cf88 = true := by kernel_rfl
theorem zst : z3y Try.prog 89 cf89 = true := by kernel_rfl
theorem zss : z3y Try.prog 90 cf90 = true := by kernel_rfl
theorem zsr : z3y Try.prog 91 cf91 = true := by kernel_rfl
theorem zsq : z3y Try.prog 92 cf92 = true := by kernel_rfl
theorem zsp : z3y Try.prog 98 cf98 = true := by kernel_rfl
theorem zrw : z3y Try.prog 100 cf100 = true := by kernel_rfl
theorem z1F {p : Prop} [Decidable p] {a c : Cfg} {r : Option Cfg} {G : Prop} (h : (if p then some a else r) = some c) (h1 : p → a = c → G) (h2 : r = some c → G) : G := by
  split at h
  · rename_i hp; exact h1 hp (Option.some.inj h)
  · exact h2 h
theorem zuh : ∀ f c, z2p f = some c → z3y Try.prog f c = true := by
  intro f c h
  unfold z2p at h
  refine z1F h (fun e h => by rw [e, ← h]; exact zvt) fun h => ?_
  refine z1F h (fun e h => by rw [e, ← h]; exact zvs) fun h => ?_
  refine z1F h (fun e h => by rw [e, ← h]; exact zvr) fun h => ?_
  refine z1F h (fun e h => by rw [e, ← h]; exact zvq) fun h => ?_
  refine z1F h (fun e h => by rw [e, ← h]; exact zvp) fun h => ?_
  refine z1F h (fun e h => by rw [e, ← h]; exact zvo) fun h => ?_
  refine z1F h (fun e h => by rw [e, ← h]; exact ztB) fun h => ?_
  refine z1F h (fun e h => by rw [e, ← h]; exact ztA) fun h => ?_
  refine z1F h (fun e h => by rw [e, ← h]; exact ztz) fun h => ?_
  refine z1F h (fun e h => by rw [e, ← h]; exact zty) fun h => ?_
  refine z1F h (fun e h => by rw [e, ← h]; exact ztx) fun h => ?_
  refine z1F h (fun e h => by rw [e, ← h]; exact ztw) fun h => ?_
  refine z1F h (fun e h => by rw [e, ← h]; exact ztv) fun h => ?_
  refine z1F h (fun e h => by rw [e, ← h]; exact ztu) fun h => ?_
  refine z1F h (fun e h => by rw [e, ← h]; exact ztt) fun h => ?_
  refine z1F h (fun e h => by rw [e, ← h]; exact zts) fun h => ?_
  refine z1F h (fun e h => by rw [e, ← h]; exact ztr) fun h => ?_
  refine z1F h (fun e h => by rw [e, ← h]; exact ztq) fun h => ?_
  refine z1F h (fun e h => by rw [e, ← h]; exact ztp) fun h => ?_
  refine z1F h (fun e h => by rw [e, ← h]; exact zto) fun h => ?_
  refine z1F h (fun e h => by rw [e, ← h]; exact ztn) fun h => ?_
  refine z1F h (fun e h => by rw [e, ← h]; exact ztm) fun h => ?_
  refine z1F h (fun e h => by rw [e, ← h]; exact ztl) fun h => ?_
  refine z1F h (fun e h => by rw [e, ← h]; exact ztk) fun h => ?_
  refine z1F h (fun e h => by rw [e, ← h]; exact ztj) fun h => ?_
  refine z1F h (fun e h => by rw [e, ← h]; exact zti) fun h => ?_
  refine z1F h (fun e h => by rw [e, ← h]; exact zth) fun h => ?_
  refine z1F h (fun e h => by rw [e, ← h]; exact ztg) fun h => ?_
  refine z1F h (fun e h => by rw [e, ← h]; exact ztf) fun h => ?_
  refine z1F h (fun e h => by rw [e, ← h]; exact zte) fun h => ?_
  refine z1F h (fun e h => by rw [e, ← h]; exact ztd) fun h => ?_
  refine z1F h (fun e h => by rw [e, ← h]; exact ztc) fun h => ?_
  refine z1F h (fun e h => by rw [e, ← h]; exact ztb) fun h => ?_
  refine z1F h (fun e h => by rw [e, ← h]; exact zta) fun h => ?_
  refine z1F h (fun e h => by rw [e, ← h]; exact zt9) fun h => ?_
  refine z1F h (fun e h => by rw [e, ← h]; exact zt8) fun h => ?_
  refine z1F h (fun e h => by rw [e, ← h]; exact zt7) fun h => ?_
  refine z1F h (fun e h => by rw [e, ← h]; exact zt6) fun h => ?_
  refine z1F h (fun e h => by rw [e, ← h]; exact zt5) fun h => ?_
  refine z1F h (fun e h => by rw [e, ← h]; exact zt4) fun h => ?_
  refine z1F h (fun e h => by rw [e, ← h]; exact zt3) fun h => ?_
  refine z1F h (fun e h => by rw [e, ← h]; exact zt2) fun h => ?_
  refine z1F h (fun e h => by rw [e, ← h]; exact zt1) fun h => ?_
  refine z1F h (fun e h => by rw [e, ← h]; exact zt0) fun h => ?_
  refine z1F h (fun e h => by rw [e, ← h]; exact zsZ) fun h => ?_
  refine z1F h (fun e h => by rw [e, ← h]; exact zsY) fun h => ?_
  refine z1F h (fun e h => by rw [e, ← h]; exact zsX) fun h => ?_
  refine z1F h (fun e h => by rw [e, ← h]; exact zsW) fun h => ?_
  refine z1F h (fun e h => by rw [e, ← h]; exact zsV) fun h => ?_
  refine z1F h (fun e h => by rw [e, ← h]; exact zsU) fun h => ?_
  refine z1F h (fun e h => by rw [e, ← h]; exact zsT) fun h => ?_
  refine z1F h (fun e h => by rw [e, ← h]; exact zsS) fun h => ?_
  refine z1F h (fun e h => by rw [e, ← h]; exact zsR) fun h => ?_
  refine z1F h (fun e h => by rw [e, ← h]; exact zsQ) fun h => ?_
  refine z1F h (fun e h => by rw [e, ← h]; exact zsP) fun h => ?_
  refine z1F h (fun e h => by rw [e, ← h]; exact zsO) fun h => ?_
  refine z1F h (fun e h => by rw [e, ← h]; exact zsN) fun h => ?_
  refine z1F h (fun e h => by rw [e, ← h]; exact zsM) fun h => ?_
  refine z1F h (fun e h => by rw [e, ← h]; exact zsL) fun h => ?_
  refine z1F h (fun e h => by rw [e, ← h]; exact zsK) fun h => ?_
  refine z1F h (fun e h => by rw [e, ← h]; exact zsJ) fun h => ?_
  refine z1F h (fun e h => by rw [e, ← h]; exact zsI) fun h => ?_
  refine z1F h (fun e h => by rw [e, ← h]; exact zsH) fun h => ?_
  refine z1F h (fun e h => by rw [e, ← h]; exact zsG) fun h => ?_
  refine z1F h (fun e h => by rw [e, ← h]; exact zsF) fun h => ?_
  refine z1F h (fun e h => by rw [e, ← h]; exact zsE) fun h => ?_
  refine z1F h (fun e h => by rw [e, ← h]; exact zsD) fun h => ?_
  refine z1F h (fun e h => by rw [e, ← h]; exact zsC) fun h => ?_
  refine z1F h (fun e h => by rw [e, ← h]; exact zsB) fun h => ?_
  refine z1F h (fun e h => by rw [e, ← h]; exact zsA) fun h => ?_
  refine z1F h (fun e h => by rw [e, ← h]; exact zsz) fun h => ?_
  refine z1F h (fun e h => by rw [e, ← h]; exact zsy) fun h => ?_
  refine z1F h (fun e h => by rw [e, ← h]; exact zsx) fun h => ?_
  refine z1F h (fun e h => by rw [e, ← h]; exact zsw) fun h => ?_
  refine z1F h (fun e h => by rw [e, ← h]; exact zsv) fun h => ?_
  refine z1F h (fun e h => by rw [e, ← h]; exact zsu) fun h => ?_
  refine z1F h (fun e h => by rw [e, ← h]; exact zst) fun h => ?_
  refine z1F h (fun e h => by rw [e, ← h]; exact zss) fun h => ?_
  refine z1F h (fun e h => by rw [e, ← h]; exact zsr) fun h => ?_
  refine z1F h (fun e h => by rw [e, ← h]; exact zsq) fun h => ?_
  refine z1F h (fun e h => by rw [e, ← h]; exact zsp) fun h => ?_
  refine z1F h (fun e h => by rw [e, ← h]; exact zrw) fun h => ?_
  cases h
end Go.Proofs.Ytbnnipkanechoaa
end
section
namespace Go.Proofs.Ytbnnipkanechoaa
open Go.RowKit
def zdI (P : Program) : Nat → TypeId → Bool
  | 0, _ => false
  | m + 1, t =>
    match P.underlying t with
    | some (.slice e) => P.cellsOf e != 0 && zdI P m e
    | some (.pointer e) => zdI P m e
    | some (.struct fs) => fs.toList.all fun f => zdI P m f.type
    | some (.array _ e) => zdI P m e
    | some (.map _ e) => zdI P m e
    | _ => true
section
variable {H : Type} {enc : TypeId × Value → H} {P : Program} {w : World} {base : Nat}
theorem zdZ {m : Nat} {r r' : TypeId → List Value → Option (DataW H × List MemPlace)}
    (hr : ∀ t cs x, zdI P m t = true → r t cs = some x → r' t cs = some x) {t : TypeId} {cs : List Value} {x : DataW H × List MemPlace} (hf : zdI P (m + 1) t = true)
    (h : DataW.trodStep enc P w base (fun _ => true) true r t cs = some x) : DataW.trodStep enc P w base (fun b => decide (b < w.heap.size)) true r' t cs = some x := by
  unfold DataW.trodStep at h ⊢
  unfold zdI at hf
  split at h
  case h_1 => exact h
  case h_2 => exact h
  case h_3 => exact h
  case h_4 => exact h
  case h_5 => exact h
  case h_6 e a hu =>
    rw [hu] at hf
    simp only [Option.map_eq_some_iff, Option.bind_eq_some_iff] at h ⊢
    obtain ⟨y, ⟨cs', hc, hy⟩, rfl⟩ := h
    exact ⟨y, ⟨cs', hc, hr _ _ _ hf hy⟩, rfl⟩
  case h_7 => exact h
  case h_8 e a len cap hu =>
    rw [hu] at hf
    simp only [Bool.and_eq_true, bne_iff_ne, ne_eq] at hf
    obtain ⟨hcell, hfe⟩ := hf
    simp only at h ⊢
    split at h
    · rename_i hc
      rw [if_pos hc]
      simp only [Option.map_eq_some_iff, Option.bind_eq_some_iff, if_true] at h ⊢
      obtain ⟨elems, he, rest, hrest, rfl⟩ := h
      have one : ∀ (i : Nat) (y : DataW H × List MemPlace), (w.cells? base (a.add (i * P.cellsOf e)) (P.cellsOf e)).bind (r e) = some y → (w.cells? base (a.add (i * P.cellsOf e)) (P.cellsOf e)).bind (r' e) = some y := by
        intro i y hv
        simp only [Option.bind_eq_some_iff] at hv ⊢
        obtain ⟨cs', hc', hy'⟩ := hv
        exact ⟨cs', hc', hr _ _ _ hfe hy'⟩
      refine ⟨elems, mapM_carry he (fun i y _ _ hy => one i y hy), rest, ?_, rfl⟩
      by_cases hb : a.block < w.heap.size
      · rw [if_pos (by simpa using hb)]
        exact mapM_carry hrest (fun j y _ _ hy => one (len + j) y hy)
      · rw [if_neg (by simpa using hb)]
        have hz : cap - len = 0 := by
          rcases Nat.eq_zero_or_pos (cap - len) with h0 | h0
          · exact h0
          · exfalso
            have hl : rest.length = cap - len := by simpa using mapM_some_length hrest
            have h1 := mapM_some_get hrest 0 0 (by simp [h0])
            obtain ⟨y, hy⟩ : ∃ y, rest[0]? = some y := ⟨rest[0], List.getElem?_eq_getElem (by omega)⟩
            rw [hy] at h1
            simp only [Option.bind_eq_some_iff] at h1
            obtain ⟨cs', hc', _⟩ := h1
            have h2 := World.cells?_block hc' (by omega)
            have h3 : (a.add ((len + 0) * P.cellsOf e)).block = a.block := by unfold Addr.add; split <;> rfl
            omega
        rw [hz] at hrest
        simpa using hrest
    · cases h
  case h_9 fs _ hu =>
    rw [hu] at hf
    split at h
    · rename_i hc
      rw [if_pos hc]
      simp only [Option.map_eq_some_iff] at h ⊢
      obtain ⟨xs, hx, rfl⟩ := h
      exact ⟨xs, mapM_carry hx (fun f y hin _ hv => hr _ _ _ (List.all_eq_true.1 hf f hin) hv), rfl⟩
    · cases h
  case h_10 n e _ hu =>
    rw [hu] at hf
    split at h
    · rename_i hc
      rw [if_pos hc]
      simp only [Option.map_eq_some_iff] at h ⊢
      obtain ⟨xs, hx, rfl⟩ := h
      exact ⟨xs, mapM_carry hx (fun f y _ _ hv => hr _ _ _ hf hv), rfl⟩
    · cases h
  case h_11 => exact h
  case h_12 => exact h
  case h_13 => exact h
  case h_14 k e b hu =>
    rw [hu] at hf
    split at h
    · rename_i es clock hb
      split at h
      · rename_i hc
        simp only [Option.bind_eq_some_iff] at h
        obtain ⟨entries, he, hd⟩ := h
        split at hd
        · rename_i hris
          have hx := Option.some.inj hd
          subst hx
          simp only [if_pos hc, Option.bind_eq_some_iff]
          refine ⟨entries, mapM_carry he (fun x y _ hy hv => ?_), by simp [hris]⟩
          simp only [Option.bind_eq_some_iff] at hv ⊢
          obtain ⟨key, hk, hz⟩ := hv
          refine ⟨key, hk, ?_⟩
          split at hz
          · rename_i hfm
            rw [if_pos hfm]
            simp only [Option.map_eq_some_iff] at hz ⊢
            obtain ⟨q, hq, rfl⟩ := hz
            exact ⟨q, hr _ _ _ hf hq, rfl⟩
          · cases hz
        · cases hd
      · cases h
    · cases h
  case h_15 => exact h
  case h_16 => exact h
  case h_17 => exact h
  case h_18 => exact h
  case h_19 => exact h
  case h_20 => exact h
  case h_21 => cases h
theorem zkz : ∀ (n m : Nat) (t : TypeId) (cs : List Value) (x : DataW H × List MemPlace), zdI P m t = true →
    DataW.trod enc P w base (fun _ => true) true n t cs = some x → DataW.trod enc P w base (fun b => decide (b < w.heap.size)) true n t cs = some x := by
  intro n
  induction n with
  | zero => intro m t cs x _ h; simp [DataW.trod] at h
  | succ n ih =>
    intro m t cs x hf h
    cases m with
    | zero => simp [zdI] at hf
    | succ m =>
      rw [DataW.trod_step] at h ⊢
      exact zdZ (m := m) (fun t cs x hf hx => ih m t cs x hf hx) hf h
theorem zha {w' : World} (hb : Below w.heap.size w w') {p : MemPlace} (hp : p.block < w.heap.size) : w.sameAt w' p := by
  cases p with
  | cell b off => exact hb.cell (p := ⟨b, off, none⟩) hp
  | map b => exact hb.block b hp
theorem z5S {w' : World} (m : Nat) (hb : Below w.heap.size w w') : ∀ {ts : List TypeId} {vs : List Value} {ds : List (DataW H)} {ps : List MemPlace}, (ts.all (zdI P m)) = true →
    DataW.TrodAll enc P w 0 (fun _ => true) true ts vs ds ps → DataW.TrodAll enc P w' 0 (fun b => decide (b < w.heap.size)) true ts vs ds ps
  | [], [], [], ps, _, h => h
  | t :: ts, v :: vs, d :: ds, ps, hf, ⟨p, q, ⟨n, h1⟩, h2, e⟩ => by
    simp only [List.all_cons, Bool.and_eq_true] at hf
    have h3 := zkz n m t _ _ hf.1 h1
    exact ⟨p, q, ⟨n, DataW.trod_carry n _ _ _ h3 (fun z hz => zha hb (DataW.trod_lt n _ _ _ h3 z hz))⟩, z5S m hb hf.2 h2, e⟩
  | [], _ :: _, _, _, _, h => by cases h
  | [], [], _ :: _, _, _, h => by cases h
  | _ :: _, [], _, _, _, h => by cases h
  | _ :: _, _ :: _, [], _, _, h => by cases h
end
section
variable {H : Type} {enc : TypeId × Value → H} {P : Program} {w : World} {r : Reach} {b0 : Nat}
open Go.ChangeShapes Go.WideShapes
open Go.Deep (open_bools)
theorem zod (a : Addr) (j : Nat) : (a.add j).block = a.block := by unfold Addr.add; split <;> rfl
end
end Go.Proofs.Ytbnnipkanechoaa
end
section
namespace Go.Proofs.Ytbnnipkanechoaa
open Go.ChangeShapes Go.WideShapes Go.RowKit
def KZ : Nat → z0h := fun _ => []
theorem zdp {P : Program} {Xc : z0C} {cf : FuncId → Option Cfg} {f : FuncId} {args : List T} {outs : List T} (hX : z9S P (fun _ _ => True) Xc) (hm : P.follows .mixedOrders = true) (hf : ∀ f c, cf f = some c → z3y P f c = true)
    (h : Lim P Xc cf f args = some (.sc (.bool true), outs)) (hio : args.all (fun t => !z3Q t) = true) (W : World) (vals : Array Value) (hs : vals.size = args.length)
    (ha : ∀ i t, args[i]? = some t → TRep W KZ [] (vals.getD i undef) t) : Calls P f vals W fun e W' => e = .returned (.bool true) ∧ Below W.heap.size W W' := by
  have hc := zrj (I := fun _ _ => True) EnvS.none hX hm hf h
  refine (hc.calls W KZ vals hs (fun i t hi => ?_) trivial).mono fun e W' ⟨v, K', he, hv, _, hst⟩ => ?_
  · have h1 := List.all_eq_true.1 hio t (List.mem_of_getElem? hi)
    unfold zfi
    rw [if_neg (by simpa using h1)]
    exact ha i t hi
  · generalize hT : T.sc (.bool true) = t at hv
    cases hv with
    | sc c v hb => cases hT; exact ⟨he, hst.os, hst.tape, hst.output, hst.size, fun b hb => (hst.old b hb (.inl rfl)).2⟩
    | _ => cases hT
section
variable {H : Type} {enc : TypeId × Value → H} {P : Program} {w : World} {r : Reach} {b0 : Nat}
theorem zdl {t e : TypeId} {v : Value} {d : DataW H} {ps : List MemPlace} (ht : P.underlying t = some (.slice e)) (he : P.underlying e = some (.int .i64)) (hc : P.cellsOf e = 1)
    (hval : Value.okWide P w r b0 t v) (hd : DataW.Trod enc P w 0 (fun _ => true) true t v d ps) :
    ∃ xs : List Int, TRep w KZ [] v (.sl xs.length (xs.map fun x => .sc (.int .i64 x))) ∧ xs.length ≤ maxLen ∧ ∀ x ∈ xs, (Lit.int .i64 x).wf = true := by
  obtain ⟨ga, n, cap, rfl⟩ := okWide_slice ht hval
  obtain ⟨fuel, hf⟩ := hd
  rcases open_ints ht he hc hf with ⟨hcs, _⟩ | ⟨a, len', cap', zs, hcs, _, hl, hm, hz, _, hcell, hwz⟩
  · simp [Value.cells] at hcs
    obtain ⟨rfl, rfl, rfl⟩ := hcs
    exact ⟨[], .emp _ _ _ (by decide), by decide, fun x hx => by cases hx⟩
  · simp [Value.cells] at hcs
    obtain ⟨rfl, rfl, rfl⟩ := hcs
    simp only [if_true] at hz
    refine ⟨zs.take n, ?_, by simp; omega, fun x hx => hwz x (List.mem_of_mem_take hx)⟩
    have hln : (zs.take n).length = n := by simp; omega
    rw [hln]
    by_cases h0 : n = 0
    · subst h0
      simp only [List.take_zero, List.map_nil]
      exact .emp _ _ _ hm
    · have hc0 := hcell 0 (by omega)
      have hb := World.block_lt_of_cell? w _ hc0
      rw [zod] at hb
      have hsp : a.spot = none := by
        have : a.add 0 = a := by simp [Addr.add]
        rw [this] at hc0
        unfold World.cell? at hc0
        split at hc0
        · split at hc0
          · cases hc0
          · rename_i hh
            simpa using hh
        · cases hc0
      obtain ⟨g, o, sp⟩ := a
      simp only at hsp
      subst hsp
      refine .fro [] g o n cap _ (fun j => .int .i64 (zs.getD j 0)) rfl hb hl hm (fun j hj => ?_) (fun j t hj => ?_)
      · have h1 := hcell j (by simp at hj; omega)
        have e : (⟨g, o, none⟩ : Addr).add j = ⟨g, o + j, none⟩ := by
          unfold Addr.add
          split
          · rename_i h; subst h; rfl
          · rfl
        rw [e] at h1
        exact h1
      · simp only [List.getElem?_map, Option.map_eq_some_iff] at hj
        obtain ⟨x, hx, rfl⟩ := hj
        have hjn : j < n := by
          have := (List.getElem?_eq_some_iff.1 hx).1
          simp at this; omega
        rw [List.getElem?_take_of_lt hjn] at hx
        simp only [List.getD, hx]
        exact .sc _ _ rfl
end
end Go.Proofs.Ytbnnipkanechoaa
end

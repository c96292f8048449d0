/- Proved here: the law HolonomyChecks returns true for every input, and its arguments read afterwards as before. No condition. -/
import Derived.Test.YtodliknibbafeaaMHC4
import Derived.KernelRfl
import Derived.WalkKit
import Derived.WalkSpells
import Derived.WalkLawsBesides
import Derived.Lib.Hide
import Derived.Deep.OwnRows
import Derived.Deep.RegionLaw
import Derived.Shelf.Small.Bits
import Derived.Shelf.Small.Wraps
import Derived.Shelf.Strconv.Itoa0
import Derived.Ground.SlsfProg
import Derived.Shelf.SlSortCmp.Insertion
import Derived.Shelf.SlSortCmp.SiftDown1
import Derived.Shelf.SlSortCmp.HeapSort1
import Derived.Shelf.SlSortCmp.Insertion1
import Derived.Shelf.SlSortCmp.Median1
import Derived.Shelf.SlSortCmp.Pivot1
import Derived.Shelf.SlSortCmp.ReverseRange1
import Derived.Shelf.SlSortCmp.PartialInsertion1
import Derived.Shelf.SlSortCmp.PartitionEqual1
import Derived.Shelf.SlSortCmp.Partition1
import Derived.Shelf.SlSortCmp.Pdq1
import Derived.Shelf.SlSortCmp.Whole1
import Derived.Test.YtodliknibbafeaaProg
import Derived.ChangeOld
import Derived.ChangeReads
import Derived.Below
import Derived.ChangeSlices
import Derived.Deep.Grids
import Derived.WideShapes
import Derived.ProofKit
import Derived.Test.YtodliknibbafeaaRows
import Derived.Test.YtodliknibbafeaaChecked
import Derived.OpenShut
import Derived.ShutString
import Derived.Deep.DeepHandedRow
set_option linter.unusedVariables false
set_option linter.unusedSimpArgs false
section
namespace Go.Proofs.Ytodliknibbafeaa
open Go
set_option maxRecDepth 100000
def zkZ {α : Type} (N : Nat) (f g : Nat → α) (k : Nat) : List α := (List.range N).map fun i => if i < k then f i else g i
theorem zwz {α : Type} {N : Nat} {f g : Nat → α} {k : Nat} : (zkZ N f g k).length = N := by simp [zkZ]
theorem zwA {α : Type} {N : Nat} {f g : Nat → α} : zkZ N f g 0 = (List.range N).map g := by simp [zkZ]
theorem zy6 {α : Type} {N : Nat} {f g : Nat → α} : zkZ N f g N = (List.range N).map f := List.map_congr_left fun i hi => by rw [if_pos (List.mem_range.1 hi)]
theorem ztg {α : Type} {N : Nat} {f g : Nat → α} {k : Nat} (h : k < N) : atI (zkZ N f g k) (k : Int) = some (g k) := by
  rw [z0L (by rw [zwz]; exact h)]; simp [zkZ]
theorem zmN {α : Type} {N : Nat} {f g : Nat → α} {k : Nat} (h : k < N) : (zkZ N f g k).set k (f k) = zkZ N f g (k + 1) := by
  refine List.ext_getElem (by simp [zkZ]) fun i h1 h2 => ?_
  have hi : i < N := by simpa [zkZ] using h2
  rw [List.getElem_set]
  simp only [zkZ, List.getElem_map, List.getElem_range]
  by_cases e : k = i
  · subst e; rw [if_pos rfl, if_pos (Nat.lt_succ_self k)]
  · rw [if_neg e]
    by_cases h3 : i < k
    · rw [if_pos h3, if_pos (by omega)]
    · rw [if_neg h3, if_neg (by omega)]
abbrev zvK (m : Nat) (w : List UInt8) : Prop := ∀ c ∈ w, 97 ≤ c.toNat ∧ c.toNat < 97 + m
theorem zit {m : Nat} {c : UInt8} {w : List UInt8} (h : zvK m (c :: w)) : zvK m w ∧ c.toNat - 97 < m := ⟨fun c' hc' => h c' (List.mem_cons_of_mem _ hc'), by have := h c (List.mem_cons_self ..); omega⟩
def nxN (d : DFA) (q a : Nat) : Nat := ((d.next.getD q []).getD a 0).toNat
def zp1 (d : DFA) : Nat → List UInt8 → Nat
  | q, [] => q
  | q, c :: w => zp1 d (nxN d q (c.toNat - 97)) w
theorem zi8 (d : DFA) : ∀ (q : Nat) (u v : List UInt8), zp1 d q (u ++ v) = zp1 d (zp1 d q u) v
  | q, [], v => rfl
  | q, c :: u, v => by simp only [List.cons_append, zp1, zi8]
theorem zwv {d : DFA} {m n : Nat} (hd : DfaOk d m n) {q a : Nat} (hq : q < n) (ha : a < m) : ∃ r, atI d.next (q : Int) = some r ∧ atI r (a : Int) = some ((nxN d q a : Nat) : Int) ∧ nxN d q a < n := by
  obtain ⟨h1, h2, h3, h4, h5⟩ := zf6 hd hq ha
  refine ⟨d.next[q], z0L h1, ?_, ?_⟩
  · rw [z0L h2]; unfold nxN; rw [h3]; congr 1; omega
  · unfold nxN; rw [h3]; omega
theorem zul {d : DFA} {m n : Nat} (hd : DfaOk d m n) : ∀ {w : List UInt8} {q : Nat}, q < n → zvK m w → zp1 d q w < n
  | [], q, hq, _ => hq
  | c :: w, q, hq, hw => by
    obtain ⟨_, _, _, h⟩ := zwv hd hq (zit hw).2
    exact zul (w := w) (q := nxN d q (c.toNat - 97)) hd h (zit hw).1
theorem zyn {s n p : Nat} (hs : s < 2 ^ n) (h : s.testBit p = true) : p < n := by
  rcases Nat.lt_or_ge p n with h1 | h1
  · exact h1
  · have := Nat.testBit_lt_two_pow (Nat.lt_of_lt_of_le hs (Nat.pow_le_pow_right (n := 2) (by omega) h1))
    rw [this] at h; cases h
theorem zsS {d : DFA} {m n : Nat} (hd : DfaOk d m n) : ∀ {w : List UInt8} {s p : Nat}, zvK m w → s < 2 ^ n → ((z2T d s w).testBit p = true ↔ ∃ i, i < n ∧ s.testBit i = true ∧ zp1 d i w = p)
  | [], s, p, _, hs => by
    refine ⟨fun h => ⟨p, zyn hs h, h, rfl⟩, ?_⟩
    rintro ⟨i, _, h, rfl⟩; exact h
  | c :: w, s, p, hw, hs => by
    have ha := (zit hw).2
    rw [z2T, zsS hd (zit hw).1 (zkW hd ha)]
    constructor
    · rintro ⟨j, h1, h2, h3⟩
      obtain ⟨i, i1, i2, i3⟩ := (z6X hd ha j).1 h2
      exact ⟨i, i1, i2, by rw [zp1, nxN, i3]; exact h3⟩
    · rintro ⟨i, h1, h2, h3⟩
      obtain ⟨_, _, _, h⟩ := zwv hd h1 ha
      exact ⟨_, h, (z6X hd ha _).2 ⟨i, h1, h2, rfl⟩, h3⟩
def zp2 (d : DFA) (n : Nat) (w : List UInt8) : List Nat := (List.range n).map fun q => zp1 d q w
theorem zBl (d : DFA) (n : Nat) (w : List UInt8) : toI (zp2 d n w) = (List.range n).map fun q => ((zp1 d q w : Nat) : Int) := by simp [toI, zp2]
theorem zuk {d : DFA} {m n : Nat} (hd : DfaOk d m n) (hn : n ≤ 12) {w : ByteArray} (hw : zvK m w.data.toList) (hs : w.size < 2 ^ 40) : z2G d w = some (toI (zp2 d n w.data.toList)) := by
  have hl : w.data.toList.length = w.size := by rw [Array.length_toList]; rfl
  have hm := hd.m6
  unfold z2G
  rw [hd.fin, z0B _ (by unfold z1V; omega), Int.toNat_natCast]
  refine z0N (s := ((0 : Int), List.replicate n (0 : Int))) n (fun k => ((k : Int), zkZ n (fun q => (q : Int)) (fun _ => 0) k)) (by rw [zwA]; congr 1; exact (List.ext_getElem (by simp) fun i h1 h2 => by simp)) (by simp only [LFm]; omega) (fun k hk => ?_) ?_
  · simp only [z2t]
    rw [hd.fin, if_pos (by omega), ztg hk, Option.bind_some, z1b (by omega), Int.toNat_natCast, zmN hk]
  · simp only [z2t]
    rw [hd.fin, if_neg (by omega), zy6]
    congr 1
    refine z0N (s := ((0 : Int), (List.range n).map fun q : Nat => (q : Int))) w.size (fun k => ((k : Int), toI (zp2 d n (w.data.toList.take k)))) (by rw [zBl]; rfl) (by simp only [LFm]; omega) (fun k hk => ?_) ?_
    · have hk' : k < w.data.toList.length := by omega
      have hc := hw _ (List.getElem_mem hk')
      have hb : w[k] = w.data.toList[k] := by rw [zfE hk, List.getD, List.getElem?_eq_getElem hk', Option.getD_some]
      have ht : zvK m (w.data.toList.take k) := fun c hc => hw c (List.mem_of_mem_take hc)
      simp only [z2s]
      rw [if_pos (by omega)]
      have hst : ∀ q, zp1 d q (w.data.toList.take (k + 1)) = nxN d (zp1 d q (w.data.toList.take k)) (w.data.toList[k].toNat - 97) := fun q => by
        rw [zkC hk', zi8]; rfl
      refine z0N (s := ((0 : Int), toI (zp2 d n (w.data.toList.take k)))) n (fun q => ((q : Int), zkZ n (fun q => ((zp1 d q (w.data.toList.take (k + 1)) : Nat) : Int)) (fun q => ((zp1 d q (w.data.toList.take k) : Nat) : Int)) q)) (by rw [zwA, zBl]; rfl) (by simp only [LFm]; omega) (fun q hq => ?_) ?_
      · obtain ⟨r, r1, r2, r3⟩ := zwv hd (zul hd hq ht) (a := w.data.toList[k].toNat - 97) (by omega)
        have h256 : w[k].toNat < 256 := w[k].toNat_lt
        have wl : IntKind.u8.wrap ((w.data.toList[k].toNat : Int) - 97) = ((w.data.toList[k].toNat - 97 : Nat) : Int) := by
          rw [IntKind.wrap_u8]; rw [hb] at h256; omega
        simp only [z2k]
        rw [if_pos (by rw [z0s]; simp [zp2]; omega), ztg hq, Option.bind_some, r1, Option.bind_some, zfF hk, Option.bind_some, hb, wl, r2, Option.bind_some, z1b (by omega), Int.toNat_natCast, ← hst, zmN hq]
      · simp only [z2k]
        rw [if_neg (by rw [z0s]; simp [zp2]), zy6, z1b (by omega), zBl]
    · simp only [z2s]
      rw [if_neg (by omega), ← hl, List.take_length]
def zrK (F : List Nat) (s : Nat) : Nat → Nat
  | 0 => 0
  | k + 1 => if s.testBit k = true then zrK F s k ||| 2 ^ F.getD k 0 else zrK F s k
theorem zoX {F : List Nat} {s p : Nat} : ∀ k, (zrK F s k).testBit p = true ↔ ∃ i, i < k ∧ s.testBit i = true ∧ F.getD i 0 = p
  | 0 => by simp [zrK]
  | k + 1 => by
    have ih := zoX (F := F) (s := s) (p := p) k
    unfold zrK
    by_cases hb : s.testBit k = true
    · rw [if_pos hb, Nat.testBit_or, Bool.or_eq_true, ih, Nat.testBit_two_pow]
      constructor
      · rintro (⟨i, h1, h2, h3⟩ | h)
        · exact ⟨i, by omega, h2, h3⟩
        · exact ⟨k, by omega, hb, by simpa using h⟩
      · rintro ⟨i, h1, h2, h3⟩
        by_cases e : i = k
        · subst e; right; simpa using h3
        · left; exact ⟨i, by omega, h2, h3⟩
    · rw [if_neg hb, ih]
      constructor
      · rintro ⟨i, h1, h2, h3⟩; exact ⟨i, by omega, h2, h3⟩
      · rintro ⟨i, h1, h2, h3⟩
        by_cases e : i = k
        · subst e; exact absurd h2 hb
        · exact ⟨i, by omega, h2, h3⟩
theorem znj {F : List Nat} {s n : Nat} (hF : ∀ x ∈ F, x < n) : ∀ k, k ≤ F.length → zrK F s k < 2 ^ n
  | 0, _ => Nat.two_pow_pos n
  | k + 1, hk => by
    unfold zrK
    split
    · exact zws (znj hF k (by omega)) (Nat.pow_lt_pow_right (by omega) (hF _ (z0x (by omega))))
    · exact znj hF k (by omega)
theorem zvq {F : List Nat} {s n : Nat} (hn : n ≤ 12) (hF : ∀ x ∈ F, x < n) (hl : F.length ≤ 60) (hs : s < 2 ^ 62) : z1E (toI F) (s : Int) = some ((zrK F s F.length : Nat) : Int) := by
  unfold z1E
  have h62 : ∀ k, k ≤ F.length → zrK F s k < 2 ^ 62 := fun k hk => Nat.lt_of_lt_of_le (znj hF k hk) (Nat.pow_le_pow_right (by omega) (by omega))
  refine z0N (s := ((0 : Int), (0 : Int))) F.length (fun k => (((zrK F s k : Nat) : Int), (k : Int))) rfl (by simp only [LFm]; omega) (fun k hk => ?_) ?_
  · have hx := hF _ (z0x hk)
    simp only [z2P]
    rw [if_pos (by rw [z0s]; omega), z1H hk, Option.bind_some, z0B _ (by omega), z1b (by omega)]
    have hb := zng (a := s) (q := k) hs (by omega)
    by_cases h : s.testBit k = true
    · rw [if_pos (hb.2 h), z0B _ (by omega), z8G (by omega), zt9 (h62 k (by omega)) (Nat.pow_lt_pow_right (by omega) (by omega))]
      simp only [zrK]; rw [if_pos h]
    · rw [if_neg (fun e => h (hb.1 e))]
      simp only [zrK]; rw [if_neg h]
  · simp only [z2P]
    rw [if_neg (by rw [z0s]; omega)]
theorem zlz {d : DFA} {m n : Nat} (hd : DfaOk d m n) (hn : n ≤ 12) {w : List UInt8} (hw : zvK m w) {s : Nat} (hs : s < 2 ^ n) : z1E (toI (zp2 d n w)) (s : Int) = some ((z2T d s w : Nat) : Int) := by
  have hF : ∀ x ∈ zp2 d n w, x < n := fun x hx => by
    obtain ⟨q, hq, rfl⟩ := List.mem_map.1 hx
    exact zul hd (List.mem_range.1 hq) hw
  have hl : (zp2 d n w).length = n := by simp [zp2]
  rw [zvq hn hF (by omega) (Nat.lt_of_lt_of_le hs (Nat.pow_le_pow_right (by omega) (by omega)))]
  congr 2
  refine Nat.eq_of_testBit_eq fun p => ?_
  rw [Bool.eq_iff_iff, zoX, zsS hd hw hs, hl]
  refine exists_congr fun i => and_congr_right fun hi => and_congr_right fun _ => ?_
  simp [zp2, List.getD, hi]
end Go.Proofs.Ytodliknibbafeaa
end
section
namespace Go.Proofs.Ytodliknibbafeaa
open Go
set_option maxRecDepth 100000
def zhO (n : Nat) (s : Int) : Bool := decide (0 ≤ s ∧ s < ((2 ^ n : Nat) : Int))
theorem zaw {n : Nat} {s : Int} : zhO n s = true ↔ 0 ≤ s ∧ s.toNat < 2 ^ n := by
  unfold zhO; rw [decide_eq_true_eq]; omega
theorem zle {n : Nat} (hn : n ≤ 12) (s : Int) : z2p s (n : Int) = some (zhO n s) := by
  unfold z2p zhO
  by_cases h : 0 ≤ s
  · rw [if_pos h, z0B _ (by omega), z8G (by omega)]
    congr 1
    exact decide_eq_decide.2 ⟨fun h' => ⟨h, h'⟩, fun h' => h'.2⟩
  · rw [if_neg h, decide_eq_false (fun h' => h h'.1)]
def zd4 (d : DFA) (h : Hol) (k : Nat) : Bool := decide (((z2T d h.set.toNat (h.words.getD k ByteArray.empty).data.toList : Nat) : Int) = h.set) && (List.range h.tiles.length).all fun i => decide (((z2T d (h.tiles.getD i 0).toNat (h.words.getD k ByteArray.empty).data.toList : Nat) : Int) = h.tiles.getD ((h.perms.getD k []).getD i 0).toNat 0)
def zx1 (d : DFA) (m n : Nat) (h : Hol) : Bool := zhO n h.set && (decide (h.words.length = h.perms.length) && (decide (1 ≤ h.tiles.length ∧ h.tiles.length ≤ 32) && (h.tiles.all (zhO n) && ((List.range h.words.length).all fun k => decide (z7j m (h.words.getD k ByteArray.empty)) && (z3S h.tiles.length (h.perms.getD k []) && zd4 d h k)))))
section
variable {d : DFA} {m n : Nat} (hd : DfaOk d m n) (hn : n ≤ 12) {h : Hol} (hs : zhO n h.set = true) (hT : h.tiles.all (zhO n) = true) (hl : h.tiles.length ≤ 32)
include hd hn hs hT hl
omit hd hn hs hl in
theorem zid {i : Nat} (hi : i < h.tiles.length) : atI h.tiles (i : Int) = some (((h.tiles.getD i 0).toNat : Nat) : Int) ∧ (h.tiles.getD i 0).toNat < 2 ^ n ∧ (((h.tiles.getD i 0).toNat : Nat) : Int) = h.tiles.getD i 0 := by
  have hg : h.tiles.getD i 0 = h.tiles[i] := by rw [List.getD, List.getElem?_eq_getElem hi, Option.getD_some]
  have := zaw.1 (List.all_eq_true.1 hT _ (List.getElem_mem hi))
  rw [hg, z0L hi]
  exact ⟨by congr 1; omega, this.2, by omega⟩
omit hd hn hs hT hl in
theorem zt5 {p : List Int} (hp : z3S h.tiles.length p = true) {i : Nat} (hi : i < h.tiles.length) : ∃ j, j < h.tiles.length ∧ atI p (i : Int) = some (j : Int) ∧ (p.getD i 0).toNat = j := by
  obtain ⟨h1, h2, _⟩ := zim.1 hp
  have hi' : i < p.length := by omega
  have hg : p.getD i 0 = p[i] := by rw [List.getD, List.getElem?_eq_getElem hi', Option.getD_some]
  have := h2 _ (List.getElem_mem hi')
  refine ⟨p[i].toNat, by omega, ?_, by rw [hg]⟩
  rw [z0L hi']; congr 1; omega
omit hs in
theorem zqX {k : Nat} (hk : k < h.perms.length) (hp : z3S h.tiles.length (h.perms.getD k []) = true) {w : List UInt8} (hw : zvK m w) :
    z0y (z1S h (k : Int) (toI (zp2 d n w))) LFm 0 = if ((List.range h.tiles.length).all fun i => decide (((z2T d (h.tiles.getD i 0).toNat w : Nat) : Int) = h.tiles.getD ((h.perms.getD k []).getD i 0).toNat 0)) = true then z0q (IntKind.i64.wrap ((k : Int) + 1)) else z0v (some false) := by
  have hpa : atI h.perms (k : Int) = some (h.perms.getD k []) := by rw [z0L hk, List.getD, List.getElem?_eq_getElem hk, Option.getD_some]
  rw [z4J (s := (0 : Int)) h.tiles.length (fun i => (i : Int)) (fun i => !decide (((z2T d (h.tiles.getD i 0).toNat w : Nat) : Int) = h.tiles.getD ((h.perms.getD k []).getD i 0).toNat 0)) (fun _ => z0v (some false)) (x := z0q (IntKind.i64.wrap ((k : Int) + 1))) rfl (by simp only [LFm]; omega) ?_ ?_]
  · rw [z7c]; simp only [Bool.not_not]
  · intro i hi
    obtain ⟨t1, t2, t3⟩ := zid hT hi
    obtain ⟨j, j1, j2, j3⟩ := zt5 hp hi
    obtain ⟨u1, u2, u3⟩ := zid hT j1
    simp only [z1S]
    rw [if_pos (by omega), t1, Option.bind_some, hpa, Option.bind_some, j2, Option.bind_some, u1, Option.bind_some, zlz hd hn hw t2, Option.bind_some, z1b (by omega), j3, u3]
    by_cases c : ((z2T d (h.tiles.getD i 0).toNat w : Nat) : Int) = h.tiles.getD j 0
    · rw [if_pos c, decide_eq_true c, if_neg (by simp)]
    · rw [if_neg c, decide_eq_false c, if_pos (by simp)]
  · simp only [z1S]
    rw [if_neg (by omega)]
omit hs in
theorem zsZ {k : Nat} (hk : k < h.perms.length) (hp : z3S h.tiles.length (h.perms.getD k []) = true) {w : ByteArray} (hw : z7j m w) :
    z0y (z2y d h (k : Int) w) LFm 0 = if ((List.range h.tiles.length).all fun i => decide (((z2T d (h.tiles.getD i 0).toNat w.data.toList : Nat) : Int) = h.tiles.getD ((h.perms.getD k []).getD i 0).toNat 0)) = true then z0q (IntKind.i64.wrap ((k : Int) + 1)) else z0v (some false) := by
  have hpa : atI h.perms (k : Int) = some (h.perms.getD k []) := by rw [z0L hk, List.getD, List.getElem?_eq_getElem hk, Option.getD_some]
  rw [z4J (s := (0 : Int)) h.tiles.length (fun i => (i : Int)) (fun i => !decide (((z2T d (h.tiles.getD i 0).toNat w.data.toList : Nat) : Int) = h.tiles.getD ((h.perms.getD k []).getD i 0).toNat 0)) (fun _ => z0v (some false)) (x := z0q (IntKind.i64.wrap ((k : Int) + 1))) rfl (by simp only [LFm]; omega) ?_ ?_]
  · rw [z7c]; simp only [Bool.not_not]
  · intro i hi
    obtain ⟨t1, t2, t3⟩ := zid hT hi
    obtain ⟨j, j1, j2, j3⟩ := zt5 hp hi
    obtain ⟨u1, u2, u3⟩ := zid hT j1
    simp only [z2y]
    rw [if_pos (by omega), t1, Option.bind_some, hpa, Option.bind_some, j2, Option.bind_some, u1, Option.bind_some, znk hd hn t2 hw, Option.bind_some, z1b (by omega), j3, u3]
    by_cases c : ((z2T d (h.tiles.getD i 0).toNat w.data.toList : Nat) : Int) = h.tiles.getD j 0
    · rw [if_pos c, decide_eq_true c, if_neg (by simp)]
    · rw [if_neg c, decide_eq_false c, if_pos (by simp)]
  · simp only [z2y]
    rw [if_neg (by omega)]
end
end Go.Proofs.Ytodliknibbafeaa
end
section
namespace Go.Proofs.Ytodliknibbafeaa
open Go
set_option maxRecDepth 100000
theorem zaZ {d : DFA} {m n : Nat} {h : Hol} : zx1 d m n h = true ↔ zhO n h.set = true ∧ h.words.length = h.perms.length ∧ (1 ≤ h.tiles.length ∧ h.tiles.length ≤ 32) ∧ h.tiles.all (zhO n) = true ∧ ∀ k, k < h.words.length → z7j m (h.words.getD k ByteArray.empty) ∧ z3S h.tiles.length (h.perms.getD k []) = true ∧ zd4 d h k = true := by
  unfold zx1
  simp only [Bool.and_eq_true, decide_eq_true_eq, List.all_eq_true, List.mem_range]
theorem z6E {d : DFA} {m n : Nat} {h : Hol} (hh : ¬ (zhO n h.set = true ∧ h.words.length = h.perms.length ∧ (1 ≤ h.tiles.length ∧ h.tiles.length ≤ 32) ∧ h.tiles.all (zhO n) = true ∧ ∀ k, k < h.words.length → z7j m (h.words.getD k ByteArray.empty) ∧ z3S h.tiles.length (h.perms.getD k []) = true ∧ zd4 d h k = true)) : zx1 d m n h = false := by
  cases e : zx1 d m n h with
  | false => rfl
  | true => exact absurd (zaZ.1 e) hh
theorem zvt {h : Hol} {k : Nat} (hk : k < h.words.length) : atI h.words (k : Int) = some (h.words.getD k ByteArray.empty) := by
  rw [z0L hk, List.getD, List.getElem?_eq_getElem hk, Option.getD_some]
theorem zxL {h : Hol} {k : Nat} (hk : k < h.perms.length) : atI h.perms (k : Int) = some (h.perms.getD k []) := by
  rw [z0L hk, List.getD, List.getElem?_eq_getElem hk, Option.getD_some]
section
variable {d : DFA} {m n : Nat} (hd : DfaOk d m n) (hn : n ≤ 12) {h : Hol} (hw : h.words.length < 2 ^ 61) (hp : h.perms.length < 2 ^ 61)
include hd hn hw hp
omit hw in
theorem zlh : z0K d h = some (zx1 d m n h) := by
  have h6 := hd.m6
  have h1 := hd.m1
  unfold z0K
  rw [ztV (ztW hd hn), zvv hd (by omega), Option.bind_some, if_pos rfl, hd.fin, if_neg (by omega), zle hn, Option.bind_some]
  cases hs : zhO n h.set with
  | false => rw [if_neg (by simp), z6E (fun e => by rw [hs] at e; exact absurd e.1 (by simp))]
  | true =>
    rw [if_pos rfl]
    by_cases c1 : (h.tiles.length : Int) < 1
    · rw [if_pos c1, z6E (fun e => by have := e.2.2.1.1; omega)]
    rw [if_neg c1]
    by_cases c2 : 32 < (h.tiles.length : Int)
    · rw [if_pos c2, z6E (fun e => by have := e.2.2.1.2; omega)]
    rw [if_neg c2]
    by_cases c3 : (h.words.length : Int) = (h.perms.length : Int)
    · rw [if_pos c3, zuR (by omega) (by omega), Option.bind_some]
      have hra := zf9 (z3S h.tiles.length) h.perms []
      cases hq : h.perms.all (z3S h.tiles.length) with
      | false =>
        rw [if_neg (by simp), z6E (fun e => ?_)]
        rw [hq] at hra
        have : ((List.range h.perms.length).all fun k => z3S h.tiles.length (h.perms.getD k [])) = true := List.all_eq_true.2 fun k hk => (e.2.2.2.2 k (by have := List.mem_range.1 hk; omega)).2.1
        rw [hra] at this; cases this
      | true =>
        have hpk : ∀ k, k < h.perms.length → z3S h.tiles.length (h.perms.getD k []) = true := fun k hk => by
          rw [hq] at hra
          exact List.all_eq_true.1 hra k (List.mem_range.2 hk)
        rw [if_pos rfl, z6w (b := z2g d h) (l := h.tiles) 0 (zhO n) (A := some false) (B := z0y (z1T d h) LFm 0) (by omega) ?_ ?_]
        · cases ht : h.tiles.all (zhO n) with
          | false => rw [if_neg (by simp), z6E (fun e => by rw [ht] at e; exact absurd e.2.2.2.1 (by simp))]
          | true =>
            rw [if_pos rfl, z4J (s := (0 : Int)) h.words.length (fun k => (k : Int)) (fun k => !(decide (z7j m (h.words.getD k ByteArray.empty)) && zd4 d h k)) (fun _ => some false) (x := some true) rfl (by simp only [LFm]; omega) ?_ ?_]
            · rw [z7c]
              simp only [Bool.not_not]
              cases ha : ((List.range h.words.length).all fun k => decide (z7j m (h.words.getD k ByteArray.empty)) && zd4 d h k) with
              | true =>
                rw [if_pos rfl]
                refine congrArg some (zaZ.2 ⟨hs, by omega, by omega, ht, fun k hk => ?_⟩).symm
                have := List.all_eq_true.1 ha k (List.mem_range.2 hk)
                rw [Bool.and_eq_true, decide_eq_true_eq] at this
                exact ⟨this.1, hpk k (by omega), this.2⟩
              | false =>
                rw [if_neg (by simp), z6E (fun e => ?_)]
                have : ((List.range h.words.length).all fun k => decide (z7j m (h.words.getD k ByteArray.empty)) && zd4 d h k) = true := List.all_eq_true.2 fun k hk => by
                  have := e.2.2.2.2 k (List.mem_range.1 hk)
                  rw [Bool.and_eq_true, decide_eq_true_eq]; exact ⟨this.1, this.2.2⟩
                rw [ha] at this; cases this
            · intro k hk
              simp only [z1T]
              rw [if_pos (by omega), zvt hk, Option.bind_some, zfQ, hd.lt, zi9 ⟨h1, h6⟩, Option.bind_some]
              unfold zd4
              generalize h.words.getD k ByteArray.empty = w at *
              by_cases cw : z7j m w
              · have sb := zaw.1 hs
                rw [decide_eq_true cw, if_pos rfl, zuk hd hn cw.2 (by have := cw.1; omega), Option.bind_some]
                have es : h.set = ((h.set.toNat : Nat) : Int) := by omega
                have ea : z1E (toI (zp2 d n w.data.toList)) h.set = some ((z2T d h.set.toNat w.data.toList : Nat) : Int) := by
                  conv => lhs; rw [es]
                  exact zlz hd hn cw.2 sb.2
                rw [ea, Option.bind_some]
                by_cases c5 : ((z2T d h.set.toNat w.data.toList : Nat) : Int) = h.set
                · rw [if_pos c5, decide_eq_true c5, zqX hd hn ht (by omega) (by omega) (hpk k (by omega)) cw.2, z1b (by omega)]
                  cases ((List.range h.tiles.length).all fun i => decide (((z2T d (h.tiles.getD i 0).toNat w.data.toList : Nat) : Int) = h.tiles.getD ((h.perms.getD k []).getD i 0).toNat 0)) <;> simp
                · rw [if_neg c5, decide_eq_false c5, if_pos (by simp)]
              · rw [decide_eq_false cw, if_neg (by simp), if_pos (by simp)]
            · simp only [z1T]
              rw [if_neg (by omega)]
        · intro k hk
          have hg : h.tiles.getD k 0 = h.tiles[k] := by rw [List.getD, List.getElem?_eq_getElem hk, Option.getD_some]
          simp only [z2g]
          rw [if_pos (by omega), z0L hk, Option.bind_some, hd.fin, zle hn, Option.bind_some, hg, z1b (by omega)]
        · simp only [z2g]
          rw [if_neg (by omega)]
    · rw [if_neg c3, z6E (fun e => c3 (by have := e.2.1; omega))]
omit hw in
theorem zt2 : z1k d h = some (zx1 d m n h) := by
  have h6 := hd.m6
  have h1 := hd.m1
  unfold z1k
  rw [zvT (ztW hd hn), zvI hd hn, Option.bind_some, if_pos rfl, zp3 hd hn, Option.bind_some]
  have hse : decide (0 ≤ h.set ∧ h.set < ((2 ^ n : Nat) : Int)) = zhO n h.set := rfl
  rw [hse]
  cases hs : zhO n h.set with
  | false => rw [if_neg (by simp), z6E (fun e => by rw [hs] at e; exact absurd e.1 (by simp))]
  | true =>
    rw [if_pos rfl]
    by_cases c3 : (h.words.length : Int) = (h.perms.length : Int)
    · rw [if_pos c3]
      by_cases c1 : (h.tiles.length : Int) < 1
      · rw [if_pos c1, z6E (fun e => by have := e.2.2.1.1; omega)]
      rw [if_neg c1]
      by_cases c2 : 32 < (h.tiles.length : Int)
      · rw [if_pos c2, z6E (fun e => by have := e.2.2.1.2; omega)]
      rw [if_neg c2, z6w (b := z2X d h) (l := h.tiles) 0 (zhO n) (A := some false) (B := z0y (z2z d h) LFm 0) (by omega) ?_ ?_]
      · cases ht : h.tiles.all (zhO n) with
        | false => rw [if_neg (by simp), z6E (fun e => by rw [ht] at e; exact absurd e.2.2.2.1 (by simp))]
        | true =>
          rw [if_pos rfl, z4J (s := (0 : Int)) h.words.length (fun k => (k : Int)) (fun k => !(decide (z7j m (h.words.getD k ByteArray.empty)) && (z3S h.tiles.length (h.perms.getD k []) && zd4 d h k))) (fun _ => some false) (x := some true) rfl (by simp only [LFm]; omega) ?_ ?_]
          · rw [z7c]
            simp only [Bool.not_not]
            cases ha : ((List.range h.words.length).all fun k => decide (z7j m (h.words.getD k ByteArray.empty)) && (z3S h.tiles.length (h.perms.getD k []) && zd4 d h k)) with
            | true =>
              rw [if_pos rfl]
              refine congrArg some (zaZ.2 ⟨hs, by omega, by omega, ht, fun k hk => ?_⟩).symm
              have := List.all_eq_true.1 ha k (List.mem_range.2 hk)
              rw [Bool.and_eq_true, Bool.and_eq_true, decide_eq_true_eq] at this
              exact ⟨this.1, this.2.1, this.2.2⟩
            | false =>
              rw [if_neg (by simp), z6E (fun e => ?_)]
              have : ((List.range h.words.length).all fun k => decide (z7j m (h.words.getD k ByteArray.empty)) && (z3S h.tiles.length (h.perms.getD k []) && zd4 d h k)) = true := List.all_eq_true.2 fun k hk => by
                have := e.2.2.2.2 k (List.mem_range.1 hk)
                rw [Bool.and_eq_true, Bool.and_eq_true, decide_eq_true_eq]; exact ⟨this.1, this.2.1, this.2.2⟩
              rw [ha] at this; cases this
          · intro k hk
            simp only [z2z]
            rw [if_pos (by omega), zvt hk, Option.bind_some, hd.lt, zi9 ⟨h1, h6⟩, Option.bind_some, zxL (by omega), Option.bind_some]
            have ht15 := fun hpp cw => zsZ hd hn ht (by omega) (k := k) (by omega) hpp (w := h.words.getD k ByteArray.empty) cw
            unfold zd4
            generalize h.words.getD k ByteArray.empty = w at *
            by_cases cw : z7j m w
            · have sb := zaw.1 hs
              rw [decide_eq_true cw, if_pos rfl]
              by_cases cl : ((h.perms.getD k []).length : Int) = (h.tiles.length : Int)
              · have cl' : (h.perms.getD k []).length = h.tiles.length := by omega
                rw [if_pos cl, ztt (by omega) (by omega), Option.bind_some, cl']
                cases hpp : z3S h.tiles.length (h.perms.getD k []) with
                | false => rw [if_neg (by simp), if_pos (by simp)]
                | true =>
                  have es : h.set = ((h.set.toNat : Nat) : Int) := by omega
                  have ea : z3q d h.set w = some ((z2T d h.set.toNat w.data.toList : Nat) : Int) := by
                    conv => lhs; rw [es]
                    exact znk hd hn sb.2 cw
                  rw [if_pos rfl, ea, Option.bind_some]
                  by_cases c5 : ((z2T d h.set.toNat w.data.toList : Nat) : Int) = h.set
                  · rw [if_pos c5, decide_eq_true c5, ht15 hpp cw, z1b (by omega)]
                    cases ((List.range h.tiles.length).all fun i => decide (((z2T d (h.tiles.getD i 0).toNat w.data.toList : Nat) : Int) = h.tiles.getD ((h.perms.getD k []).getD i 0).toNat 0)) <;> simp
                  · rw [if_neg c5, decide_eq_false c5, if_pos (by simp)]
              · have : z3S h.tiles.length (h.perms.getD k []) = false := by
                  unfold z3S; rw [decide_eq_false (fun e => cl (by omega))]; rfl
                rw [if_neg cl, this, if_pos (by simp)]
            · rw [decide_eq_false cw, if_neg (by simp), if_pos (by simp)]
          · simp only [z2z]
            rw [if_neg (by omega)]
      · intro k hk
        have hg : h.tiles.getD k 0 = h.tiles[k] := by rw [List.getD, List.getElem?_eq_getElem hk, Option.getD_some]
        have hse2 : decide (0 ≤ h.tiles[k] ∧ h.tiles[k] < ((2 ^ n : Nat) : Int)) = zhO n h.tiles[k] := rfl
        simp only [z2X]
        rw [if_pos (by omega), z0L hk, Option.bind_some, zp3 hd hn, Option.bind_some, hg, hse2, z1b (by omega)]
      · simp only [z2X]
        rw [if_neg (by omega)]
    · rw [if_neg c3, z6E (fun e => c3 (by have := e.2.1; omega))]
end
end Go.Proofs.Ytodliknibbafeaa
end
section
namespace Go.Proofs.Ytodliknibbafeaa
open Go
set_option maxRecDepth 100000
def zyy (a : Nat) : ByteArray := ⟨#[UInt8.ofNat (IntKind.u8.wrap (IntKind.i64.wrap (97 + (a : Int)))).toNat]⟩
def zqU (W : List ByteArray) (w : ByteArray) : Nat → Option (List Int)
  | 0 => some []
  | a + 1 => match zqU W w a with
    | none => none
    | some row => if z7l w (zyy a) then (match z0y (z1L W (a : Int) row) LFm (w ++ zyy a, -1) with
      | some (.inl (x, r)) => if x = ((a + 1 : Nat) : Int) then some r else none
      | _ => none) else none
def zxp (m L : Nat) : Bool := match z3U m L with
  | none => false
  | some W => decide (1 ≤ W.length) && decide (W.length ≤ 7) && W.all fun w => match zqU W w m with
    | none => false
    | some r => decide (r.length = m) && r.all fun x => decide (0 ≤ x ∧ x < (W.length : Int))
theorem zx2 : zxp 1 1 = true ∧ zxp 1 2 = true ∧ zxp 2 1 = true ∧ zxp 2 2 = true := ⟨by kernel_rfl, by kernel_rfl, by kernel_rfl, by kernel_rfl⟩
theorem zyo {m : Nat} {W : List ByteArray} {i : Int} {fs : List Bool} {rs : List (List Int)} {w : ByteArray} {v : Int × Tape} {r : List Int} (hm : m ≤ 6) (h : zqU W w m = some r) :
    z0y (z1v (m : Int) W i fs rs w v) LFm (0, []) = chk (z0T 24 (rs.length + 1)) (z0q (IntKind.i64.wrap (i + 1), v.2.l, v.2.at_, fs ++ [decide (v.1 = 1)], rs ++ [r])) := by
  have key : ∀ a, a ≤ m → ∃ r', zqU W w a = some r' := by
    have : ∀ j a, a + j = m → ∃ r', zqU W w a = some r' := by
      intro j
      induction j with
      | zero => intro a ha; obtain rfl : a = m := by omega
                exact ⟨r, h⟩
      | succ j ih =>
        intro a ha
        obtain ⟨r', hr'⟩ := ih (a + 1) (by omega)
        rw [zqU] at hr'
        split at hr'
        · cases hr'
        · rename_i row hrow; exact ⟨row, hrow⟩
    intro a ha
    exact this (m - a) a (by omega)
  refine z0N (s := ((0 : Int), ([] : List Int))) m (fun a => ((a : Int), (zqU W w a).getD [])) rfl (by simp only [LFm]; omega) (fun a ha => ?_) ?_
  · obtain ⟨r1, h1⟩ := key a (by omega)
    obtain ⟨r2, h2⟩ := key (a + 1) (by omega)
    rw [h1, h2, Option.getD_some, Option.getD_some]
    rw [zqU, h1] at h2
    simp only [z1v]
    rw [if_pos (by omega)]
    dsimp only at h2
    split at h2
    case isFalse => cases h2
    rename_i hc
    change chk (z7l w (zyy a)) (z0y (z1L W (a : Int) r1) LFm (w ++ zyy a, -1)) = _
    rw [z0B _ hc]
    split at h2
    · rename_i x q hq
      split at h2
      · rename_i hx
        cases h2
        rw [← hx]
        exact hq
      · cases h2
    · cases h2
  · simp only [z1v]
    rw [if_neg (by omega), h, Option.getD_some]
end Go.Proofs.Ytodliknibbafeaa
end
section
namespace Go.Proofs.Ytodliknibbafeaa
open Go
set_option maxRecDepth 100000
def defT : List (List Int) := [[1, 2], [3, 4], [5, 6], [3, 4], [5, 6], [3, 4], [5, 6]]
theorem zCQ (l s : Int) (f : List Bool) : (z2S ⟨l, s, f, defT⟩ 2 7).length = 10 := by kernel_rfl
def zxg (m L : Nat) : Bool := match z3U m L with
  | none => true
  | some W => decide (W.length ≤ 5) || (decide (W.length = 7) && decide (m = 2) && decide ((W.map fun w => zqU W w m) = defT.map some))
theorem zxz : zxg 1 1 = true ∧ zxg 1 2 = true ∧ zxg 2 1 = true ∧ zxg 2 2 = true := ⟨by kernel_rfl, by kernel_rfl, by kernel_rfl, by kernel_rfl⟩
theorem zsx (m L : Nat) : match z3U m L with
  | none => True
  | some W => 1 ≤ m ∧ m ≤ 2 → 1 ≤ L ∧ L ≤ 2 → W.length ≤ 5 ∨ (W.length = 7 ∧ m = 2 ∧ (W.map fun w => zqU W w m) = defT.map some) := by
  cases hW : z3U m L with
  | none => trivial
  | some W =>
    intro hm hL
    have h : zxg m L = true := by
      obtain ⟨c1, c2, c3, c4⟩ := zxz
      rcases (by omega : (m = 1 ∧ L = 1) ∨ (m = 1 ∧ L = 2) ∨ (m = 2 ∧ L = 1) ∨ (m = 2 ∧ L = 2)) with ⟨rfl, rfl⟩ | ⟨rfl, rfl⟩ | ⟨rfl, rfl⟩ | ⟨rfl, rfl⟩
      · exact c1
      · exact c2
      · exact c3
      · exact c4
    unfold zxg at h
    rw [hW] at h
    simpa [and_assoc] using h
theorem znX {d : DFA} {m n : Nat} (hd : DfaOk d m n) (hn : n ≤ 5) : (z2S d m n).length ≤ 32 := by
  have hS := zcz hd
  have := z0Q hS.nd hS.lt
  have h32 : 2 ^ n ≤ 32 := Nat.pow_le_pow_right (n := 2) (by omega) hn
  omega
theorem zls {t : Tape} (ht : TapeOk t) (m : Nat) (hm : 1 ≤ m ∧ m ≤ 2) : ∃ d t' n, z1R t m = some (d, t') ∧ DfaOk d m n ∧ n ≤ 7 ∧ TapeOk t' ∧ (n ≤ 5 ∨ (n = 7 ∧ m = 2 ∧ d.next = defT)) := by
  unfold z1R
  obtain ⟨v, t1, e1, v0, v1, ht1⟩ := z3C ht 2 (by omega) (by omega)
  simp only [e1, Option.bind_some]
  obtain ⟨k, rfl⟩ := Int.eq_ofNat_of_zero_le v0
  have hw : IntKind.i64.wrap (1 + (k : Int)) = ((k + 1 : Nat) : Int) := by rw [z2U (by omega) (by omega)]; omega
  rw [hw]
  have hchk : zxp m (k + 1) = true := by
    obtain ⟨c1, c2, c3, c4⟩ := zx2
    rcases (by omega : (m = 1 ∧ k = 0) ∨ (m = 1 ∧ k = 1) ∨ (m = 2 ∧ k = 0) ∨ (m = 2 ∧ k = 1)) with ⟨rfl, rfl⟩ | ⟨rfl, rfl⟩ | ⟨rfl, rfl⟩ | ⟨rfl, rfl⟩
    · exact c1
    · exact c2
    · exact c3
    · exact c4
  have hsmall := zsx m (k + 1)
  have htab : m = 2 ∧ k = 1 ∨ ¬ (m = 2 ∧ k = 1) := Decidable.em _
  unfold zxp at hchk
  split at hchk
  · cases hchk
  rename_i W hW
  simp only [Bool.and_eq_true, decide_eq_true_eq, List.all_eq_true] at hchk
  obtain ⟨⟨hW1, hW7⟩, hrow⟩ := hchk
  rw [hW, Option.bind_some]
  have hfin : ∀ nx : List (List Int), nx.map some = (W.map fun w => zqU W w m) → W.length ≤ 5 ∨ (W.length = 7 ∧ m = 2 ∧ nx = defT) := fun nx hnx => by
    rw [hW] at hsmall
    rcases hsmall hm (by omega) with h | ⟨h1, h2, h3⟩
    · exact .inl h
    · refine .inr ⟨h1, h2, ?_⟩
      rw [h3] at hnx
      have := congrArg (fun l => l.map (fun o : Option (List Int) => o.getD [])) hnx
      simpa [Function.comp_def] using this
  refine Exists.elim (z1q (b := z1Q (m : Int) W) (fun z => 0 ≤ z.1 ∧ z.1 ≤ W.length ∧ TapeOk ⟨z.2.1, z.2.2.1⟩ ∧ (z.2.2.2.1.length : Int) = z.1 ∧ (z.2.2.2.2.length : Int) = z.1 ∧ (∀ r ∈ z.2.2.2.2, z6G m W.length r) ∧ z.2.2.2.2.map some = (W.take z.1.toNat).map fun w => zqU W w m) (fun z => W.length + 1 - z.1.toNat)
    (fun r => DfaOk r.1 m W.length ∧ TapeOk r.2 ∧ r.1.next.map some = W.map fun w => zqU W w m) ?_ LFm (0, t1.l, t1.at_, [], []) ⟨by simp, by simp, ht1, by simp, by simp, by simp, by simp⟩ (by simp only [LFm]; omega)) fun r h => ⟨r.1, r.2, W.length, h.1, h.2.1, hW7, h.2.2.1, hfin r.1.next h.2.2.2⟩
  rintro ⟨i, tl, ta, fs, rs⟩ ⟨i0, i1, i2, i3, i4, i5, i6⟩
  simp only at i0 i1 i2 i3 i4 i5 i6 ⊢
  obtain ⟨i, rfl⟩ := Int.eq_ofNat_of_zero_le i0
  simp only [z1Q]
  by_cases hi : (i : Int) < (W.length : Int)
  · left
    have hi' : i < W.length := by omega
    rw [if_pos hi, z0L hi', Option.bind_some]
    obtain ⟨u, t3, e3, u0, u1, ht3⟩ := z3C i2 2 (by omega) (by omega)
    rw [e3, Option.bind_some, z0B _ (by unfold z0T; omega)]
    have hr := hrow _ (List.getElem_mem hi')
    split at hr
    · cases hr
    rename_i r hr0
    simp only [Bool.and_eq_true, decide_eq_true_eq, List.all_eq_true] at hr
    rw [zyo (by omega) hr0, z0B _ (by unfold z0T; omega), z2U (by omega) (by omega)]
    refine ⟨_, rfl, ⟨by simp only; omega, by simp only; omega, ht3, by simp only [List.length_append, List.length_singleton]; omega, by simp only [List.length_append, List.length_singleton]; omega, fun y hy => ?_, ?_⟩, by simp only; omega⟩
    rotate_left
    · rw [Int.toNat_natCast] at i6
      have e : ((i : Int) + 1).toNat = i + 1 := by omega
      rw [e, List.map_append, i6, List.take_succ_eq_append_getElem hi', List.map_append, List.map_cons, List.map_nil, List.map_cons, List.map_nil, hr0]
    rcases zaI.1 hy with h | rfl
    · exact i5 y h
    · exact ⟨hr.1, fun x hx => hr.2 x hx⟩
  · right
    rw [if_neg hi]
    exact ⟨_, rfl, ⟨rfl, by omega, by omega, by omega, by simp only; omega, by simp only; omega, by simp only; omega, by simp only; omega, i5⟩, i2, by rw [i6, show (i : Int).toNat = W.length by omega, List.take_length]⟩
theorem zxa {t : Tape} (ht : TapeOk t) (m most : Nat) (hm : 1 ≤ m ∧ m ≤ 2) (hk : 1 ≤ most ∧ most ≤ 5) : ∃ d t' n, z2N t m most = some (d, t') ∧ DfaOk d m n ∧ n ≤ 7 ∧ TapeOk t' ∧ (z2S d m n).length ≤ 32 := by
  unfold z2N
  obtain ⟨v, t1, e1, v0, v1, ht1⟩ := z3C ht 6 (by omega) (by omega)
  simp only [e1, Option.bind_some]
  split
  · obtain ⟨d, t', n, e, h1, h2, h3⟩ := zr4 ht1 m most (by omega) (by omega)
    exact ⟨d, t', n, by rw [e, Option.bind_some], h1, by omega, h3, znX h1 (by omega)⟩
  · split
    · have : (if (4 : Int) < (most : Int) then (4 : Int) else (most : Int)) = ((min most 4 : Nat) : Int) := by split <;> omega
      rw [this]
      obtain ⟨d, t', n, e, h1, h2, h3⟩ := zuQ ht1 m (min most 4) (by omega) (by omega)
      exact ⟨d, t', n, by rw [e, Option.bind_some], h1, by omega, h3, znX h1 (by omega)⟩
    · split
      · obtain ⟨d, t', n, e, h1, h2, h3, h4⟩ := zls ht1 m hm
        refine ⟨d, t', n, by rw [e, Option.bind_some], h1, h2, h3, ?_⟩
        rcases h4 with h4 | ⟨rfl, rfl, h4⟩
        · exact znX h1 h4
        · obtain ⟨l, s, f, nx⟩ := d
          simp only at h4
          subst h4
          rw [zCQ]; omega
      · obtain ⟨d, t', n, e, h1, h2, h3⟩ := zvQ ht1 m most (by omega) (by omega)
        exact ⟨d, t', n, by rw [e, Option.bind_some], h1, by omega, h3, znX h1 (by omega)⟩
end Go.Proofs.Ytodliknibbafeaa
end
section
namespace Go.Proofs.Ytodliknibbafeaa
open Go
set_option maxRecDepth 100000
theorem zvf (a : List (List Int)) (h : a.length ≤ 1000) (hr : ∀ x ∈ a, x.length ≤ 1000) : z6v a = some a := by
  unfold z6v
  refine z0N (s := ((0 : Int), ([] : List (List Int)))) a.length (fun k => ((k : Int), a.take k)) rfl (by simp only [LFm]; omega) (fun k hk => ?_) ?_
  · have h1 := hr _ (List.getElem_mem hk)
    have h2 : (a.take k).length ≤ k := by rw [List.length_take]; omega
    simp only [z4Y]
    rw [if_pos (by omega), z0L hk, Option.bind_some, z0B _ (by unfold z0T; omega), z0B _ (by unfold z0T; omega), z1b (by omega), List.take_succ_eq_append_getElem hk]
  · simp only [z4Y]
    rw [if_neg (by omega), List.take_length]
structure HolOk (m n : Nat) (h : Hol) : Prop where
  t1 : 1 ≤ h.tiles.length
  t2 : h.tiles.length ≤ 32
  wp : h.words.length = h.perms.length
  wl : h.words.length ≤ 1000
  wb : ∀ w ∈ h.words, w.size ≤ 257
  pl : ∀ p ∈ h.perms, p.length = h.tiles.length
section
variable {d : DFA} {m n : Nat} {S : List Nat} (hd : DfaOk d m n) (hn : n ≤ 7) (hS : SetsP d m n S)
include hd hn hS
theorem ztB {c : Nat} (hc : c < (zrs d m n S).length) (hz : szN (S.getD (z2n d m n S c) 0) ≠ 1) (hpos : ∀ x ∈ S, x ≠ 0) (h32 : S.length ≤ 32) : HolOk m n (zfW d m n S c) ∧ zx1 d m n (zfW d m n S c) = true := by
  have h128 : 2 ^ n ≤ 128 := Nat.pow_le_pow_right (n := 2) (by omega) hn
  have h6 := hd.m6
  have hk := (z6D hd hn hS hc).2
  have hI := zui hd hn hS (c := c) S.length (Nat.le_refl _)
  obtain ⟨t1, t2⟩ := zat hd hn hS hk
  have tl32 : (z3u S (z2n d m n S c)).length ≤ S.length := z7L t1 fun t ht => (t2 t ht).1
  have hkl := hS.lt _ (z0x hk)
  have tpos : 1 ≤ (z3u S (z2n d m n S c)).length := by
    have hne := hpos _ (z0x hk)
    obtain ⟨q, hq⟩ : ∃ q, (S.getD (z2n d m n S c) 0).testBit q = true := by
      refine Classical.byContradiction fun h => hne (Nat.eq_of_testBit_eq fun q => ?_)
      rw [Nat.zero_testBit]
      cases hh : (S.getD (z2n d m n S c) 0).testBit q with
      | false => rfl
      | true => exact absurd ⟨q, hh⟩ h
    obtain ⟨t, ht, _⟩ := zsw hd hn hS hk hz hq
    have := List.length_pos_of_mem ht
    rw [zst]; omega
  have hB : S.length * m ≤ 32 * 6 := Nat.mul_le_mul h32 h6
  have hbd := hI.bd
  have hln := hI.len
  have htI : (toI (z3u S (z2n d m n S c))).length = (z3u S (z2n d m n S c)).length := z0s _
  refine ⟨⟨by simp only [zfW]; omega, by simp only [zfW]; omega, by simp only [zfW, List.length_map]; omega, by simp only [zfW]; omega, fun w hw => ?_, fun p hp => ?_⟩, zaZ.2 ⟨?_, by simp only [zfW, List.length_map]; omega, by simp only [zfW]; omega, ?_, fun j hj => ?_⟩⟩
  · simp only [zfW] at hw
    obtain ⟨j, hj, rfl⟩ := List.getElem_of_mem hw
    obtain ⟨_, e, _⟩ := zlf hI hj
    rw [List.getD, List.getElem?_eq_getElem hj, Option.getD_some] at e
    omega
  · simp only [zfW] at hp ⊢
    obtain ⟨y, hy, rfl⟩ := List.mem_map.1 hp
    rw [z0s, z0s, zoq hI y hy]
  · simp only [zfW]; exact zaw.2 ⟨by omega, by rw [Int.toNat_natCast]; exact hkl⟩
  · simp only [zfW]
    refine List.all_eq_true.2 fun x hx => ?_
    obtain ⟨t, ht, rfl⟩ := List.mem_map.1 hx
    exact zaw.2 ⟨by omega, by rw [Int.toNat_natCast]; exact (t2 t ht).2.2⟩
  · simp only [zfW] at hj ⊢
    obtain ⟨l1, l2, l3⟩ := zlf hI hj
    have hj2 : j < (zi7 d m n S (z3u S (z2n d m n S c)) c S.length).2.length := by omega
    have ep : ((zi7 d m n S (z3u S (z2n d m n S c)) c S.length).2.map toI).getD j [] = toI ((zi7 d m n S (z3u S (z2n d m n S c)) c S.length).2.getD j []) := by
      simp [List.getD, hj2]
    rw [l3] at ep
    obtain ⟨p1, p2, p3⟩ := zr1 hd hn hS hk l1
    generalize hw : (zi7 d m n S (z3u S (z2n d m n S c)) c S.length).1.getD j ByteArray.empty = w at *
    refine ⟨⟨by omega, l1.hw⟩, ?_, ?_⟩
    · rw [ep, htI]
      refine zim.2 ⟨by rw [z0s, zaH], fun x hx => ?_, ?_⟩
      · obtain ⟨y, hy, rfl⟩ := List.mem_map.1 hx
        have := p2 y hy
        omega
      · exact List.Pairwise.map _ (fun a b (hab : a ≠ b) => by intro e; exact hab (by omega)) p1
    · unfold zd4
      simp only [zfW]
      rw [hw, ep, htI, Bool.and_eq_true, decide_eq_true_eq, Int.toNat_natCast]
      refine ⟨by rw [l1.run], List.all_eq_true.2 fun i hi => ?_⟩
      have hi := List.mem_range.1 hi
      have hpi : i < (z5s d w.data.toList (z3u S (z2n d m n S c))).length := by rw [zaH]; exact hi
      have g1 : (toI (z3u S (z2n d m n S c))).getD i 0 = (((z3u S (z2n d m n S c)).getD i 0 : Nat) : Int) := by simp [toI, List.getD, hi]
      have g2 : (toI (z5s d w.data.toList (z3u S (z2n d m n S c)))).getD i 0 = (((z5s d w.data.toList (z3u S (z2n d m n S c))).getD i 0 : Nat) : Int) := by simp [toI, List.getD, hpi]
      have hlt := p2 _ (z0x hpi)
      have g3 : (toI (z3u S (z2n d m n S c))).getD ((z5s d w.data.toList (z3u S (z2n d m n S c))).getD i 0) 0 = (((z3u S (z2n d m n S c)).getD ((z5s d w.data.toList (z3u S (z2n d m n S c))).getD i 0) 0 : Nat) : Int) := by
        generalize (z5s d w.data.toList (z3u S (z2n d m n S c))).getD i 0 = q at *
        simp [toI, List.getD, hlt]
      rw [g1, g2, Int.toNat_natCast, Int.toNat_natCast, g3, p3 i hi, decide_eq_true_eq]
end
end Go.Proofs.Ytodliknibbafeaa
end
section
namespace Go.Proofs.Ytodliknibbafeaa
def Mo (C0 C1 : z0o) : Prop := ∀ f a o, C0 f a = some o → C1 f a = some o
section
variable {P : Program} {C0 C1 : z0o}
theorem zdl (hMo : Mo C0 C1) {wio : FuncId → Nat → Bool} {fr fr' : Fr} {f : FuncId} {args : List E} {dst : Option Nat} (h : zb1 C0 wio fr f args dst = some fr') : Ev fun m => zb1 C1 wio fr f args dst = some fr' := by
  unfold zb1 at h ⊢
  split at h
  · cases h
  · rename_i ts deps io ha
    split at h
    · cases h
    · rename_i r outs hc
      refine ⟨0, fun m _ => ?_⟩
      show (match C1 f ts with | none => none | some (r, outs) => _) = _
      rw [hMo _ _ _ hc]
      exact h
theorem ztb (hMo : Mo C0 C1) {wio : FuncId → Nat → Bool} {fr fr' : Fr} {o : Oper} (h : opF P C0 wio fr o = some fr') : Ev fun m => opF P C1 wio fr o = some fr' := by
  unfold opF at h ⊢
  split at h
  · exact .pure fun _ => h
  · split at h
    · exact zdl hMo h
    · cases h
  · exact .pure fun _ => h
  · exact .pure fun _ => h
theorem zoO (hMo : Mo C0 C1) {wio : FuncId → Nat → Bool} {fr fr' : Fr} {o : Oper} (h : z8T P C0 wio fr o = some fr') : Ev fun m => z8T P C1 wio fr o = some fr' := by
  unfold z8T at h ⊢
  split at h
  · split at h
    · split at h
      · exact zdl hMo h
      · cases h
    · cases h
  · exact .pure fun _ => h
theorem zvu (hMo : Mo C0 C1) {wio : FuncId → Nat → Bool} {M : Nat → Bool} {fr fr' : Fr} {o : Oper} (h : wrF P C0 wio M fr o = some fr') : Ev fun m => wrF P C1 wio M fr o = some fr' := by
  unfold wrF at h ⊢
  split at h
  · split at h
    · cases h
    · split at h
      · exact zdl hMo h
      · split at h
        · rename_i hM
          simp only [hM, if_true]
          exact zdl hMo h
        · cases h
      · cases h
  · exact .pure fun _ => h
  · exact .pure fun _ => h
  · exact .pure fun _ => h
  · cases h
theorem zmF (hMo : Mo C0 C1) {wio : FuncId → Nat → Bool} {ops : Array Oper} : ∀ {l : List Oper} {fr fr' : Fr}, zmG P C0 wio ops l fr = some fr' → Ev fun m => zmG P C1 wio ops l fr = some fr'
  | [], fr, fr', h => .pure fun _ => h
  | o :: rest, fr, fr', h => by
    simp only [zmG] at h ⊢
    split at h
    · cases h
    · split at h
      · rename_i fr1 h1
        exact (ztb hMo h1).both (zmF hMo h) fun m a1 a2 => by rw [a1]; exact a2
      · cases h
    · split at h
      · rename_i fr1 h1
        exact (zmF hMo h)
      · cases h
theorem zdh (hMo : Mo C0 C1) {wio : FuncId → Nat → Bool} {same : Bool} {M : Nat → Bool} {ops : Array Oper} : ∀ {l : List (Nat × Oper × Nat)} {fr fr' : Fr}, z7R P C0 wio same M ops l fr = some fr' → Ev fun m => z7R P C1 wio same M ops l fr = some fr'
  | [], fr, fr', h => .pure fun _ => h
  | (k, o, mk) :: rest, fr, fr', h => by
    simp only [z7R] at h ⊢
    split at h
    · cases h
    · split at h
      · exact zdh hMo h
      · cases h
    · split at h
      · rename_i hm
        simp only [if_pos hm]
        split at h
        · split at h
          · exact zdh hMo h
          · cases h
        · cases h
      · rename_i hm
        simp only [if_neg hm]
        split at h
        · rename_i fr1 h1
          have h2 : Ev fun m => (if mk = 2 then opF P C1 wio fr o else if same = true then z8T P C1 wio fr o else wrF P C1 wio M fr o) = some fr1 := by
            by_cases e : mk = 2
            · simp only [if_pos e] at h1 ⊢; exact ztb hMo h1
            · simp only [if_neg e] at h1 ⊢
              by_cases e2 : same = true
              · simp only [if_pos e2] at h1 ⊢; exact zoO hMo h1
              · simp only [if_neg e2] at h1 ⊢; exact zvu hMo h1
          exact h2.both (zdh hMo h) fun m a1 a2 => by rw [a1]; exact a2
        · cases h
theorem z8N (hMo : Mo C0 C1) {wio : FuncId → Nat → Bool} {same : Bool} {M : Nat → Bool} {ops : Array Oper} : ∀ {l : SchT} {fr fr' : Fr}, z3I P C0 wio same M ops l fr = some fr' → Ev fun m => z3I P C1 wio same M ops l fr = some fr'
  | .nil, fr, fr', h => .pure fun _ => h
  | .alt x y, fr, fr', h => by
    simp only [z3I] at h ⊢
    split at h
    · rename_i f1 f2 h1 h2
      obtain ⟨rfl, hs⟩ := zcG h
      exact (z8N hMo h1).both (z8N hMo h2) fun m a1 a2 => by rw [a1, a2]; exact zdc hs
    · cases h
  | .op k mk rest, fr, fr', h => by
    simp only [z3I] at h ⊢
    split at h
    · cases h
    rename_i o ho
    try simp only [ho]
    split at h
    · cases h
    · split at h
      · exact z8N hMo h
      · cases h
    · split at h
      · rename_i hm
        simp only [if_pos hm]
        split at h
        · split at h
          · exact z8N hMo h
          · cases h
        · cases h
      · rename_i hm
        simp only [if_neg hm]
        split at h
        · rename_i fr1 h1
          have h2 : Ev fun m => (if mk = 2 then opF P C1 wio fr o else if same = true then z8T P C1 wio fr o else wrF P C1 wio M fr o) = some fr1 := by
            by_cases e : mk = 2
            · simp only [if_pos e] at h1 ⊢; exact ztb hMo h1
            · simp only [if_neg e] at h1 ⊢
              by_cases e2 : same = true
              · simp only [if_pos e2] at h1 ⊢; exact zoO hMo h1
              · simp only [if_neg e2] at h1 ⊢; exact zvu hMo h1
          exact h2.both (z8N hMo h) fun m a1 a2 => by rw [a1]; exact a2
        · cases h
theorem zrx (hMo : Mo C0 C1) {c : Cfg} {id : Nat} {ops : Array Oper} {fr fr' : Fr} (h : z6c P C0 c id ops fr = some fr') : Ev fun m => z6c P C1 c id ops fr = some fr' := by
  unfold z6c at h ⊢
  split at h
  · exact z8N hMo h
  · split at h
    · exact zdh hMo h
    · cases h
theorem zom (hMo : Mo C0 C1) {B : z0o → Fr → Option (X × Fr)} {cn : Fr → Fr} (hB : ∀ fr o, B C0 fr = some o → Ev fun m => B C1 fr = some o) : ∀ {n : Nat} {fr : Fr} {o : X × Fr}, zaR (B C0) cn n fr = some o → Ev fun m => zaR (B C1) cn n fr = some o
  | 0, fr, o, h => by cases h
  | n + 1, fr, o, h => by
    simp only [zaR] at h ⊢
    split at h
    · rename_i fr1 h1
      exact (hB _ _ h1).both (zom hMo hB h) fun m a1 a2 => by rw [a1]; exact a2
    · rename_i x fr1 hne h1
      refine (hB _ _ h1).imp fun m a1 => ?_
      rw [a1]
      cases x with
      | n => exact absurd rfl hne
      | x i => exact h
      | r => exact h
    · cases h
theorem zoM (hMo : Mo C0 C1) {c : Cfg} {LF : Nat} : ∀ (b : Code) {fr : Fr} {o : X × Fr}, z1y P C0 c LF b fr = some o → Ev fun m => z1y P C1 c LF b fr = some o := by
  intro b
  induction b with
  | skip => intro fr o h; exact .pure fun _ => h
  | label l => intro fr o h; exact .pure fun _ => h
  | exit id => intro fr o h; exact .pure fun _ => h
  | ret => intro fr o h; exact .pure fun _ => h
  | goto l => intro fr o h; cases h
  | scope c ih => intro fr o h; simp only [z1y] at h ⊢; exact ih h
  | refuse s => intro fr o h; cases h
  | rangeFunc => intro fr o h; cases h
  | region id ops draw =>
    intro fr o h
    simp only [z1y] at h ⊢
    split at h
    · rename_i hd
      simp only [hd, if_true]
      split at h
      · rename_i fr1 h1
        exact (zrx hMo h1).imp fun m a1 => by rw [a1]; exact h
      · cases h
    · rename_i hd
      simp only [hd, Bool.false_eq_true, if_false]
      split at h
      · rename_i fr1 h1
        exact (zmF hMo h1).imp fun m a1 => by rw [a1]; exact h
      · cases h
  | seq a b ih1 ih2 =>
    intro fr o h
    simp only [z1y] at h ⊢
    split at h
    · rename_i fr1 h1
      exact (ih1 h1).both (ih2 h) fun m a1 a2 => by rw [a1]; exact a2
    · rename_i hne
      refine (ih1 h).imp fun m a1 => ?_
      rw [a1]
      obtain ⟨x, fr1⟩ := o
      cases x with
      | n => exact absurd h (hne _)
      | x i => rfl
      | r => rfl
  | cond c x y ih1 ih2 =>
    intro fr o h
    simp only [z1y] at h ⊢
    split at h
    · exact ih1 h
    · exact ih2 h
    · cases h
  | block id c ih =>
    intro fr o h
    simp only [z1y] at h ⊢
    split at h
    · rename_i i fr1 h1
      exact (ih h1).imp fun m a1 => by rw [a1]; exact h
    · rename_i hne
      refine (ih h).imp fun m a1 => ?_
      rw [a1]
      obtain ⟨x, fr1⟩ := o
      cases x with
      | n => rfl
      | x i => exact absurd h (hne _ _)
      | r => rfl
  | loop b ih =>
    intro fr o h
    simp only [z1y] at h ⊢
    exact zom hMo (B := fun C fr => z1y P C c LF b fr) (fun fr o h => ih h) h
theorem zsT (hMo : Mo C0 C1) {c : Cfg} {LF : Nat} {fn : Func} {args : List T} {o : T × List T} (h : ziU P C0 c LF fn args = some o) : Ev fun m => ziU P C1 c LF fn args = some o := by
  unfold ziU at h ⊢
  split at h
  · rename_i hc
    simp only [if_pos hc]
    split at h
    · cases h
    · rename_i b hb
      split at h
      · rename_i fr h1
        exact (zoM hMo _ h1).imp fun m a1 => by rw [a1]; exact h
      · rename_i fr h1
        exact (zoM hMo _ h1).imp fun m a1 => by rw [a1]; exact h
      · cases h
  · cases h
end
theorem zoh {P : Program} {X : z0o} {cf : FuncId → Option Cfg} : ∀ n, Mo (z1N P X cf n) (z1N P X cf (n + 1))
  | 0 => fun f a o h => by
    simp only [z1N] at h ⊢
    split at h
    · cases h
    · rename_i hc
      first
        | exact h
        | (rw [hc]; exact h)
  | n + 1 => fun f a o h => by
    simp only [z1N] at h
    split at h
    · rename_i c hc
      split at h
      · rename_i fn hfn
        obtain ⟨k, hk⟩ := zsT (zoh n) h
        exact zl3 hc hfn (hk k (Nat.le_refl _))
      · cases h
    · rename_i hc
      simp only [z1N, hc]
      exact h
theorem zaN {P : Program} {X : z0o} {cf : FuncId → Option Cfg} (n : Nat) {f : FuncId} {a : List T} {o : T × List T} (h : z1N P X cf n f a = some o) : Lim P X cf f a = some o := by
  refine ztm (d := n) fun m hm => ?_
  obtain ⟨k, rfl⟩ := Nat.exists_eq_add_of_le hm
  clear hm
  induction k with
  | zero => exact h
  | succ k ih => exact zoh (n + k) f a o ih
def tab : List (FuncId × List T × T × List T) → z0o
  | [] => fun _ _ => none
  | (g, b, r, os) :: l => fun f a => if (Nat.beq g f && zoJ b a) = true then some (r, os) else tab l f a
theorem zvy {C : z0o} : ∀ {l : List (FuncId × List T × T × List T)}, (∀ x ∈ l, C x.1 x.2.1 = some x.2.2) → Mo (tab l) C
  | [], _ => fun f a o h => by cases h
  | (g, b, r, os) :: l, hl => fun f a o h => by
    simp only [tab] at h
    split at h
    · rename_i hc
      simp only [Bool.and_eq_true] at hc
      cases h
      have := hl _ (List.mem_cons_self ..)
      rw [← Nat.eq_of_beq_eq_true hc.1, ← z6b hc.2]
      exact this
    · exact zvy (fun x hx => hl x (List.mem_cons_of_mem _ hx)) f a o h
noncomputable def zl5 (P : Program) (X : z0o) (cf : FuncId → Option Cfg) (S : z0o) : Nat → z0o
  | 0 => S
  | n + 1 => fun f a => match S f a with
    | some o => some o
    | none => match cf f with
      | some c => (match P.funcs[f]? with | some fn => ziU P (zl5 P X cf S n) c LFm fn a | none => none)
      | none => X f a
theorem zl4 {P : Program} {X : z0o} {cf : FuncId → Option Cfg} {S : z0o} (hS : Mo S (Lim P X cf)) : ∀ n, Mo (zl5 P X cf S n) (Lim P X cf)
  | 0 => hS
  | n + 1 => fun f a o h => by
    simp only [zl5] at h
    split at h
    · rename_i o' ho
      cases h
      exact hS f a o ho
    · split at h
      · rename_i c hc
        split at h
        · rename_i fn hfn
          obtain ⟨k, hk⟩ := zsT (zl4 hS n) h
          exact ztl hc hfn (hk k (Nat.le_refl _))
        · cases h
      · rename_i hc
        exact ztn hc h
theorem zwD {P : Program} {X : z0o} {cf : FuncId → Option Cfg} (l : List (FuncId × List T × T × List T)) (n : Nat) {f : FuncId} {a : List T} {o : T × List T} (h : zl5 P X cf (tab l) n f a = some o) (hl : ∀ x ∈ l, Lim P X cf x.1 x.2.1 = some x.2.2) : Lim P X cf f a = some o :=
  zl4 (zvy hl) n f a o h
end Go.Proofs.Ytodliknibbafeaa
end
section
namespace Go.Proofs.Ytodliknibbafeaa
open Go
set_option maxRecDepth 100000
def exT : T := .agg [.sc (.int .i64 2), .sc (.int .i64 0), .sl 3 [.sc (.bool true), .sc (.bool false), .sc (.bool false)], .sl 3 [.sl 2 [.sc (.int .i64 1), .sc (.int .i64 0)], .sl 2 [.sc (.int .i64 2), .sc (.int .i64 0)], .sl 2 [.sc (.int .i64 0), .sc (.int .i64 2)]]]
def zoH : List T := [.sc (.int .i64 7), .sc (.int .i64 3), .sc (.int .i64 5), .sc (.int .i64 6), .sc (.int .i64 1), .sc (.int .i64 2), .sc (.int .i64 4)]
def dgT : T := .agg [.sl 7 [.sc (.int .i64 7), .sc (.int .i64 3), .sc (.int .i64 5), .sc (.int .i64 6), .sc (.int .i64 1), .sc (.int .i64 2), .sc (.int .i64 4)], .sl 7 [.sl 2 [.sc (.int .i64 0), .sc (.int .i64 2)], .sl 2 [.sc (.int .i64 3), .sc (.int .i64 4)], .sl 2 [.sc (.int .i64 1), .sc (.int .i64 2)], .sl 2 [.sc (.int .i64 2), .sc (.int .i64 2)], .sl 2 [.sc (.int .i64 5), .sc (.int .i64 4)], .sl 2 [.sc (.int .i64 6), .sc (.int .i64 4)], .sl 2 [.sc (.int .i64 4), .sc (.int .i64 6)]], .sl 7 [.sl 7 [.sc (.bool true), .sc (.bool false), .sc (.bool false), .sc (.bool false), .sc (.bool false), .sc (.bool false), .sc (.bool false)], .sl 7 [.sc (.bool true), .sc (.bool true), .sc (.bool true), .sc (.bool true), .sc (.bool false), .sc (.bool false), .sc (.bool false)], .sl 7 [.sc (.bool true), .sc (.bool true), .sc (.bool true), .sc (.bool true), .sc (.bool false), .sc (.bool false), .sc (.bool false)], .sl 7 [.sc (.bool true), .sc (.bool true), .sc (.bool true), .sc (.bool true), .sc (.bool false), .sc (.bool false), .sc (.bool false)], .sl 7 [.sc (.bool true), .sc (.bool true), .sc (.bool true), .sc (.bool true), .sc (.bool true), .sc (.bool true), .sc (.bool true)], .sl 7 [.sc (.bool true), .sc (.bool true), .sc (.bool true), .sc (.bool true), .sc (.bool true), .sc (.bool true), .sc (.bool true)], .sl 7 [.sc (.bool true), .sc (.bool true), .sc (.bool true), .sc (.bool true), .sc (.bool true), .sc (.bool true), .sc (.bool true)]]]
theorem e36 : z1N Try.prog xt z1i 10 46 [exT] = some (.os 1 7 zoH, [.dead]) := by kernel_rfl
theorem e37 : z1N Try.prog xt z1i 10 47 [exT, .sl 7 zoH] = some (.agg [.sl 7 [.sc (.int .i64 7), .sc (.int .i64 3), .sc (.int .i64 5), .sc (.int .i64 6), .sc (.int .i64 1), .sc (.int .i64 2), .sc (.int .i64 4)], .os 1 7 [.os 1 2 [.sc (.int .i64 0), .sc (.int .i64 2)], .os 1 2 [.sc (.int .i64 3), .sc (.int .i64 4)], .os 1 2 [.sc (.int .i64 1), .sc (.int .i64 2)], .os 1 2 [.sc (.int .i64 2), .sc (.int .i64 2)], .os 1 2 [.sc (.int .i64 5), .sc (.int .i64 4)], .os 1 2 [.sc (.int .i64 6), .sc (.int .i64 4)], .os 1 2 [.sc (.int .i64 4), .sc (.int .i64 6)]], .os 1 7 [.os 1 7 [.sc (.bool true), .sc (.bool false), .sc (.bool false), .sc (.bool false), .sc (.bool false), .sc (.bool false), .sc (.bool false)], .os 1 7 [.sc (.bool true), .sc (.bool true), .sc (.bool true), .sc (.bool true), .sc (.bool false), .sc (.bool false), .sc (.bool false)], .os 1 7 [.sc (.bool true), .sc (.bool true), .sc (.bool true), .sc (.bool true), .sc (.bool false), .sc (.bool false), .sc (.bool false)], .os 1 7 [.sc (.bool true), .sc (.bool true), .sc (.bool true), .sc (.bool true), .sc (.bool false), .sc (.bool false), .sc (.bool false)], .os 1 7 [.sc (.bool true), .sc (.bool true), .sc (.bool true), .sc (.bool true), .sc (.bool true), .sc (.bool true), .sc (.bool true)], .os 1 7 [.sc (.bool true), .sc (.bool true), .sc (.bool true), .sc (.bool true), .sc (.bool true), .sc (.bool true), .sc (.bool true)], .os 1 7 [.sc (.bool true), .sc (.bool true), .sc (.bool true), .sc (.bool true), .sc (.bool true), .sc (.bool true), .sc (.bool true)]]], [.dead, .dead]) := by kernel_rfl
def sr0 : T := .tup [.os 1 7 [.sc (.int .i64 0), .sc (.int .i64 2), .sc (.int .i64 1), .sc (.int .i64 3), .sc (.int .i64 4), .sc (.int .i64 5), .sc (.int .i64 6)], .os 1 7 [.sc (.string ByteArray.empty), .sc (.string ⟨#[98, 97]⟩), .sc (.string ⟨#[98]⟩), .sc (.string ⟨#[98, 97, 97]⟩), .sc (.string ⟨#[98, 97, 98]⟩), .sc (.string ⟨#[98, 97, 98, 97]⟩), .sc (.string ⟨#[98, 97, 98, 97, 97]⟩)]]
theorem zzj : z1N Try.prog xt z1i 6 51 [dgT, .sc (.int .i64 0)] = some (sr0, [.dead, .dead]) := by kernel_rfl
def sr1 : T := .tup [.os 1 6 [.sc (.int .i64 1), .sc (.int .i64 3), .sc (.int .i64 4), .sc (.int .i64 2), .sc (.int .i64 5), .sc (.int .i64 6)], .os 1 7 [.sc (.string ByteArray.empty), .sc (.string ByteArray.empty), .sc (.string ⟨#[97, 97]⟩), .sc (.string ⟨#[97]⟩), .sc (.string ⟨#[98]⟩), .sc (.string ⟨#[98, 97]⟩), .sc (.string ⟨#[98, 97, 97]⟩)]]
theorem zzi : z1N Try.prog xt z1i 6 51 [dgT, .sc (.int .i64 1)] = some (sr1, [.dead, .dead]) := by kernel_rfl
def sr2 : T := .tup [.os 1 6 [.sc (.int .i64 2), .sc (.int .i64 1), .sc (.int .i64 3), .sc (.int .i64 4), .sc (.int .i64 5), .sc (.int .i64 6)], .os 1 7 [.sc (.string ByteArray.empty), .sc (.string ⟨#[97]⟩), .sc (.string ByteArray.empty), .sc (.string ⟨#[97, 97]⟩), .sc (.string ⟨#[97, 98]⟩), .sc (.string ⟨#[97, 98, 97]⟩), .sc (.string ⟨#[97, 98, 97, 97]⟩)]]
theorem zzh : z1N Try.prog xt z1i 6 51 [dgT, .sc (.int .i64 2)] = some (sr2, [.dead, .dead]) := by kernel_rfl
def sr3 : T := .tup [.os 1 6 [.sc (.int .i64 3), .sc (.int .i64 2), .sc (.int .i64 1), .sc (.int .i64 4), .sc (.int .i64 5), .sc (.int .i64 6)], .os 1 7 [.sc (.string ByteArray.empty), .sc (.string ⟨#[97, 97]⟩), .sc (.string ⟨#[97]⟩), .sc (.string ByteArray.empty), .sc (.string ⟨#[97, 97, 98]⟩), .sc (.string ⟨#[97, 97, 98, 97]⟩), .sc (.string ⟨#[97, 97, 98, 97, 97]⟩)]]
theorem zzg : z1N Try.prog xt z1i 6 51 [dgT, .sc (.int .i64 3)] = some (sr3, [.dead, .dead]) := by kernel_rfl
def sr4 : T := .tup [.os 1 3 [.sc (.int .i64 4), .sc (.int .i64 5), .sc (.int .i64 6)], .os 1 7 [.sc (.string ByteArray.empty), .sc (.string ByteArray.empty), .sc (.string ByteArray.empty), .sc (.string ByteArray.empty), .sc (.string ByteArray.empty), .sc (.string ⟨#[97]⟩), .sc (.string ⟨#[97, 97]⟩)]]
theorem zzf : z1N Try.prog xt z1i 6 51 [dgT, .sc (.int .i64 4)] = some (sr4, [.dead, .dead]) := by kernel_rfl
def sr5 : T := .tup [.os 1 3 [.sc (.int .i64 5), .sc (.int .i64 6), .sc (.int .i64 4)], .os 1 7 [.sc (.string ByteArray.empty), .sc (.string ByteArray.empty), .sc (.string ByteArray.empty), .sc (.string ByteArray.empty), .sc (.string ⟨#[98]⟩), .sc (.string ByteArray.empty), .sc (.string ⟨#[97]⟩)]]
theorem zze : z1N Try.prog xt z1i 6 51 [dgT, .sc (.int .i64 5)] = some (sr5, [.dead, .dead]) := by kernel_rfl
def sr6 : T := .tup [.os 1 3 [.sc (.int .i64 6), .sc (.int .i64 4), .sc (.int .i64 5)], .os 1 7 [.sc (.string ByteArray.empty), .sc (.string ByteArray.empty), .sc (.string ByteArray.empty), .sc (.string ByteArray.empty), .sc (.string ⟨#[97]⟩), .sc (.string ⟨#[97, 97]⟩), .sc (.string ByteArray.empty)]]
theorem zzd : z1N Try.prog xt z1i 6 51 [dgT, .sc (.int .i64 6)] = some (sr6, [.dead, .dead]) := by kernel_rfl
def zvb : List (FuncId × List T × T × List T) := [(46, [exT], .os 1 7 zoH, [.dead]), (47, [exT, .sl 7 zoH], .agg [.sl 7 [.sc (.int .i64 7), .sc (.int .i64 3), .sc (.int .i64 5), .sc (.int .i64 6), .sc (.int .i64 1), .sc (.int .i64 2), .sc (.int .i64 4)], .os 1 7 [.os 1 2 [.sc (.int .i64 0), .sc (.int .i64 2)], .os 1 2 [.sc (.int .i64 3), .sc (.int .i64 4)], .os 1 2 [.sc (.int .i64 1), .sc (.int .i64 2)], .os 1 2 [.sc (.int .i64 2), .sc (.int .i64 2)], .os 1 2 [.sc (.int .i64 5), .sc (.int .i64 4)], .os 1 2 [.sc (.int .i64 6), .sc (.int .i64 4)], .os 1 2 [.sc (.int .i64 4), .sc (.int .i64 6)]], .os 1 7 [.os 1 7 [.sc (.bool true), .sc (.bool false), .sc (.bool false), .sc (.bool false), .sc (.bool false), .sc (.bool false), .sc (.bool false)], .os 1 7 [.sc (.bool true), .sc (.bool true), .sc (.bool true), .sc (.bool true), .sc (.bool false), .sc (.bool false), .sc (.bool false)], .os 1 7 [.sc (.bool true), .sc (.bool true), .sc (.bool true), .sc (.bool true), .sc (.bool false), .sc (.bool false), .sc (.bool false)], .os 1 7 [.sc (.bool true), .sc (.bool true), .sc (.bool true), .sc (.bool true), .sc (.bool false), .sc (.bool false), .sc (.bool false)], .os 1 7 [.sc (.bool true), .sc (.bool true), .sc (.bool true), .sc (.bool true), .sc (.bool true), .sc (.bool true), .sc (.bool true)], .os 1 7 [.sc (.bool true), .sc (.bool true), .sc (.bool true), .sc (.bool true), .sc (.bool true), .sc (.bool true), .sc (.bool true)], .os 1 7 [.sc (.bool true), .sc (.bool true), .sc (.bool true), .sc (.bool true), .sc (.bool true), .sc (.bool true), .sc (.bool true)]]], [.dead, .dead]), (51, [dgT, .sc (.int .i64 0)], sr0, [.dead, .dead]), (51, [dgT, .sc (.int .i64 1)], sr1, [.dead, .dead]), (51, [dgT, .sc (.int .i64 2)], sr2, [.dead, .dead]), (51, [dgT, .sc (.int .i64 3)], sr3, [.dead, .dead]), (51, [dgT, .sc (.int .i64 4)], sr4, [.dead, .dead]), (51, [dgT, .sc (.int .i64 5)], sr5, [.dead, .dead]), (51, [dgT, .sc (.int .i64 6)], sr6, [.dead, .dead])]
theorem zva : ∀ x ∈ zvb, L x.1 x.2.1 = some x.2.2 := by
  simp only [zvb, List.forall_mem_cons]
  exact ⟨zaN 10 e36, zaN 10 e37, zaN 6 zzj, zaN 6 zzi, zaN 6 zzh, zaN 6 zzg, zaN 6 zzf, zaN 6 zze, zaN 6 zzd, fun x h => by cases h⟩
theorem cKl : zl5 Try.prog xt z1i (tab zvb) 14 12 [] = some (.sc (.bool true), []) := by kernel_rfl
theorem cK : L 12 [] = some (.sc (.bool true), []) := zwD zvb 14 cKl zva
def z7g : Option Bool := some true
instance : Ok z7g (fun r => L 12 [] = some (.sc (.bool r), [])) := ⟨fun r h => by cases h; exact cK⟩
end Go.Proofs.Ytodliknibbafeaa
end
section
namespace Go.Proofs.Ytodliknibbafeaa
open Go
noncomputable section
set_option maxRecDepth 100000
set_option maxHeartbeats 6000000
def z1B (v59 : DFA × Tape) (v63 : Hol) (v81 : ByteArray × Tape) : Int × List (List Int) → Option ((Int × List (List Int)) ⊕ Bool)
  | (w84, w85) =>
  if w84 < (v63.tiles.length : Int) then
    (atI w85 (IntKind.i64.wrap ((w85.length : Int) - 1))).bind fun v88 =>
    (atI v88 w84).bind fun v89 =>
    z0q (IntKind.i64.wrap (w84 + 1), (w85.set (IntKind.i64.wrap ((w85.length : Int) - 1)).toNat (v88.set w84.toNat w84)))
  else
    z0v <|
    (z0K v59.1 (⟨v63.set, v63.tiles, v63.words ++ [v81.1], w85⟩ : Hol)).bind fun v90 =>
    (z1k v59.1 (⟨v63.set, v63.tiles, v63.words ++ [v81.1], w85⟩ : Hol)).bind fun v91 =>
    if (v90 == v91) = true then
      (z7g).bind fun v92 =>
      some v92
    else
      some false
def z1A (v59 : DFA × Tape) (v63 : Hol) (v81 : ByteArray × Tape) : Int × List (List Int) → Fr
  | (w84, w85) => ⟨169, [(10, .one (.ea none [.sc (.int .i64 v59.1.letters), .sc (.int .i64 v59.1.start), .sl v59.1.final.length (v59.1.final.map fun x0 => .sc (.bool x0)), .sl v59.1.next.length (v59.1.next.map fun x0 => .sl x0.length (x0.map fun x1 => .sc (.int .i64 x1)))] 0)), (13, .one (.a 13 [] (0))), (113, .one (.t none (.sc (.int .i64 (v63.tiles.length : Int))))), (114, .one (.t none (.sc (.int .i64 w84))))], [(13, .vr [.sc (.int .i64 v63.set), .os 1 v63.tiles.length (v63.tiles.map fun x0 => .sc (.int .i64 x0)), .os 1 (v63.words ++ [v81.1]).length ((v63.words ++ [v81.1]).map fun x0 => .sc (.string x0)), .os 1 w85.length (w85.map fun x0 => .os 1 x0.length (x0.map fun x1 => .sc (.int .i64 x1)))])]⟩
def z1Z (a0 : List Int) (a1 : Int) (a2 : Int) (a3 : Int) : Option (Bool) :=
  (zaM a0).bind fun v57 =>
  (z2f v57).bind fun v58 =>
  (z2N v58.2 v58.1 5).bind fun v59 =>
  (zay v59.1).bind fun v60 =>
  if v60.2 = 0 then
    if (v60.1.length : Int) = 0 then
      (z7g).bind fun v61 =>
      some v61
    else
      (z3D a2 (v60.1.length : Int)).bind fun v62 =>
      (atI v60.1 v62).bind fun v63 =>
      (z0K v59.1 v63).bind fun v64 =>
      if v64 = true then
        chk (z0T 8 (v63.tiles.length)) <|
        chk (z0T 16 (v63.words.length)) <|
        (z6v v63.perms).bind fun v65 =>
        (z3D a2 (v63.tiles.length : Int)).bind fun v66 =>
        (z3D a1 6).bind fun v67 =>
        if v67 = 0 then
          (z3D a3 40).bind fun v68 =>
          (z0K v59.1 (⟨IntKind.i64.wrap (v68 - 1), v63.tiles, v63.words, v65⟩ : Hol)).bind fun v69 =>
          (z1k v59.1 (⟨IntKind.i64.wrap (v68 - 1), v63.tiles, v63.words, v65⟩ : Hol)).bind fun v70 =>
          if (v69 == v70) = true then
            (z7g).bind fun v71 =>
            some v71
          else
            some false
        else
          if v67 = 1 then
            (z3D a3 40).bind fun v72 =>
            (atI v63.tiles v66).bind fun v73 =>
            (z0K v59.1 (⟨v63.set, (v63.tiles.set v66.toNat (IntKind.i64.wrap (v72 - 1))), v63.words, v65⟩ : Hol)).bind fun v74 =>
            (z1k v59.1 (⟨v63.set, (v63.tiles.set v66.toNat (IntKind.i64.wrap (v72 - 1))), v63.words, v65⟩ : Hol)).bind fun v75 =>
            if (v74 == v75) = true then
              (z7g).bind fun v76 =>
              some v76
            else
              some false
          else
            if v67 = 2 then
              (z2o v59.2 v59.1.letters 4).bind fun v77 =>
              chk (z0T 16 (v63.words.length + 1)) <|
              (z0K v59.1 (⟨v63.set, v63.tiles, v63.words ++ [v77.1], v65⟩ : Hol)).bind fun v78 =>
              (z1k v59.1 (⟨v63.set, v63.tiles, v63.words ++ [v77.1], v65⟩ : Hol)).bind fun v79 =>
              if (v78 == v79) = true then
                (z7g).bind fun v80 =>
                some v80
              else
                some false
            else
              if v67 = 3 then
                (z2o v59.2 v59.1.letters 4).bind fun v81 =>
                chk (z0T 16 (v63.words.length + 1)) <|
                chk (z0T 24 (v65.length + 1)) <|
                z0y (z1B v59 v63 v81) LFm (0, v65 ++ [v63.tiles])
              else
                if v67 = 4 then
                  if 0 < (v65.length : Int) then
                    (atI v65 0).bind fun v93 =>
                    (z3D a3 (IntKind.i64.wrap ((v63.tiles.length : Int) + 1))).bind fun v94 =>
                    (atI v93 v66).bind fun v95 =>
                    (z0K v59.1 (⟨v63.set, v63.tiles, v63.words, (v65.set (0 : Int).toNat (v93.set v66.toNat v94))⟩ : Hol)).bind fun v96 =>
                    (z1k v59.1 (⟨v63.set, v63.tiles, v63.words, (v65.set (0 : Int).toNat (v93.set v66.toNat v94))⟩ : Hol)).bind fun v97 =>
                    if (v96 == v97) = true then
                      (z7g).bind fun v98 =>
                      some v98
                    else
                      some false
                  else
                    (z0K v59.1 (⟨v63.set, v63.tiles, v63.words, v65⟩ : Hol)).bind fun v99 =>
                    (z1k v59.1 (⟨v63.set, v63.tiles, v63.words, v65⟩ : Hol)).bind fun v100 =>
                    if (v99 == v100) = true then
                      (z7g).bind fun v101 =>
                      some v101
                    else
                      some false
                else
                  if v67 = 5 then
                    if 0 < (v63.words.length : Int) then
                      (atI v63.words 0).bind fun v102 =>
                      chk (z7l v102 ⟨#[98]⟩) <|
                      (z0K v59.1 (⟨v63.set, v63.tiles, (v63.words.set (0 : Int).toNat (v102 ++ ⟨#[98]⟩)), v65⟩ : Hol)).bind fun v104 =>
                      (z1k v59.1 (⟨v63.set, v63.tiles, (v63.words.set (0 : Int).toNat (v102 ++ ⟨#[98]⟩)), v65⟩ : Hol)).bind fun v105 =>
                      if (v104 == v105) = true then
                        (z7g).bind fun v106 =>
                        some v106
                      else
                        some false
                    else
                      (z0K v59.1 (⟨v63.set, v63.tiles, v63.words, v65⟩ : Hol)).bind fun v107 =>
                      (z1k v59.1 (⟨v63.set, v63.tiles, v63.words, v65⟩ : Hol)).bind fun v108 =>
                      if (v107 == v108) = true then
                        (z7g).bind fun v109 =>
                        some v109
                      else
                        some false
                  else
                    (z0K v59.1 (⟨v63.set, v63.tiles, v63.words, v65⟩ : Hol)).bind fun v110 =>
                    (z1k v59.1 (⟨v63.set, v63.tiles, v63.words, v65⟩ : Hol)).bind fun v111 =>
                    if (v110 == v111) = true then
                      (z7g).bind fun v112 =>
                      some v112
                    else
                      some false
      else
        some false
  else
    some false
theorem z6Y {a0 : List Int} {a1 : Int} {a2 : Int} {a3 : Int} {r : Bool} (h0 : z1Z a0 a1 a2 a3 = some r) : L 5 [.sl a0.length (a0.map fun x0 => .sc (.int .i64 x0)), .sc (.int .i64 a1), .sc (.int .i64 a2), .sc (.int .i64 a3)] = some (.sc (.bool r), [.dead, .dead, .dead, .dead]) := by
  simp only [z1Z] at h0
  refine zlC zCZ fn5 (zcC bd5 ⟨of_decide_eq_true rfl, of_decide_eq_true rfl⟩ ?_)
  simp only [z4L, z3M, z3F, z5T, z4P]
  refine zq rfl (zr rfl rfl rfl (by simp; rfl) ?_)
  refine z0a (zq rfl ?_)
  obtain ⟨v57, f83, h1⟩ := z0i h0
  have f83k := Ok.ok _ f83
  try simp at f83k
  refine zr rfl rfl rfl (by simp [f83k]; rfl) ?_
  refine z0a (zq rfl ?_)
  obtain ⟨v58, f84, h2⟩ := z0i h1
  have f84k := Ok.ok _ f84
  try simp at f84k
  obtain ⟨v59, f85, h3⟩ := z0i h2
  have f85k := Ok.ok _ f85
  try simp at f85k
  refine zr rfl rfl rfl (by simp [f84k, f85k]; rfl) ?_
  refine z0a (zq rfl (zwl rfl rfl (by simp; rfl) ?_))
  obtain ⟨v60, f86, h4⟩ := z0i h3
  have f86k := Ok.ok _ f86
  try simp at f86k
  refine zr rfl rfl rfl (by simp [f86k]; rfl) ?_
  refine z0a (zq rfl (zq rfl (zr rfl rfl rfl (by simp; rfl) ?_)))
  refine z0a ?_
  by_cases c87 : v60.2 = 0
  ·rw [if_pos c87] at h4
   have c87e := eq_true c87
   refine z0V rfl (by simp [c87e]) (z0G rfl (z0a (zq rfl (zq rfl (zr rfl rfl rfl (by simp; rfl) ?_)))))
   refine z0a ?_
   by_cases c88 : (v60.1.length : Int) = 0
   ·rw [if_pos c88] at h4
    have c88e := eq_true c88
    have c88s : v60.1 = [] := by simpa [List.length_pos_iff] using c88
    refine z1c rfl (by simp [c88e, c88s]) (zq rfl ?_)
    obtain ⟨v61, f89, h5⟩ := z0i h4
    have f89k := Ok.ok _ f89
    try simp at f89k
    refine zr rfl rfl rfl (by simp [f89k]; rfl) ?_
    refine z0a (z3m rfl (z3O ?_))
    cases h5
    simp
   ·rw [if_neg c88] at h4
    have c88e := eq_false c88
    have c88s : v60.1 ≠ [] := by simpa [List.length_pos_iff] using c88
    refine z0V rfl (by simp [c88e, c88s]) (z0G rfl (z0a (zq rfl ?_)))
    obtain ⟨v62, f90, h5⟩ := z0i h4
    have f90k := Ok.ok _ f90
    try simp at f90k
    obtain ⟨v63, f91, h6⟩ := z0i h5
    obtain ⟨f91a, f91b, f91c, f91d, f91e⟩ := z3H f91
    have f91g := zaW (g := fun x : Hol => ([.sc (.int .i64 x.set), .sl x.tiles.length (x.tiles.map fun x0 => .sc (.int .i64 x0)), .sl x.words.length (x.words.map fun x0 => .sc (.string x0)), .sl x.perms.length (x.perms.map fun x0 => .sl x0.length (x0.map fun x1 => .sc (.int .i64 x1)))] : List T)) (m := 4) (fun _ => rfl) f91d
    have f91h := zoC (g := fun x : Hol => ([.sc (.int .i64 x.set), .sl x.tiles.length (x.tiles.map fun x0 => .sc (.int .i64 x0)), .sl x.words.length (x.words.map fun x0 => .sc (.string x0)), .sl x.perms.length (x.perms.map fun x0 => .sl x0.length (x0.map fun x1 => .sc (.int .i64 x1)))] : List T)) (m := 4) (fun _ => rfl) v60.1
    have f91k0 := f91g.2.2.1 0 (by decide)
    have f91m0 := f91g.2.2.2 0 _ rfl
    have f91k1 := f91g.2.2.1 1 (by decide)
    have f91m1 := f91g.2.2.2 1 _ rfl
    have f91k2 := f91g.2.2.1 2 (by decide)
    have f91m2 := f91g.2.2.2 2 _ rfl
    have f91k3 := f91g.2.2.1 3 (by decide)
    have f91m3 := f91g.2.2.2 3 _ rfl
    obtain ⟨f91g, f91i, -⟩ := f91g
    try simp at f91i f91h f91k0 f91m0 f91k1 f91m1 f91k2 f91m2 f91k3 f91m3
    refine zr rfl rfl rfl (by simp [f90k, f91a, f91b, f91c, f91d, f91e, f91g, f91i, f91h, f91k0, f91k1, f91k2, f91k3, f91m0, f91m1, f91m2, f91m3]; rfl) ?_
    refine z0a (zq rfl (zq rfl ?_))
    obtain ⟨v64, f92, h7⟩ := z0i h6
    have f92k := Ok.ok _ f92
    try simp at f92k
    refine zr rfl rfl rfl (by simp [f92k]; rfl) ?_
    refine z0a ?_
    by_cases c93 : v64 = true
    ·rw [if_pos c93] at h7
     refine z0V rfl (by simp [c93]) (z0G rfl (z0a (zq rfl ?_)))
     obtain ⟨f94, h8⟩ := z7m h7
     obtain ⟨f95, h9⟩ := z7m h8
     obtain ⟨v65, f96, h10⟩ := z0i h9
     have f96k := Ok.ok _ f96
     try simp at f96k
     refine zaC rfl rfl rfl rfl ?_
     refine zhJ [(0, 1, 0, 1), (1, 2, 0, 2), (2, 5, 3, 3), (3, 8, 3, 4), (4, 0, 1, 5), (4, 4, 1, 6), (4, 6, 1, 7), (4, 9, 1, 8), (5, 3, 2, 9), (5, 4, 1, 10), (5, 6, 1, 11), (5, 9, 1, 12), (6, 0, 1, 10), (6, 6, 1, 13), (6, 9, 1, 14), (7, 0, 1, 11), (7, 4, 1, 13), (7, 9, 1, 15), (8, 0, 1, 12), (8, 4, 1, 14), (8, 6, 1, 15), (9, 4, 1, 16), (9, 6, 1, 17), (9, 9, 1, 18), (10, 3, 2, 16), (10, 6, 1, 19), (10, 9, 1, 20), (11, 3, 2, 17), (11, 4, 1, 19), (11, 9, 1, 21), (12, 3, 2, 18), (12, 4, 1, 20), (12, 6, 1, 21), (13, 0, 1, 19), (13, 9, 1, 22), (14, 0, 1, 20), (14, 6, 1, 22), (15, 0, 1, 21), (15, 4, 1, 22), (16, 6, 1, 23), (16, 9, 1, 24), (17, 4, 1, 23), (17, 9, 1, 25), (18, 4, 1, 24), (18, 6, 1, 25), (19, 3, 2, 23), (19, 9, 1, 26), (20, 3, 2, 24), (20, 6, 1, 26), (21, 3, 2, 25), (21, 4, 1, 26), (22, 0, 1, 26), (23, 7, 2, 27), (23, 9, 1, 28), (24, 6, 1, 28), (25, 11, 3, 29), (26, 3, 2, 28), (27, 9, 1, 30), (28, 11, 3, 31), (29, 4, 1, 31), (30, 11, 0, 32), (31, 7, 2, 32), (32, 10, 1, 33), (33, 12, 2, 34), (34, 13, 0, 35), (35, 14, 2, 36), (36, 15, 0, 37), (37, 16, 2, 38)] 38 (by kernel_rfl) ?_
     refine z0e rfl rfl rfl rfl (by simp [z0b, z0c, f94, f95, f96k]; rfl) ?_
     refine z0e rfl rfl rfl rfl (by simp [z0b, z0c, f94, f95, f96k]; rfl) ?_
     refine z0e rfl rfl rfl rfl (by simp [z0b, z0c, f94, f95, f96k]; rfl) ?_
     refine z0e rfl rfl rfl rfl (by simp [z0b, z0c, f94, f95, f96k]; rfl) ?_
     refine z0e rfl rfl rfl rfl (by simp [z0b, z0c, f94, f95, f96k]; rfl) ?_
     refine z0e rfl rfl rfl rfl (by simp [z0b, z0c, f94, f95, f96k]; rfl) ?_
     refine z0e rfl rfl rfl rfl (by simp [z0b, z0c, f94, f95, f96k]; rfl) ?_
     refine z0e rfl rfl rfl rfl (by simp [z0b, z0c, f94, f95, f96k]; rfl) ?_
     refine z0e rfl rfl rfl rfl (by simp [z0b, z0c, f94, f95, f96k]; rfl) ?_
     refine z0e rfl rfl rfl rfl (by simp [z0b, z0c, f94, f95, f96k]; rfl) ?_
     refine z0e rfl rfl rfl rfl (by simp [z0b, z0c, f94, f95, f96k]; rfl) ?_
     refine z0e rfl rfl rfl rfl (by simp [z0b, z0c, f94, f95, f96k]; rfl) ?_
     refine z0f rfl rfl rfl rfl (by simp [z0b, z0c, f94, f95, f96k]) ?_
     refine z0e rfl rfl rfl rfl (by simp [z0b, z0c, f94, f95, f96k]; rfl) ?_
     refine z0e rfl rfl rfl rfl (by simp [z0b, z0c, f94, f95, f96k]; rfl) ?_
     refine z0f rfl rfl rfl rfl (by simp [z0b, z0c, f94, f95, f96k]) ?_
     refine z0f rfl rfl rfl rfl (by simp [z0b, z0c, f94, f95, f96k]) ?_
     refine z0e rfl rfl rfl rfl (by simp [z0b, z0c, f94, f95, f96k]; rfl) ?_
     refine z0f rfl rfl rfl rfl (by simp [z0b, z0c, f94, f95, f96k]) ?_
     refine z0f rfl rfl rfl rfl (by simp [z0b, z0c, f94, f95, f96k]) ?_
     refine z0f rfl rfl rfl rfl (by simp [z0b, z0c, f94, f95, f96k]) ?_
     refine z0e rfl rfl rfl rfl (by simp [z0b, z0c, f94, f95, f96k]; rfl) ?_
     refine z0e rfl rfl rfl rfl (by simp [z0b, z0c, f94, f95, f96k]; rfl) ?_
     refine z0e rfl rfl rfl rfl (by simp [z0b, z0c, f94, f95, f96k]; rfl) ?_
     refine z0f rfl rfl rfl rfl (by simp [z0b, z0c, f94, f95, f96k]) ?_
     refine z0e rfl rfl rfl rfl (by simp [z0b, z0c, f94, f95, f96k]; rfl) ?_
     refine z0e rfl rfl rfl rfl (by simp [z0b, z0c, f94, f95, f96k]; rfl) ?_
     refine z0f rfl rfl rfl rfl (by simp [z0b, z0c, f94, f95, f96k]) ?_
     refine z0f rfl rfl rfl rfl (by simp [z0b, z0c, f94, f95, f96k]) ?_
     refine z0e rfl rfl rfl rfl (by simp [z0b, z0c, f94, f95, f96k]; rfl) ?_
     refine z0f rfl rfl rfl rfl (by simp [z0b, z0c, f94, f95, f96k]) ?_
     refine z0f rfl rfl rfl rfl (by simp [z0b, z0c, f94, f95, f96k]) ?_
     refine z0f rfl rfl rfl rfl (by simp [z0b, z0c, f94, f95, f96k]) ?_
     refine z0f rfl rfl rfl rfl (by simp [z0b, z0c, f94, f95, f96k]) ?_
     refine z0e rfl rfl rfl rfl (by simp [z0b, z0c, f94, f95, f96k]; rfl) ?_
     refine z0f rfl rfl rfl rfl (by simp [z0b, z0c, f94, f95, f96k]) ?_
     refine z0f rfl rfl rfl rfl (by simp [z0b, z0c, f94, f95, f96k]) ?_
     refine z0f rfl rfl rfl rfl (by simp [z0b, z0c, f94, f95, f96k]) ?_
     refine z0f rfl rfl rfl rfl (by simp [z0b, z0c, f94, f95, f96k]) ?_
     refine z0e rfl rfl rfl rfl (by simp [z0b, z0c, f94, f95, f96k]; rfl) ?_
     refine z0e rfl rfl rfl rfl (by simp [z0b, z0c, f94, f95, f96k]; rfl) ?_
     refine z0f rfl rfl rfl rfl (by simp [z0b, z0c, f94, f95, f96k]) ?_
     refine z0e rfl rfl rfl rfl (by simp [z0b, z0c, f94, f95, f96k]; rfl) ?_
     refine z0f rfl rfl rfl rfl (by simp [z0b, z0c, f94, f95, f96k]) ?_
     refine z0f rfl rfl rfl rfl (by simp [z0b, z0c, f94, f95, f96k]) ?_
     refine z0f rfl rfl rfl rfl (by simp [z0b, z0c, f94, f95, f96k]) ?_
     refine z0e rfl rfl rfl rfl (by simp [z0b, z0c, f94, f95, f96k]; rfl) ?_
     refine z0f rfl rfl rfl rfl (by simp [z0b, z0c, f94, f95, f96k]) ?_
     refine z0f rfl rfl rfl rfl (by simp [z0b, z0c, f94, f95, f96k]) ?_
     refine z0f rfl rfl rfl rfl (by simp [z0b, z0c, f94, f95, f96k]) ?_
     refine z0f rfl rfl rfl rfl (by simp [z0b, z0c, f94, f95, f96k]) ?_
     refine z0f rfl rfl rfl rfl (by simp [z0b, z0c, f94, f95, f96k]) ?_
     refine z0e rfl rfl rfl rfl (by simp [z0b, z0c, f94, f95, f96k]; rfl) ?_
     refine z0e rfl rfl rfl rfl (by simp [z0b, z0c, f94, f95, f96k]; rfl) ?_
     refine z0f rfl rfl rfl rfl (by simp [z0b, z0c, f94, f95, f96k]) ?_
     refine z0e rfl rfl rfl rfl (by simp [z0b, z0c, f94, f95, f96k]; rfl) ?_
     refine z0f rfl rfl rfl rfl (by simp [z0b, z0c, f94, f95, f96k]) ?_
     refine z0e rfl rfl rfl rfl (by simp [z0b, z0c, f94, f95, f96k]; rfl) ?_
     refine z0e rfl rfl rfl rfl (by simp [z0b, z0c, f94, f95, f96k]; rfl) ?_
     refine z0f rfl rfl rfl rfl (by simp [z0b, z0c, f94, f95, f96k]) ?_
     refine z0e rfl rfl rfl rfl (by simp [z0b, z0c, f94, f95, f96k]; rfl) ?_
     refine z0f rfl rfl rfl rfl (by simp [z0b, z0c, f94, f95, f96k]) ?_
     refine z0e rfl rfl rfl rfl (by simp [z0b, z0c, f94, f95, f96k]; rfl) ?_
     refine z0e rfl rfl rfl rfl (by simp [z0b, z0c, f94, f95, f96k]; rfl) ?_
     refine z0e rfl rfl rfl rfl (by simp [z0b, z0c, f94, f95, f96k]; rfl) ?_
     refine z0e rfl rfl rfl rfl (by simp [z0b, z0c, f94, f95, f96k]; rfl) ?_
     refine z0e rfl rfl rfl rfl (by simp [z0b, z0c, f94, f95, f96k]; rfl) ?_
     refine z0e rfl rfl rfl rfl (by simp [z0b, z0c, f94, f95, f96k]; rfl) ?_
     refine zi3 rfl ?_
     refine zas rfl (by simp [f94, f95, f96k]; rfl) ?_
     refine z0a (zq rfl ?_)
     obtain ⟨v66, f97, h11⟩ := z0i h10
     have f97k := Ok.ok _ f97
     try simp at f97k
     refine zr rfl rfl rfl (by simp [f97k]; rfl) ?_
     refine z0a (zq rfl (zq rfl ?_))
     obtain ⟨v67, f98, h12⟩ := z0i h11
     have f98k := Ok.ok _ f98
     try simp at f98k
     refine zr rfl rfl rfl (by simp [f98k]; rfl) ?_
     refine z0a (zb rfl (zq rfl (zr rfl rfl rfl (by simp; rfl) ?_)))
     refine z0a ?_
     by_cases c99 : v67 = 0
     ·rw [if_pos c99] at h12
      have c99e := eq_true c99
      refine z1c rfl (by simp [c99e]) ?_
      obtain ⟨v68, f100, h13⟩ := z0i h12
      have f100k := Ok.ok _ f100
      try simp at f100k
      refine zr rfl rfl rfl (by simp [f100k]; rfl) ?_
      refine z0m (z0a (zq rfl ?_))
      obtain ⟨v69, f101, h14⟩ := z0i h13
      have f101k := Ok.ok _ f101
      try simp at f101k
      obtain ⟨v70, f102, h15⟩ := z0i h14
      have f102k := Ok.ok _ f102
      try simp at f102k
      by_cases c103 : (v69 == v70) = true
      ·rw [if_pos c103] at h15
       obtain ⟨v71, f104, h16⟩ := z0i h15
       have f104k := Ok.ok _ f104
       try simp at f104k
       refine z0I rfl rfl rfl rfl ?_; repeat' (first | (refine z0r rfl rfl fun Q' hQ => ?_; simp [f101k, f102k, c103, f104k]; refine hQ.out _ ?_; clear hQ; clear Q') | (refine z0u rfl rfl fun Q1 Q2 h1 h2 => ?_; simp [f101k, f102k, c103, f104k, z0J]; (first | refine h1.out ?_ | refine h2.out ?_); clear h1 h2; clear Q1 Q2; intro Q' hQ; simp [f101k, f102k, c103, f104k]; refine hQ.out _ ?_; clear hQ; clear Q') | (refine z0k rfl fun Q' hQ => ?_; simp [f101k, f102k, c103, f104k]; refine hQ.out _ ?_; clear hQ; clear Q'))
       refine z0a (z3m rfl ?_)
       cases h16
       simp [c93, c103]
      ·rw [if_neg c103] at h15
       refine z0I rfl rfl rfl rfl ?_; repeat' (first | (refine z0r rfl rfl fun Q' hQ => ?_; simp [f101k, f102k, c103]; refine hQ.out _ ?_; clear hQ; clear Q') | (refine z0u rfl rfl fun Q1 Q2 h1 h2 => ?_; simp [f101k, f102k, c103, z0J]; (first | refine h1.out ?_ | refine h2.out ?_); clear h1 h2; clear Q1 Q2; intro Q' hQ; simp [f101k, f102k, c103]; refine hQ.out _ ?_; clear hQ; clear Q') | (refine z0k rfl fun Q' hQ => ?_; simp [f101k, f102k, c103]; refine hQ.out _ ?_; clear hQ; clear Q'))
       refine z0a (z3m rfl ?_)
       cases h15
       simp [c93, c103]
     ·rw [if_neg c99] at h12
      have c99e := eq_false c99
      refine z0V rfl (by simp [c99e]) (zq rfl (zr rfl rfl rfl (by simp; rfl) ?_))
      refine z0a ?_
      by_cases c105 : v67 = 1
      ·rw [if_pos c105] at h12
       have c105e := eq_true c105
       refine z1c rfl (by simp [c105e]) ?_
       obtain ⟨v72, f106, h13⟩ := z0i h12
       have f106k := Ok.ok _ f106
       try simp at f106k
       obtain ⟨v73, f107, h14⟩ := z0U h13
       refine z0I rfl rfl rfl rfl ?_; repeat' ((first | refine z0r rfl rfl fun Q' hQ => ?_ | refine z0k rfl fun Q' hQ => ?_); simp [f106k, f107]; refine hQ.out _ ?_; clear hQ; clear Q')
       refine z0m (z0a (zq rfl ?_))
       obtain ⟨v74, f108, h15⟩ := z0i h14
       have f108k := Ok.ok _ f108
       try simp at f108k
       obtain ⟨v75, f109, h16⟩ := z0i h15
       have f109k := Ok.ok _ f109
       try simp at f109k
       by_cases c110 : (v74 == v75) = true
       ·rw [if_pos c110] at h16
        obtain ⟨v76, f111, h17⟩ := z0i h16
        have f111k := Ok.ok _ f111
        try simp at f111k
        refine z0I rfl rfl rfl rfl ?_; repeat' (first | (refine z0r rfl rfl fun Q' hQ => ?_; simp [f108k, f109k, c110, f111k]; refine hQ.out _ ?_; clear hQ; clear Q') | (refine z0u rfl rfl fun Q1 Q2 h1 h2 => ?_; simp [f108k, f109k, c110, f111k, z0J]; (first | refine h1.out ?_ | refine h2.out ?_); clear h1 h2; clear Q1 Q2; intro Q' hQ; simp [f108k, f109k, c110, f111k]; refine hQ.out _ ?_; clear hQ; clear Q') | (refine z0k rfl fun Q' hQ => ?_; simp [f108k, f109k, c110, f111k]; refine hQ.out _ ?_; clear hQ; clear Q'))
        refine z0a (z3m rfl ?_)
        cases h17
        simp [c93, c110]
       ·rw [if_neg c110] at h16
        refine z0I rfl rfl rfl rfl ?_; repeat' (first | (refine z0r rfl rfl fun Q' hQ => ?_; simp [f108k, f109k, c110]; refine hQ.out _ ?_; clear hQ; clear Q') | (refine z0u rfl rfl fun Q1 Q2 h1 h2 => ?_; simp [f108k, f109k, c110, z0J]; (first | refine h1.out ?_ | refine h2.out ?_); clear h1 h2; clear Q1 Q2; intro Q' hQ; simp [f108k, f109k, c110]; refine hQ.out _ ?_; clear hQ; clear Q') | (refine z0k rfl fun Q' hQ => ?_; simp [f108k, f109k, c110]; refine hQ.out _ ?_; clear hQ; clear Q'))
        refine z0a (z3m rfl ?_)
        cases h16
        simp [c93, c110]
      ·rw [if_neg c105] at h12
       have c105e := eq_false c105
       refine z0V rfl (by simp [c105e]) (zq rfl (zr rfl rfl rfl (by simp; rfl) ?_))
       refine z0a ?_
       by_cases c112 : v67 = 2
       ·rw [if_pos c112] at h12
        have c112e := eq_true c112
        refine z1c rfl (by simp [c112e]) ?_
        obtain ⟨v77, f113, h13⟩ := z0i h12
        have f113k := Ok.ok _ f113
        try simp at f113k
        obtain ⟨f114, h14⟩ := z7m h13
        refine z0I rfl rfl rfl rfl ?_; repeat' ((first | refine z0r rfl rfl fun Q' hQ => ?_ | refine z0k rfl fun Q' hQ => ?_); simp [f113k, f114]; refine hQ.out _ ?_; clear hQ; clear Q')
        refine z0m (z0a (zq rfl ?_))
        obtain ⟨v78, f115, h15⟩ := z0i h14
        have f115k := Ok.ok _ f115
        try simp at f115k
        obtain ⟨v79, f116, h16⟩ := z0i h15
        have f116k := Ok.ok _ f116
        try simp at f116k
        by_cases c117 : (v78 == v79) = true
        ·rw [if_pos c117] at h16
         obtain ⟨v80, f118, h17⟩ := z0i h16
         have f118k := Ok.ok _ f118
         try simp at f118k
         refine z0I rfl rfl rfl rfl ?_; repeat' (first | (refine z0r rfl rfl fun Q' hQ => ?_; simp [f115k, f116k, c117, f118k]; refine hQ.out _ ?_; clear hQ; clear Q') | (refine z0u rfl rfl fun Q1 Q2 h1 h2 => ?_; simp [f115k, f116k, c117, f118k, z0J]; (first | refine h1.out ?_ | refine h2.out ?_); clear h1 h2; clear Q1 Q2; intro Q' hQ; simp [f115k, f116k, c117, f118k]; refine hQ.out _ ?_; clear hQ; clear Q') | (refine z0k rfl fun Q' hQ => ?_; simp [f115k, f116k, c117, f118k]; refine hQ.out _ ?_; clear hQ; clear Q'))
         refine z0a (z3m rfl ?_)
         cases h17
         simp [c93, c117]
        ·rw [if_neg c117] at h16
         refine z0I rfl rfl rfl rfl ?_; repeat' (first | (refine z0r rfl rfl fun Q' hQ => ?_; simp [f115k, f116k, c117]; refine hQ.out _ ?_; clear hQ; clear Q') | (refine z0u rfl rfl fun Q1 Q2 h1 h2 => ?_; simp [f115k, f116k, c117, z0J]; (first | refine h1.out ?_ | refine h2.out ?_); clear h1 h2; clear Q1 Q2; intro Q' hQ; simp [f115k, f116k, c117]; refine hQ.out _ ?_; clear hQ; clear Q') | (refine z0k rfl fun Q' hQ => ?_; simp [f115k, f116k, c117]; refine hQ.out _ ?_; clear hQ; clear Q'))
         refine z0a (z3m rfl ?_)
         cases h16
         simp [c93, c117]
       ·rw [if_neg c112] at h12
        have c112e := eq_false c112
        refine z0V rfl (by simp [c112e]) (zq rfl (zr rfl rfl rfl (by simp; rfl) ?_))
        refine z0a ?_
        by_cases c119 : v67 = 3
        ·rw [if_pos c119] at h12
         have c119e := eq_true c119
         refine z1c rfl (by simp [c119e]) (zq rfl ?_)
         obtain ⟨v81, f120, h13⟩ := z0i h12
         have f120k := Ok.ok _ f120
         try simp at f120k
         obtain ⟨f121, h14⟩ := z7m h13
         obtain ⟨f122, h15⟩ := z7m h14
         refine zaC rfl rfl rfl rfl ?_
         refine zhJ [(0, 0, 3, 1), (1, 2, 0, 2), (2, 3, 0, 3), (3, 4, 0, 4), (4, 8, 3, 5), (5, 11, 3, 6), (6, 1, 1, 7), (6, 5, 2, 8), (6, 9, 1, 9), (6, 10, 1, 10), (6, 12, 1, 11), (7, 5, 2, 12), (7, 9, 1, 13), (7, 10, 1, 14), (7, 12, 1, 15), (8, 1, 1, 12), (8, 6, 1, 16), (8, 9, 1, 17), (8, 10, 1, 18), (8, 12, 1, 19), (9, 1, 1, 13), (9, 5, 2, 17), (9, 10, 1, 20), (9, 12, 1, 21), (10, 1, 1, 14), (10, 5, 2, 18), (10, 9, 1, 20), (10, 12, 1, 22), (11, 1, 1, 15), (11, 5, 2, 19), (11, 9, 1, 21), (11, 10, 1, 22), (12, 6, 1, 23), (12, 9, 1, 24), (12, 10, 1, 25), (12, 12, 1, 26), (13, 5, 2, 24), (13, 10, 1, 27), (13, 12, 1, 28), (14, 5, 2, 25), (14, 9, 1, 27), (14, 12, 1, 29), (15, 5, 2, 26), (15, 9, 1, 28), (15, 10, 1, 29), (16, 1, 1, 23), (16, 9, 1, 30), (16, 10, 1, 31), (16, 12, 1, 32), (17, 1, 1, 24), (17, 6, 1, 30), (17, 10, 1, 33), (17, 12, 1, 34), (18, 1, 1, 25), (18, 6, 1, 31), (18, 9, 1, 33), (18, 12, 1, 35), (19, 1, 1, 26), (19, 6, 1, 32), (19, 9, 1, 34), (19, 10, 1, 35), (20, 1, 1, 27), (20, 5, 2, 33), (20, 12, 1, 36), (21, 1, 1, 28), (21, 5, 2, 34), (21, 10, 1, 36), (22, 1, 1, 29), (22, 5, 2, 35), (22, 9, 1, 36), (23, 7, 2, 37), (23, 9, 1, 38), (23, 10, 1, 39), (23, 12, 1, 40), (24, 6, 1, 38), (24, 10, 1, 41), (24, 12, 1, 42), (25, 6, 1, 39), (25, 9, 1, 41), (25, 12, 1, 43), (26, 6, 1, 40), (26, 9, 1, 42), (26, 10, 1, 43), (27, 5, 2, 41), (27, 12, 1, 44), (28, 5, 2, 42), (28, 10, 1, 44), (29, 5, 2, 43), (29, 9, 1, 44), (30, 1, 1, 38), (30, 10, 1, 45), (30, 12, 1, 46), (31, 1, 1, 39), (31, 9, 1, 45), (31, 12, 1, 47), (32, 1, 1, 40), (32, 9, 1, 46), (32, 10, 1, 47), (33, 1, 1, 41), (33, 6, 1, 45), (33, 12, 1, 48), (34, 1, 1, 42), (34, 6, 1, 46), (34, 10, 1, 48), (35, 1, 1, 43), (35, 6, 1, 47), (35, 9, 1, 48), (36, 1, 1, 44), (36, 5, 2, 48), (37, 9, 1, 49), (37, 10, 1, 50), (37, 12, 1, 51), (38, 7, 2, 49), (38, 10, 1, 52), (38, 12, 1, 53), (39, 7, 2, 50), (39, 9, 1, 52), (39, 12, 1, 54), (40, 7, 2, 51), (40, 9, 1, 53), (40, 10, 1, 54), (41, 6, 1, 52), (41, 12, 1, 55), (42, 6, 1, 53), (42, 10, 1, 55), (43, 6, 1, 54), (43, 9, 1, 55), (44, 5, 2, 55), (45, 1, 1, 52), (45, 12, 1, 56), (46, 1, 1, 53), (46, 10, 1, 56), (47, 1, 1, 54), (47, 9, 1, 56), (48, 1, 1, 55), (48, 6, 1, 56), (49, 10, 1, 57), (49, 12, 1, 58), (50, 9, 1, 57), (50, 12, 1, 59), (51, 9, 1, 58), (51, 10, 1, 59), (52, 7, 2, 57), (52, 12, 1, 60), (53, 7, 2, 58), (53, 10, 1, 60), (54, 7, 2, 59), (54, 9, 1, 60), (55, 6, 1, 60), (56, 1, 1, 60), (57, 12, 1, 61), (58, 16, 3, 62), (59, 9, 1, 61), (59, 13, 2, 63), (60, 7, 2, 61), (61, 16, 3, 65), (62, 10, 1, 65), (63, 9, 1, 64), (63, 14, 1, 66), (64, 16, 3, 68), (65, 13, 2, 68), (66, 9, 1, 67), (67, 16, 3, 69), (68, 14, 1, 69), (69, 15, 2, 70), (70, 17, 2, 71), (71, 18, 0, 72), (72, 19, 2, 73)] 73 (by kernel_rfl) ?_
         refine z0e rfl rfl rfl rfl (by simp [z0b, z0c, f120k, f121, f94, f122]; rfl) ?_
         refine z0e rfl rfl rfl rfl (by simp [z0b, z0c, f120k, f121, f94, f122]; rfl) ?_
         refine z0e rfl rfl rfl rfl (by simp [z0b, z0c, f120k, f121, f94, f122]; rfl) ?_
         refine z0e rfl rfl rfl rfl (by simp [z0b, z0c, f120k, f121, f94, f122]; rfl) ?_
         refine z0e rfl rfl rfl rfl (by simp [z0b, z0c, f120k, f121, f94, f122]; rfl) ?_
         refine z0e rfl rfl rfl rfl (by simp [z0b, z0c, f120k, f121, f94, f122]; rfl) ?_
         refine z0e rfl rfl rfl rfl (by simp [z0b, z0c, f120k, f121, f94, f122]; rfl) ?_
         refine z0e rfl rfl rfl rfl (by simp [z0b, z0c, f120k, f121, f94, f122]; rfl) ?_
         refine z0e rfl rfl rfl rfl (by simp [z0b, z0c, f120k, f121, f94, f122]; rfl) ?_
         refine z0e rfl rfl rfl rfl (by simp [z0b, z0c, f120k, f121, f94, f122]; rfl) ?_
         refine z0e rfl rfl rfl rfl (by simp [z0b, z0c, f120k, f121, f94, f122]; rfl) ?_
         refine z0e rfl rfl rfl rfl (by simp [z0b, z0c, f120k, f121, f94, f122]; rfl) ?_
         refine z0e rfl rfl rfl rfl (by simp [z0b, z0c, f120k, f121, f94, f122]; rfl) ?_
         refine z0e rfl rfl rfl rfl (by simp [z0b, z0c, f120k, f121, f94, f122]; rfl) ?_
         refine z0e rfl rfl rfl rfl (by simp [z0b, z0c, f120k, f121, f94, f122]; rfl) ?_
         refine z0f rfl rfl rfl rfl (by simp [z0b, z0c, f120k, f121, f94, f122]) ?_
         refine z0e rfl rfl rfl rfl (by simp [z0b, z0c, f120k, f121, f94, f122]; rfl) ?_
         refine z0e rfl rfl rfl rfl (by simp [z0b, z0c, f120k, f121, f94, f122]; rfl) ?_
         refine z0e rfl rfl rfl rfl (by simp [z0b, z0c, f120k, f121, f94, f122]; rfl) ?_
         refine z0e rfl rfl rfl rfl (by simp [z0b, z0c, f120k, f121, f94, f122]; rfl) ?_
         refine z0f rfl rfl rfl rfl (by simp [z0b, z0c, f120k, f121, f94, f122]) ?_
         refine z0f rfl rfl rfl rfl (by simp [z0b, z0c, f120k, f121, f94, f122]) ?_
         refine z0e rfl rfl rfl rfl (by simp [z0b, z0c, f120k, f121, f94, f122]; rfl) ?_
         refine z0e rfl rfl rfl rfl (by simp [z0b, z0c, f120k, f121, f94, f122]; rfl) ?_
         refine z0f rfl rfl rfl rfl (by simp [z0b, z0c, f120k, f121, f94, f122]) ?_
         refine z0f rfl rfl rfl rfl (by simp [z0b, z0c, f120k, f121, f94, f122]) ?_
         refine z0f rfl rfl rfl rfl (by simp [z0b, z0c, f120k, f121, f94, f122]) ?_
         refine z0e rfl rfl rfl rfl (by simp [z0b, z0c, f120k, f121, f94, f122]; rfl) ?_
         refine z0f rfl rfl rfl rfl (by simp [z0b, z0c, f120k, f121, f94, f122]) ?_
         refine z0f rfl rfl rfl rfl (by simp [z0b, z0c, f120k, f121, f94, f122]) ?_
         refine z0f rfl rfl rfl rfl (by simp [z0b, z0c, f120k, f121, f94, f122]) ?_
         refine z0f rfl rfl rfl rfl (by simp [z0b, z0c, f120k, f121, f94, f122]) ?_
         refine z0e rfl rfl rfl rfl (by simp [z0b, z0c, f120k, f121, f94, f122]; rfl) ?_
         refine z0e rfl rfl rfl rfl (by simp [z0b, z0c, f120k, f121, f94, f122]; rfl) ?_
         refine z0e rfl rfl rfl rfl (by simp [z0b, z0c, f120k, f121, f94, f122]; rfl) ?_
         refine z0e rfl rfl rfl rfl (by simp [z0b, z0c, f120k, f121, f94, f122]; rfl) ?_
         refine z0f rfl rfl rfl rfl (by simp [z0b, z0c, f120k, f121, f94, f122]) ?_
         refine z0e rfl rfl rfl rfl (by simp [z0b, z0c, f120k, f121, f94, f122]; rfl) ?_
         refine z0e rfl rfl rfl rfl (by simp [z0b, z0c, f120k, f121, f94, f122]; rfl) ?_
         refine z0f rfl rfl rfl rfl (by simp [z0b, z0c, f120k, f121, f94, f122]) ?_
         refine z0f rfl rfl rfl rfl (by simp [z0b, z0c, f120k, f121, f94, f122]) ?_
         refine z0e rfl rfl rfl rfl (by simp [z0b, z0c, f120k, f121, f94, f122]; rfl) ?_
         refine z0f rfl rfl rfl rfl (by simp [z0b, z0c, f120k, f121, f94, f122]) ?_
         refine z0f rfl rfl rfl rfl (by simp [z0b, z0c, f120k, f121, f94, f122]) ?_
         refine z0f rfl rfl rfl rfl (by simp [z0b, z0c, f120k, f121, f94, f122]) ?_
         refine z0f rfl rfl rfl rfl (by simp [z0b, z0c, f120k, f121, f94, f122]) ?_
         refine z0e rfl rfl rfl rfl (by simp [z0b, z0c, f120k, f121, f94, f122]; rfl) ?_
         refine z0e rfl rfl rfl rfl (by simp [z0b, z0c, f120k, f121, f94, f122]; rfl) ?_
         refine z0e rfl rfl rfl rfl (by simp [z0b, z0c, f120k, f121, f94, f122]; rfl) ?_
         refine z0f rfl rfl rfl rfl (by simp [z0b, z0c, f120k, f121, f94, f122]) ?_
         refine z0f rfl rfl rfl rfl (by simp [z0b, z0c, f120k, f121, f94, f122]) ?_
         refine z0e rfl rfl rfl rfl (by simp [z0b, z0c, f120k, f121, f94, f122]; rfl) ?_
         refine z0e rfl rfl rfl rfl (by simp [z0b, z0c, f120k, f121, f94, f122]; rfl) ?_
         refine z0f rfl rfl rfl rfl (by simp [z0b, z0c, f120k, f121, f94, f122]) ?_
         refine z0f rfl rfl rfl rfl (by simp [z0b, z0c, f120k, f121, f94, f122]) ?_
         refine z0f rfl rfl rfl rfl (by simp [z0b, z0c, f120k, f121, f94, f122]) ?_
         refine z0e rfl rfl rfl rfl (by simp [z0b, z0c, f120k, f121, f94, f122]; rfl) ?_
         refine z0f rfl rfl rfl rfl (by simp [z0b, z0c, f120k, f121, f94, f122]) ?_
         refine z0f rfl rfl rfl rfl (by simp [z0b, z0c, f120k, f121, f94, f122]) ?_
         refine z0f rfl rfl rfl rfl (by simp [z0b, z0c, f120k, f121, f94, f122]) ?_
         refine z0f rfl rfl rfl rfl (by simp [z0b, z0c, f120k, f121, f94, f122]) ?_
         refine z0f rfl rfl rfl rfl (by simp [z0b, z0c, f120k, f121, f94, f122]) ?_
         refine z0f rfl rfl rfl rfl (by simp [z0b, z0c, f120k, f121, f94, f122]) ?_
         refine z0e rfl rfl rfl rfl (by simp [z0b, z0c, f120k, f121, f94, f122]; rfl) ?_
         refine z0f rfl rfl rfl rfl (by simp [z0b, z0c, f120k, f121, f94, f122]) ?_
         refine z0f rfl rfl rfl rfl (by simp [z0b, z0c, f120k, f121, f94, f122]) ?_
         refine z0f rfl rfl rfl rfl (by simp [z0b, z0c, f120k, f121, f94, f122]) ?_
         refine z0f rfl rfl rfl rfl (by simp [z0b, z0c, f120k, f121, f94, f122]) ?_
         refine z0f rfl rfl rfl rfl (by simp [z0b, z0c, f120k, f121, f94, f122]) ?_
         refine z0f rfl rfl rfl rfl (by simp [z0b, z0c, f120k, f121, f94, f122]) ?_
         refine z0e rfl rfl rfl rfl (by simp [z0b, z0c, f120k, f121, f94, f122]; rfl) ?_
         refine z0e rfl rfl rfl rfl (by simp [z0b, z0c, f120k, f121, f94, f122]; rfl) ?_
         refine z0e rfl rfl rfl rfl (by simp [z0b, z0c, f120k, f121, f94, f122]; rfl) ?_
         refine z0e rfl rfl rfl rfl (by simp [z0b, z0c, f120k, f121, f94, f122]; rfl) ?_
         refine z0f rfl rfl rfl rfl (by simp [z0b, z0c, f120k, f121, f94, f122]) ?_
         refine z0e rfl rfl rfl rfl (by simp [z0b, z0c, f120k, f121, f94, f122]; rfl) ?_
         refine z0e rfl rfl rfl rfl (by simp [z0b, z0c, f120k, f121, f94, f122]; rfl) ?_
         refine z0f rfl rfl rfl rfl (by simp [z0b, z0c, f120k, f121, f94, f122]) ?_
         refine z0f rfl rfl rfl rfl (by simp [z0b, z0c, f120k, f121, f94, f122]) ?_
         refine z0e rfl rfl rfl rfl (by simp [z0b, z0c, f120k, f121, f94, f122]; rfl) ?_
         refine z0f rfl rfl rfl rfl (by simp [z0b, z0c, f120k, f121, f94, f122]) ?_
         refine z0f rfl rfl rfl rfl (by simp [z0b, z0c, f120k, f121, f94, f122]) ?_
         refine z0f rfl rfl rfl rfl (by simp [z0b, z0c, f120k, f121, f94, f122]) ?_
         refine z0f rfl rfl rfl rfl (by simp [z0b, z0c, f120k, f121, f94, f122]) ?_
         refine z0e rfl rfl rfl rfl (by simp [z0b, z0c, f120k, f121, f94, f122]; rfl) ?_
         refine z0f rfl rfl rfl rfl (by simp [z0b, z0c, f120k, f121, f94, f122]) ?_
         refine z0f rfl rfl rfl rfl (by simp [z0b, z0c, f120k, f121, f94, f122]) ?_
         refine z0f rfl rfl rfl rfl (by simp [z0b, z0c, f120k, f121, f94, f122]) ?_
         refine z0f rfl rfl rfl rfl (by simp [z0b, z0c, f120k, f121, f94, f122]) ?_
         refine z0f rfl rfl rfl rfl (by simp [z0b, z0c, f120k, f121, f94, f122]) ?_
         refine z0e rfl rfl rfl rfl (by simp [z0b, z0c, f120k, f121, f94, f122]; rfl) ?_
         refine z0e rfl rfl rfl rfl (by simp [z0b, z0c, f120k, f121, f94, f122]; rfl) ?_
         refine z0f rfl rfl rfl rfl (by simp [z0b, z0c, f120k, f121, f94, f122]) ?_
         refine z0f rfl rfl rfl rfl (by simp [z0b, z0c, f120k, f121, f94, f122]) ?_
         refine z0e rfl rfl rfl rfl (by simp [z0b, z0c, f120k, f121, f94, f122]; rfl) ?_
         refine z0f rfl rfl rfl rfl (by simp [z0b, z0c, f120k, f121, f94, f122]) ?_
         refine z0f rfl rfl rfl rfl (by simp [z0b, z0c, f120k, f121, f94, f122]) ?_
         refine z0f rfl rfl rfl rfl (by simp [z0b, z0c, f120k, f121, f94, f122]) ?_
         refine z0f rfl rfl rfl rfl (by simp [z0b, z0c, f120k, f121, f94, f122]) ?_
         refine z0f rfl rfl rfl rfl (by simp [z0b, z0c, f120k, f121, f94, f122]) ?_
         refine z0e rfl rfl rfl rfl (by simp [z0b, z0c, f120k, f121, f94, f122]; rfl) ?_
         refine z0f rfl rfl rfl rfl (by simp [z0b, z0c, f120k, f121, f94, f122]) ?_
         refine z0f rfl rfl rfl rfl (by simp [z0b, z0c, f120k, f121, f94, f122]) ?_
         refine z0f rfl rfl rfl rfl (by simp [z0b, z0c, f120k, f121, f94, f122]) ?_
         refine z0f rfl rfl rfl rfl (by simp [z0b, z0c, f120k, f121, f94, f122]) ?_
         refine z0f rfl rfl rfl rfl (by simp [z0b, z0c, f120k, f121, f94, f122]) ?_
         refine z0f rfl rfl rfl rfl (by simp [z0b, z0c, f120k, f121, f94, f122]) ?_
         refine z0f rfl rfl rfl rfl (by simp [z0b, z0c, f120k, f121, f94, f122]) ?_
         refine z0f rfl rfl rfl rfl (by simp [z0b, z0c, f120k, f121, f94, f122]) ?_
         refine z0e rfl rfl rfl rfl (by simp [z0b, z0c, f120k, f121, f94, f122]; rfl) ?_
         refine z0e rfl rfl rfl rfl (by simp [z0b, z0c, f120k, f121, f94, f122]; rfl) ?_
         refine z0e rfl rfl rfl rfl (by simp [z0b, z0c, f120k, f121, f94, f122]; rfl) ?_
         refine z0f rfl rfl rfl rfl (by simp [z0b, z0c, f120k, f121, f94, f122]) ?_
         refine z0e rfl rfl rfl rfl (by simp [z0b, z0c, f120k, f121, f94, f122]; rfl) ?_
         refine z0e rfl rfl rfl rfl (by simp [z0b, z0c, f120k, f121, f94, f122]; rfl) ?_
         refine z0f rfl rfl rfl rfl (by simp [z0b, z0c, f120k, f121, f94, f122]) ?_
         refine z0f rfl rfl rfl rfl (by simp [z0b, z0c, f120k, f121, f94, f122]) ?_
         refine z0e rfl rfl rfl rfl (by simp [z0b, z0c, f120k, f121, f94, f122]; rfl) ?_
         refine z0f rfl rfl rfl rfl (by simp [z0b, z0c, f120k, f121, f94, f122]) ?_
         refine z0f rfl rfl rfl rfl (by simp [z0b, z0c, f120k, f121, f94, f122]) ?_
         refine z0f rfl rfl rfl rfl (by simp [z0b, z0c, f120k, f121, f94, f122]) ?_
         refine z0f rfl rfl rfl rfl (by simp [z0b, z0c, f120k, f121, f94, f122]) ?_
         refine z0e rfl rfl rfl rfl (by simp [z0b, z0c, f120k, f121, f94, f122]; rfl) ?_
         refine z0f rfl rfl rfl rfl (by simp [z0b, z0c, f120k, f121, f94, f122]) ?_
         refine z0f rfl rfl rfl rfl (by simp [z0b, z0c, f120k, f121, f94, f122]) ?_
         refine z0f rfl rfl rfl rfl (by simp [z0b, z0c, f120k, f121, f94, f122]) ?_
         refine z0f rfl rfl rfl rfl (by simp [z0b, z0c, f120k, f121, f94, f122]) ?_
         refine z0f rfl rfl rfl rfl (by simp [z0b, z0c, f120k, f121, f94, f122]) ?_
         refine z0f rfl rfl rfl rfl (by simp [z0b, z0c, f120k, f121, f94, f122]) ?_
         refine z0e rfl rfl rfl rfl (by simp [z0b, z0c, f120k, f121, f94, f122]; rfl) ?_
         refine z0f rfl rfl rfl rfl (by simp [z0b, z0c, f120k, f121, f94, f122]) ?_
         refine z0f rfl rfl rfl rfl (by simp [z0b, z0c, f120k, f121, f94, f122]) ?_
         refine z0f rfl rfl rfl rfl (by simp [z0b, z0c, f120k, f121, f94, f122]) ?_
         refine z0f rfl rfl rfl rfl (by simp [z0b, z0c, f120k, f121, f94, f122]) ?_
         refine z0f rfl rfl rfl rfl (by simp [z0b, z0c, f120k, f121, f94, f122]) ?_
         refine z0f rfl rfl rfl rfl (by simp [z0b, z0c, f120k, f121, f94, f122]) ?_
         refine z0e rfl rfl rfl rfl (by simp [z0b, z0c, f120k, f121, f94, f122]; rfl) ?_
         refine z0e rfl rfl rfl rfl (by simp [z0b, z0c, f120k, f121, f94, f122]; rfl) ?_
         refine z0f rfl rfl rfl rfl (by simp [z0b, z0c, f120k, f121, f94, f122]) ?_
         refine z0e rfl rfl rfl rfl (by simp [z0b, z0c, f120k, f121, f94, f122]; rfl) ?_
         refine z0f rfl rfl rfl rfl (by simp [z0b, z0c, f120k, f121, f94, f122]) ?_
         refine z0f rfl rfl rfl rfl (by simp [z0b, z0c, f120k, f121, f94, f122]) ?_
         refine z0f rfl rfl rfl rfl (by simp [z0b, z0c, f120k, f121, f94, f122]) ?_
         refine z0e rfl rfl rfl rfl (by simp [z0b, z0c, f120k, f121, f94, f122]; rfl) ?_
         refine z0f rfl rfl rfl rfl (by simp [z0b, z0c, f120k, f121, f94, f122]) ?_
         refine z0f rfl rfl rfl rfl (by simp [z0b, z0c, f120k, f121, f94, f122]) ?_
         refine z0f rfl rfl rfl rfl (by simp [z0b, z0c, f120k, f121, f94, f122]) ?_
         refine z0f rfl rfl rfl rfl (by simp [z0b, z0c, f120k, f121, f94, f122]) ?_
         refine z0f rfl rfl rfl rfl (by simp [z0b, z0c, f120k, f121, f94, f122]) ?_
         refine z0f rfl rfl rfl rfl (by simp [z0b, z0c, f120k, f121, f94, f122]) ?_
         refine z0e rfl rfl rfl rfl (by simp [z0b, z0c, f120k, f121, f94, f122]; rfl) ?_
         refine z0e rfl rfl rfl rfl (by simp [z0b, z0c, f120k, f121, f94, f122]; rfl) ?_
         refine z0f rfl rfl rfl rfl (by simp [z0b, z0c, f120k, f121, f94, f122]) ?_
         refine z0e rfl rfl rfl rfl (by simp [z0b, z0c, f120k, f121, f94, f122]; rfl) ?_
         refine z0f rfl rfl rfl rfl (by simp [z0b, z0c, f120k, f121, f94, f122]) ?_
         refine z0e rfl rfl rfl rfl (by simp [z0b, z0c, f120k, f121, f94, f122]; rfl) ?_
         refine z0f rfl rfl rfl rfl (by simp [z0b, z0c, f120k, f121, f94, f122]) ?_
         refine z0e rfl rfl rfl rfl (by simp [z0b, z0c, f120k, f121, f94, f122]; rfl) ?_
         refine z0e rfl rfl rfl rfl (by simp [z0b, z0c, f120k, f121, f94, f122]; rfl) ?_
         refine z0e rfl rfl rfl rfl (by simp [z0b, z0c, f120k, f121, f94, f122]; rfl) ?_
         refine z0f rfl rfl rfl rfl (by simp [z0b, z0c, f120k, f121, f94, f122]) ?_
         refine z0e rfl rfl rfl rfl (by simp [z0b, z0c, f120k, f121, f94, f122]; rfl) ?_
         refine z0e rfl rfl rfl rfl (by simp [z0b, z0c, f120k, f121, f94, f122]; rfl) ?_
         refine z0f rfl rfl rfl rfl (by simp [z0b, z0c, f120k, f121, f94, f122]) ?_
         refine z0e rfl rfl rfl rfl (by simp [z0b, z0c, f120k, f121, f94, f122]; rfl) ?_
         refine z0e rfl rfl rfl rfl (by simp [z0b, z0c, f120k, f121, f94, f122]; rfl) ?_
         refine z0e rfl rfl rfl rfl (by simp [z0b, z0c, f120k, f121, f94, f122]; rfl) ?_
         refine z0e rfl rfl rfl rfl (by simp [z0b, z0c, f120k, f121, f94, f122]; rfl) ?_
         refine zi3 rfl ?_
         refine zas rfl (by simp [f120k, f121, f94, f122]; rfl) ?_
         refine z0a (zq rfl (zr rfl rfl rfl (by simp; rfl) ?_))
         refine z0a (zb rfl (z0R h15 (z1A v59 v63 v81) rfl rfl (by simp [z1A]) fun s o1 h16 hr1 => ?_))
         obtain ⟨w84, w85⟩ := s
         simp only [z1B] at h16
         simp only [z1A]
         refine zq rfl (zr rfl rfl rfl (by simp; rfl) ?_)
         refine z0a (zq rfl ?_)
         by_cases c129 : w84 < (v63.tiles.length : Int)
         ·rw [if_pos c129] at h16
          refine z1c rfl (by simp [c129]) (z0G rfl (z0a (zq rfl (zb rfl (zq rfl (zr rfl rfl rfl (by simp; rfl) ?_))))))
          refine z0a ?_
          obtain ⟨v88, f130, h17⟩ := z0U h16
          obtain ⟨v89, f131, h18⟩ := z0U h17
          refine zr rfl rfl rfl (by simp [f130, f131]; rfl) ?_
          refine z0m (z0a (zr rfl rfl rfl (by simp [f130]; rfl) ?_))
          have ho := z0h h18
          refine z0n ho ?_
          simp [z1A]
         ·rw [if_neg c129] at h16
          refine z0V rfl (by simp [c129]) (z0Z rfl (z0H ?_))
          obtain ⟨rr1, h17, ho1⟩ := z0w h16
          have hs1 := hr1 _ ho1
          subst hs1
          refine z0C ho1 (z0l rfl (z0m (z0a (zq rfl ?_))))
          obtain ⟨v90, f132, h18⟩ := z0i h17
          have f132k := Ok.ok _ f132
          try simp at f132k
          obtain ⟨v91, f133, h19⟩ := z0i h18
          have f133k := Ok.ok _ f133
          try simp at f133k
          by_cases c134 : (v90 == v91) = true
          ·rw [if_pos c134] at h19
           obtain ⟨v92, f135, h20⟩ := z0i h19
           have f135k := Ok.ok _ f135
           try simp at f135k
           refine z0I rfl rfl rfl rfl ?_; repeat' (first | (refine z0r rfl rfl fun Q' hQ => ?_; simp [f132k, f133k, c134, f135k]; refine hQ.out _ ?_; clear hQ; clear Q') | (refine z0u rfl rfl fun Q1 Q2 h1 h2 => ?_; simp [f132k, f133k, c134, f135k, z0J]; (first | refine h1.out ?_ | refine h2.out ?_); clear h1 h2; clear Q1 Q2; intro Q' hQ; simp [f132k, f133k, c134, f135k]; refine hQ.out _ ?_; clear hQ; clear Q') | (refine z0k rfl fun Q' hQ => ?_; simp [f132k, f133k, c134, f135k]; refine hQ.out _ ?_; clear hQ; clear Q'))
           refine z0a (z3m rfl ?_)
           cases h20
           simp [c134]
          ·rw [if_neg c134] at h19
           refine z0I rfl rfl rfl rfl ?_; repeat' (first | (refine z0r rfl rfl fun Q' hQ => ?_; simp [f132k, f133k, c134]; refine hQ.out _ ?_; clear hQ; clear Q') | (refine z0u rfl rfl fun Q1 Q2 h1 h2 => ?_; simp [f132k, f133k, c134, z0J]; (first | refine h1.out ?_ | refine h2.out ?_); clear h1 h2; clear Q1 Q2; intro Q' hQ; simp [f132k, f133k, c134]; refine hQ.out _ ?_; clear hQ; clear Q') | (refine z0k rfl fun Q' hQ => ?_; simp [f132k, f133k, c134]; refine hQ.out _ ?_; clear hQ; clear Q'))
           refine z0a (z3m rfl ?_)
           cases h19
           simp [c134]
        ·rw [if_neg c119] at h12
         have c119e := eq_false c119
         refine z0V rfl (by simp [c119e]) (zq rfl (zr rfl rfl rfl (by simp; rfl) ?_))
         refine z0a ?_
         by_cases c136 : v67 = 4
         ·rw [if_pos c136] at h12
          have c136e := eq_true c136
          refine z1c rfl (by simp [c136e]) (zq rfl (zr rfl rfl rfl (by simp; rfl) ?_))
          refine z0a ?_
          by_cases c137 : 0 < (v65.length : Int)
          ·rw [if_pos c137] at h12
           have c137s : v65 ≠ [] := by simpa [List.length_pos_iff] using c137
           have c137t := eq_true (show 0 < v65.length by omega)
           refine z1c rfl (by simp [c137, c137s, c137t]) ?_
           obtain ⟨v93, f138, h13⟩ := z0i h12
           obtain ⟨f138a, f138b, f138c, f138d, f138e⟩ := z3H f138
           simp only [Int.reduceToNat, Int.toNat_natCast] at f138c f138d f138e
           have f138j : v65 ≠ [] := by intro hh; rw [hh] at f138c; simp at f138c
           have f138l : 0 < v65.length := by omega
           obtain ⟨v94, f139, h14⟩ := z0i h13
           have f139k := Ok.ok _ f139
           try simp at f139k
           obtain ⟨v95, f140, h15⟩ := z0U h14
           refine z0I rfl rfl rfl rfl ?_; repeat' ((first | refine z0r rfl rfl fun Q' hQ => ?_ | refine z0k rfl fun Q' hQ => ?_); simp [f138a, f138b, f138c, f138d, f138e, f138j, f138l, f139k, f140]; refine hQ.out _ ?_; clear hQ; clear Q')
           refine z0m (z0a (zq rfl ?_))
           obtain ⟨v96, f141, h16⟩ := z0i h15
           have f141k := Ok.ok _ f141
           try simp at f141k
           obtain ⟨v97, f142, h17⟩ := z0i h16
           have f142k := Ok.ok _ f142
           try simp at f142k
           by_cases c143 : (v96 == v97) = true
           ·rw [if_pos c143] at h17
            obtain ⟨v98, f144, h18⟩ := z0i h17
            have f144k := Ok.ok _ f144
            try simp at f144k
            refine z0I rfl rfl rfl rfl ?_; repeat' (first | (refine z0r rfl rfl fun Q' hQ => ?_; simp [f138a, f138b, f138c, f138d, f138e, f138j, f138l, f141k, f142k, c143, f144k]; refine hQ.out _ ?_; clear hQ; clear Q') | (refine z0u rfl rfl fun Q1 Q2 h1 h2 => ?_; simp [f138a, f138b, f138c, f138d, f138e, f138j, f138l, f141k, f142k, c143, f144k, z0J]; (first | refine h1.out ?_ | refine h2.out ?_); clear h1 h2; clear Q1 Q2; intro Q' hQ; simp [f138a, f138b, f138c, f138d, f138e, f138j, f138l, f141k, f142k, c143, f144k]; refine hQ.out _ ?_; clear hQ; clear Q') | (refine z0k rfl fun Q' hQ => ?_; simp [f138a, f138b, f138c, f138d, f138e, f138j, f138l, f141k, f142k, c143, f144k]; refine hQ.out _ ?_; clear hQ; clear Q'))
            refine z0a (z3m rfl ?_)
            cases h18
            simp [c93, c143]
           ·rw [if_neg c143] at h17
            refine z0I rfl rfl rfl rfl ?_; repeat' (first | (refine z0r rfl rfl fun Q' hQ => ?_; simp [f138a, f138b, f138c, f138d, f138e, f138j, f138l, f141k, f142k, c143]; refine hQ.out _ ?_; clear hQ; clear Q') | (refine z0u rfl rfl fun Q1 Q2 h1 h2 => ?_; simp [f138a, f138b, f138c, f138d, f138e, f138j, f138l, f141k, f142k, c143, z0J]; (first | refine h1.out ?_ | refine h2.out ?_); clear h1 h2; clear Q1 Q2; intro Q' hQ; simp [f138a, f138b, f138c, f138d, f138e, f138j, f138l, f141k, f142k, c143]; refine hQ.out _ ?_; clear hQ; clear Q') | (refine z0k rfl fun Q' hQ => ?_; simp [f138a, f138b, f138c, f138d, f138e, f138j, f138l, f141k, f142k, c143]; refine hQ.out _ ?_; clear hQ; clear Q'))
            refine z0a (z3m rfl ?_)
            cases h17
            simp [c93, c143]
          ·rw [if_neg c137] at h12
           have c137s : v65 = [] := by simpa [List.length_pos_iff] using c137
           have c137t := eq_false (show ¬0 < v65.length by omega)
           refine z0V rfl (by simp [c137, c137s, c137t]) (z0G rfl (z0m (z0a (zq rfl ?_))))
           obtain ⟨v99, f145, h13⟩ := z0i h12
           have f145k := Ok.ok _ f145
           try simp at f145k
           obtain ⟨v100, f146, h14⟩ := z0i h13
           have f146k := Ok.ok _ f146
           try simp at f146k
           by_cases c147 : (v99 == v100) = true
           ·rw [if_pos c147] at h14
            obtain ⟨v101, f148, h15⟩ := z0i h14
            have f148k := Ok.ok _ f148
            try simp at f148k
            refine z0I rfl rfl rfl rfl ?_; repeat' (first | (refine z0r rfl rfl fun Q' hQ => ?_; simp [f145k, f146k, c147, f148k]; refine hQ.out _ ?_; clear hQ; clear Q') | (refine z0u rfl rfl fun Q1 Q2 h1 h2 => ?_; simp [f145k, f146k, c147, f148k, z0J]; (first | refine h1.out ?_ | refine h2.out ?_); clear h1 h2; clear Q1 Q2; intro Q' hQ; simp [f145k, f146k, c147, f148k]; refine hQ.out _ ?_; clear hQ; clear Q') | (refine z0k rfl fun Q' hQ => ?_; simp [f145k, f146k, c147, f148k]; refine hQ.out _ ?_; clear hQ; clear Q'))
            refine z0a (z3m rfl ?_)
            cases h15
            simp [c93, c147]
           ·rw [if_neg c147] at h14
            refine z0I rfl rfl rfl rfl ?_; repeat' (first | (refine z0r rfl rfl fun Q' hQ => ?_; simp [f145k, f146k, c147]; refine hQ.out _ ?_; clear hQ; clear Q') | (refine z0u rfl rfl fun Q1 Q2 h1 h2 => ?_; simp [f145k, f146k, c147, z0J]; (first | refine h1.out ?_ | refine h2.out ?_); clear h1 h2; clear Q1 Q2; intro Q' hQ; simp [f145k, f146k, c147]; refine hQ.out _ ?_; clear hQ; clear Q') | (refine z0k rfl fun Q' hQ => ?_; simp [f145k, f146k, c147]; refine hQ.out _ ?_; clear hQ; clear Q'))
            refine z0a (z3m rfl ?_)
            cases h14
            simp [c93, c147]
         ·rw [if_neg c136] at h12
          have c136e := eq_false c136
          refine z0V rfl (by simp [c136e]) (zq rfl (zr rfl rfl rfl (by simp; rfl) ?_))
          refine z0a ?_
          by_cases c149 : v67 = 5
          ·rw [if_pos c149] at h12
           have c149e := eq_true c149
           refine z1c rfl (by simp [c149e]) (zq rfl (zr rfl rfl rfl (by simp; rfl) ?_))
           refine z0a ?_
           by_cases c150 : 0 < (v63.words.length : Int)
           ·rw [if_pos c150] at h12
            have c150s : v63.words ≠ [] := by simpa [List.length_pos_iff] using c150
            have c150t := eq_true (show 0 < v63.words.length by omega)
            refine z1c rfl (by simp [c150, c150s, c150t]) ?_
            obtain ⟨v102, f151, h13⟩ := z0i h12
            obtain ⟨f151a, f151b, f151c, f151d, f151e⟩ := z3H f151
            simp only [Int.reduceToNat, Int.toNat_natCast] at f151c f151d f151e
            have f151j : v63.words ≠ [] := by intro hh; rw [hh] at f151c; simp at f151c
            have f151l : 0 < v63.words.length := by omega
            obtain ⟨f152, h14⟩ := z2Q h13
            refine zr rfl rfl rfl (by simp [f151a, f151b, f151c, f151d, f151e, f151j, f151l, f152]; rfl) ?_
            refine z0m (z0a (zq rfl ?_))
            obtain ⟨v104, f153, h15⟩ := z0i h14
            have f153k := Ok.ok _ f153
            try simp at f153k
            obtain ⟨v105, f154, h16⟩ := z0i h15
            have f154k := Ok.ok _ f154
            try simp at f154k
            by_cases c155 : (v104 == v105) = true
            ·rw [if_pos c155] at h16
             obtain ⟨v106, f156, h17⟩ := z0i h16
             have f156k := Ok.ok _ f156
             try simp at f156k
             refine z0I rfl rfl rfl rfl ?_; repeat' (first | (refine z0r rfl rfl fun Q' hQ => ?_; simp [f153k, f154k, c155, f156k]; refine hQ.out _ ?_; clear hQ; clear Q') | (refine z0u rfl rfl fun Q1 Q2 h1 h2 => ?_; simp [f153k, f154k, c155, f156k, z0J]; (first | refine h1.out ?_ | refine h2.out ?_); clear h1 h2; clear Q1 Q2; intro Q' hQ; simp [f153k, f154k, c155, f156k]; refine hQ.out _ ?_; clear hQ; clear Q') | (refine z0k rfl fun Q' hQ => ?_; simp [f153k, f154k, c155, f156k]; refine hQ.out _ ?_; clear hQ; clear Q'))
             refine z0a (z3m rfl ?_)
             cases h17
             simp [c93, c155]
            ·rw [if_neg c155] at h16
             refine z0I rfl rfl rfl rfl ?_; repeat' (first | (refine z0r rfl rfl fun Q' hQ => ?_; simp [f153k, f154k, c155]; refine hQ.out _ ?_; clear hQ; clear Q') | (refine z0u rfl rfl fun Q1 Q2 h1 h2 => ?_; simp [f153k, f154k, c155, z0J]; (first | refine h1.out ?_ | refine h2.out ?_); clear h1 h2; clear Q1 Q2; intro Q' hQ; simp [f153k, f154k, c155]; refine hQ.out _ ?_; clear hQ; clear Q') | (refine z0k rfl fun Q' hQ => ?_; simp [f153k, f154k, c155]; refine hQ.out _ ?_; clear hQ; clear Q'))
             refine z0a (z3m rfl ?_)
             cases h16
             simp [c93, c155]
           ·rw [if_neg c150] at h12
            have c150s : v63.words = [] := by simpa [List.length_pos_iff] using c150
            have c150t := eq_false (show ¬0 < v63.words.length by omega)
            refine z0V rfl (by simp [c150, c150s, c150t]) (z0G rfl (z0m (z0a (zq rfl ?_))))
            obtain ⟨v107, f157, h13⟩ := z0i h12
            have f157k := Ok.ok _ f157
            try simp at f157k
            obtain ⟨v108, f158, h14⟩ := z0i h13
            have f158k := Ok.ok _ f158
            try simp at f158k
            by_cases c159 : (v107 == v108) = true
            ·rw [if_pos c159] at h14
             obtain ⟨v109, f160, h15⟩ := z0i h14
             have f160k := Ok.ok _ f160
             try simp at f160k
             refine z0I rfl rfl rfl rfl ?_; repeat' (first | (refine z0r rfl rfl fun Q' hQ => ?_; simp [f157k, f158k, c159, f160k]; refine hQ.out _ ?_; clear hQ; clear Q') | (refine z0u rfl rfl fun Q1 Q2 h1 h2 => ?_; simp [f157k, f158k, c159, f160k, z0J]; (first | refine h1.out ?_ | refine h2.out ?_); clear h1 h2; clear Q1 Q2; intro Q' hQ; simp [f157k, f158k, c159, f160k]; refine hQ.out _ ?_; clear hQ; clear Q') | (refine z0k rfl fun Q' hQ => ?_; simp [f157k, f158k, c159, f160k]; refine hQ.out _ ?_; clear hQ; clear Q'))
             refine z0a (z3m rfl ?_)
             cases h15
             simp [c93, c159]
            ·rw [if_neg c159] at h14
             refine z0I rfl rfl rfl rfl ?_; repeat' (first | (refine z0r rfl rfl fun Q' hQ => ?_; simp [f157k, f158k, c159]; refine hQ.out _ ?_; clear hQ; clear Q') | (refine z0u rfl rfl fun Q1 Q2 h1 h2 => ?_; simp [f157k, f158k, c159, z0J]; (first | refine h1.out ?_ | refine h2.out ?_); clear h1 h2; clear Q1 Q2; intro Q' hQ; simp [f157k, f158k, c159]; refine hQ.out _ ?_; clear hQ; clear Q') | (refine z0k rfl fun Q' hQ => ?_; simp [f157k, f158k, c159]; refine hQ.out _ ?_; clear hQ; clear Q'))
             refine z0a (z3m rfl ?_)
             cases h14
             simp [c93, c159]
          ·rw [if_neg c149] at h12
           have c149e := eq_false c149
           refine z0V rfl (by simp [c149e]) (z0G rfl (z0m (z0a (zq rfl ?_))))
           obtain ⟨v110, f161, h13⟩ := z0i h12
           have f161k := Ok.ok _ f161
           try simp at f161k
           obtain ⟨v111, f162, h14⟩ := z0i h13
           have f162k := Ok.ok _ f162
           try simp at f162k
           by_cases c163 : (v110 == v111) = true
           ·rw [if_pos c163] at h14
            obtain ⟨v112, f164, h15⟩ := z0i h14
            have f164k := Ok.ok _ f164
            try simp at f164k
            refine z0I rfl rfl rfl rfl ?_; repeat' (first | (refine z0r rfl rfl fun Q' hQ => ?_; simp [f161k, f162k, c163, f164k]; refine hQ.out _ ?_; clear hQ; clear Q') | (refine z0u rfl rfl fun Q1 Q2 h1 h2 => ?_; simp [f161k, f162k, c163, f164k, z0J]; (first | refine h1.out ?_ | refine h2.out ?_); clear h1 h2; clear Q1 Q2; intro Q' hQ; simp [f161k, f162k, c163, f164k]; refine hQ.out _ ?_; clear hQ; clear Q') | (refine z0k rfl fun Q' hQ => ?_; simp [f161k, f162k, c163, f164k]; refine hQ.out _ ?_; clear hQ; clear Q'))
            refine z0a (z3m rfl ?_)
            cases h15
            simp [c93, c163]
           ·rw [if_neg c163] at h14
            refine z0I rfl rfl rfl rfl ?_; repeat' (first | (refine z0r rfl rfl fun Q' hQ => ?_; simp [f161k, f162k, c163]; refine hQ.out _ ?_; clear hQ; clear Q') | (refine z0u rfl rfl fun Q1 Q2 h1 h2 => ?_; simp [f161k, f162k, c163, z0J]; (first | refine h1.out ?_ | refine h2.out ?_); clear h1 h2; clear Q1 Q2; intro Q' hQ; simp [f161k, f162k, c163]; refine hQ.out _ ?_; clear hQ; clear Q') | (refine z0k rfl fun Q' hQ => ?_; simp [f161k, f162k, c163]; refine hQ.out _ ?_; clear hQ; clear Q'))
            refine z0a (z3m rfl ?_)
            cases h14
            simp [c93, c163]
    ·rw [if_neg c93] at h7
     refine z1c rfl (by simp [c93]) (zq rfl (zr rfl rfl rfl (by simp; rfl) ?_))
     refine z0a (z3m rfl (z3O ?_))
     cases h7
     simp [c93]
  ·rw [if_neg c87] at h4
   have c87e := eq_false c87
   refine z1c rfl (by simp [c87e]) (zq rfl (zr rfl rfl rfl (by simp; rfl) ?_))
   refine z0a (z3m rfl (z3O ?_))
   cases h4
   simp
end
end Go.Proofs.Ytodliknibbafeaa
end
section
namespace Go.Proofs.Ytodliknibbafeaa
open Go
set_option maxRecDepth 100000
theorem zwO {d : DFA} {m n : Nat} {S : List Nat} {k : Nat} (h : 0 < z9K d m n S k) : szN (S.getD k 0) ≠ 1 := fun e => by
  have hz : z7n S k = true := by unfold z7n; rw [decide_eq_true e]
  unfold z9K ziE at h
  cases hN : S.length with
  | zero => rw [hN] at h; simp [zwP] at h
  | succ N => rw [hN] at h; simp only [zwP] at h; rw [if_pos hz] at h; omega
theorem z5b {d : DFA} {m n : Nat} (hd : DfaOk d m n) (hn : n ≤ 12) (h : Hol) (hp : h.perms.length < 2 ^ 61) {R : Bool → Bool → Option Bool} (hR : ∀ v, R v v = some true) : ((z0K d h).bind fun a => (z1k d h).bind fun b => R a b) = some true := by
  rw [zlh hd hn hp, Option.bind_some, zt2 hd hn hp, Option.bind_some, hR]
theorem z7d (v : Bool) : (if (v == v) = true then (z7g).bind fun q => some q else some false) = some true := by
  rw [if_pos (by simp)]; rfl
theorem zra (l : List Int) (w0 : l.length ≤ maxLen) (z0 : ∀ x ∈ l, (Lit.int .i64 x).wf = true) (a : Int) (w1 : (Lit.int .i64 a).wf = true) (b : Int) (w2 : (Lit.int .i64 b).wf = true) (c : Int) (w3 : (Lit.int .i64 c).wf = true) : ∃ outs, L 5 [.sl l.length (l.map fun x => .sc (.int .i64 x)), .sc (.int .i64 a), .sc (.int .i64 b), .sc (.int .i64 c)] = some (bT true, outs) := by
  obtain ⟨t0, e0, h0⟩ := zy2 l
  obtain ⟨m, t1, e1, m1, m2, h1⟩ := zr9 h0
  obtain ⟨d, t2, n, e2, hd, hn, h2, h32⟩ := zxa h1 m 5 ⟨m1, m2⟩ (by omega)
  have hS := zcz hd
  obtain ⟨O, eO, o1, o2⟩ := zt1 hd hn
  obtain ⟨wd, t3, ew, wl, ws, ht3⟩ := zw0 h2 d.letters 4 (by rw [hd.lt]; omega) (by omega)
  have e2' : z2N t1 (m : Int) 5 = some (d, t2) := e2
  have key : z1Z l a b c = some true := by
    unfold z1Z
    rw [e0, Option.bind_some, e1, Option.bind_some]
    simp only
    rw [e2', Option.bind_some]
    simp only
    rw [eO, Option.bind_some, if_pos rfl]
    simp only
    by_cases hO : ((O.map (zfW d m n (z2S d m n))).length : Int) = 0
    · rw [if_pos hO]; rfl
    rw [if_neg hO]
    rw [List.length_map] at hO ⊢
    have hOl : O.length ≤ 32 := by
      rw [o2.length_eq]; unfold z9J
      refine Nat.le_trans (List.length_filter_le _ _) ?_
      rw [List.length_range]
      have := zfp (z7e d m n (z2S d m n)) (z2S d m n).length
      omega
    obtain ⟨k, e4, k0, k1⟩ := z3V b (O.length : Int) (by omega) (by omega)
    obtain ⟨k, rfl⟩ := Int.eq_ofNat_of_zero_le k0
    have hk : k < O.length := by omega
    have hat : atI (O.map (zfW d m n (z2S d m n))) (k : Int) = some (zfW d m n (z2S d m n) (O.getD k 0)) := by
      rw [z0L (by simpa using hk)]; simp [List.getD, hk]
    have hm := o2.mem_iff.1 (z0x hk)
    unfold z9J at hm
    obtain ⟨hm1, hm2⟩ := List.mem_filter.1 hm
    obtain ⟨hk1, hk2⟩ := ztB hd hn hS (List.mem_range.1 hm1) (zwO (by simpa [hC] using hm2)) (fun x hx => zih hd hx) h32
    rw [e4, Option.bind_some, hat, Option.bind_some]
    generalize zfW d m n (z2S d m n) (O.getD k 0) = h at *
    have q1 := hk1.t1
    have q2 := hk1.t2
    have q3 := hk1.wp
    have q4 := hk1.wl
    obtain ⟨u, e5, u0, u1⟩ := z3V b (h.tiles.length : Int) (by omega) (by omega)
    obtain ⟨u, rfl⟩ := Int.eq_ofNat_of_zero_le u0
    obtain ⟨q, e6, q0, q5⟩ := z3V a 6 (by omega) (by omega)
    obtain ⟨p1, f1, _, _⟩ := z3V c 40 (by omega) (by omega)
    obtain ⟨p2, f2, _, _⟩ := z3V c ((h.tiles.length : Int) + 1) (by omega) (by omega)
    have wt : IntKind.i64.wrap ((h.tiles.length : Int) + 1) = (h.tiles.length : Int) + 1 := z2U (by omega) (by omega)
    rw [zlh hd (by omega) (by omega), Option.bind_some, if_pos hk2, z0B _ (by unfold z0T; omega), z0B _ (by unfold z0T; omega), zvf _ (by omega) (fun x hx => by have := hk1.pl x hx; omega), Option.bind_some, e5, Option.bind_some, e6, Option.bind_some]
    by_cases c0 : q = 0
    · rw [if_pos c0, f1, Option.bind_some]
      exact z5b hd (by omega) _ (by simp only; omega) z7d
    rw [if_neg c0]
    by_cases c1 : q = 1
    · rw [if_pos c1, f1, Option.bind_some, z0L (show u < h.tiles.length by omega), Option.bind_some]
      exact z5b hd (by omega) _ (by simp only; omega) z7d
    rw [if_neg c1]
    by_cases c2 : q = 2
    · rw [if_pos c2, ew, Option.bind_some, z0B _ (by unfold z0T; omega)]
      exact z5b hd (by omega) _ (by simp only; omega) z7d
    rw [if_neg c2]
    by_cases c3 : q = 3
    · rw [if_pos c3, ew, Option.bind_some, z0B _ (by unfold z0T; omega), z0B _ (by unfold z0T; omega)]
      have hs : ∀ X : List Int, (h.perms ++ [h.tiles]).set h.perms.length X = h.perms ++ [X] := fun X => by simp
      have wl1 : ∀ X : List Int, IntKind.i64.wrap (((h.perms ++ [X]).length : Int) - 1) = ((h.perms.length : Nat) : Int) := fun X => by
        rw [List.length_append, List.length_singleton, z2U (by omega) (by omega)]; omega
      refine z0N (s := ((0 : Int), h.perms ++ [h.tiles])) h.tiles.length (fun i => ((i : Int), h.perms ++ [zkZ h.tiles.length (fun q => (q : Int)) (fun q => h.tiles.getD q 0) i])) ?_ (by simp only [LFm]; omega) (fun i hi => ?_) ?_
      · rw [zwA]
        congr 3
        exact List.ext_getElem (by simp) fun i h1 h2 => by simp [List.getD, h1]
      · simp only [z1B]
        have g1 : atI (h.perms ++ [zkZ h.tiles.length (fun q => (q : Int)) (fun q => h.tiles.getD q 0) i]) ((h.perms.length : Nat) : Int) = some (zkZ h.tiles.length (fun q => (q : Int)) (fun q => h.tiles.getD q 0) i) := by
          rw [z0L (by simp)]; simp
        rw [if_pos (by omega), wl1, g1, Option.bind_some, ztg hi, Option.bind_some, Int.toNat_natCast, Int.toNat_natCast, zmN (f := fun q => (q : Int)) hi, z1b (by omega)]
        simp
      · simp only [z1B]
        rw [if_neg (by omega)]
        exact congrArg z0v (z5b hd (by omega) _ (by simp only [List.length_append, List.length_singleton]; omega) z7d)
    rw [if_neg c3]
    by_cases c4 : q = 4
    · rw [if_pos c4]
      by_cases c5 : 0 < (h.perms.length : Int)
      · have hp0 : 0 < h.perms.length := by omega
        have hpl := hk1.pl _ (List.getElem_mem hp0)
        have ga : atI h.perms 0 = some h.perms[0] := z0L hp0
        rw [if_pos c5, ga, Option.bind_some, wt, f2, Option.bind_some, z0L (show u < h.perms[0].length by omega), Option.bind_some]
        exact z5b hd (by omega) _ (by simp only [List.length_set]; omega) z7d
      · rw [if_neg c5]
        exact z5b hd (by omega) _ (by simp only; omega) z7d
    rw [if_neg c4]
    by_cases c6 : q = 5
    · rw [if_pos c6]
      by_cases c5 : 0 < (h.words.length : Int)
      · have hw0 : 0 < h.words.length := by omega
        have hwl := hk1.wb _ (List.getElem_mem hw0)
        have ga : atI h.words 0 = some h.words[0] := z0L hw0
        rw [if_pos c5, ga, Option.bind_some, z0B _ (by unfold z7l; simp; omega)]
        exact z5b hd (by omega) _ (by simp only; omega) z7d
      · rw [if_neg c5]
        exact z5b hd (by omega) _ (by simp only; omega) z7d
    rw [if_neg c6]
    exact z5b hd (by omega) _ (by simp only; omega) z7d
  exact ⟨_, z6Y key⟩
end Go.Proofs.Ytodliknibbafeaa
end
section
namespace Go.Proofs.Ytodliknibbafeaa
open Go.RowKit
def Arr (w : World) (g n : Nat) (f : Nat → Value) : Prop :=
  ∀ i, i < n → w.cell? ⟨g, i, none⟩ = some (f i) ∧ w.frozen? ⟨g, i, none⟩ = false
theorem Arr.set {w : World} {g n : Nat} {f : Nat → Value} (h : Arr w g n f) (j : Nat) (hj : j < n) (c : Value) :
    Arr (w.setCell ⟨g, j, none⟩ c) g n (fun i => if i = j then c else f i) := by
  intro i hi
  refine ⟨?_, by rw [World.frozen?_setCell]; exact (h i hi).2⟩
  by_cases hij : i = j
  · subst hij
    rw [World.cell?_setCell_same _ _ _ (h i hi).1]; simp
  · rw [World.cell?_setCell_other _ _ _ _ (fun e => hij (by cases e; rfl)), (h i hi).1]; simp [hij]
theorem Arr.setOther {w : World} {g n : Nat} {f : Nat → Value} (h : Arr w g n f) {g' : Nat} (hg : g ≠ g') (j : Nat) (c : Value) : Arr (w.setCell ⟨g', j, none⟩ c) g n f := by
  intro i hi
  refine ⟨?_, by rw [World.frozen?_setCell]; exact (h i hi).2⟩
  rw [World.cell?_setCell_other _ _ _ _ (fun e => hg (by cases e; rfl))]; exact (h i hi).1
theorem Arr.drew {w : World} {g n : Nat} {f : Nat → Value} (h : Arr w g n f) : Arr w.drew g n f := h
theorem Arr.congr {w : World} {g n : Nat} {f f' : Nat → Value} (h : Arr w g n f) (e : ∀ i, i < n → f i = f' i) : Arr w g n f' :=
  fun i hi => by rw [← e i hi]; exact h i hi
theorem Arr.below {w w' : World} {g n B : Nat} {f : Nat → Value} (h : Arr w g n f) (hb : Below B w w') (hg : g < B) : Arr w' g n f :=
  fun i hi => ⟨(hb.cell (p := ⟨g, i, none⟩) hg).trans (h i hi).1, (hb.frozen (p := ⟨g, i, none⟩) hg).trans (h i hi).2⟩
theorem Arr.grown {w w' : World} {g n : Nat} {row : Option Nat} {f : Nat → Value} (h : Arr w g n f) (hb : w.grownBy w' row) (hg : some g ≠ row) : Arr w' g n f :=
  fun i hi => by
    have hlt := World.block_lt_of_cell? w _ (h i hi).1
    have e := hb.block g hlt hg
    exact ⟨(World.cell?_of_block (a := ⟨g, i, none⟩) e).trans (h i hi).1, (World.frozen?_of_block (a := ⟨g, i, none⟩) e).trans (h i hi).2⟩
theorem Arr.made (w : World) (z : Value) (n : Nat) (e : TypeId) : Arr (w.alloc (.cells (madeCells #[z] n) e)) w.heap.size n (fun _ => z) := by
  intro i hi
  refine ⟨?_, by rw [World.frozen?_alloc_new]⟩
  rw [World.cell?_alloc_new]
  simp [madeCells, hi, Nat.mod_one]
theorem Arr.lt {w : World} {g n : Nat} {f : Nat → Value} (h : Arr w g n f) (hn : 0 < n) : g < w.heap.size := World.block_lt_of_cell? w _ (h 0 hn).1
theorem Arr.get {w : World} {g n : Nat} {f : Nat → Value} (h : Arr w g n f) (i : Nat) (hi : i < n) {v : Value} (e : f i = v) : w.cell? ⟨g, i, none⟩ = some v := by rw [(h i hi).1, e]
theorem Arr.free {w : World} {g n : Nat} {f : Nat → Value} (h : Arr w g n f) (i : Nat) (hi : i < n) : w.frozen? ⟨g, i, none⟩ = false := (h i hi).2
end Go.Proofs.Ytodliknibbafeaa
end
section
namespace Go.Proofs
open Go.Shelf
def Try.lays128_ren : Go.Shelf.Ren := ⟨fun | 128 => 93 | n => n, fun | 51 => 111 | 3 => 3 | 4 => 4 | 46 => 92 | 5 => 5 | 9 => 9 | n => n, fun | n => n⟩
theorem Try.lays128 : Go.Proofs.Lays.n128 Try.prog Try.lays128_ren := {
  mixed := by kernel_rfl
  f128 := Try.func93.trans (congrArg some (by kernel_rfl))
  t3 := Try.underlying3
  a3 := Try.isAgg3
  z3 := Try.sizeOf3
  v3 := Try.zeroValue3
  t4 := Try.underlying4
  a4 := Try.isAgg4
  z4 := Try.sizeOf4
  v4 := Try.zeroValue4
  t5 := Try.underlying5
  a5 := Try.isAgg5
  z5 := Try.sizeOf5
  v5 := Try.zeroValue5
  t9 := Try.underlying9
  a9 := Try.isAgg9
  z9 := Try.sizeOf9
  v9 := Try.zeroValue9
  t46 := Try.underlying92
  a46 := Try.isAgg92
  z46 := Try.sizeOf92
  v46 := Try.zeroValue92
  t51 := Try.underlying111
  a51 := Try.isAgg111
  z51 := Try.sizeOf111
  v51 := Try.zeroValue111 }
theorem Try.bits_Len32 (x : Int) (w : World) (h0 : 0 ≤ x) (h1 : x ≤ 4294967295) :
    Calls Try.prog 93 #[.int .u32 x] w fun e w' => e = .returned (.int .i64 (Lib.bitLen x.toNat)) ∧ w' = w := Any.bits_Len32 Try.lays128 x w h0 h1
def Try.lays125_ren : Go.Shelf.Ren := ⟨fun | 125 => 82 | 128 => 93 | 129 => 94 | n => n, fun | 46 => 92 | 3 => 3 | 51 => 111 | 53 => 113 | 4 => 4 | 5 => 5 | 9 => 9 | n => n, fun | n => n⟩
theorem Try.lays125 : Go.Proofs.Lays.n125 Try.prog Try.lays125_ren := {
  mixed := by kernel_rfl
  f125 := Try.func82.trans (congrArg some (by kernel_rfl))
  f128 := Try.func93.trans (congrArg some (by kernel_rfl))
  f129 := Try.func94.trans (congrArg some (by kernel_rfl))
  t3 := Try.underlying3
  a3 := Try.isAgg3
  z3 := Try.sizeOf3
  v3 := Try.zeroValue3
  t4 := Try.underlying4
  a4 := Try.isAgg4
  z4 := Try.sizeOf4
  v4 := Try.zeroValue4
  t5 := Try.underlying5
  a5 := Try.isAgg5
  z5 := Try.sizeOf5
  v5 := Try.zeroValue5
  t9 := Try.underlying9
  a9 := Try.isAgg9
  z9 := Try.sizeOf9
  v9 := Try.zeroValue9
  t46 := Try.underlying92
  a46 := Try.isAgg92
  z46 := Try.sizeOf92
  v46 := Try.zeroValue92
  t51 := Try.underlying111
  a51 := Try.isAgg111
  z51 := Try.sizeOf111
  v51 := Try.zeroValue111
  t53 := Try.underlying113
  a53 := Try.isAgg113
  z53 := Try.sizeOf113
  v53 := Try.zeroValue113 }
theorem Try.bits_Len (x : Int) (w : World) (h0 : 0 ≤ x) (h1 : x ≤ 18446744073709551615) :
    Calls Try.prog 82 #[.int .u64 x] w fun e w' => e = .returned (.int .i64 (Lib.bitLen x.toNat)) ∧ w' = w := Any.bits_Len Try.lays125 x w h0 h1
def Try.lays215_ren : Go.Shelf.Ren := ⟨fun | 215 => 76 | n => n, fun | 3 => 3 | 4 => 4 | n => n, fun | n => n⟩
theorem Try.lays215 : Go.Proofs.Lays.n215 Try.prog Try.lays215_ren := {
  mixed := by kernel_rfl
  f215 := Try.func76.trans (congrArg some (by kernel_rfl))
  t3 := Try.underlying3
  a3 := Try.isAgg3
  z3 := Try.sizeOf3
  v3 := Try.zeroValue3
  t4 := Try.underlying4
  a4 := Try.isAgg4
  z4 := Try.sizeOf4
  v4 := Try.zeroValue4 }
open Go.RowKit in
theorem Try.cmp_isNaN_int (x : Int) (w : World) :
    Calls Try.prog 76 #[.int .i64 x] w fun e w' => e = .returned (.bool false) ∧ w' = w := Any.cmp_isNaN_int Try.lays215 x w
def Try.lays122_ren : Go.Shelf.Ren := ⟨fun | 122 => 54 | 215 => 76 | n => n, fun | 3 => 3 | 4 => 4 | n => n, fun | n => n⟩
theorem Try.lays122 : Go.Proofs.Lays.n122 Try.prog Try.lays122_ren := {
  mixed := by kernel_rfl
  f122 := Try.func54.trans (congrArg some (by kernel_rfl))
  f215 := Try.func76.trans (congrArg some (by kernel_rfl))
  t3 := Try.underlying3
  a3 := Try.isAgg3
  z3 := Try.sizeOf3
  v3 := Try.zeroValue3
  t4 := Try.underlying4
  a4 := Try.isAgg4
  z4 := Try.sizeOf4
  v4 := Try.zeroValue4 }
open Go.RowKit in
theorem Try.cmp_Compare_int (x y : Int) (w : World) :
    Calls Try.prog 54 #[.int .i64 x, .int .i64 y] w fun e w' => e = .returned (.int .i64 (Lib.compareInt x y)) ∧ w' = w := Any.cmp_Compare_int Try.lays122 x y w
def Try.lays129_ren : Go.Shelf.Ren := ⟨fun | 129 => 94 | n => n, fun | 53 => 113 | 3 => 3 | 4 => 4 | 46 => 92 | 5 => 5 | 9 => 9 | n => n, fun | n => n⟩
theorem Try.lays129 : Go.Proofs.Lays.n129 Try.prog Try.lays129_ren := {
  mixed := by kernel_rfl
  f129 := Try.func94.trans (congrArg some (by kernel_rfl))
  t3 := Try.underlying3
  a3 := Try.isAgg3
  z3 := Try.sizeOf3
  v3 := Try.zeroValue3
  t4 := Try.underlying4
  a4 := Try.isAgg4
  z4 := Try.sizeOf4
  v4 := Try.zeroValue4
  t5 := Try.underlying5
  a5 := Try.isAgg5
  z5 := Try.sizeOf5
  v5 := Try.zeroValue5
  t9 := Try.underlying9
  a9 := Try.isAgg9
  z9 := Try.sizeOf9
  v9 := Try.zeroValue9
  t46 := Try.underlying92
  a46 := Try.isAgg92
  z46 := Try.sizeOf92
  v46 := Try.zeroValue92
  t53 := Try.underlying113
  a53 := Try.isAgg113
  z53 := Try.sizeOf113
  v53 := Try.zeroValue113 }
theorem Try.bits_Len64 (x : Int) (w : World) (h0 : 0 ≤ x) (h1 : x ≤ 18446744073709551615) :
    Calls Try.prog 94 #[.int .u64 x] w fun e w' => e = .returned (.int .i64 (Lib.bitLen x.toNat)) ∧ w' = w := Any.bits_Len64 Try.lays129 x w h0 h1
def Try.laysSlF20_f84_ren : Go.Shelf.Ren := ⟨fun | 20 => 84 | n => n, fun | 24 => 3 | 22 => 22 | 3 => 3 | 25 => 42 | 4 => 4 | 0 => 0 | n => n, fun | n => n⟩
theorem Try.laysSlF20_f84 : Go.Proofs.SlLaysF.n20 Try.prog Try.laysSlF20_f84_ren := {
  mixed := by kernel_rfl
  f20 := ⟨Try.f84.name, by decide, Try.func84.trans (congrArg some (by kernel_rfl))⟩
  t0 := Try.underlying0
  a0 := Try.isAgg0
  z0 := Try.sizeOf0
  v0 := Try.zeroValue0
  t3 := Try.underlying3
  a3 := Try.isAgg3
  z3 := Try.sizeOf3
  v3 := Try.zeroValue3
  t4 := Try.underlying4
  a4 := Try.isAgg4
  z4 := Try.sizeOf4
  v4 := Try.zeroValue4
  t22 := Try.underlying22
  a22 := Try.isAgg22
  z22 := Try.sizeOf22
  v22 := Try.zeroValue22
  a24 := Try.isAgg3
  z24 := Try.sizeOf3
  t25 := Try.underlying42
  a25 := Try.isAgg42
  z25 := Try.sizeOf42
  v25 := Try.zeroValue42 }
open Go.RowKit Go.Lib Go.Sort in
theorem Try.insertionSortCmpFunc_one {α : Type} [Inhabited α] (enc : α → Value) (hO : OneCell enc) (cf : α → α → Int) (g : Nat) (cb : Array Value) (blk off cap a b : Nat) (d : Array α) (w : World) (eg : ∀ args w, (callFunc g args).run Try.prog w = .ok (.enter g args) w) (hcmp : CmpReads Try.prog g cb enc cf blk off d.size w) (hH : Holds enc w blk off d) (hab : a ≤ b) (hb : b ≤ d.size) (hsz : d.size < 4611686018427387904) :
    Calls Try.prog 84 #[.slice (some ⟨blk, off, none⟩) d.size cap, .int .i64 a, .int .i64 b, .func (.func g) #[] cb] w fun e w' =>
      e = .returned (.tuple #[]) ∧ ∃ n, w' = (putRow enc w blk off (Sort.insertionSort (ltOf cf) d a b)).drewN n := Any.insertionSortCmpFunc_one Try.laysSlF20_f84 enc hO cf g cb blk off cap a b d w eg hcmp hH hab hb hsz
def Try.laysSlF46_f98_ren : Go.Shelf.Ren := ⟨fun | 46 => 98 | n => n, fun | 24 => 3 | 22 => 22 | 3 => 3 | 25 => 42 | 4 => 4 | 0 => 0 | n => n, fun | n => n⟩
theorem Try.laysSlF46_f98 : Go.Proofs.SlLaysF.n46 Try.prog Try.laysSlF46_f98_ren := {
  mixed := by kernel_rfl
  f46 := ⟨Try.f98.name, by decide, Try.func98.trans (congrArg some (by kernel_rfl))⟩
  t0 := Try.underlying0
  a0 := Try.isAgg0
  z0 := Try.sizeOf0
  v0 := Try.zeroValue0
  t3 := Try.underlying3
  a3 := Try.isAgg3
  z3 := Try.sizeOf3
  v3 := Try.zeroValue3
  t4 := Try.underlying4
  a4 := Try.isAgg4
  z4 := Try.sizeOf4
  v4 := Try.zeroValue4
  t22 := Try.underlying22
  a22 := Try.isAgg22
  z22 := Try.sizeOf22
  v22 := Try.zeroValue22
  a24 := Try.isAgg3
  z24 := Try.sizeOf3
  t25 := Try.underlying42
  a25 := Try.isAgg42
  z25 := Try.sizeOf42
  v25 := Try.zeroValue42 }
open Go.RowKit Go.Lib Go.Sort in
theorem Try.siftDownCmpFunc {α : Type} [Inhabited α] (enc : α → Value) (cf : α → α → Int) (g : Nat) (cb : Array Value) (blk off cap lo hi first : Nat) (d0 d : Array α) (w0 w : World) (eg : ∀ args w, (callFunc g args).run Try.prog w = .ok (.enter g args) w) (hcmp : CmpLays1 Try.prog g cb enc cf blk off d0.size w0) (R : Row1 enc w0 blk off d0) (hs : d0.size = d.size) (S : SW enc w0 blk off d w) (hlo : lo ≤ hi) (hb : first + hi ≤ d.size) (hsz : d.size < 4611686018427387904) :
    Calls Try.prog 98 #[.slice (some ⟨blk, off, none⟩) d.size cap, .int .i64 lo, .int .i64 hi, .int .i64 first, .func (.func g) #[] cb] w fun e w' =>
      e = .returned (.tuple #[]) ∧ SW enc w0 blk off (siftDown (ltOf cf) hi first lo d) w' := Any.siftDownCmpFunc Try.laysSlF46_f98 enc cf g cb blk off cap lo hi first d0 d w0 w eg hcmp R hs S hlo hb hsz
def Try.laysSlF21_f86_ren : Go.Shelf.Ren := ⟨fun | 21 => 86 | 46 => 98 | n => n, fun | 24 => 3 | 22 => 22 | 3 => 3 | 25 => 42 | 4 => 4 | 0 => 0 | n => n, fun | n => n⟩
theorem Try.laysSlF21_f86 : Go.Proofs.SlLaysF.n21 Try.prog Try.laysSlF21_f86_ren := {
  mixed := by kernel_rfl
  f21 := ⟨Try.f86.name, by decide, Try.func86.trans (congrArg some (by kernel_rfl))⟩
  f46 := ⟨Try.f98.name, by decide, Try.func98.trans (congrArg some (by kernel_rfl))⟩
  t0 := Try.underlying0
  a0 := Try.isAgg0
  z0 := Try.sizeOf0
  v0 := Try.zeroValue0
  t3 := Try.underlying3
  a3 := Try.isAgg3
  z3 := Try.sizeOf3
  v3 := Try.zeroValue3
  t4 := Try.underlying4
  a4 := Try.isAgg4
  z4 := Try.sizeOf4
  v4 := Try.zeroValue4
  t22 := Try.underlying22
  a22 := Try.isAgg22
  z22 := Try.sizeOf22
  v22 := Try.zeroValue22
  a24 := Try.isAgg3
  z24 := Try.sizeOf3
  t25 := Try.underlying42
  a25 := Try.isAgg42
  z25 := Try.sizeOf42
  v25 := Try.zeroValue42 }
open Go.RowKit Go.Lib Go.Sort in
theorem Try.heapSortCmpFunc {α : Type} [Inhabited α] (enc : α → Value) (cf : α → α → Int) (g : Nat) (cb : Array Value) (blk off cap a b : Nat) (d0 d : Array α) (w0 w : World) (eg : ∀ args w, (callFunc g args).run Try.prog w = .ok (.enter g args) w) (hcmp : CmpLays1 Try.prog g cb enc cf blk off d0.size w0) (R : Row1 enc w0 blk off d0) (hs : d0.size = d.size) (S : SW enc w0 blk off d w) (hab : a ≤ b) (hb : b ≤ d.size) (hsz : d.size < 4611686018427387904) :
    Calls Try.prog 86 #[.slice (some ⟨blk, off, none⟩) d.size cap, .int .i64 a, .int .i64 b, .func (.func g) #[] cb] w fun e w' =>
      e = .returned (.tuple #[]) ∧ SW enc w0 blk off (heapSort (ltOf cf) d a b) w' := Any.heapSortCmpFunc Try.laysSlF21_f86 enc cf g cb blk off cap a b d0 d w0 w eg hcmp R hs S hab hb hsz
open Go.RowKit Go.Lib Go.Sort in
theorem Try.insertionSortCmpFunc_s {α : Type} [Inhabited α] (enc : α → Value) (cf : α → α → Int) (g : Nat) (cb : Array Value) (blk off cap a b : Nat) (d0 d : Array α) (w0 w : World) (eg : ∀ args w, (callFunc g args).run Try.prog w = .ok (.enter g args) w) (hcmp : CmpLays1 Try.prog g cb enc cf blk off d0.size w0) (R : Row1 enc w0 blk off d0) (hs : d0.size = d.size) (S : SW enc w0 blk off d w) (hab : a ≤ b) (hb : b ≤ d.size) (hsz : d.size < 4611686018427387904) :
    Calls Try.prog 84 #[.slice (some ⟨blk, off, none⟩) d.size cap, .int .i64 a, .int .i64 b, .func (.func g) #[] cb] w fun e w' => e = .returned (.tuple #[]) ∧ SW enc w0 blk off (Sort.insertionSort (ltOf cf) d a b) w' := Any.insertionSortCmpFunc_s Try.laysSlF20_f84 enc cf g cb blk off cap a b d0 d w0 w eg hcmp R hs S hab hb hsz
def Try.laysSlF57_f104_ren : Go.Shelf.Ren := ⟨fun | 57 => 104 | n => n, fun | 24 => 3 | 22 => 22 | 3 => 3 | 70 => 118 | 25 => 42 | 0 => 0 | 4 => 4 | n => n, fun | n => n⟩
theorem Try.laysSlF57_f104 : Go.Proofs.SlLaysF.n57 Try.prog Try.laysSlF57_f104_ren := {
  mixed := by kernel_rfl
  f57 := ⟨Try.f104.name, by decide, Try.func104.trans (congrArg some (by kernel_rfl))⟩
  t0 := Try.underlying0
  a0 := Try.isAgg0
  z0 := Try.sizeOf0
  v0 := Try.zeroValue0
  t3 := Try.underlying3
  a3 := Try.isAgg3
  z3 := Try.sizeOf3
  v3 := Try.zeroValue3
  t4 := Try.underlying4
  a4 := Try.isAgg4
  z4 := Try.sizeOf4
  v4 := Try.zeroValue4
  t22 := Try.underlying22
  a22 := Try.isAgg22
  z22 := Try.sizeOf22
  v22 := Try.zeroValue22
  a24 := Try.isAgg3
  z24 := Try.sizeOf3
  t25 := Try.underlying42
  a25 := Try.isAgg42
  z25 := Try.sizeOf42
  v25 := Try.zeroValue42
  t70 := Try.underlying118
  a70 := Try.isAgg118
  z70 := Try.sizeOf118
  v70 := Try.zeroValue118 }
open Go.RowKit Go.Lib Go.Sort in
theorem Try.order2CmpFunc {α : Type} [Inhabited α] (enc : α → Value) (cf : α → α → Int) (g : Nat) (cb : Array Value) (blk off cap a b c s : Nat) (d0 d : Array α) (w0 W : World) (eg : ∀ args w, (callFunc g args).run Try.prog w = .ok (.enter g args) w) (hcmp : CmpLays1 Try.prog g cb enc cf blk off d0.size w0) (R : Row1 enc w0 blk off d0) (hs : d0.size = d.size) (C : Cnt1 enc w0 blk off d c s W) (ha : a < d.size) (hb : b < d.size) (hsz : d.size < 4611686018427387904) (hss : s < 4611686018427387904) :
    Calls Try.prog 104 #[.slice (some ⟨blk, off, none⟩) d.size cap, .int .i64 a, .int .i64 b, .pointer (some ⟨c, 0, none⟩), .func (.func g) #[] cb] W fun e w' =>
      e = .returned (.tuple #[.int .i64 (order2 (ltOf cf) d a b s).1, .int .i64 (order2 (ltOf cf) d a b s).2.1]) ∧ Cnt1 enc w0 blk off d c (order2 (ltOf cf) d a b s).2.2 w' := Any.order2CmpFunc Try.laysSlF57_f104 enc cf g cb blk off cap a b c s d0 d w0 W eg hcmp R hs C ha hb hsz hss
def Try.laysSlF50_f102_ren : Go.Shelf.Ren := ⟨fun | 50 => 102 | 57 => 104 | n => n, fun | 24 => 3 | 22 => 22 | 3 => 3 | 70 => 118 | 25 => 42 | 77 => 121 | 0 => 0 | 4 => 4 | n => n, fun | n => n⟩
theorem Try.laysSlF50_f102 : Go.Proofs.SlLaysF.n50 Try.prog Try.laysSlF50_f102_ren := {
  mixed := by kernel_rfl
  f50 := ⟨Try.f102.name, by decide, Try.func102.trans (congrArg some (by kernel_rfl))⟩
  f57 := ⟨Try.f104.name, by decide, Try.func104.trans (congrArg some (by kernel_rfl))⟩
  t0 := Try.underlying0
  a0 := Try.isAgg0
  z0 := Try.sizeOf0
  v0 := Try.zeroValue0
  t3 := Try.underlying3
  a3 := Try.isAgg3
  z3 := Try.sizeOf3
  v3 := Try.zeroValue3
  t4 := Try.underlying4
  a4 := Try.isAgg4
  z4 := Try.sizeOf4
  v4 := Try.zeroValue4
  t22 := Try.underlying22
  a22 := Try.isAgg22
  z22 := Try.sizeOf22
  v22 := Try.zeroValue22
  a24 := Try.isAgg3
  z24 := Try.sizeOf3
  t25 := Try.underlying42
  a25 := Try.isAgg42
  z25 := Try.sizeOf42
  v25 := Try.zeroValue42
  t70 := Try.underlying118
  a70 := Try.isAgg118
  z70 := Try.sizeOf118
  v70 := Try.zeroValue118
  t77 := Try.underlying121
  a77 := Try.isAgg121
  z77 := Try.sizeOf121
  v77 := Try.zeroValue121 }
open Go.RowKit Go.Lib Go.Sort in
theorem Try.medianCmpFunc {α : Type} [Inhabited α] (enc : α → Value) (cf : α → α → Int) (g : Nat) (cb : Array Value) (blk off cap a b c' c s : Nat) (d0 d : Array α) (w0 W : World) (eg : ∀ args w, (callFunc g args).run Try.prog w = .ok (.enter g args) w) (hcmp : CmpLays1 Try.prog g cb enc cf blk off d0.size w0) (R : Row1 enc w0 blk off d0) (hs : d0.size = d.size) (C : Cnt1 enc w0 blk off d c s W) (ha : a < d.size) (hb : b < d.size) (hc : c' < d.size) (hsz : d.size < 4611686018427387904) (hss : s + 3 < 4611686018427387904) :
    Calls Try.prog 102 #[.slice (some ⟨blk, off, none⟩) d.size cap, .int .i64 a, .int .i64 b, .int .i64 c', .pointer (some ⟨c, 0, none⟩), .func (.func g) #[] cb] W fun e w' =>
      e = .returned (.int .i64 (median (ltOf cf) d a b c' s).1) ∧ Cnt1 enc w0 blk off d c (median (ltOf cf) d a b c' s).2 w' := Any.medianCmpFunc Try.laysSlF50_f102 enc cf g cb blk off cap a b c' c s d0 d w0 W eg hcmp R hs C ha hb hc hsz hss
def Try.laysSlF49_f101_ren : Go.Shelf.Ren := ⟨fun | 49 => 101 | 50 => 102 | 57 => 104 | n => n, fun | 24 => 3 | 22 => 22 | 3 => 3 | 70 => 118 | 25 => 42 | 77 => 121 | 0 => 0 | 4 => 4 | n => n, fun | n => n⟩
theorem Try.laysSlF49_f101 : Go.Proofs.SlLaysF.n49 Try.prog Try.laysSlF49_f101_ren := {
  mixed := by kernel_rfl
  f49 := ⟨Try.f101.name, by decide, Try.func101.trans (congrArg some (by kernel_rfl))⟩
  f50 := ⟨Try.f102.name, by decide, Try.func102.trans (congrArg some (by kernel_rfl))⟩
  f57 := ⟨Try.f104.name, by decide, Try.func104.trans (congrArg some (by kernel_rfl))⟩
  t0 := Try.underlying0
  a0 := Try.isAgg0
  z0 := Try.sizeOf0
  v0 := Try.zeroValue0
  t3 := Try.underlying3
  a3 := Try.isAgg3
  z3 := Try.sizeOf3
  v3 := Try.zeroValue3
  t4 := Try.underlying4
  a4 := Try.isAgg4
  z4 := Try.sizeOf4
  v4 := Try.zeroValue4
  t22 := Try.underlying22
  a22 := Try.isAgg22
  z22 := Try.sizeOf22
  v22 := Try.zeroValue22
  a24 := Try.isAgg3
  z24 := Try.sizeOf3
  t25 := Try.underlying42
  a25 := Try.isAgg42
  z25 := Try.sizeOf42
  v25 := Try.zeroValue42
  t70 := Try.underlying118
  a70 := Try.isAgg118
  z70 := Try.sizeOf118
  v70 := Try.zeroValue118
  t77 := Try.underlying121
  a77 := Try.isAgg121
  z77 := Try.sizeOf121
  v77 := Try.zeroValue121 }
open Go.RowKit Go.Lib Go.Sort in
theorem Try.medianAdjacentCmpFunc {α : Type} [Inhabited α] (enc : α → Value) (cf : α → α → Int) (g : Nat) (cb : Array Value) (blk off cap a c s : Nat) (d0 d : Array α) (w0 W : World) (eg : ∀ args w, (callFunc g args).run Try.prog w = .ok (.enter g args) w) (hcmp : CmpLays1 Try.prog g cb enc cf blk off d0.size w0) (R : Row1 enc w0 blk off d0) (hs : d0.size = d.size) (C : Cnt1 enc w0 blk off d c s W) (ha1 : 1 ≤ a) (ha2 : a + 1 < d.size) (hsz : d.size < 4611686018427387904) (hss : s + 3 < 4611686018427387904) :
    Calls Try.prog 101 #[.slice (some ⟨blk, off, none⟩) d.size cap, .int .i64 a, .pointer (some ⟨c, 0, none⟩), .func (.func g) #[] cb] W fun e w' =>
      e = .returned (.int .i64 (medianAdjacent (ltOf cf) d a s).1) ∧ Cnt1 enc w0 blk off d c (medianAdjacent (ltOf cf) d a s).2 w' := Any.medianAdjacentCmpFunc Try.laysSlF49_f101 enc cf g cb blk off cap a c s d0 d w0 W eg hcmp R hs C ha1 ha2 hsz hss
def Try.laysSlF23_f88_ren : Go.Shelf.Ren := ⟨fun | 23 => 88 | 49 => 101 | 50 => 102 | 57 => 104 | n => n, fun | 24 => 3 | 22 => 22 | 3 => 3 | 25 => 42 | 45 => 104 | 0 => 0 | 4 => 4 | 70 => 118 | 77 => 121 | n => n, fun | n => n⟩
theorem Try.laysSlF23_f88 : Go.Proofs.SlLaysF.n23 Try.prog Try.laysSlF23_f88_ren := {
  mixed := by kernel_rfl
  f23 := ⟨Try.f88.name, by decide, Try.func88.trans (congrArg some (by kernel_rfl))⟩
  f49 := ⟨Try.f101.name, by decide, Try.func101.trans (congrArg some (by kernel_rfl))⟩
  f50 := ⟨Try.f102.name, by decide, Try.func102.trans (congrArg some (by kernel_rfl))⟩
  f57 := ⟨Try.f104.name, by decide, Try.func104.trans (congrArg some (by kernel_rfl))⟩
  t0 := Try.underlying0
  a0 := Try.isAgg0
  z0 := Try.sizeOf0
  v0 := Try.zeroValue0
  t3 := Try.underlying3
  a3 := Try.isAgg3
  z3 := Try.sizeOf3
  v3 := Try.zeroValue3
  t4 := Try.underlying4
  a4 := Try.isAgg4
  z4 := Try.sizeOf4
  v4 := Try.zeroValue4
  t22 := Try.underlying22
  a22 := Try.isAgg22
  z22 := Try.sizeOf22
  v22 := Try.zeroValue22
  a24 := Try.isAgg3
  z24 := Try.sizeOf3
  t25 := Try.underlying42
  a25 := Try.isAgg42
  z25 := Try.sizeOf42
  v25 := Try.zeroValue42
  t45 := Try.underlying104
  a45 := Try.isAgg104
  z45 := Try.sizeOf104
  v45 := Try.zeroValue104
  t70 := Try.underlying118
  a70 := Try.isAgg118
  z70 := Try.sizeOf118
  v70 := Try.zeroValue118
  t77 := Try.underlying121
  a77 := Try.isAgg121
  z77 := Try.sizeOf121
  v77 := Try.zeroValue121 }
open Go.RowKit Go.Lib Go.Sort in
theorem Try.choosePivotCmpFunc {α : Type} [Inhabited α] (enc : α → Value) (cf : α → α → Int) (g : Nat) (cb : Array Value) (blk off cap a b : Nat) (d0 d : Array α) (w0 W : World) (eg : ∀ args w, (callFunc g args).run Try.prog w = .ok (.enter g args) w) (hcmp : CmpLays1 Try.prog g cb enc cf blk off d0.size w0) (R : Row1 enc w0 blk off d0) (hs : d0.size = d.size) (S : SW enc w0 blk off d W) (hab : a < b) (hb : b ≤ d.size) (hsz : d.size < 4611686018427387904) :
    Calls Try.prog 88 #[.slice (some ⟨blk, off, none⟩) d.size cap, .int .i64 a, .int .i64 b, .func (.func g) #[] cb] W fun e w' =>
      e = .returned (.tuple #[.int .i64 (choosePivot (ltOf cf) d a b).1, .int .i64 (hintCode (choosePivot (ltOf cf) d a b).2)]) ∧ SW enc w0 blk off d w' := Any.choosePivotCmpFunc Try.laysSlF23_f88 enc cf g cb blk off cap a b d0 d w0 W eg hcmp R hs S hab hb hsz
def Try.laysSlF24_f89_ren : Go.Shelf.Ren := ⟨fun | 24 => 89 | n => n, fun | 24 => 3 | 22 => 22 | 3 => 3 | 25 => 42 | 4 => 4 | 0 => 0 | n => n, fun | n => n⟩
theorem Try.laysSlF24_f89 : Go.Proofs.SlLaysF.n24 Try.prog Try.laysSlF24_f89_ren := {
  mixed := by kernel_rfl
  f24 := ⟨Try.f89.name, by decide, Try.func89.trans (congrArg some (by kernel_rfl))⟩
  t0 := Try.underlying0
  a0 := Try.isAgg0
  z0 := Try.sizeOf0
  v0 := Try.zeroValue0
  t3 := Try.underlying3
  a3 := Try.isAgg3
  z3 := Try.sizeOf3
  v3 := Try.zeroValue3
  t4 := Try.underlying4
  a4 := Try.isAgg4
  z4 := Try.sizeOf4
  v4 := Try.zeroValue4
  t22 := Try.underlying22
  a22 := Try.isAgg22
  z22 := Try.sizeOf22
  v22 := Try.zeroValue22
  a24 := Try.isAgg3
  z24 := Try.sizeOf3
  t25 := Try.underlying42
  a25 := Try.isAgg42
  z25 := Try.sizeOf42
  v25 := Try.zeroValue42 }
open Go.RowKit Go.Lib Go.Sort in
theorem Try.reverseRangeCmpFunc {α : Type} [Inhabited α] (enc : α → Value) (g : Nat) (cb : Array Value) (blk off cap a b : Nat) (d0 d : Array α) (w0 w : World) (R : Row1 enc w0 blk off d0) (hs : d0.size = d.size) (S : SW enc w0 blk off d w) (hab : a ≤ b) (hb : b ≤ d.size) (hsz : d.size < 4611686018427387904) :
    Calls Try.prog 89 #[.slice (some ⟨blk, off, none⟩) d.size cap, .int .i64 a, .int .i64 b, .func (.func g) #[] cb] w fun e w' => e = .returned (.tuple #[]) ∧ SW enc w0 blk off (reverseRange d a b) w' := Any.reverseRangeCmpFunc Try.laysSlF24_f89 enc g cb blk off cap a b d0 d w0 w R hs S hab hb hsz
def Try.laysSlF25_f90_ren : Go.Shelf.Ren := ⟨fun | 25 => 90 | n => n, fun | 24 => 3 | 22 => 22 | 3 => 3 | 25 => 42 | 4 => 4 | 0 => 0 | n => n, fun | n => n⟩
theorem Try.laysSlF25_f90 : Go.Proofs.SlLaysF.n25 Try.prog Try.laysSlF25_f90_ren := {
  mixed := by kernel_rfl
  f25 := ⟨Try.f90.name, by decide, Try.func90.trans (congrArg some (by kernel_rfl))⟩
  t0 := Try.underlying0
  a0 := Try.isAgg0
  z0 := Try.sizeOf0
  v0 := Try.zeroValue0
  t3 := Try.underlying3
  a3 := Try.isAgg3
  z3 := Try.sizeOf3
  v3 := Try.zeroValue3
  t4 := Try.underlying4
  a4 := Try.isAgg4
  z4 := Try.sizeOf4
  v4 := Try.zeroValue4
  t22 := Try.underlying22
  a22 := Try.isAgg22
  z22 := Try.sizeOf22
  v22 := Try.zeroValue22
  a24 := Try.isAgg3
  z24 := Try.sizeOf3
  t25 := Try.underlying42
  a25 := Try.isAgg42
  z25 := Try.sizeOf42
  v25 := Try.zeroValue42 }
open Go.RowKit Go.Lib Go.Sort in
theorem Try.partialInsertionSortCmpFunc {α : Type} [Inhabited α] (enc : α → Value) (cf : α → α → Int) (g : Nat) (cb : Array Value) (blk off cap a b : Nat) (d0 d : Array α) (w0 w : World) (eg : ∀ args w, (callFunc g args).run Try.prog w = .ok (.enter g args) w) (hcmp : CmpLays1 Try.prog g cb enc cf blk off d0.size w0) (R : Row1 enc w0 blk off d0) (hs : d0.size = d.size) (S : SW enc w0 blk off d w) (hab : a < b) (hb : b ≤ d.size) (hsz : d.size < 4611686018427387904) :
    Calls Try.prog 90 #[.slice (some ⟨blk, off, none⟩) d.size cap, .int .i64 a, .int .i64 b, .func (.func g) #[] cb] w fun e w' =>
      e = .returned (.bool (Sort.partialInsertionSort (ltOf cf) d a b).2) ∧ SW enc w0 blk off (Sort.partialInsertionSort (ltOf cf) d a b).1 w' := Any.partialInsertionSortCmpFunc Try.laysSlF25_f90 enc cf g cb blk off cap a b d0 d w0 w eg hcmp R hs S hab hb hsz
def Try.laysSlF26_f91_ren : Go.Shelf.Ren := ⟨fun | 26 => 91 | n => n, fun | 24 => 3 | 22 => 22 | 3 => 3 | 25 => 42 | 0 => 0 | 4 => 4 | n => n, fun | n => n⟩
theorem Try.laysSlF26_f91 : Go.Proofs.SlLaysF.n26 Try.prog Try.laysSlF26_f91_ren := {
  mixed := by kernel_rfl
  f26 := ⟨Try.f91.name, by decide, Try.func91.trans (congrArg some (by kernel_rfl))⟩
  t0 := Try.underlying0
  a0 := Try.isAgg0
  z0 := Try.sizeOf0
  v0 := Try.zeroValue0
  t3 := Try.underlying3
  a3 := Try.isAgg3
  z3 := Try.sizeOf3
  v3 := Try.zeroValue3
  t4 := Try.underlying4
  a4 := Try.isAgg4
  z4 := Try.sizeOf4
  v4 := Try.zeroValue4
  t22 := Try.underlying22
  a22 := Try.isAgg22
  z22 := Try.sizeOf22
  v22 := Try.zeroValue22
  a24 := Try.isAgg3
  z24 := Try.sizeOf3
  t25 := Try.underlying42
  a25 := Try.isAgg42
  z25 := Try.sizeOf42
  v25 := Try.zeroValue42 }
open Go.RowKit Go.Lib Go.Sort in
theorem Try.partitionEqualCmpFunc {α : Type} [Inhabited α] (enc : α → Value) (cf : α → α → Int) (g : Nat) (cb : Array Value) (blk off cap a b pivot : Nat) (d0 d : Array α) (w0 w : World) (eg : ∀ args w, (callFunc g args).run Try.prog w = .ok (.enter g args) w) (hcmp : CmpLays1 Try.prog g cb enc cf blk off d0.size w0) (R : Row1 enc w0 blk off d0) (hs : d0.size = d.size) (S : SW enc w0 blk off d w) (hap : a ≤ pivot) (hpb : pivot < b) (hb : b ≤ d.size) (hsz : d.size < 4611686018427387904) :
    Calls Try.prog 91 #[.slice (some ⟨blk, off, none⟩) d.size cap, .int .i64 a, .int .i64 b, .int .i64 pivot, .func (.func g) #[] cb] w fun e w' =>
      e = .returned (.int .i64 (Sort.partitionEqual (ltOf cf) d a b pivot).1) ∧ SW enc w0 blk off (Sort.partitionEqual (ltOf cf) d a b pivot).2 w' := Any.partitionEqualCmpFunc Try.laysSlF26_f91 enc cf g cb blk off cap a b pivot d0 d w0 w eg hcmp R hs S hap hpb hb hsz
def Try.laysSlF27_f92_ren : Go.Shelf.Ren := ⟨fun | 27 => 92 | n => n, fun | 24 => 3 | 22 => 22 | 3 => 3 | 25 => 42 | 4 => 4 | 0 => 0 | n => n, fun | n => n⟩
theorem Try.laysSlF27_f92 : Go.Proofs.SlLaysF.n27 Try.prog Try.laysSlF27_f92_ren := {
  mixed := by kernel_rfl
  f27 := ⟨Try.f92.name, by decide, Try.func92.trans (congrArg some (by kernel_rfl))⟩
  t0 := Try.underlying0
  a0 := Try.isAgg0
  z0 := Try.sizeOf0
  v0 := Try.zeroValue0
  t3 := Try.underlying3
  a3 := Try.isAgg3
  z3 := Try.sizeOf3
  v3 := Try.zeroValue3
  t4 := Try.underlying4
  a4 := Try.isAgg4
  z4 := Try.sizeOf4
  v4 := Try.zeroValue4
  t22 := Try.underlying22
  a22 := Try.isAgg22
  z22 := Try.sizeOf22
  v22 := Try.zeroValue22
  a24 := Try.isAgg3
  z24 := Try.sizeOf3
  t25 := Try.underlying42
  a25 := Try.isAgg42
  z25 := Try.sizeOf42
  v25 := Try.zeroValue42 }
open Go.RowKit Go.Lib Go.Sort in
theorem Try.partitionCmpFunc {α : Type} [Inhabited α] (enc : α → Value) (cf : α → α → Int) (g : Nat) (cb : Array Value) (blk off cap a b pivot : Nat) (d0 d : Array α) (w0 w : World) (eg : ∀ args w, (callFunc g args).run Try.prog w = .ok (.enter g args) w) (hcmp : CmpLays1 Try.prog g cb enc cf blk off d0.size w0) (R : Row1 enc w0 blk off d0) (hs : d0.size = d.size) (S : SW enc w0 blk off d w) (hap : a ≤ pivot) (hpb : pivot < b) (hb : b ≤ d.size) (hsz : d.size < 4611686018427387904) :
    Calls Try.prog 92 #[.slice (some ⟨blk, off, none⟩) d.size cap, .int .i64 a, .int .i64 b, .int .i64 pivot, .func (.func g) #[] cb] w fun e w' =>
      e = .returned (.tuple #[.int .i64 (Sort.partition (ltOf cf) d a b pivot).1, .bool (Sort.partition (ltOf cf) d a b pivot).2.1]) ∧ SW enc w0 blk off (Sort.partition (ltOf cf) d a b pivot).2.2 w' := Any.partitionCmpFunc Try.laysSlF27_f92 enc cf g cb blk off cap a b pivot d0 d w0 w eg hcmp R hs S hap hpb hb hsz
def Try.laysSlF14_f81_ren : Go.Shelf.Ren := ⟨fun | 14 => 81 | 20 => 84 | 21 => 86 | 22 => 87 | 23 => 88 | 24 => 89 | 25 => 90 | 26 => 91 | 27 => 92 | 46 => 98 | 47 => 99 | 48 => 100 | 49 => 101 | 50 => 102 | 15 => 82 | 57 => 104 | 28 => 93 | 29 => 94 | n => n, fun | 24 => 3 | 22 => 22 | 3 => 3 | 25 => 42 | 4 => 4 | 0 => 0 | 46 => 105 | 45 => 104 | 50 => 98 | 66 => 114 | 39 => 92 | 55 => 113 | 70 => 118 | 76 => 120 | 77 => 121 | 53 => 111 | 5 => 5 | 9 => 9 | n => n, fun | n => n⟩
theorem Try.laysSlF14_f81 : Go.Proofs.SlLaysF.n14 Try.prog Try.laysSlF14_f81_ren := {
  mixed := by kernel_rfl
  f14 := ⟨Try.f81.name, by decide, Try.func81.trans (congrArg some (by kernel_rfl))⟩
  f15 := Try.func82.trans (congrArg some (by kernel_rfl))
  f20 := ⟨Try.f84.name, by decide, Try.func84.trans (congrArg some (by kernel_rfl))⟩
  f21 := ⟨Try.f86.name, by decide, Try.func86.trans (congrArg some (by kernel_rfl))⟩
  f22 := ⟨Try.f87.name, by decide, Try.func87.trans (congrArg some (by kernel_rfl))⟩
  f23 := ⟨Try.f88.name, by decide, Try.func88.trans (congrArg some (by kernel_rfl))⟩
  f24 := ⟨Try.f89.name, by decide, Try.func89.trans (congrArg some (by kernel_rfl))⟩
  f25 := ⟨Try.f90.name, by decide, Try.func90.trans (congrArg some (by kernel_rfl))⟩
  f26 := ⟨Try.f91.name, by decide, Try.func91.trans (congrArg some (by kernel_rfl))⟩
  f27 := ⟨Try.f92.name, by decide, Try.func92.trans (congrArg some (by kernel_rfl))⟩
  f28 := Try.func93.trans (congrArg some (by kernel_rfl))
  f29 := Try.func94.trans (congrArg some (by kernel_rfl))
  f46 := ⟨Try.f98.name, by decide, Try.func98.trans (congrArg some (by kernel_rfl))⟩
  f47 := Try.func99.trans (congrArg some (by kernel_rfl))
  f48 := Try.func100.trans (congrArg some (by kernel_rfl))
  f49 := ⟨Try.f101.name, by decide, Try.func101.trans (congrArg some (by kernel_rfl))⟩
  f50 := ⟨Try.f102.name, by decide, Try.func102.trans (congrArg some (by kernel_rfl))⟩
  f57 := ⟨Try.f104.name, by decide, Try.func104.trans (congrArg some (by kernel_rfl))⟩
  t0 := Try.underlying0
  a0 := Try.isAgg0
  z0 := Try.sizeOf0
  v0 := Try.zeroValue0
  t3 := Try.underlying3
  a3 := Try.isAgg3
  z3 := Try.sizeOf3
  v3 := Try.zeroValue3
  t4 := Try.underlying4
  a4 := Try.isAgg4
  z4 := Try.sizeOf4
  v4 := Try.zeroValue4
  t5 := Try.underlying5
  a5 := Try.isAgg5
  z5 := Try.sizeOf5
  v5 := Try.zeroValue5
  t9 := Try.underlying9
  a9 := Try.isAgg9
  z9 := Try.sizeOf9
  v9 := Try.zeroValue9
  t22 := Try.underlying22
  a22 := Try.isAgg22
  z22 := Try.sizeOf22
  v22 := Try.zeroValue22
  a24 := Try.isAgg3
  z24 := Try.sizeOf3
  t25 := Try.underlying42
  a25 := Try.isAgg42
  z25 := Try.sizeOf42
  v25 := Try.zeroValue42
  t39 := Try.underlying92
  a39 := Try.isAgg92
  z39 := Try.sizeOf92
  v39 := Try.zeroValue92
  t45 := Try.underlying104
  a45 := Try.isAgg104
  z45 := Try.sizeOf104
  v45 := Try.zeroValue104
  t46 := Try.underlying105
  a46 := Try.isAgg105
  z46 := Try.sizeOf105
  v46 := Try.zeroValue105
  t50 := Try.underlying98
  a50 := Try.isAgg98
  z50 := Try.sizeOf98
  v50 := Try.zeroValue98
  t53 := Try.underlying111
  a53 := Try.isAgg111
  z53 := Try.sizeOf111
  v53 := Try.zeroValue111
  t55 := Try.underlying113
  a55 := Try.isAgg113
  z55 := Try.sizeOf113
  v55 := Try.zeroValue113
  t66 := Try.underlying114
  a66 := Try.isAgg114
  z66 := Try.sizeOf114
  v66 := Try.zeroValue114
  t70 := Try.underlying118
  a70 := Try.isAgg118
  z70 := Try.sizeOf118
  v70 := Try.zeroValue118
  t76 := Try.underlying120
  a76 := Try.isAgg120
  z76 := Try.sizeOf120
  v76 := Try.zeroValue120
  t77 := Try.underlying121
  a77 := Try.isAgg121
  z77 := Try.sizeOf121
  v77 := Try.zeroValue121 }
open Go.RowKit Go.Lib Go.Sort in
theorem Try.pdqsortCmpFunc_all {α : Type} [Inhabited α] (enc : α → Value) (cf : α → α → Int) (g : Nat) (cb : Array Value) (hO : SWO (ltOf cf)) (blk off cap : Nat) (d0 : Array α) (w0 : World) (eg : ∀ args w, (callFunc g args).run Try.prog w = .ok (.enter g args) w) (hcmp : CmpLays1 Try.prog g cb enc cf blk off d0.size w0) (R : Row1 enc w0 blk off d0) :
    ∀ (N a b limit : Nat) (d : Array α) (w : World), b - a < N → d0.size = d.size → SW enc w0 blk off d w → a ≤ b → b ≤ d.size → d.size < 4611686018427387904 → limit < 4611686018427387904 → Below (ltOf cf) a b d →
    Calls Try.prog 81 #[.slice (some ⟨blk, off, none⟩) d.size cap, .int .i64 a, .int .i64 b, .int .i64 limit, .func (.func g) #[] cb] w fun e w' => e = .returned (.tuple #[]) ∧ SW enc w0 blk off (pdq (ltOf cf) d a b limit true true) w' := Any.pdqsortCmpFunc_all Try.laysSlF14_f81 enc cf g cb hO blk off cap d0 w0 eg hcmp R
def Try.laysSlF6_f68_ren : Go.Shelf.Ren := ⟨fun | 6 => 68 | 15 => 82 | 14 => 81 | 28 => 93 | 29 => 94 | 20 => 84 | 21 => 86 | 22 => 87 | 23 => 88 | 24 => 89 | 25 => 90 | 26 => 91 | 27 => 92 | 46 => 98 | 47 => 99 | 48 => 100 | 49 => 101 | 50 => 102 | 57 => 104 | n => n, fun | 22 => 22 | 24 => 3 | 25 => 42 | 3 => 3 | 39 => 92 | 0 => 0 | 53 => 111 | 55 => 113 | 4 => 4 | 46 => 105 | 45 => 104 | 50 => 98 | 5 => 5 | 9 => 9 | 66 => 114 | 70 => 118 | 76 => 120 | 77 => 121 | n => n, fun | n => n⟩
theorem Try.laysSlF6_f68 : Go.Proofs.SlLaysF.n6 Try.prog Try.laysSlF6_f68_ren := {
  mixed := by kernel_rfl
  f6 := ⟨Try.f68.name, by decide, Try.func68.trans (congrArg some (by kernel_rfl))⟩
  f14 := ⟨Try.f81.name, by decide, Try.func81.trans (congrArg some (by kernel_rfl))⟩
  f15 := Try.func82.trans (congrArg some (by kernel_rfl))
  f20 := ⟨Try.f84.name, by decide, Try.func84.trans (congrArg some (by kernel_rfl))⟩
  f21 := ⟨Try.f86.name, by decide, Try.func86.trans (congrArg some (by kernel_rfl))⟩
  f22 := ⟨Try.f87.name, by decide, Try.func87.trans (congrArg some (by kernel_rfl))⟩
  f23 := ⟨Try.f88.name, by decide, Try.func88.trans (congrArg some (by kernel_rfl))⟩
  f24 := ⟨Try.f89.name, by decide, Try.func89.trans (congrArg some (by kernel_rfl))⟩
  f25 := ⟨Try.f90.name, by decide, Try.func90.trans (congrArg some (by kernel_rfl))⟩
  f26 := ⟨Try.f91.name, by decide, Try.func91.trans (congrArg some (by kernel_rfl))⟩
  f27 := ⟨Try.f92.name, by decide, Try.func92.trans (congrArg some (by kernel_rfl))⟩
  f28 := Try.func93.trans (congrArg some (by kernel_rfl))
  f29 := Try.func94.trans (congrArg some (by kernel_rfl))
  f46 := ⟨Try.f98.name, by decide, Try.func98.trans (congrArg some (by kernel_rfl))⟩
  f47 := Try.func99.trans (congrArg some (by kernel_rfl))
  f48 := Try.func100.trans (congrArg some (by kernel_rfl))
  f49 := ⟨Try.f101.name, by decide, Try.func101.trans (congrArg some (by kernel_rfl))⟩
  f50 := ⟨Try.f102.name, by decide, Try.func102.trans (congrArg some (by kernel_rfl))⟩
  f57 := ⟨Try.f104.name, by decide, Try.func104.trans (congrArg some (by kernel_rfl))⟩
  t0 := Try.underlying0
  a0 := Try.isAgg0
  z0 := Try.sizeOf0
  v0 := Try.zeroValue0
  t3 := Try.underlying3
  a3 := Try.isAgg3
  z3 := Try.sizeOf3
  v3 := Try.zeroValue3
  t4 := Try.underlying4
  a4 := Try.isAgg4
  z4 := Try.sizeOf4
  v4 := Try.zeroValue4
  t5 := Try.underlying5
  a5 := Try.isAgg5
  z5 := Try.sizeOf5
  v5 := Try.zeroValue5
  t9 := Try.underlying9
  a9 := Try.isAgg9
  z9 := Try.sizeOf9
  v9 := Try.zeroValue9
  t22 := Try.underlying22
  a22 := Try.isAgg22
  z22 := Try.sizeOf22
  v22 := Try.zeroValue22
  a24 := Try.isAgg3
  z24 := Try.sizeOf3
  t25 := Try.underlying42
  a25 := Try.isAgg42
  z25 := Try.sizeOf42
  v25 := Try.zeroValue42
  t39 := Try.underlying92
  a39 := Try.isAgg92
  z39 := Try.sizeOf92
  v39 := Try.zeroValue92
  t45 := Try.underlying104
  a45 := Try.isAgg104
  z45 := Try.sizeOf104
  v45 := Try.zeroValue104
  t46 := Try.underlying105
  a46 := Try.isAgg105
  z46 := Try.sizeOf105
  v46 := Try.zeroValue105
  t50 := Try.underlying98
  a50 := Try.isAgg98
  z50 := Try.sizeOf98
  v50 := Try.zeroValue98
  t53 := Try.underlying111
  a53 := Try.isAgg111
  z53 := Try.sizeOf111
  v53 := Try.zeroValue111
  t55 := Try.underlying113
  a55 := Try.isAgg113
  z55 := Try.sizeOf113
  v55 := Try.zeroValue113
  t66 := Try.underlying114
  a66 := Try.isAgg114
  z66 := Try.sizeOf114
  v66 := Try.zeroValue114
  t70 := Try.underlying118
  a70 := Try.isAgg118
  z70 := Try.sizeOf118
  v70 := Try.zeroValue118
  t76 := Try.underlying120
  a76 := Try.isAgg120
  z76 := Try.sizeOf120
  v76 := Try.zeroValue120
  t77 := Try.underlying121
  a77 := Try.isAgg121
  z77 := Try.sizeOf121
  v77 := Try.zeroValue121 }
open Go.RowKit Go.Lib Go.Sort in
theorem Try.slices_SortFunc_eq {α : Type} [Inhabited α] (enc : α → Value) (h1 : OneCell enc) (cf : α → α → Int) (hO : SWO (ltOf cf)) (g : Nat) (cb : Array Value) (blk off cap : Nat) (d : Array α) (w : World) (eg : ∀ args w, (callFunc g args).run Try.prog w = .ok (.enter g args) w) (hcmp : CmpLays1 Try.prog g cb enc cf blk off d.size w) (hH : Holds enc w blk off d) (hblk : blk < w.heap.size) (hsz : d.size < 4611686018427387904) :
    Calls Try.prog 68 #[.slice (some ⟨blk, off, none⟩) d.size cap, .func (.func g) #[] cb] w fun e w' =>
      e = .returned (.tuple #[]) ∧ ∃ n os, w' = sortWorld enc w blk off n (pdq (ltOf cf) d 0 d.size (Lib.bitLen d.size) true true) os := Any.slices_SortFunc_eq Try.laysSlF6_f68 enc h1 cf hO g cb blk off cap d w eg hcmp hH hblk hsz
open Go.RowKit Go.Lib Go.Sort in
theorem Try.slices_SortFunc {α : Type} [Inhabited α] (enc : α → Value) (h1 : OneCell enc) (cf : α → α → Int) (hO : SWO (ltOf cf)) (g : Nat) (cb : Array Value) (blk off cap : Nat) (d : Array α) (w : World) (eg : ∀ args w, (callFunc g args).run Try.prog w = .ok (.enter g args) w) (hcmp : CmpLays1 Try.prog g cb enc cf blk off d.size w) (hH : Holds enc w blk off d) (hblk : blk < w.heap.size) (hsz : d.size < 4611686018427387904) :
    Calls Try.prog 68 #[.slice (some ⟨blk, off, none⟩) d.size cap, .func (.func g) #[] cb] w fun e w' =>
      e = .returned (.tuple #[]) ∧ ∃ d' n os, PermIn 0 d.size d d' ∧ SortedIn (ltOf cf) 0 d.size d' ∧ w' = sortWorld enc w blk off n d' os := Any.slices_SortFunc Try.laysSlF6_f68 enc h1 cf hO g cb blk off cap d w eg hcmp hH hblk hsz
end Go.Proofs
end
section
namespace Go.Proofs.Ytodliknibbafeaa
open Go Go.RowKit Go.Sort
set_option maxRecDepth 100000
set_option maxHeartbeats 4000000
def zrJ (x : Fin 128) : Value := .int .i64 ((x.val : Nat) : Int)
def cfS (p r : Fin 128) : Int := if Lib.compareInt (szN r.val) (szN p.val) ≠ 0 then Lib.compareInt (szN r.val) (szN p.val) else Lib.compareInt (p.val : Nat) (r.val : Nat)
theorem zz4 (k : Nat) (W : World) (hk : k < 128) : Calls Try.prog 96 #[.int .u64 (k : Int)] W fun e w' => e = .returned (.int .i64 (szN k)) ∧ w' = W := by
  have h0 : (0 : Int) ≤ (k : Int) := by omega
  have h1 : (k : Int) < 128 := by omega
  go_enter Try.func96, Try.ntmps96
  go_wp2
  all_goals go_ret
  all_goals refine ⟨congrArg Ending.returned (congrArg (Value.int IntKind.i64) ?_), rfl⟩
  clear h0 h1
  revert k
  decide +kernel
theorem zxY (k : Nat) (W : World) (hk : k < 128) : Calls Try.prog 83 #[.int .u64 (k : Int)] W fun e w' => e = .returned (.int .i64 (szN k)) ∧ w' = W := by
  go_enter Try.func83, Try.ntmps83
  go_wp2_with (go_at_call 96; refine (zz4 k _ hk).mono ?_; rintro e w' ⟨rfl, rfl⟩)
  go_ret
  exact ⟨rfl, rfl⟩
theorem zvA (k : Nat) (W : World) (hk : k < 128) : Calls Try.prog 71 #[.int .i64 (k : Int)] W fun e w' => e = .returned (.int .i64 (szN k)) ∧ w' = W := by
  have hw : IntKind.u64.wrap (k : Int) = (k : Int) := by rw [IntKind.wrap_u64]; omega
  go_enter Try.func71, Try.ntmps71
  go_wp2_with (go_at_call 83; refine (zxY k _ hk).mono ?_; rintro e w' ⟨rfl, rfl⟩)
  go_ret
  exact ⟨rfl, rfl⟩
theorem or2 (a b : Int) (g : Nat) (W : World) (ha : W.cell? ⟨g, 0, none⟩ = some (.int .i64 a)) (hb : W.cell? ⟨g, 1, none⟩ = some (.int .i64 b)) : Calls Try.prog 70 #[.slice (some ⟨g, 0, none⟩) 2 2] W fun e w' => e = .returned (.int .i64 (if a ≠ 0 then a else b)) ∧ w' = W := by
  go_enter Try.func70, Try.ntmps70
  go_wp2
  go_loop [8] (fun vi => ∃ k : Nat, k ≤ 2 ∧ vi = .int .i64 k ∧ (0 < k → a = 0) ∧ (1 < k → b = 0)) (fun vi => 2 - (intOf vi).toNat)
  case atStart => exact ⟨0, by omega, rfl, by omega, by omega⟩
  case round =>
    obtain ⟨k, hk, rfl, h1, h2⟩ := hrel
    rcases (by omega : k = 0 ∨ k = 1 ∨ k = 2) with rfl | rfl | rfl
    · clear h1 h2
      by_cases h : a = 0
      · subst h
        go_wp2
        go_round
        case rel => exact ⟨1, by omega, by go_num, by simp, by simp⟩
        case measure => simp [intOf]
      · go_wp2
        go_ret
        simp [h]
    · have h1 := h1 (by omega)
      clear h2
      subst h1
      by_cases h : b = 0
      · subst h
        go_wp2
        go_round
        case rel => exact ⟨2, by omega, by go_num, by simp, by simp⟩
        case measure => simp [intOf]
      · go_wp2
        go_ret
        simp
    · have h1 := h1 (by omega)
      have h2 := h2 (by omega)
      subst h1 h2
      go_wp2
      go_ret
      simp
theorem zAB (x y : Fin 128) (W : World) : Calls Try.prog 69 #[zrJ x, zrJ y] W fun e w' => e = .returned (.int .i64 (cfS x y)) ∧ ∃ q os', w' = grow (W.drewN q) os' := by
  obtain ⟨x, hx⟩ := x
  obtain ⟨y, hy⟩ := y
  unfold cfS zrJ
  simp only
  generalize hc1 : Lib.compareInt (szN y) (szN x) = c1
  generalize hc2 : Lib.compareInt (x : Int) (y : Int) = c2
  have H1 := Lib.hid hc1
  have H2 := Lib.hid hc2
  clear hc1 hc2
  go_enter Try.func69, Try.ntmps69
  go_wp2_with (first | (go_at_call 71; first | (refine (zvA y _ hy).mono ?_; rintro e w' ⟨rfl, rfl⟩) | (refine (zvA x _ hx).mono ?_; rintro e w' ⟨rfl, rfl⟩)) | (go_at_call 54; refine (Try.cmp_Compare_int _ _ _).mono ?_; rintro e w' ⟨rfl, rfl⟩; first | rw [H1.out] | rw [H2.out]) | (go_at_call 70; refine (or2 c1 c2 _ _ ?_ ?_).mono ?_))
  · simp
  · simp
  all_goals go_ret
  all_goals exact ⟨rfl, 0, #[_], alloc_eq_grow _ _⟩
theorem ztY (a b : Int) : Lib.compareInt a b < 0 ↔ a < b := by unfold Lib.compareInt; split <;> (try split) <;> omega
theorem zvR (a b : Int) : Lib.compareInt a b = 0 ↔ a = b := by unfold Lib.compareInt; split <;> (try split) <;> omega
theorem zvL (p r : Fin 128) : ltOf cfS p r = true ↔ (szN r.val < szN p.val ∨ (szN r.val = szN p.val ∧ p.val < r.val)) := by
  unfold ltOf cfS
  rw [decide_eq_true_iff]
  split
  · rename_i h
    have := (not_congr (zvR (szN r.val) (szN p.val))).1 h
    rw [ztY]
    omega
  · rename_i h
    have := (zvR (szN r.val) (szN p.val)).1 (by simpa using h)
    rw [ztY]
    omega
theorem ztk (p r : Fin 128) : ltOf cfS p r = false ↔ ¬ (szN r.val < szN p.val ∨ (szN r.val = szN p.val ∧ p.val < r.val)) := by
  rw [← zvL]; simp
theorem zBM : SWO (ltOf cfS) where
  irrefl x := by rw [ztk]; omega
  trans x y z h1 h2 := by rw [zvL] at *; omega
  ntrans x y z h1 h2 := by rw [ztk] at *; omega
theorem ziy (a b : Int) : leI a b = true ↔ (szN b.toNat < szN a.toNat ∨ (szN a.toNat = szN b.toNat ∧ a.toNat ≤ b.toNat)) := by
  unfold leI zub; simp
theorem zfm (x : Int) : ∀ l : List Int, (zwI x l).Perm (x :: l)
  | [] => .refl _
  | y :: l => by
    unfold zwI
    split
    · exact .refl _
    · exact ((zfm x l).cons y).trans (.swap x y l)
theorem zcy : ∀ l : List Int, (zd3 l).Perm l
  | [] => .refl _
  | x :: l => (zfm x (zd3 l)).trans ((zcy l).cons x)
theorem zfl (x : Int) : ∀ l : List Int, l.Pairwise (fun a b => leI a b = true) → (zwI x l).Pairwise (fun a b => leI a b = true)
  | [], _ => by simp [zwI]
  | y :: l, h => by
    unfold zwI
    rw [List.pairwise_cons] at h
    split
    · rename_i hxy
      refine List.pairwise_cons.2 ⟨fun z hz => ?_, List.pairwise_cons.2 h⟩
      rcases List.mem_cons.1 hz with rfl | hz
      · exact hxy
      · have := h.1 z hz
        rw [ziy] at *
        omega
    · rename_i hxy
      refine List.pairwise_cons.2 ⟨fun z hz => ?_, zfl x l h.2⟩
      rcases List.mem_cons.1 ((zfm x l).mem_iff.1 hz) with rfl | hz
      · rw [ziy] at *
        omega
      · exact h.1 z hz
theorem zcU : ∀ l : List Int, (zd3 l).Pairwise (fun a b => leI a b = true)
  | [] => by simp [zd3]
  | x :: l => zfl x _ (zcU l)
theorem z8V : ∀ {l1 l2 : List Int}, l1.Perm l2 → (∀ x ∈ l1, 0 ≤ x) → l1.Pairwise (fun a b => leI a b = true) → l2.Pairwise (fun a b => leI a b = true) → l1 = l2
  | [], l2, h, _, _, _ => by rw [List.nil_perm] at h; exact h.symm
  | a :: l1, [], h, _, _, _ => by simp at h
  | a :: l1, b :: l2, h, h0, h1, h2 => by
    have hab : a = b := by
      rcases List.mem_cons.1 (h.mem_iff.1 (List.mem_cons_self ..)) with e | ha
      · exact e
      · rcases List.mem_cons.1 (h.mem_iff.2 (List.mem_cons_self ..)) with e | hb
        · exact e.symm
        · have e1 := (List.pairwise_cons.1 h2).1 a ha
          have e2 := (List.pairwise_cons.1 h1).1 b hb
          have p1 := h0 a (List.mem_cons_self ..)
          have p2 := h0 b (h.mem_iff.2 (List.mem_cons_self ..))
          rw [ziy] at e1 e2
          omega
    subst hab
    rw [z8V (List.perm_cons a |>.1 h) (fun x hx => h0 x (List.mem_cons_of_mem _ hx)) (List.pairwise_cons.1 h1).2 (List.pairwise_cons.1 h2).2]
def toF (x : Int) : Fin 128 := ⟨x.toNat % 128, Nat.mod_lt _ (by decide)⟩
def ofF (f : Fin 128) : Int := (f.val : Int)
theorem zvx {x : Int} (h : 0 ≤ x ∧ x < 128) : ofF (toF x) = x := by simp only [ofF, toF]; omega
def zz5 (B : Nat) (K : Nat → z0g) (b : Nat) : z0g := if B ≤ b then [0] else K b
theorem zmE {xs : List Int} (hx : ∀ x ∈ xs, 0 ≤ x ∧ x < 128) {d' : Array (Fin 128)} (hp : PermIn 0 (xs.map toF).toArray.size (xs.map toF).toArray d') (hs : SortedIn (ltOf cfS) 0 (xs.map toF).toArray.size d') : d'.toList.map ofF = zd3 xs := by
  obtain ⟨h1, _, h3⟩ := hp
  have hsz : d'.size = xs.length := by simpa using h1
  have e1 : (xs.map toF).map ofF = xs := by
    rw [List.map_map]
    conv => rhs; rw [← List.map_id xs]
    exact List.map_congr_left fun x hxm => zvx (hx x hxm)
  have hp2 : d'.toList.Perm (xs.map toF) := by
    have : (d'.extract 0 (xs.map toF).toArray.size).toList = d'.toList := by
      rw [← h1]; simp
    rw [this] at h3
    simp at h3
    rwa [List.take_of_length_le (by simp)] at h3
  have hp3 : (d'.toList.map ofF).Perm xs := by
    have := hp2.map ofF
    rwa [e1] at this
  refine z8V (hp3.trans (zcy xs).symm) (fun x hxm => (hx x (hp3.mem_iff.1 hxm)).1) ?_ (zcU xs)
  rw [List.pairwise_iff_getElem]
  intro i j hi hj hij
  simp only [List.length_map, Array.length_toList] at hi hj
  have := hs i j (by omega) hij (by simp; omega)
  rw [ztk, getElem!_pos d' i hi, getElem!_pos d' j hj] at this
  rw [ziy]
  simp only [List.getElem_map, Array.getElem_toList, ofF, Int.toNat_natCast]
  omega
theorem zos {w : World} {g n : Nat} {os : Array Obj} {cur : Array Value} {e : TypeId} {fr : Nat × Nat} (d : Array (Fin 128)) (hb : w.heap[g]? = some (.cells cur e fr)) : (sortWorld zrJ w g 0 n d os).heap[g]? = some (.cells (putCells zrJ 0 d cur) e fr) := by
  unfold sortWorld
  rw [heap_grow_old _ _ (by rw [size_putRow]; exact z1w hb)]
  simp [putRow, mapBlock, Sort.ahead, Array.getElem?_modify, hb, onCells]
theorem zhZ {w : World} {g n : Nat} {os : Array Obj} (d : Array (Fin 128)) {b : Nat} (hb : b < w.heap.size) (hne : b ≠ g) : (sortWorld zrJ w g 0 n d os).heap[b]? = w.heap[b]? := by
  unfold sortWorld
  rw [heap_grow_old _ _ (by rw [size_putRow]; exact hb)]
  simp [putRow, mapBlock, Sort.ahead, Array.getElem?_modify, Ne.symm hne]
theorem zuC {w : World} {g n : Nat} {os : Array Obj} (d : Array (Fin 128)) : w.heap.size ≤ (sortWorld zrJ w g 0 n d os).heap.size := by
  unfold sortWorld
  rw [size_grow, size_putRow]
  show w.heap.size ≤ w.heap.size + _
  omega
theorem zrO {I : World → (Nat → z0g) → Prop} : z9I Try.prog I xtC := by
  intro f args r outs h
  unfold xtC at h
  split at h
  case isFalse => cases h
  rename_i hf
  subst hf
  unfold zvV at h
  split at h
  case h_2 => cases h
  rename_i n cs f fs gs
  split at h
  case isFalse => cases h
  rename_i hfg
  obtain ⟨rfl, hfs, hgs⟩ := hfg
  simp only [Array.isEmpty_iff] at hfs hgs
  subst hfs hgs
  split at h
  case h_2 => cases h
  rename_i xs hxs
  split at h
  case isFalse => cases h
  rename_i hn
  subst hn
  unfold zuv at h
  split at h
  case isFalse => cases h
  rename_i hc
  obtain ⟨hne, hlen, hall⟩ := hc
  have hx : ∀ x ∈ xs, 0 ≤ x ∧ x < 128 := by simpa using hall
  obtain ⟨rfl, rfl⟩ : T.tup [] = r ∧ [T.os 1 (zd3 xs).length ((zd3 xs).map fun x => .sc (.int .i64 x)), .dead] = outs := by simpa using h
  have hcs := zlc hxs
  subst hcs
  clear h hxs hall
  refine ⟨fun vals w => ?_, fun w K vals hs ha hI => ?_⟩
  · have hb : ∃ c, Try.f68.body = some c := ⟨_, rfl⟩
    obtain ⟨c, hb⟩ := hb
    have hname : Try.f68.name ≠ "runtime.NumGoroutine" := by decide
    simp [callFunc, program, Sem.run, Try.func68, hname, hb]
  · obtain ⟨v, u, rfl⟩ : ∃ v u, vals = #[v, u] := by
      obtain ⟨l⟩ := vals
      match l, hs with
      | [v, u], _ => exact ⟨v, u, rfl⟩
    have hv : TRep w K (col 0) v (.os 1 xs.length (xs.map fun x => .sc (.int .i64 x))) := ha 0 _ rfl
    have hu : TRep w K [] u (.sc (.func (.func 69) #[] #[])) := ha 1 _ rfl
    rw [hu.sc_eq]
    clear hu ha
    have hl0 : 0 < xs.length := List.length_pos_iff.2 hne
    generalize hT : T.os 1 xs.length (xs.map fun x => T.sc (.int .i64 x)) = t at hv
    cases hv with
    | nil => injection hT with _ e _; omega
    | own c g n cap size cs arr e fz F hfz hc0 hK hg hsz hl hz hn hcap hF hh =>
      injection hT with e1 e2 e3
      subst e1 e2 e3
      have hcell : ∀ j (hj : j < xs.length), arr[j]? = some (.int .i64 xs[j]) := fun j hj => by
        rw [hF j (by simpa using hj)]
        have := hh j (.sc (.int .i64 xs[j])) (by simp [hj])
        rw [this.sc_eq]
      have hH : Holds zrJ w g 0 (xs.map toF).toArray := fun j hj => by
        have hj' : j < xs.length := by simpa using hj
        constructor
        · rw [Nat.zero_add, z2l hg, hcell j hj', getElem!_pos _ j hj]
          simp only [zrJ, List.getElem_toArray, List.getElem_map]
          have := zvx (hx _ (List.getElem_mem hj'))
          unfold ofF at this
          rw [this]
        · unfold World.frozen?
          rw [Nat.zero_add]
          simp only [hg]
          have := hfz j (by omega)
          obtain ⟨lo, hi⟩ := fz
          simp only at this ⊢
          simp only [Bool.and_eq_false_iff, decide_eq_false_iff_not]
          omega
      have eg : ∀ args w, (callFunc 69 args).run Try.prog w = .ok (.enter 69 args) w := enters_of Try.func69 (by kernel_rfl) rfl
      have hcmp : CmpLays1 Try.prog 69 #[] zrJ cfS g 0 (xs.map toF).toArray.size w := fun m os dk _ x y => zAB x y _
      have hcon := Try.slices_SortFunc zrJ (fun _ => rfl) cfS zBM 69 #[] g 0 cap (xs.map toF).toArray w eg hcmp hH (z1w hg) (by simpa using hlen)
      have hsize : (xs.map toF).toArray.size = xs.length := by simp
      rw [hsize] at hcon
      refine hcon.mono fun e' w' ⟨he, d', m, os, hp, hso, hw⟩ => ?_
      subst hw
      have hsort := zmE hx (by rw [hsize]; exact hp) (by rw [hsize]; exact hso)
      have hd : d'.size = xs.length := by have := hp.1; simpa using this
      have hys : (zd3 xs).length = xs.length := (zcy xs).length_eq
      refine ⟨.tuple #[], zz5 w.heap.size K, he, ?_, fun i t hi hio => ?_, rfl, rfl, rfl, zuC d', fun b hb hcb => ⟨by unfold zz5; rw [if_neg (by omega)], zhZ d' hb ?_⟩, ?_⟩
      · exact .tup _ #[] [] (fun _ => undef) rfl (fun j hj => by simp at hj) (fun j t ht => by simp at ht)
      · match i, hi with
        | 0, hi =>
          refine ⟨_, rfl, ?_⟩
          show TRep _ _ (col 0) (.slice (some ⟨g, 0, none⟩) xs.length cap) _
          rw [← hys]
          refine .own (col 0) g _ cap 1 _ (putCells zrJ 0 d' arr) e fz (fun j => .int .i64 ((zd3 xs).getD j 0)) (fun i hi => hfz i (by simpa [putCells] using hi)) (by simp [col]) (by unfold zz5; rw [if_neg (by have := z1w hg; omega)]; exact hK) (zos d' hg) (by simpa [putCells] using hsz) (by simp) (by omega) (by omega) hcap (fun j hj => ?_) (fun j t ht => ?_)
          · have hj' : j < xs.length := by simpa [hys] using hj
            have hja : j < arr.size := (Array.getElem?_eq_some_iff.1 (hcell j hj')).1
            have hjd : j < d'.size := by omega
            simp only [putCells, Array.getElem?_mapIdx, hcell j hj', Option.map_some]
            rw [if_pos (by omega), Nat.sub_zero, getElem!_pos d' j hjd]
            have : (zd3 xs).getD j 0 = ofF d'[j] := by
              rw [← hsort]; simp [List.getD, hjd]
            rw [this]; rfl
          · simp only [List.getElem?_map, Option.map_eq_some_iff] at ht
            obtain ⟨x, hx', rfl⟩ := ht
            simp only [List.getD, hx']
            exact .sc _ _ rfl
        | 1, hi => cases hi; cases hio
      · rintro rfl
        rw [hK] at hcb
        simp [col] at hcb
      · intro b arr0 e0 fz0 hb0
        by_cases hbg : b = g
        · subst hbg
          rw [hg] at hb0
          cases hb0
          exact ⟨_, _, _, zos d' hg, by simp [putCells]⟩
        · exact ⟨_, _, _, (zhZ d' (z1w hb0) hbg).trans hb0, rfl⟩
    | _ => cases hT
end Go.Proofs.Ytodliknibbafeaa
end
section
namespace Go.Proofs.Ytodliknibbafeaa
structure StOk (ops : Array Oper) (t : SchT) (L : Array Bool) (d : Nat) (ns : List Nat) : Prop where
  ord : z1U .any ops true t L = true
  dep : t.depth = d
  nx : ∀ z ∈ t.nexts, z ∈ ns
structure BrOk (ops : Array Oper) (t : SchT) (L : Array Bool) (d : Nat) (ns hs : List Nat) : Prop where
  ord : z1U .any ops false t L = true
  dep : t.depth = d
  nx : ∀ z ∈ t.nexts, z ∈ ns
  hd : ∀ i ∈ hs, i ∈ t.heads
theorem zau {ops : Array Oper} {L : Array Bool} (h : decide (Region.ready .any ops L = []) = true) : StOk ops .nil L 0 [] := ⟨by simp only [z1U, h, Bool.and_true], rfl, fun z hz => by simp [SchT.nexts] at hz⟩
theorem zBN {ops : Array Oper} {k m : Nat} {rest : SchT} {L L' : Array Bool} {d : Nat} {ns : List Nat} (h : StOk ops rest L' d ns) (hL : L.setIfInBounds k true = L')
    (hc : ((m == 0 || m == 3) && (Region.ready .any ops L).contains k && Region.free .any ops L k && !(ns.contains k) && (m == 3 || ns.all fun z => (zxc .any ops ops.size [z]).contains k)) = true) : StOk ops (.op k m rest) L (d + 1) ns := by
  simp only [Bool.and_eq_true, Bool.or_eq_true, Bool.not_eq_true', beq_iff_eq] at hc
  obtain ⟨⟨⟨⟨h1, h2⟩, h3⟩, h4⟩, h5⟩ := hc
  have hm2 : ¬ m = 2 := by omega
  have hk : k ∉ ns := by simpa using h4
  refine ⟨?_, by simp only [SchT.depth, h.dep], fun z hz => h.nx z (by simpa only [SchT.nexts, if_neg hm2] using hz)⟩
  simp only [z1U]
  rw [if_pos (by simpa using h1), hL, h.ord, h2, h3]
  have h6 : rest.nexts.contains k = false := by
    rw [Bool.eq_false_iff]
    intro hh
    exact hk (h.nx k (by simpa using hh))
  rw [h6]
  simp only [Bool.not_false, Bool.and_self, Bool.true_and, Bool.and_true, Bool.or_eq_true, beq_iff_eq]
  rcases h5 with h5 | h5
  · exact .inl h5
  · exact .inr (List.all_eq_true.2 fun z hz => List.all_eq_true.1 h5 z (h.nx z hz))
theorem zBO {ops : Array Oper} {k m : Nat} {rest : SchT} {L L' : Array Bool} {d : Nat} {ns ns' : List Nat} (h : StOk ops rest L' d ns) (hL : L.setIfInBounds k true = L')
    (hc : ((m == 1 || m == 2) && decide (Region.ready .any ops L = [k])) = true) (hn : (if m = 2 then [k] else ns) = ns') : StOk ops (.op k m rest) L (d + 1) ns' := by
  subst hn
  simp only [Bool.and_eq_true, Bool.or_eq_true, beq_iff_eq] at hc
  obtain ⟨h1, h2⟩ := hc
  refine ⟨?_, by simp only [SchT.depth, h.dep], fun z hz => ?_⟩
  · simp only [z1U]
    rw [if_neg (by omega), hL, h.ord, h2]
    simp [h1]
  · simp only [SchT.nexts] at hz
    split at hz
    · rename_i e; rw [if_pos e]; exact hz
    · rename_i e; rw [if_neg e]; exact h.nx z hz
theorem zDC {ops : Array Oper} {k m : Nat} {rest : SchT} {L L' : Array Bool} {d : Nat} {ns ns' : List Nat} (h : StOk ops rest L' d ns) (hL : L.setIfInBounds k true = L')
    (hc : ((m == 1 || m == 2) && (Region.ready .any ops L).contains k) = true) (hn : (if m = 2 then [k] else ns) = ns') : BrOk ops (.op k m rest) L (d + 1) ns' [k] := by
  subst hn
  simp only [Bool.and_eq_true, Bool.or_eq_true, beq_iff_eq] at hc
  obtain ⟨h1, h2⟩ := hc
  refine ⟨?_, by simp only [SchT.depth, h.dep], fun z hz => ?_, fun i hi => by simpa [SchT.heads] using hi⟩
  · simp only [z1U]
    rw [if_neg (by simp), hL, h.ord, h2]
    simp [h1]
  · simp only [SchT.nexts] at hz
    split at hz
    · rename_i e; rw [if_pos e]; exact hz
    · rename_i e; rw [if_neg e]; exact h.nx z hz
theorem z0d {ops : Array Oper} {a b : SchT} {L : Array Bool} {d : Nat} {n1 n2 h1 h2 : List Nat} (ha : BrOk ops a L d n1 h1) (hb : BrOk ops b L d n2 h2) : BrOk ops (.alt a b) L d (n1 ++ n2) (h1 ++ h2) := by
  refine ⟨?_, by simp only [SchT.depth, ha.dep], fun z hz => ?_, fun i hi => ?_⟩
  · simp only [z1U, ha.ord, hb.ord, ha.dep, hb.dep]; simp
  · simp only [SchT.nexts, List.mem_append] at hz ⊢
    exact hz.imp (ha.nx z) (hb.nx z)
  · simp only [SchT.heads, List.mem_append] at hi ⊢
    exact hi.imp (ha.hd i) (hb.hd i)
theorem zxD {ops : Array Oper} {a b : SchT} {L : Array Bool} {d : Nat} {ns ns' hs : List Nat} (h : BrOk ops (.alt a b) L d ns hs) (hc : ((Region.ready .any ops L).all fun i => hs.contains i) = true) (hn : (ns.all fun z => ns'.contains z) = true) : StOk ops (.alt a b) L d ns' := by
  refine ⟨?_, h.dep, fun z hz => by simpa using List.all_eq_true.1 hn z (h.nx z hz)⟩
  have := h.ord
  simp only [z1U, Bool.and_eq_true, decide_eq_true_eq] at this ⊢
  obtain ⟨⟨⟨h1, h2⟩, h3⟩, h4⟩ := this
  refine ⟨⟨⟨?_, h2⟩, h3⟩, h4⟩
  simp only [Bool.not_true, Bool.false_or, decide_eq_true_eq]
  intro i hi
  have := List.all_eq_true.1 hc i hi
  exact h.hd i (by simpa using this)
def zfI : Nat → Nat → List Bool
  | 0, _ => []
  | n + 1, k => (k % 2 == 1) :: zfI n (k / 2)
def mB (n k : Nat) : Array Bool := ⟨zfI n k⟩
theorem zoR : ∀ n k, (zfI n k).length = n
  | 0, _ => rfl
  | n + 1, k => by simp [zfI, zoR n]
theorem ziQ : ∀ n k i (h : i < (zfI n k).length), (zfI n k)[i] = k.testBit i
  | 0, k, i, h => by simp [zfI] at h
  | n + 1, k, 0, h => by simp only [zfI, List.getElem_cons_zero, Nat.testBit_zero]; rfl
  | n + 1, k, i + 1, h => by
    simp only [zfI, List.getElem_cons_succ]
    rw [ziQ n (k / 2) i, Nat.testBit_succ]
theorem zsI {n a k : Nat} : (mB n a).setIfInBounds k true = mB n (a ||| 2 ^ k) := by
  apply Array.ext
  · simp [mB, zoR]
  · intro i h1 h2
    have e1 : i < (zfI n a).length := by simpa [mB] using h1
    have e2 : i < (zfI n (a ||| 2 ^ k)).length := by simpa [mB] using h2
    have b1 := ziQ n a i e1
    have b2 := ziQ n (a ||| 2 ^ k) i e2
    rw [Array.getElem_setIfInBounds]
    simp only [mB, List.getElem_toArray] at b1 b2 ⊢
    rw [b1, b2, Nat.testBit_or, Nat.testBit_two_pow]
    · by_cases h : k = i
      · simp [h]
      · simp [h]
    · simpa [mB] using e1
theorem sq {ops : Array Oper} {k m n a : Nat} {rest : SchT} {d : Nat} {ns : List Nat} (h : StOk ops rest (mB n (a ||| 2 ^ k)) d ns)
    (hc : ((m == 0 || m == 3) && (Region.ready .any ops (mB n a)).contains k && Region.free .any ops (mB n a) k && !(ns.contains k) && (m == 3 || ns.all fun z => (zxc .any ops ops.size [z]).contains k)) = true := by kernel_rfl) : StOk ops (.op k m rest) (mB n a) (d + 1) ns := zBN h zsI hc
theorem se {ops : Array Oper} {k m n a : Nat} {rest : SchT} {d : Nat} {ns ns' : List Nat} (h : StOk ops rest (mB n (a ||| 2 ^ k)) d ns)
    (hc : ((m == 1 || m == 2) && decide (Region.ready .any ops (mB n a) = [k])) = true := by kernel_rfl) (hn : (if m = 2 then [k] else ns) = ns' := by rfl) : StOk ops (.op k m rest) (mB n a) (d + 1) ns' := zBO h zsI hc hn
theorem be {ops : Array Oper} {k m n a : Nat} {rest : SchT} {d : Nat} {ns ns' : List Nat} (h : StOk ops rest (mB n (a ||| 2 ^ k)) d ns)
    (hc : ((m == 1 || m == 2) && (Region.ready .any ops (mB n a)).contains k) = true := by kernel_rfl) (hn : (if m = 2 then [k] else ns) = ns' := by rfl) : BrOk ops (.op k m rest) (mB n a) (d + 1) ns' [k] := zDC h zsI hc hn
theorem sa {ops : Array Oper} {a b : SchT} {L : Array Bool} {d : Nat} {ns ns' hs : List Nat} (h : BrOk ops (.alt a b) L d ns hs) (hc : ((Region.ready .any ops L).all fun i => hs.contains i) = true := by kernel_rfl) (hn : (ns.all fun z => ns'.contains z) = true := by rfl) : StOk ops (.alt a b) L d ns' := zxD h hc hn
def zmM (cf : Cfg) (sk : Nat → Bool) : Code → Bool
  | .region id ops draw => sk id || (!draw || (match cf.dt id with | some t => z9z ops t | none => (match cf.dr id with | some sch => ztc ops sch | none => true)))
  | .seq a b => zmM cf sk a && zmM cf sk b
  | .cond _ x y => zmM cf sk x && zmM cf sk y
  | .block _ c => zmM cf sk c
  | .loop c => zmM cf sk c
  | .scope c => zmM cf sk c
  | _ => true
def z2W (i : Nat) : Code → List (Array Oper)
  | .region id ops _ => if Nat.beq id i then [ops] else []
  | .seq a b => z2W i a ++ z2W i b
  | .cond _ x y => z2W i x ++ z2W i y
  | .block _ c => z2W i c
  | .loop c => z2W i c
  | .scope c => z2W i c
  | _ => []
noncomputable def z9w (i : Nat) (c : Code) : Array Oper := match z2W i c with | x :: _ => x | [] => #[]
theorem zcX {cf : Cfg} {sk : Nat → Bool} : ∀ (c : Code), zmM cf sk c = true → (∀ i, sk i = true → ∃ t, cf.dt i = some t ∧ ∀ o ∈ z2W i c, z9z o t = true) → okC cf c = true
  | .region id ops draw, h, hs => by
    simp only [zmM, Bool.or_eq_true] at h
    simp only [okC, Bool.or_eq_true]
    rcases h with h | h
    · right
      obtain ⟨t, h1, h2⟩ := hs id h
      rw [h1]
      exact h2 ops (by simp [z2W])
    · exact h
  | .seq a b, h, hs => by
    simp only [zmM, Bool.and_eq_true] at h
    simp only [okC, Bool.and_eq_true]
    exact ⟨zcX a h.1 fun i hi => by obtain ⟨t, h1, h2⟩ := hs i hi; exact ⟨t, h1, fun o ho => h2 o (by simp only [z2W, List.mem_append]; exact .inl ho)⟩,
      zcX b h.2 fun i hi => by obtain ⟨t, h1, h2⟩ := hs i hi; exact ⟨t, h1, fun o ho => h2 o (by simp only [z2W, List.mem_append]; exact .inr ho)⟩⟩
  | .cond _ a b, h, hs => by
    simp only [zmM, Bool.and_eq_true] at h
    simp only [okC, Bool.and_eq_true]
    exact ⟨zcX a h.1 fun i hi => by obtain ⟨t, h1, h2⟩ := hs i hi; exact ⟨t, h1, fun o ho => h2 o (by simp only [z2W, List.mem_append]; exact .inl ho)⟩,
      zcX b h.2 fun i hi => by obtain ⟨t, h1, h2⟩ := hs i hi; exact ⟨t, h1, fun o ho => h2 o (by simp only [z2W, List.mem_append]; exact .inr ho)⟩⟩
  | .block _ c, h, hs => by simp only [okC]; exact zcX c (by simpa only [zmM] using h) (by simpa only [z2W] using hs)
  | .loop c, h, hs => by simp only [okC]; exact zcX c (by simpa only [zmM] using h) (by simpa only [z2W] using hs)
  | .scope c, h, hs => by simp only [okC]; exact zcX c (by simpa only [zmM] using h) (by simpa only [z2W] using hs)
  | .skip, _, _ => rfl
  | .label .., _, _ => rfl
  | .exit .., _, _ => rfl
  | .ret, _, _ => rfl
  | .rangeFunc .., _, _ => rfl
  | .goto _, _, _ => rfl
  | .refuse _, _, _ => rfl
theorem z6S {c : Code} {i : Nat} {t : SchT} {n : Nat} {ns : List Nat} {L : Array Bool} (hr : (z2W i c).length = 1) (hs : StOk (z9w i c) t L n ns) (hL : L = Array.replicate (z9w i c).toList.length false) (hd : (decide (n = (z9w i c).toList.length) && Region.noSelect (z9w i c)) = true) : ∀ o ∈ z2W i c, z9z o t = true := by
  intro o ho
  obtain ⟨x, hx⟩ : ∃ x, z2W i c = [x] := List.length_eq_one_iff.1 hr
  have e : z9w i c = x := by unfold z9w; rw [hx]
  rw [hx] at ho
  obtain rfl : o = x := by simpa using ho
  rw [e] at hs hL hd
  subst hL
  simp only [Bool.and_eq_true, decide_eq_true_eq] at hd
  unfold z9z
  simp only [Bool.and_eq_true, decide_eq_true_eq]
  exact ⟨⟨hs.dep.trans hd.1, hd.2⟩, hs.ord⟩
theorem z9y {P : Program} {f : FuncId} {cf : Cfg} {fn : Func} {c : Code} (l : List Nat) (hf : P.funcs[f]? = some fn) (hb : fn.body = some c) (hn : (fn.name != "runtime.NumGoroutine") = true) (h2 : zmM cf l.contains c = true)
    (ht : ∀ i ∈ l, ∃ t, cf.dt i = some t ∧ ∀ o ∈ z2W i c, z9z o t = true) : z1P P f cf = true := by
  unfold z1P
  simp only [hf, hb, hn, Bool.true_and]
  exact zcX c h2 fun j hj => ht j (by simpa using hj)
end Go.Proofs.Ytodliknibbafeaa
end
section
namespace Go.Proofs.Ytodliknibbafeaa
open Go
set_option maxRecDepth 100000
noncomputable abbrev z0F : Array Oper := (z9w 11 cd5)
theorem zpn : StOk z0F zjb (mB 17 131071) 0 [] := zau (by kernel_rfl)
theorem zpo : StOk z0F zjc (mB 17 65535) 1 [16] := se zpn
theorem zpp : StOk z0F zjd (mB 17 32767) 2 [16] := sq zpo
theorem zpq : StOk z0F zje (mB 17 16383) 3 [14] := se zpp
theorem zpr : StOk z0F zjf (mB 17 8191) 4 [14] := sq zpq
theorem zps : StOk z0F zjg (mB 17 4095) 5 [12] := se zpr
theorem zgm : StOk z0F zdH (mB 17 3071) 6 [12] := se zps
theorem zgn : StOk z0F zdI (mB 17 2943) 7 [7] := se zgm
theorem zpt : StOk z0F zjh (mB 17 1023) 7 [12] := sq zgm
theorem zpu : StOk z0F zji (mB 17 2927) 8 [7] := se zgn
theorem zbo : StOk z0F za8 (mB 17 895) 8 [7] := sq zgn
theorem zpv : StOk z0F zjj (mB 17 511) 8 [12] := se zpt
theorem z8h : StOk z0F z7x (mB 17 887) 9 [3] := se zbo
theorem zbp : StOk z0F za9 (mB 17 879) 9 [7] := sq zpu
theorem zbq : StOk z0F zaa (mB 17 831) 9 [7] := se zbo
theorem zbr : StOk z0F zab (mB 17 383) 9 [7] := sa (z0d (be zpv) (be zbo))
theorem zbs : StOk z0F zac (mB 17 886) 10 [3] := se z8h
theorem zbt : StOk z0F zad (mB 17 871) 10 [3] := sa (z0d (be zbp) (be z8h))
theorem zbu : StOk z0F zae (mB 17 823) 10 [3] := sa (z0d (be zbq) (be z8h))
theorem zbv : StOk z0F zaf (mB 17 375) 10 [3] := sa (z0d (be zbr) (be z8h))
theorem zgo : StOk z0F zdJ (mB 17 815) 10 [7] := sa (z0d (be zbq) (be zbp))
theorem zgp : StOk z0F zdK (mB 17 367) 10 [7] := sa (z0d (be zbr) (be zbp))
theorem zgq : StOk z0F zdL (mB 17 319) 10 [7] := sa (z0d (be zbr) (be zbq))
theorem zgr : StOk z0F zdM (mB 17 870) 11 [3] := sa (z0d (be zbt) (be zbs))
theorem zgs : StOk z0F zdN (mB 17 822) 11 [3] := sa (z0d (be zbu) (be zbs))
theorem zgt : StOk z0F zdO (mB 17 374) 11 [3] := sa (z0d (be zbv) (be zbs))
theorem zgu : StOk z0F zdP (mB 17 807) 11 [3] := sa (z0d (be zgo) (z0d (be zbu) (be zbt)))
theorem zgv : StOk z0F zdQ (mB 17 359) 11 [3] := sa (z0d (be zgp) (z0d (be zbv) (be zbt)))
theorem zgw : StOk z0F zdR (mB 17 311) 11 [3] := sa (z0d (be zgq) (z0d (be zbv) (be zbu)))
theorem zs7 : StOk z0F znz (mB 17 303) 11 [7] := sa (z0d (be zgq) (z0d (be zgp) (be zgo)))
theorem zs8 : StOk z0F znA (mB 17 806) 12 [3] := sa (z0d (be zgu) (z0d (be zgs) (be zgr)))
theorem zs9 : StOk z0F znB (mB 17 358) 12 [3] := sa (z0d (be zgv) (z0d (be zgt) (be zgr)))
theorem zsa : StOk z0F znC (mB 17 310) 12 [3] := sa (z0d (be zgw) (z0d (be zgt) (be zgs)))
theorem zsb : StOk z0F znD (mB 17 295) 12 [3] := sa (z0d (be zs7) (z0d (be zgw) (z0d (be zgv) (be zgu))))
theorem zsc : StOk z0F znE (mB 17 294) 13 [3] := sa (z0d (be zsb) (z0d (be zsa) (z0d (be zs9) (be zs8))))
theorem zsd : StOk z0F znF (mB 17 38) 14 [3] := sq zsc
theorem zse : StOk z0F znG (mB 17 6) 15 [3] := sq zsd
theorem zsf : StOk z0F znH (mB 17 2) 16 [3] := sq zse
theorem zsg : StOk z0F znI (mB 17 0) 17 [3] := sq zsf
noncomputable abbrev z0j : Array Oper := (z9w 21 cd5)
theorem zpa : StOk z0j ziY (mB 20 1048575) 0 [] := zau (by kernel_rfl)
theorem zpb : StOk z0j ziZ (mB 20 524287) 1 [19] := se zpa
theorem zpc : StOk z0j zj0 (mB 20 262143) 2 [19] := sq zpb
theorem zpd : StOk z0j zj1 (mB 20 131071) 3 [17] := se zpc
theorem zg2 : StOk z0j zdn (mB 20 98303) 4 [15] := se zpd
theorem zg3 : StOk z0j zdo (mB 20 81919) 5 [15] := se zg2
theorem zpe : StOk z0j zj2 (mB 20 32767) 5 [15] := sq zg2
theorem zpf : StOk z0j zj3 (mB 20 32255) 6 [15] := se zpe
theorem zg4 : StOk z0j zdp (mB 20 73727) 6 [13] := se zg3
theorem zpg : StOk z0j zj4 (mB 20 16383) 6 [15] := sq zg3
theorem zph : StOk z0j zj5 (mB 20 15871) 7 [15] := sa (z0d (be zpg) (be zpf))
theorem zpi : StOk z0j zj6 (mB 20 72703) 7 [13] := se zg4
theorem zb4 : StOk z0j z9O (mB 20 8191) 7 [13] := sq zg4
theorem z6e : StOk z0j z6g (mB 20 8063) 8 [7] := se zb4
theorem zb5 : StOk z0j z9P (mB 20 7679) 8 [13] := sa (z0d (be zb4) (be zph))
theorem zb6 : StOk z0j z9Q (mB 20 7167) 8 [13] := sq zpi
theorem zb7 : StOk z0j z9R (mB 20 4095) 8 [13] := se zb4
theorem z7Y : StOk z0j z7o (mB 20 8061) 9 [7] := se z6e
theorem z6f : StOk z0j z6h (mB 20 7999) 9 [7] := se z6e
theorem z7Z : StOk z0j z7p (mB 20 7551) 9 [7] := sa (z0d (be zb5) (be z6e))
theorem z8a : StOk z0j z7q (mB 20 7039) 9 [7] := sa (z0d (be zb6) (be z6e))
theorem z8b : StOk z0j z7r (mB 20 3967) 9 [7] := sa (z0d (be zb7) (be z6e))
theorem zg5 : StOk z0j zdq (mB 20 6655) 9 [13] := sa (z0d (be zb6) (be zb5))
theorem zg6 : StOk z0j zdr (mB 20 3583) 9 [13] := sa (z0d (be zb7) (be zb5))
theorem zg7 : StOk z0j zds (mB 20 3071) 9 [13] := sa (z0d (be zb7) (be zb6))
theorem z8c : StOk z0j z7s (mB 20 7997) 10 [7] := sa (z0d (be z6f) (be z7Y))
theorem zb8 : StOk z0j z9S (mB 20 7549) 10 [7] := sa (z0d (be z7Z) (be z7Y))
theorem zb9 : StOk z0j z9T (mB 20 7037) 10 [7] := sa (z0d (be z8a) (be z7Y))
theorem zba : StOk z0j z9U (mB 20 3965) 10 [7] := sa (z0d (be z8b) (be z7Y))
theorem z8d : StOk z0j z7t (mB 20 7967) 10 [5] := se z6f
theorem z8e : StOk z0j z7u (mB 20 7487) 10 [7] := sa (z0d (be z7Z) (be z6f))
theorem z8f : StOk z0j z7v (mB 20 6975) 10 [7] := sa (z0d (be z8a) (be z6f))
theorem z8g : StOk z0j z7w (mB 20 3903) 10 [7] := sa (z0d (be z8b) (be z6f))
theorem zbb : StOk z0j z9V (mB 20 6527) 10 [7] := sa (z0d (be zg5) (z0d (be z8a) (be z7Z)))
theorem zbc : StOk z0j z9W (mB 20 3455) 10 [7] := sa (z0d (be zg6) (z0d (be z8b) (be z7Z)))
theorem zbd : StOk z0j z9X (mB 20 2943) 10 [7] := sa (z0d (be zg7) (z0d (be z8b) (be z8a)))
theorem zpj : StOk z0j zj7 (mB 20 2559) 10 [13] := sa (z0d (be zg7) (z0d (be zg6) (be zg5)))
theorem zbe : StOk z0j z9Y (mB 20 7965) 11 [5] := sa (z0d (be z8d) (be z8c))
theorem zbf : StOk z0j z9Z (mB 20 7485) 11 [7] := sa (z0d (be z8e) (z0d (be zb8) (be z8c)))
theorem zbg : StOk z0j za0 (mB 20 6973) 11 [7] := sa (z0d (be z8f) (z0d (be zb9) (be z8c)))
theorem zbh : StOk z0j za1 (mB 20 3901) 11 [7] := sa (z0d (be z8g) (z0d (be zba) (be z8c)))
theorem zg8 : StOk z0j zdt (mB 20 6525) 11 [7] := sa (z0d (be zbb) (z0d (be zb9) (be zb8)))
theorem zg9 : StOk z0j zdu (mB 20 3453) 11 [7] := sa (z0d (be zbc) (z0d (be zba) (be zb8)))
theorem zga : StOk z0j zdv (mB 20 2941) 11 [7] := sa (z0d (be zbd) (z0d (be zba) (be zb9)))
theorem zbi : StOk z0j za2 (mB 20 7455) 11 [5] := sa (z0d (be z8e) (be z8d))
theorem zbj : StOk z0j za3 (mB 20 6943) 11 [5] := sa (z0d (be z8f) (be z8d))
theorem zbk : StOk z0j za4 (mB 20 3871) 11 [5] := sa (z0d (be z8g) (be z8d))
theorem zbl : StOk z0j za5 (mB 20 6463) 11 [7] := sa (z0d (be zbb) (z0d (be z8f) (be z8e)))
theorem zbm : StOk z0j za6 (mB 20 3391) 11 [7] := sa (z0d (be zbc) (z0d (be z8g) (be z8e)))
theorem zbn : StOk z0j za7 (mB 20 2879) 11 [7] := sa (z0d (be zbd) (z0d (be z8g) (be z8f)))
theorem zgb : StOk z0j zdw (mB 20 2431) 11 [7] := sa (z0d (be zpj) (z0d (be zbd) (z0d (be zbc) (be zbb))))
theorem zgc : StOk z0j zdx (mB 20 7453) 12 [5] := sa (z0d (be zbi) (z0d (be zbf) (be zbe)))
theorem zgd : StOk z0j zdy (mB 20 6941) 12 [5] := sa (z0d (be zbj) (z0d (be zbg) (be zbe)))
theorem zge : StOk z0j zdz (mB 20 3869) 12 [5] := sa (z0d (be zbk) (z0d (be zbh) (be zbe)))
theorem zgf : StOk z0j zdA (mB 20 6461) 12 [7] := sa (z0d (be zbl) (z0d (be zg8) (z0d (be zbg) (be zbf))))
theorem zgg : StOk z0j zdB (mB 20 3389) 12 [7] := sa (z0d (be zbm) (z0d (be zg9) (z0d (be zbh) (be zbf))))
theorem zgh : StOk z0j zdC (mB 20 2877) 12 [7] := sa (z0d (be zbn) (z0d (be zga) (z0d (be zbh) (be zbg))))
theorem zpk : StOk z0j zj8 (mB 20 2429) 12 [7] := sa (z0d (be zgb) (z0d (be zga) (z0d (be zg9) (be zg8))))
theorem zgi : StOk z0j zdD (mB 20 6431) 12 [5] := sa (z0d (be zbl) (z0d (be zbj) (be zbi)))
theorem zgj : StOk z0j zdE (mB 20 3359) 12 [5] := sa (z0d (be zbm) (z0d (be zbk) (be zbi)))
theorem zgk : StOk z0j zdF (mB 20 2847) 12 [5] := sa (z0d (be zbn) (z0d (be zbk) (be zbj)))
theorem zgl : StOk z0j zdG (mB 20 2367) 12 [7] := sa (z0d (be zgb) (z0d (be zbn) (z0d (be zbm) (be zbl))))
theorem zpl : StOk z0j zj9 (mB 20 6429) 13 [5] := sa (z0d (be zgi) (z0d (be zgf) (z0d (be zgd) (be zgc))))
theorem zpm : StOk z0j zja (mB 20 3357) 13 [5] := sa (z0d (be zgj) (z0d (be zgg) (z0d (be zge) (be zgc))))
theorem zrX : StOk z0j znp (mB 20 2845) 13 [5] := sa (z0d (be zgk) (z0d (be zgh) (z0d (be zge) (be zgd))))
theorem zrY : StOk z0j znq (mB 20 2365) 13 [7] := sa (z0d (be zgl) (z0d (be zpk) (z0d (be zgh) (z0d (be zgg) (be zgf)))))
theorem zrZ : StOk z0j znr (mB 20 2335) 13 [5] := sa (z0d (be zgl) (z0d (be zgk) (z0d (be zgj) (be zgi))))
theorem zs0 : StOk z0j zns (mB 20 2333) 14 [5] := sa (z0d (be zrZ) (z0d (be zrY) (z0d (be zrX) (z0d (be zpm) (be zpl)))))
theorem zs1 : StOk z0j znt (mB 20 285) 15 [5] := sq zs0
theorem zs2 : StOk z0j znu (mB 20 29) 16 [5] := sq zs1
theorem zs3 : StOk z0j znv (mB 20 13) 17 [5] := sq zs2
theorem zs4 : StOk z0j znw (mB 20 5) 18 [5] := sq zs3
theorem zs5 : StOk z0j znx (mB 20 1) 19 [5] := sq zs4
theorem zs6 : StOk z0j zny (mB 20 0) 20 [5] := sq zs5
set_option maxHeartbeats 0 in
theorem zCV : z1P Try.prog 5 cf5 = true := z9y [11, 21] fn5 bd5 rfl (by kernel_rfl) (by simp only [List.forall_mem_cons]; exact ⟨⟨_, rfl, z6S (by kernel_rfl) zsg (by kernel_rfl) (by kernel_rfl)⟩, ⟨_, rfl, z6S (by kernel_rfl) zs6 (by kernel_rfl) (by kernel_rfl)⟩, fun _ h => by cases h⟩)
theorem zCU : z1P Try.prog 6 cf6 = true := by kernel_rfl
theorem zCT : z1P Try.prog 7 cf7 = true := by kernel_rfl
theorem zCS : z1P Try.prog 8 cf8 = true := by kernel_rfl
theorem zCR : z1P Try.prog 9 cf9 = true := by kernel_rfl
noncomputable abbrev z0X : Array Oper := (z9w 51 zBD)
theorem zmu : StOk z0X zhE (mB 14 16383) 0 [] := zau (by kernel_rfl)
theorem zmv : StOk z0X zhF (mB 14 8191) 1 [13] := se zmu
theorem zmw : StOk z0X zhG (mB 14 4095) 2 [13] := sq zmv
theorem zmx : StOk z0X zhH (mB 14 2047) 3 [11] := se zmw
theorem zeU : StOk z0X zcq (mB 14 1535) 4 [9] := se zmx
theorem zmy : StOk z0X zhI (mB 14 1279) 5 [9] := se zeU
theorem zeV : StOk z0X zcr (mB 14 511) 5 [9] := sq zeU
theorem z9u : StOk z0X z8E (mB 14 495) 6 [4] := se zeV
theorem zeW : StOk z0X zcs (mB 14 447) 6 [9] := se zeV
theorem zeX : StOk z0X zct (mB 14 255) 6 [9] := sq zmy
theorem zeY : StOk z0X zcu (mB 14 487) 7 [4] := se z9u
theorem zeZ : StOk z0X zcv (mB 14 431) 7 [4] := sa (z0d (be zeW) (be z9u))
theorem zf0 : StOk z0X zcw (mB 14 239) 7 [4] := sa (z0d (be zeX) (be z9u))
theorem zqD : StOk z0X zkr (mB 14 191) 7 [9] := sa (z0d (be zeX) (be zeW))
theorem zqE : StOk z0X zks (mB 14 423) 8 [4] := sa (z0d (be zeZ) (be zeY))
theorem zqF : StOk z0X zkt (mB 14 231) 8 [4] := sa (z0d (be zf0) (be zeY))
theorem zqG : StOk z0X zku (mB 14 175) 8 [4] := sa (z0d (be zqD) (z0d (be zf0) (be zeZ)))
theorem zqH : StOk z0X zkv (mB 14 167) 9 [4] := sa (z0d (be zqG) (z0d (be zqF) (be zqE)))
theorem zqI : StOk z0X zkw (mB 14 39) 10 [4] := sq zqH
theorem zqJ : StOk z0X zkx (mB 14 7) 11 [4] := sq zqI
theorem zqK : StOk z0X zky (mB 14 3) 12 [4] := sq zqJ
theorem zqL : StOk z0X zkz (mB 14 1) 13 [4] := sq zqK
theorem zqM : StOk z0X zkA (mB 14 0) 14 [4] := sq zqL
set_option maxHeartbeats 0 in
theorem zAA : z1P Try.prog 10 cf10 = true := z9y [51] zBx zBJ rfl (by kernel_rfl) (by simp only [List.forall_mem_cons]; exact ⟨⟨_, rfl, z6S (by kernel_rfl) zqM (by kernel_rfl) (by kernel_rfl)⟩, fun _ h => by cases h⟩)
theorem zAz : z1P Try.prog 11 cf11 = true := by kernel_rfl
theorem zAy : z1P Try.prog 12 cf12 = true := by kernel_rfl
theorem zAx : z1P Try.prog 13 cf13 = true := by kernel_rfl
theorem zAw : z1P Try.prog 14 cf14 = true := by kernel_rfl
theorem zAv : z1P Try.prog 15 cf15 = true := by kernel_rfl
theorem zAu : z1P Try.prog 16 cf16 = true := by kernel_rfl
theorem zAt : z1P Try.prog 17 cf17 = true := by kernel_rfl
theorem zAs : z1P Try.prog 18 cf18 = true := by kernel_rfl
theorem zAr : z1P Try.prog 19 cf19 = true := by kernel_rfl
theorem zAq : z1P Try.prog 20 cf20 = true := by kernel_rfl
noncomputable abbrev z0p : Array Oper := (z9w 7 zBC)
theorem zqk : StOk z0p zk8 (mB 17 131071) 0 [] := zau (by kernel_rfl)
theorem zql : StOk z0p zk9 (mB 17 65535) 1 [16] := se zqk
theorem zqm : StOk z0p zka (mB 17 32767) 2 [16] := sq zql
theorem zqn : StOk z0p zkb (mB 17 16383) 3 [14] := se zqm
theorem zhk : StOk z0p zeA (mB 17 12287) 4 [12] := se zqn
theorem zhl : StOk z0p zeB (mB 17 10239) 5 [12] := se zhk
theorem zhm : StOk z0p zeC (mB 17 4095) 5 [12] := sq zhk
theorem z8A : StOk z0p z7y (mB 17 4031) 6 [6] := se zhm
theorem zhn : StOk z0p zeD (mB 17 3839) 6 [8] := se zhm
theorem zqo : StOk z0p zkc (mB 17 9215) 6 [12] := se zhl
theorem zho : StOk z0p zeE (mB 17 2047) 6 [12] := sq zhl
theorem zce : StOk z0p zag (mB 17 4029) 7 [1] := se z8A
theorem z8B : StOk z0p z7z (mB 17 3999) 7 [6] := se z8A
theorem zcf : StOk z0p zah (mB 17 3775) 7 [6, 8] := sa (z0d (be zhn) (be z8A))
theorem z8C : StOk z0p z7A (mB 17 1983) 7 [6] := sa (z0d (be zho) (be z8A))
theorem zhp : StOk z0p zeF (mB 17 1791) 7 [8] := sa (z0d (be zho) (be zhn))
theorem zhq : StOk z0p zeG (mB 17 1023) 7 [12] := sq zqo
theorem zcg : StOk z0p zai (mB 17 3997) 8 [1] := sa (z0d (be z8B) (be zce))
theorem zhr : StOk z0p zeH (mB 17 3773) 8 [1, 8] := sa (z0d (be zcf) (be zce))
theorem zch : StOk z0p zaj (mB 17 1981) 8 [1] := sa (z0d (be z8C) (be zce))
theorem zqp : StOk z0p zkd (mB 17 3983) 8 [6] := sq z8B
theorem zci : StOk z0p zak (mB 17 3743) 8 [6, 8] := sa (z0d (be zcf) (be z8B))
theorem z8D : StOk z0p z7B (mB 17 1951) 8 [6] := sa (z0d (be z8C) (be z8B))
theorem zcj : StOk z0p zal (mB 17 1727) 8 [6, 8] := sa (z0d (be zhp) (z0d (be z8C) (be zcf)))
theorem zck : StOk z0p zam (mB 17 959) 8 [6] := sa (z0d (be zhq) (be z8C))
theorem zqq : StOk z0p zke (mB 17 767) 8 [8] := sa (z0d (be zhq) (be zhp))
theorem zqr : StOk z0p zkf (mB 17 3981) 9 [1] := sq zcg
theorem zhs : StOk z0p zeI (mB 17 3741) 9 [1, 8] := sa (z0d (be zci) (z0d (be zhr) (be zcg)))
theorem zcl : StOk z0p zan (mB 17 1949) 9 [1] := sa (z0d (be z8D) (z0d (be zch) (be zcg)))
theorem zht : StOk z0p zeJ (mB 17 1725) 9 [1, 8] := sa (z0d (be zcj) (z0d (be zch) (be zhr)))
theorem zhu : StOk z0p zeK (mB 17 957) 9 [1] := sa (z0d (be zck) (be zch))
theorem zcm : StOk z0p zao (mB 17 3975) 9 [6] := se zqp
theorem zqs : StOk z0p zkg (mB 17 3727) 9 [6, 8] := sq zci
theorem zqt : StOk z0p zkh (mB 17 1935) 9 [6] := sq z8D
theorem zcn : StOk z0p zap (mB 17 1695) 9 [6, 8] := sa (z0d (be zcj) (z0d (be z8D) (be zci)))
theorem zco : StOk z0p zaq (mB 17 927) 9 [6] := sa (z0d (be zck) (be z8D))
theorem zhv : StOk z0p zeL (mB 17 703) 9 [6, 8] := sa (z0d (be zqq) (z0d (be zck) (be zcj)))
theorem zhw : StOk z0p zeM (mB 17 3973) 10 [1] := sa (z0d (be zcm) (be zqr))
theorem zqu : StOk z0p zki (mB 17 3725) 10 [1, 8] := sq zhs
theorem zqv : StOk z0p zkj (mB 17 1933) 10 [1] := sq zcl
theorem zhx : StOk z0p zeN (mB 17 1693) 10 [1, 8] := sa (z0d (be zcn) (z0d (be zht) (z0d (be zcl) (be zhs))))
theorem zhy : StOk z0p zeO (mB 17 925) 10 [1] := sa (z0d (be zco) (z0d (be zhu) (be zcl)))
theorem zqw : StOk z0p zkk (mB 17 701) 10 [1, 8] := sa (z0d (be zhv) (z0d (be zhu) (be zht)))
theorem zhz : StOk z0p zeP (mB 17 3719) 10 [6, 8] := sa (z0d (be zqs) (be zcm))
theorem zcp : StOk z0p zar (mB 17 1927) 10 [6] := sa (z0d (be zqt) (be zcm))
theorem zqx : StOk z0p zkl (mB 17 1679) 10 [6, 8] := sq zcn
theorem zqy : StOk z0p zkm (mB 17 911) 10 [6] := sq zco
theorem zhA : StOk z0p zeQ (mB 17 671) 10 [6, 8] := sa (z0d (be zhv) (z0d (be zco) (be zcn)))
theorem zqz : StOk z0p zkn (mB 17 3717) 11 [1, 8] := sa (z0d (be zhz) (z0d (be zqu) (be zhw)))
theorem zhB : StOk z0p zeR (mB 17 1925) 11 [1] := sa (z0d (be zcp) (z0d (be zqv) (be zhw)))
theorem zqA : StOk z0p zko (mB 17 1677) 11 [1, 8] := sq zhx
theorem zqB : StOk z0p zkp (mB 17 909) 11 [1] := sq zhy
theorem zqC : StOk z0p zkq (mB 17 669) 11 [1, 8] := sa (z0d (be zhA) (z0d (be zqw) (z0d (be zhy) (be zhx))))
theorem zhC : StOk z0p zeS (mB 17 1671) 11 [6, 8] := sa (z0d (be zqx) (z0d (be zcp) (be zhz)))
theorem zhD : StOk z0p zeT (mB 17 903) 11 [6] := sa (z0d (be zqy) (be zcp))
theorem zsh : StOk z0p znJ (mB 17 655) 11 [6, 8] := sq zhA
theorem zsi : StOk z0p znK (mB 17 1669) 12 [1, 8] := sa (z0d (be zhC) (z0d (be zqA) (z0d (be zhB) (be zqz))))
theorem zsj : StOk z0p znL (mB 17 901) 12 [1] := sa (z0d (be zhD) (z0d (be zqB) (be zhB)))
theorem zsk : StOk z0p znM (mB 17 653) 12 [1, 8] := sq zqC
theorem zsl : StOk z0p znN (mB 17 647) 12 [6, 8] := sa (z0d (be zsh) (z0d (be zhD) (be zhC)))
theorem zsm : StOk z0p znO (mB 17 645) 13 [1, 8] := sa (z0d (be zsl) (z0d (be zsk) (z0d (be zsj) (be zsi))))
theorem zsn : StOk z0p znP (mB 17 133) 14 [1, 8] := sq zsm
theorem zso : StOk z0p znQ (mB 17 5) 15 [1, 8] := sq zsn
theorem zsp : StOk z0p znR (mB 17 1) 16 [1, 8] := sq zso
theorem zsq : StOk z0p znS (mB 17 0) 17 [1, 8] := sq zsp
set_option maxHeartbeats 0 in
theorem zAp : z1P Try.prog 21 cf21 = true := z9y [7] zBw zBI rfl (by kernel_rfl) (by simp only [List.forall_mem_cons]; exact ⟨⟨_, rfl, z6S (by kernel_rfl) zsq (by kernel_rfl) (by kernel_rfl)⟩, fun _ h => by cases h⟩)
theorem zAo : z1P Try.prog 22 cf22 = true := by kernel_rfl
theorem zAn : z1P Try.prog 23 cf23 = true := by kernel_rfl
noncomputable abbrev z0z : Array Oper := (z9w 10 zBB)
theorem zmp : StOk z0z zhf (mB 14 16383) 0 [] := zau (by kernel_rfl)
theorem zep : StOk z0z zc3 (mB 14 8191) 1 [13] := se zmp
theorem z6L : StOk z0z z6j (mB 14 6143) 2 [13] := sq zep
theorem zmq : StOk z0z zhg (mB 14 4095) 2 [13] := se zep
theorem z6M : StOk z0z z6k (mB 14 6127) 3 [13] := se z6L
theorem z6N : StOk z0z z6l (mB 14 6079) 3 [13] := se z6L
theorem z6O : StOk z0z z6m (mB 14 5887) 3 [13] := se z6L
theorem z6P : StOk z0z z6n (mB 14 5119) 3 [13] := se z6L
theorem z6Q : StOk z0z z6o (mB 14 2047) 3 [13] := sq zmq
theorem z9k : StOk z0z z8q (mB 14 6063) 4 [13] := sa (z0d (be z6N) (be z6M))
theorem z9l : StOk z0z z8r (mB 14 5871) 4 [13] := sa (z0d (be z6O) (be z6M))
theorem z9m : StOk z0z z8s (mB 14 5103) 4 [13] := sa (z0d (be z6P) (be z6M))
theorem z9n : StOk z0z z8t (mB 14 2031) 4 [13] := sa (z0d (be z6Q) (be z6M))
theorem z9o : StOk z0z z8u (mB 14 5823) 4 [13] := sa (z0d (be z6O) (be z6N))
theorem z9p : StOk z0z z8v (mB 14 5055) 4 [13] := sa (z0d (be z6P) (be z6N))
theorem z9q : StOk z0z z8w (mB 14 1983) 4 [13] := sa (z0d (be z6Q) (be z6N))
theorem z9r : StOk z0z z8x (mB 14 4863) 4 [13] := sa (z0d (be z6P) (be z6O))
theorem z9s : StOk z0z z8y (mB 14 1791) 4 [13] := sa (z0d (be z6Q) (be z6O))
theorem z9t : StOk z0z z8z (mB 14 1023) 4 [13] := sa (z0d (be z6Q) (be z6P))
theorem zeq : StOk z0z zc4 (mB 14 5807) 5 [13] := sa (z0d (be z9o) (z0d (be z9l) (be z9k)))
theorem zer : StOk z0z zc5 (mB 14 5039) 5 [13] := sa (z0d (be z9p) (z0d (be z9m) (be z9k)))
theorem zes : StOk z0z zc6 (mB 14 1967) 5 [13] := sa (z0d (be z9q) (z0d (be z9n) (be z9k)))
theorem zet : StOk z0z zc7 (mB 14 4847) 5 [13] := sa (z0d (be z9r) (z0d (be z9m) (be z9l)))
theorem zeu : StOk z0z zc8 (mB 14 1775) 5 [13] := sa (z0d (be z9s) (z0d (be z9n) (be z9l)))
theorem zev : StOk z0z zc9 (mB 14 1007) 5 [13] := sa (z0d (be z9t) (z0d (be z9n) (be z9m)))
theorem zew : StOk z0z zca (mB 14 4799) 5 [13] := sa (z0d (be z9r) (z0d (be z9p) (be z9o)))
theorem zex : StOk z0z zcb (mB 14 1727) 5 [13] := sa (z0d (be z9s) (z0d (be z9q) (be z9o)))
theorem zey : StOk z0z zcc (mB 14 959) 5 [13] := sa (z0d (be z9t) (z0d (be z9q) (be z9p)))
theorem zez : StOk z0z zcd (mB 14 767) 5 [13] := sa (z0d (be z9t) (z0d (be z9s) (be z9r)))
theorem zmr : StOk z0z zhh (mB 14 4783) 6 [13] := sa (z0d (be zew) (z0d (be zet) (z0d (be zer) (be zeq))))
theorem zms : StOk z0z zhi (mB 14 1711) 6 [13] := sa (z0d (be zex) (z0d (be zeu) (z0d (be zes) (be zeq))))
theorem zmt : StOk z0z zhj (mB 14 943) 6 [13] := sa (z0d (be zey) (z0d (be zev) (z0d (be zes) (be zer))))
theorem zqa : StOk z0z zjY (mB 14 751) 6 [13] := sa (z0d (be zez) (z0d (be zev) (z0d (be zeu) (be zet))))
theorem zqb : StOk z0z zjZ (mB 14 703) 6 [13] := sa (z0d (be zez) (z0d (be zey) (z0d (be zex) (be zew))))
theorem zqc : StOk z0z zk0 (mB 14 687) 7 [13] := sa (z0d (be zqb) (z0d (be zqa) (z0d (be zmt) (z0d (be zms) (be zmr)))))
theorem zqd : StOk z0z zk1 (mB 14 175) 8 [13] := sq zqc
theorem zqe : StOk z0z zk2 (mB 14 47) 9 [13] := sq zqd
theorem zqf : StOk z0z zk3 (mB 14 15) 10 [13] := sq zqe
theorem zqg : StOk z0z zk4 (mB 14 7) 11 [13] := sq zqf
theorem zqh : StOk z0z zk5 (mB 14 3) 12 [13] := sq zqg
theorem zqi : StOk z0z zk6 (mB 14 1) 13 [13] := sq zqh
theorem zqj : StOk z0z zk7 (mB 14 0) 14 [13] := sq zqi
set_option maxHeartbeats 0 in
theorem zAm : z1P Try.prog 24 cf24 = true := z9y [10] zCF zE4 rfl (by kernel_rfl) (by simp only [List.forall_mem_cons]; exact ⟨⟨_, rfl, z6S (by kernel_rfl) zqj (by kernel_rfl) (by kernel_rfl)⟩, fun _ h => by cases h⟩)
theorem zAl : z1P Try.prog 25 cf25 = true := by kernel_rfl
theorem zAk : z1P Try.prog 26 cf26 = true := by kernel_rfl
noncomputable abbrev z0t : Array Oper := (z9w 47 zBi)
theorem zmb : StOk z0t zh1 (mB 16 65535) 0 [] := zau (by kernel_rfl)
theorem zmc : StOk z0t zh2 (mB 16 32767) 1 [15] := se zmb
theorem ze6 : StOk z0t zbK (mB 16 16383) 2 [15] := sq zmc
theorem zmd : StOk z0t zh3 (mB 16 16255) 3 [15] := se ze6
theorem ze7 : StOk z0t zbL (mB 16 8191) 3 [13] := se ze6
theorem zme : StOk z0t zh4 (mB 16 8063) 4 [13] := sa (z0d (be ze7) (be zmd))
theorem ze8 : StOk z0t zbM (mB 16 4095) 4 [13] := sq ze7
theorem ze9 : StOk z0t zbN (mB 16 4063) 5 [13] := se ze8
theorem zea : StOk z0t zbO (mB 16 3967) 5 [13] := sq zme
theorem z9e : StOk z0t z8k (mB 16 2047) 5 [11] := se ze8
theorem zmf : StOk z0t zh5 (mB 16 3935) 6 [13] := sa (z0d (be zea) (be ze9))
theorem zeb : StOk z0t zbP (mB 16 2015) 6 [11] := sa (z0d (be z9e) (be ze9))
theorem zec : StOk z0t zbQ (mB 16 1919) 6 [11] := sa (z0d (be z9e) (be zea))
theorem zed : StOk z0t zbR (mB 16 1023) 6 [11] := sq z9e
theorem z9f : StOk z0t z8l (mB 16 1015) 7 [11] := se zed
theorem zmg : StOk z0t zh6 (mB 16 1887) 7 [11] := sa (z0d (be zec) (z0d (be zeb) (be zmf)))
theorem zee : StOk z0t zbS (mB 16 991) 7 [11] := sq zeb
theorem zef : StOk z0t zbT (mB 16 895) 7 [11] := sq zec
theorem z6K : StOk z0t z6i (mB 16 511) 7 [9] := se zed
theorem zeg : StOk z0t zbU (mB 16 983) 8 [11] := sa (z0d (be zee) (be z9f))
theorem zeh : StOk z0t zbV (mB 16 887) 8 [11] := sa (z0d (be zef) (be z9f))
theorem z9g : StOk z0t z8m (mB 16 503) 8 [9] := sa (z0d (be z6K) (be z9f))
theorem zei : StOk z0t zbW (mB 16 863) 8 [11] := sq zmg
theorem z9h : StOk z0t z8n (mB 16 479) 8 [9] := sa (z0d (be z6K) (be zee))
theorem z9i : StOk z0t z8o (mB 16 383) 8 [9] := sa (z0d (be z6K) (be zef))
theorem zmh : StOk z0t zh7 (mB 16 255) 8 [9] := sq z6K
theorem z9j : StOk z0t z8p (mB 16 253) 9 [9] := se zmh
theorem zmi : StOk z0t zh8 (mB 16 855) 9 [11] := sa (z0d (be zei) (z0d (be zeh) (be zeg)))
theorem zej : StOk z0t zbX (mB 16 471) 9 [9] := sa (z0d (be z9h) (z0d (be z9g) (be zeg)))
theorem zek : StOk z0t zbY (mB 16 375) 9 [9] := sa (z0d (be z9i) (z0d (be z9g) (be zeh)))
theorem zmj : StOk z0t zh9 (mB 16 247) 9 [9] := sq z9g
theorem zel : StOk z0t zbZ (mB 16 351) 9 [9] := sa (z0d (be z9i) (z0d (be z9h) (be zei)))
theorem zmk : StOk z0t zha (mB 16 223) 9 [9] := sq z9h
theorem zml : StOk z0t zhb (mB 16 127) 9 [9] := sq z9i
theorem zem : StOk z0t zc0 (mB 16 245) 10 [9] := sa (z0d (be zmj) (be z9j))
theorem zen : StOk z0t zc1 (mB 16 221) 10 [9] := sa (z0d (be zmk) (be z9j))
theorem zeo : StOk z0t zc2 (mB 16 125) 10 [9] := sa (z0d (be zml) (be z9j))
theorem zmm : StOk z0t zhc (mB 16 343) 10 [9] := sa (z0d (be zel) (z0d (be zek) (z0d (be zej) (be zmi))))
theorem zmn : StOk z0t zhd (mB 16 215) 10 [9] := sq zej
theorem zmo : StOk z0t zhe (mB 16 119) 10 [9] := sq zek
theorem zq0 : StOk z0t zjO (mB 16 95) 10 [9] := sq zel
theorem zq1 : StOk z0t zjP (mB 16 213) 11 [9] := sa (z0d (be zmn) (z0d (be zen) (be zem)))
theorem zq2 : StOk z0t zjQ (mB 16 117) 11 [9] := sa (z0d (be zmo) (z0d (be zeo) (be zem)))
theorem zq3 : StOk z0t zjR (mB 16 93) 11 [9] := sa (z0d (be zq0) (z0d (be zeo) (be zen)))
theorem zq4 : StOk z0t zjS (mB 16 87) 11 [9] := sq zmm
theorem zq5 : StOk z0t zjT (mB 16 85) 12 [9] := sa (z0d (be zq4) (z0d (be zq3) (z0d (be zq2) (be zq1))))
theorem zq6 : StOk z0t zjU (mB 16 21) 13 [9] := sq zq5
theorem zq7 : StOk z0t zjV (mB 16 5) 14 [9] := sq zq6
theorem zq8 : StOk z0t zjW (mB 16 1) 15 [9] := sq zq7
theorem zq9 : StOk z0t zjX (mB 16 0) 16 [9] := sq zq8
noncomputable abbrev z0P : Array Oper := (z9w 77 zBi)
theorem zm4 : StOk z0P zgU (mB 13 8191) 0 [] := zau (by kernel_rfl)
theorem zm5 : StOk z0P zgV (mB 13 4095) 1 [12] := se zm4
theorem ze0 : StOk z0P zbE (mB 13 2047) 2 [12] := sq zm5
theorem zm6 : StOk z0P zgW (mB 13 2045) 3 [1] := se ze0
theorem z9c : StOk z0P z8i (mB 13 1023) 3 [10] := se ze0
theorem ze1 : StOk z0P zbF (mB 13 1021) 4 [1, 10] := sa (z0d (be z9c) (be zm6))
theorem z9d : StOk z0P z8j (mB 13 895) 4 [7] := se z9c
theorem ze2 : StOk z0P zbG (mB 13 511) 4 [10] := se z9c
theorem ze3 : StOk z0P zbH (mB 13 893) 5 [1, 7] := sa (z0d (be z9d) (be ze1))
theorem zm7 : StOk z0P zgX (mB 13 509) 5 [1, 10] := sa (z0d (be ze2) (be ze1))
theorem zm8 : StOk z0P zgY (mB 13 831) 5 [7] := sq z9d
theorem ze4 : StOk z0P zbI (mB 13 383) 5 [7] := sa (z0d (be ze2) (be z9d))
theorem zm9 : StOk z0P zgZ (mB 13 829) 6 [1, 7] := sq ze3
theorem zma : StOk z0P zh0 (mB 13 381) 6 [1, 7] := sa (z0d (be ze4) (z0d (be zm7) (be ze3)))
theorem ze5 : StOk z0P zbJ (mB 13 815) 6 [4] := se zm8
theorem zpQ : StOk z0P zjE (mB 13 319) 6 [7] := sq ze4
theorem zpR : StOk z0P zjF (mB 13 813) 7 [1, 4] := sa (z0d (be ze5) (be zm9))
theorem zpS : StOk z0P zjG (mB 13 317) 7 [1, 7] := sq zma
theorem zpT : StOk z0P zjH (mB 13 303) 7 [4] := sa (z0d (be zpQ) (be ze5))
theorem zpU : StOk z0P zjI (mB 13 301) 8 [1, 4] := sa (z0d (be zpT) (z0d (be zpS) (be zpR)))
theorem zpV : StOk z0P zjJ (mB 13 45) 9 [1, 4] := sq zpU
theorem zpW : StOk z0P zjK (mB 13 13) 10 [1, 4] := sq zpV
theorem zpX : StOk z0P zjL (mB 13 5) 11 [1, 4] := sq zpW
theorem zpY : StOk z0P zjM (mB 13 1) 12 [1, 4] := sq zpX
theorem zpZ : StOk z0P zjN (mB 13 0) 13 [1, 4] := sq zpY
set_option maxHeartbeats 0 in
theorem zAj : z1P Try.prog 27 cf27 = true := z9y [47, 77] zBv zBH rfl (by kernel_rfl) (by simp only [List.forall_mem_cons]; exact ⟨⟨_, rfl, z6S (by kernel_rfl) zq9 (by kernel_rfl) (by kernel_rfl)⟩, ⟨_, rfl, z6S (by kernel_rfl) zpZ (by kernel_rfl) (by kernel_rfl)⟩, fun _ h => by cases h⟩)
noncomputable abbrev z0W : Array Oper := (z9w 12 zBA)
theorem zlV : StOk z0W zgL (mB 14 16383) 0 [] := zau (by kernel_rfl)
theorem zlW : StOk z0W zgM (mB 14 8191) 1 [] := sq zlV
theorem zlX : StOk z0W zgN (mB 14 4095) 2 [] := sq zlW
theorem zdW : StOk z0W zbA (mB 14 2047) 3 [11] := se zlX
theorem zdX : StOk z0W zbB (mB 14 2039) 4 [3] := se zdW
theorem zdY : StOk z0W zbC (mB 14 1023) 4 [11] := se zdW
theorem zlY : StOk z0W zgO (mB 14 2035) 5 [3] := se zdX
theorem zdZ : StOk z0W zbD (mB 14 1015) 5 [3] := sa (z0d (be zdY) (be zdX))
theorem zlZ : StOk z0W zgP (mB 14 511) 5 [11] := sq zdY
theorem zm0 : StOk z0W zgQ (mB 14 1011) 6 [3] := sa (z0d (be zdZ) (be zlY))
theorem zm1 : StOk z0W zgR (mB 14 503) 6 [3] := sq zdZ
theorem zm2 : StOk z0W zgS (mB 14 255) 6 [11] := sq zlZ
theorem zm3 : StOk z0W zgT (mB 14 499) 7 [3] := sq zm0
theorem zpG : StOk z0W zju (mB 14 247) 7 [3] := sq zm1
theorem zpH : StOk z0W zjv (mB 14 191) 7 [11] := se zm2
theorem zpI : StOk z0W zjw (mB 14 243) 8 [3] := sq zm3
theorem zpJ : StOk z0W zjx (mB 14 183) 8 [3] := sa (z0d (be zpH) (be zpG))
theorem zpK : StOk z0W zjy (mB 14 179) 9 [3] := sa (z0d (be zpJ) (be zpI))
theorem zpL : StOk z0W zjz (mB 14 51) 10 [3] := sq zpK
theorem zpM : StOk z0W zjA (mB 14 19) 11 [3] := sq zpL
theorem zpN : StOk z0W zjB (mB 14 3) 12 [3] := sq zpM
theorem zpO : StOk z0W zjC (mB 14 1) 13 [3] := sq zpN
theorem zpP : StOk z0W zjD (mB 14 0) 14 [3] := sq zpO
set_option maxHeartbeats 0 in
theorem zAi : z1P Try.prog 28 cf28 = true := z9y [12] zBu zBG rfl (by kernel_rfl) (by simp only [List.forall_mem_cons]; exact ⟨⟨_, rfl, z6S (by kernel_rfl) zpP (by kernel_rfl) (by kernel_rfl)⟩, fun _ h => by cases h⟩)
theorem zAh : z1P Try.prog 29 cf29 = true := by kernel_rfl
theorem zAg : z1P Try.prog 30 cf30 = true := by kernel_rfl
theorem zAf : z1P Try.prog 31 cf31 = true := by kernel_rfl
theorem zAe : z1P Try.prog 32 cf32 = true := by kernel_rfl
theorem zAd : z1P Try.prog 33 cf33 = true := by kernel_rfl
theorem zAc : z1P Try.prog 34 cf34 = true := by kernel_rfl
theorem zAb : z1P Try.prog 35 cf35 = true := by kernel_rfl
theorem zAa : z1P Try.prog 36 cf36 = true := by kernel_rfl
theorem zA9 : z1P Try.prog 37 cf37 = true := by kernel_rfl
theorem zA8 : z1P Try.prog 38 cf38 = true := by kernel_rfl
theorem zA7 : z1P Try.prog 39 cf39 = true := by kernel_rfl
theorem zA6 : z1P Try.prog 40 cf40 = true := by kernel_rfl
theorem zA5 : z1P Try.prog 41 cf41 = true := by kernel_rfl
theorem zA4 : z1P Try.prog 42 cf42 = true := by kernel_rfl
theorem zA3 : z1P Try.prog 43 cf43 = true := by kernel_rfl
theorem zA2 : z1P Try.prog 44 cf44 = true := by kernel_rfl
theorem zA1 : z1P Try.prog 45 cf45 = true := by kernel_rfl
theorem zA0 : z1P Try.prog 46 cf46 = true := by kernel_rfl
theorem zzZ : z1P Try.prog 47 cf47 = true := by kernel_rfl
theorem zzY : z1P Try.prog 48 cf48 = true := by kernel_rfl
theorem zzX : z1P Try.prog 49 cf49 = true := by kernel_rfl
theorem zzW : z1P Try.prog 50 cf50 = true := by kernel_rfl
theorem zzV : z1P Try.prog 51 cf51 = true := by kernel_rfl
theorem zzU : z1P Try.prog 52 cf52 = true := by kernel_rfl
theorem zzT : z1P Try.prog 53 cf53 = true := by kernel_rfl
theorem zzS : z1P Try.prog 54 cf54 = true := by kernel_rfl
theorem zzR : z1P Try.prog 55 cf55 = true := by kernel_rfl
theorem zzQ : z1P Try.prog 56 cf56 = true := by kernel_rfl
theorem zzP : z1P Try.prog 57 cf57 = true := by kernel_rfl
theorem zzO : z1P Try.prog 58 cf58 = true := by kernel_rfl
noncomputable abbrev z0M : Array Oper := (z9w 12 zBz)
theorem zlH : StOk z0M zgx (mB 19 524287) 0 [] := zau (by kernel_rfl)
theorem zlI : StOk z0M zgy (mB 19 262143) 1 [] := sq zlH
theorem zlJ : StOk z0M zgz (mB 19 131071) 2 [] := sq zlI
theorem zdS : StOk z0M zbw (mB 19 65535) 3 [16] := se zlJ
theorem zdT : StOk z0M zbx (mB 19 65527) 4 [16] := se zdS
theorem zdU : StOk z0M zby (mB 19 32767) 4 [16] := se zdS
theorem zlK : StOk z0M zgA (mB 19 65523) 5 [16] := se zdT
theorem zdV : StOk z0M zbz (mB 19 32759) 5 [16] := sa (z0d (be zdU) (be zdT))
theorem zlL : StOk z0M zgB (mB 19 16383) 5 [16] := sq zdU
theorem zlM : StOk z0M zgC (mB 19 32755) 6 [16] := sa (z0d (be zdV) (be zlK))
theorem zlN : StOk z0M zgD (mB 19 16375) 6 [16] := sq zdV
theorem zlO : StOk z0M zgE (mB 19 8191) 6 [16] := sq zlL
theorem zlP : StOk z0M zgF (mB 19 16371) 7 [16] := sq zlM
theorem zlQ : StOk z0M zgG (mB 19 8183) 7 [16] := sq zlN
theorem zlR : StOk z0M zgH (mB 19 4095) 7 [16] := se zlO
theorem zlS : StOk z0M zgI (mB 19 8179) 8 [16] := sq zlP
theorem zlT : StOk z0M zgJ (mB 19 4087) 8 [16] := sa (z0d (be zlR) (be zlQ))
theorem zlU : StOk z0M zgK (mB 19 4083) 9 [16] := sa (z0d (be zlT) (be zlS))
theorem zpw : StOk z0M zjk (mB 19 2035) 10 [16] := sq zlU
theorem zpx : StOk z0M zjl (mB 19 1011) 11 [16] := sq zpw
theorem zpy : StOk z0M zjm (mB 19 499) 12 [16] := sq zpx
theorem zpz : StOk z0M zjn (mB 19 243) 13 [16] := sq zpy
theorem zpA : StOk z0M zjo (mB 19 115) 14 [16] := sq zpz
theorem zpB : StOk z0M zjp (mB 19 51) 15 [16] := sq zpA
theorem zpC : StOk z0M zjq (mB 19 19) 16 [16] := sq zpB
theorem zpD : StOk z0M zjr (mB 19 3) 17 [16] := sq zpC
theorem zpE : StOk z0M zjs (mB 19 1) 18 [16] := sq zpD
theorem zpF : StOk z0M zjt (mB 19 0) 19 [16] := sq zpE
set_option maxHeartbeats 0 in
theorem zzN : z1P Try.prog 59 cf59 = true := z9y [12] zBt zBF rfl (by kernel_rfl) (by simp only [List.forall_mem_cons]; exact ⟨⟨_, rfl, z6S (by kernel_rfl) zpF (by kernel_rfl) (by kernel_rfl)⟩, fun _ h => by cases h⟩)
theorem zzM : z1P Try.prog 60 cf60 = true := by kernel_rfl
theorem zzL : z1P Try.prog 61 cf61 = true := by kernel_rfl
theorem zzK : z1P Try.prog 62 cf62 = true := by kernel_rfl
theorem zzJ : z1P Try.prog 63 cf63 = true := by kernel_rfl
theorem zzI : z1P Try.prog 64 cf64 = true := by kernel_rfl
theorem zzH : z1P Try.prog 65 cf65 = true := by kernel_rfl
theorem zzG : z1P Try.prog 66 cf66 = true := by kernel_rfl
theorem zzF : z1P Try.prog 67 cf67 = true := by kernel_rfl
theorem zzE : z1P Try.prog 69 cf69 = true := by kernel_rfl
theorem zzD : z1P Try.prog 70 cf70 = true := by kernel_rfl
theorem zzC : z1P Try.prog 71 cf71 = true := by kernel_rfl
theorem zzB : z1P Try.prog 72 cf72 = true := by kernel_rfl
theorem zzA : z1P Try.prog 73 cf73 = true := by kernel_rfl
theorem zzz : z1P Try.prog 74 cf74 = true := by kernel_rfl
theorem zzy : z1P Try.prog 75 cf75 = true := by kernel_rfl
theorem zzx : z1P Try.prog 76 cf76 = true := by kernel_rfl
theorem zzw : z1P Try.prog 77 cf77 = true := by kernel_rfl
theorem zzv : z1P Try.prog 78 cf78 = true := by kernel_rfl
theorem zzu : z1P Try.prog 79 cf79 = true := by kernel_rfl
theorem zzt : z1P Try.prog 80 cf80 = true := by kernel_rfl
theorem zzs : z1P Try.prog 83 cf83 = true := by kernel_rfl
theorem zzr : z1P Try.prog 84 cf84 = true := by kernel_rfl
theorem zzq : z1P Try.prog 85 cf85 = true := by kernel_rfl
theorem zzp : z1P Try.prog 95 cf95 = true := by kernel_rfl
theorem zzo : z1P Try.prog 96 cf96 = true := by kernel_rfl
theorem zzn : z1P Try.prog 97 cf97 = true := by kernel_rfl
theorem zyj : z1P Try.prog 103 cf103 = true := by kernel_rfl
theorem z0O {p : Prop} [Decidable p] {a c : Cfg} {r : Option Cfg} {G : Prop} (h : (if p then some a else r) = some c) (h1 : p → a = c → G) (h2 : r = some c → G) : G := by
  split at h
  · rename_i hp; exact h1 hp (Option.some.inj h)
  · exact h2 h
theorem zD0 : ∀ f c, z1i f = some c → z1P Try.prog f c = true := by
  intro f c h
  unfold z1i at h
  refine z0O h (fun e h => by rw [e, ← h]; exact zCV) fun h => ?_
  refine z0O h (fun e h => by rw [e, ← h]; exact zCU) fun h => ?_
  refine z0O h (fun e h => by rw [e, ← h]; exact zCT) fun h => ?_
  refine z0O h (fun e h => by rw [e, ← h]; exact zCS) fun h => ?_
  refine z0O h (fun e h => by rw [e, ← h]; exact zCR) fun h => ?_
  refine z0O h (fun e h => by rw [e, ← h]; exact zAA) fun h => ?_
  refine z0O h (fun e h => by rw [e, ← h]; exact zAz) fun h => ?_
  refine z0O h (fun e h => by rw [e, ← h]; exact zAy) fun h => ?_
  refine z0O h (fun e h => by rw [e, ← h]; exact zAx) fun h => ?_
  refine z0O h (fun e h => by rw [e, ← h]; exact zAw) fun h => ?_
  refine z0O h (fun e h => by rw [e, ← h]; exact zAv) fun h => ?_
  refine z0O h (fun e h => by rw [e, ← h]; exact zAu) fun h => ?_
  refine z0O h (fun e h => by rw [e, ← h]; exact zAt) fun h => ?_
  refine z0O h (fun e h => by rw [e, ← h]; exact zAs) fun h => ?_
  refine z0O h (fun e h => by rw [e, ← h]; exact zAr) fun h => ?_
  refine z0O h (fun e h => by rw [e, ← h]; exact zAq) fun h => ?_
  refine z0O h (fun e h => by rw [e, ← h]; exact zAp) fun h => ?_
  refine z0O h (fun e h => by rw [e, ← h]; exact zAo) fun h => ?_
  refine z0O h (fun e h => by rw [e, ← h]; exact zAn) fun h => ?_
  refine z0O h (fun e h => by rw [e, ← h]; exact zAm) fun h => ?_
  refine z0O h (fun e h => by rw [e, ← h]; exact zAl) fun h => ?_
  refine z0O h (fun e h => by rw [e, ← h]; exact zAk) fun h => ?_
  refine z0O h (fun e h => by rw [e, ← h]; exact zAj) fun h => ?_
  refine z0O h (fun e h => by rw [e, ← h]; exact zAi) fun h => ?_
  refine z0O h (fun e h => by rw [e, ← h]; exact zAh) fun h => ?_
  refine z0O h (fun e h => by rw [e, ← h]; exact zAg) fun h => ?_
  refine z0O h (fun e h => by rw [e, ← h]; exact zAf) fun h => ?_
  refine z0O h (fun e h => by rw [e, ← h]; exact zAe) fun h => ?_
  refine z0O h (fun e h => by rw [e, ← h]; exact zAd) fun h => ?_
  refine z0O h (fun e h => by rw [e, ← h]; exact zAc) fun h => ?_
  refine z0O h (fun e h => by rw [e, ← h]; exact zAb) fun h => ?_
  refine z0O h (fun e h => by rw [e, ← h]; exact zAa) fun h => ?_
  refine z0O h (fun e h => by rw [e, ← h]; exact zA9) fun h => ?_
  refine z0O h (fun e h => by rw [e, ← h]; exact zA8) fun h => ?_
  refine z0O h (fun e h => by rw [e, ← h]; exact zA7) fun h => ?_
  refine z0O h (fun e h => by rw [e, ← h]; exact zA6) fun h => ?_
  refine z0O h (fun e h => by rw [e, ← h]; exact zA5) fun h => ?_
  refine z0O h (fun e h => by rw [e, ← h]; exact zA4) fun h => ?_
  refine z0O h (fun e h => by rw [e, ← h]; exact zA3) fun h => ?_
  refine z0O h (fun e h => by rw [e, ← h]; exact zA2) fun h => ?_
  refine z0O h (fun e h => by rw [e, ← h]; exact zA1) fun h => ?_
  refine z0O h (fun e h => by rw [e, ← h]; exact zA0) fun h => ?_
  refine z0O h (fun e h => by rw [e, ← h]; exact zzZ) fun h => ?_
  refine z0O h (fun e h => by rw [e, ← h]; exact zzY) fun h => ?_
  refine z0O h (fun e h => by rw [e, ← h]; exact zzX) fun h => ?_
  refine z0O h (fun e h => by rw [e, ← h]; exact zzW) fun h => ?_
  refine z0O h (fun e h => by rw [e, ← h]; exact zzV) fun h => ?_
  refine z0O h (fun e h => by rw [e, ← h]; exact zzU) fun h => ?_
  refine z0O h (fun e h => by rw [e, ← h]; exact zzT) fun h => ?_
  refine z0O h (fun e h => by rw [e, ← h]; exact zzS) fun h => ?_
  refine z0O h (fun e h => by rw [e, ← h]; exact zzR) fun h => ?_
  refine z0O h (fun e h => by rw [e, ← h]; exact zzQ) fun h => ?_
  refine z0O h (fun e h => by rw [e, ← h]; exact zzP) fun h => ?_
  refine z0O h (fun e h => by rw [e, ← h]; exact zzO) fun h => ?_
  refine z0O h (fun e h => by rw [e, ← h]; exact zzN) fun h => ?_
  refine z0O h (fun e h => by rw [e, ← h]; exact zzM) fun h => ?_
  refine z0O h (fun e h => by rw [e, ← h]; exact zzL) fun h => ?_
  refine z0O h (fun e h => by rw [e, ← h]; exact zzK) fun h => ?_
  refine z0O h (fun e h => by rw [e, ← h]; exact zzJ) fun h => ?_
  refine z0O h (fun e h => by rw [e, ← h]; exact zzI) fun h => ?_
  refine z0O h (fun e h => by rw [e, ← h]; exact zzH) fun h => ?_
  refine z0O h (fun e h => by rw [e, ← h]; exact zzG) fun h => ?_
  refine z0O h (fun e h => by rw [e, ← h]; exact zzF) fun h => ?_
  refine z0O h (fun e h => by rw [e, ← h]; exact zzE) fun h => ?_
  refine z0O h (fun e h => by rw [e, ← h]; exact zzD) fun h => ?_
  refine z0O h (fun e h => by rw [e, ← h]; exact zzC) fun h => ?_
  refine z0O h (fun e h => by rw [e, ← h]; exact zzB) fun h => ?_
  refine z0O h (fun e h => by rw [e, ← h]; exact zzA) fun h => ?_
  refine z0O h (fun e h => by rw [e, ← h]; exact zzz) fun h => ?_
  refine z0O h (fun e h => by rw [e, ← h]; exact zzy) fun h => ?_
  refine z0O h (fun e h => by rw [e, ← h]; exact zzx) fun h => ?_
  refine z0O h (fun e h => by rw [e, ← h]; exact zzw) fun h => ?_
  refine z0O h (fun e h => by rw [e, ← h]; exact zzv) fun h => ?_
  refine z0O h (fun e h => by rw [e, ← h]; exact zzu) fun h => ?_
  refine z0O h (fun e h => by rw [e, ← h]; exact zzt) fun h => ?_
  refine z0O h (fun e h => by rw [e, ← h]; exact zzs) fun h => ?_
  refine z0O h (fun e h => by rw [e, ← h]; exact zzr) fun h => ?_
  refine z0O h (fun e h => by rw [e, ← h]; exact zzq) fun h => ?_
  refine z0O h (fun e h => by rw [e, ← h]; exact zzp) fun h => ?_
  refine z0O h (fun e h => by rw [e, ← h]; exact zzo) fun h => ?_
  refine z0O h (fun e h => by rw [e, ← h]; exact zzn) fun h => ?_
  refine z0O h (fun e h => by rw [e, ← h]; exact zyj) fun h => ?_
  cases h
end Go.Proofs.Ytodliknibbafeaa
end
section
namespace Go.Proofs.Ytodliknibbafeaa
open Go.RowKit
def zfx (P : Program) : Nat → TypeId → Bool
  | 0, _ => false
  | m + 1, t =>
    match P.underlying t with
    | some (.slice e) => P.cellsOf e != 0 && zfx P m e
    | some (.pointer e) => zfx P m e
    | some (.struct fs) => fs.toList.all fun f => zfx P m f.type
    | some (.array _ e) => zfx P m e
    | some (.map _ e) => zfx P m e
    | _ => true
section
variable {H : Type} {enc : TypeId × Value → H} {P : Program} {w : World} {base : Nat}
theorem zfR {m : Nat} {r r' : TypeId → List Value → Option (DataW H × List MemPlace)}
    (hr : ∀ t cs x, zfx P m t = true → r t cs = some x → r' t cs = some x) {t : TypeId} {cs : List Value} {x : DataW H × List MemPlace} (hf : zfx P (m + 1) t = true)
    (h : DataW.trodStep enc P w base (fun _ => true) true r t cs = some x) : DataW.trodStep enc P w base (fun b => decide (b < w.heap.size)) true r' t cs = some x := by
  unfold DataW.trodStep at h ⊢
  unfold zfx at hf
  split at h
  case h_1 => exact h
  case h_2 => exact h
  case h_3 => exact h
  case h_4 => exact h
  case h_5 => exact h
  case h_6 e a hu =>
    rw [hu] at hf
    simp only [Option.map_eq_some_iff, Option.bind_eq_some_iff] at h ⊢
    obtain ⟨y, ⟨cs', hc, hy⟩, rfl⟩ := h
    exact ⟨y, ⟨cs', hc, hr _ _ _ hf hy⟩, rfl⟩
  case h_7 => exact h
  case h_8 e a len cap hu =>
    rw [hu] at hf
    simp only [Bool.and_eq_true, bne_iff_ne, ne_eq] at hf
    obtain ⟨hcell, hfe⟩ := hf
    simp only at h ⊢
    split at h
    · rename_i hc
      rw [if_pos hc]
      simp only [Option.map_eq_some_iff, Option.bind_eq_some_iff, if_true] at h ⊢
      obtain ⟨elems, he, rest, hrest, rfl⟩ := h
      have one : ∀ (i : Nat) (y : DataW H × List MemPlace), (w.cells? base (a.add (i * P.cellsOf e)) (P.cellsOf e)).bind (r e) = some y → (w.cells? base (a.add (i * P.cellsOf e)) (P.cellsOf e)).bind (r' e) = some y := by
        intro i y hv
        simp only [Option.bind_eq_some_iff] at hv ⊢
        obtain ⟨cs', hc', hy'⟩ := hv
        exact ⟨cs', hc', hr _ _ _ hfe hy'⟩
      refine ⟨elems, mapM_carry he (fun i y _ _ hy => one i y hy), rest, ?_, rfl⟩
      by_cases hb : a.block < w.heap.size
      · rw [if_pos (by simpa using hb)]
        exact mapM_carry hrest (fun j y _ _ hy => one (len + j) y hy)
      · rw [if_neg (by simpa using hb)]
        have hz : cap - len = 0 := by
          rcases Nat.eq_zero_or_pos (cap - len) with h0 | h0
          · exact h0
          · exfalso
            have hl : rest.length = cap - len := by simpa using mapM_some_length hrest
            have h1 := mapM_some_get hrest 0 0 (by simp [h0])
            obtain ⟨y, hy⟩ : ∃ y, rest[0]? = some y := ⟨rest[0], List.getElem?_eq_getElem (by omega)⟩
            rw [hy] at h1
            simp only [Option.bind_eq_some_iff] at h1
            obtain ⟨cs', hc', _⟩ := h1
            have h2 := World.cells?_block hc' (by omega)
            have h3 : (a.add ((len + 0) * P.cellsOf e)).block = a.block := by unfold Addr.add; split <;> rfl
            omega
        rw [hz] at hrest
        simpa using hrest
    · cases h
  case h_9 fs _ hu =>
    rw [hu] at hf
    split at h
    · rename_i hc
      rw [if_pos hc]
      simp only [Option.map_eq_some_iff] at h ⊢
      obtain ⟨xs, hx, rfl⟩ := h
      exact ⟨xs, mapM_carry hx (fun f y hin _ hv => hr _ _ _ (List.all_eq_true.1 hf f hin) hv), rfl⟩
    · cases h
  case h_10 n e _ hu =>
    rw [hu] at hf
    split at h
    · rename_i hc
      rw [if_pos hc]
      simp only [Option.map_eq_some_iff] at h ⊢
      obtain ⟨xs, hx, rfl⟩ := h
      exact ⟨xs, mapM_carry hx (fun f y _ _ hv => hr _ _ _ hf hv), rfl⟩
    · cases h
  case h_11 => exact h
  case h_12 => exact h
  case h_13 => exact h
  case h_14 k e b hu =>
    rw [hu] at hf
    split at h
    · rename_i es clock hb
      split at h
      · rename_i hc
        simp only [Option.bind_eq_some_iff] at h
        obtain ⟨entries, he, hd⟩ := h
        split at hd
        · rename_i hris
          have hx := Option.some.inj hd
          subst hx
          simp only [if_pos hc, Option.bind_eq_some_iff]
          refine ⟨entries, mapM_carry he (fun x y _ hy hv => ?_), by simp [hris]⟩
          simp only [Option.bind_eq_some_iff] at hv ⊢
          obtain ⟨key, hk, hz⟩ := hv
          refine ⟨key, hk, ?_⟩
          split at hz
          · rename_i hfm
            rw [if_pos hfm]
            simp only [Option.map_eq_some_iff] at hz ⊢
            obtain ⟨q, hq, rfl⟩ := hz
            exact ⟨q, hr _ _ _ hf hq, rfl⟩
          · cases hz
        · cases hd
      · cases h
    · cases h
  case h_15 => exact h
  case h_16 => exact h
  case h_17 => exact h
  case h_18 => exact h
  case h_19 => exact h
  case h_20 => exact h
  case h_21 => cases h
theorem zp9 : ∀ (n m : Nat) (t : TypeId) (cs : List Value) (x : DataW H × List MemPlace), zfx P m t = true →
    DataW.trod enc P w base (fun _ => true) true n t cs = some x → DataW.trod enc P w base (fun b => decide (b < w.heap.size)) true n t cs = some x := by
  intro n
  induction n with
  | zero => intro m t cs x _ h; simp [DataW.trod] at h
  | succ n ih =>
    intro m t cs x hf h
    cases m with
    | zero => simp [zfx] at hf
    | succ m =>
      rw [DataW.trod_step] at h ⊢
      exact zfR (m := m) (fun t cs x hf hx => ih m t cs x hf hx) hf h
theorem zkK {w' : World} (hb : Below w.heap.size w w') {p : MemPlace} (hp : p.block < w.heap.size) : w.sameAt w' p := by
  cases p with
  | cell b off => exact hb.cell (p := ⟨b, off, none⟩) hp
  | map b => exact hb.block b hp
theorem z9N {w' : World} (m : Nat) (hb : Below w.heap.size w w') : ∀ {ts : List TypeId} {vs : List Value} {ds : List (DataW H)} {ps : List MemPlace}, (ts.all (zfx P m)) = true →
    DataW.TrodAll enc P w 0 (fun _ => true) true ts vs ds ps → DataW.TrodAll enc P w' 0 (fun b => decide (b < w.heap.size)) true ts vs ds ps
  | [], [], [], ps, _, h => h
  | t :: ts, v :: vs, d :: ds, ps, hf, ⟨p, q, ⟨n, h1⟩, h2, e⟩ => by
    simp only [List.all_cons, Bool.and_eq_true] at hf
    have h3 := zp9 n m t _ _ hf.1 h1
    exact ⟨p, q, ⟨n, DataW.trod_carry n _ _ _ h3 (fun z hz => zkK hb (DataW.trod_lt n _ _ _ h3 z hz))⟩, z9N m hb hf.2 h2, e⟩
  | [], _ :: _, _, _, _, h => by cases h
  | [], [], _ :: _, _, _, h => by cases h
  | _ :: _, [], _, _, _, h => by cases h
  | _ :: _, _ :: _, [], _, _, h => by cases h
end
section
variable {H : Type} {enc : TypeId × Value → H} {P : Program} {w : World} {r : Reach} {b0 : Nat}
open Go.ChangeShapes Go.WideShapes
open Go.Deep (open_bools)
theorem zuj (a : Addr) (j : Nat) : (a.add j).block = a.block := by unfold Addr.add; split <;> rfl
end
end Go.Proofs.Ytodliknibbafeaa
end
section
namespace Go.Proofs.Ytodliknibbafeaa
open Go.ChangeShapes Go.WideShapes Go.RowKit
def KZ : Nat → z0g := fun _ => []
theorem zto {P : Program} {Xc : z0o} {cf : FuncId → Option Cfg} {f : FuncId} {args : List T} {outs : List T} (hX : z9I P (fun _ _ => True) Xc) (hm : P.follows .mixedOrders = true) (hf : ∀ f c, cf f = some c → z1P P f c = true)
    (h : Lim P Xc cf f args = some (.sc (.bool true), outs)) (hio : args.all (fun t => !z4P t) = true) (W : World) (vals : Array Value) (hs : vals.size = args.length)
    (ha : ∀ i t, args[i]? = some t → TRep W KZ [] (vals.getD i undef) t) : Calls P f vals W fun e W' => e = .returned (.bool true) ∧ Below W.heap.size W W' := by
  have hc := zy8 (I := fun _ _ => True) EnvS.none hX hm hf h
  refine (hc.calls W KZ vals hs (fun i t hi => ?_) trivial).mono fun e W' ⟨v, K', he, hv, _, hst⟩ => ?_
  · have h1 := List.all_eq_true.1 hio t (List.mem_of_getElem? hi)
    unfold zia
    rw [if_neg (by simpa using h1)]
    exact ha i t hi
  · generalize hT : T.sc (.bool true) = t at hv
    cases hv with
    | sc c v hb => cases hT; exact ⟨he, hst.os, hst.tape, hst.output, hst.size, fun b hb => (hst.old b hb (.inl rfl)).2⟩
    | _ => cases hT
section
variable {H : Type} {enc : TypeId × Value → H} {P : Program} {w : World} {r : Reach} {b0 : Nat}
theorem zta {t e : TypeId} {v : Value} {d : DataW H} {ps : List MemPlace} (ht : P.underlying t = some (.slice e)) (he : P.underlying e = some (.int .i64)) (hc : P.cellsOf e = 1)
    (hval : Value.okWide P w r b0 t v) (hd : DataW.Trod enc P w 0 (fun _ => true) true t v d ps) :
    ∃ xs : List Int, TRep w KZ [] v (.sl xs.length (xs.map fun x => .sc (.int .i64 x))) ∧ xs.length ≤ maxLen ∧ ∀ x ∈ xs, (Lit.int .i64 x).wf = true := by
  obtain ⟨ga, n, cap, rfl⟩ := okWide_slice ht hval
  obtain ⟨fuel, hf⟩ := hd
  rcases open_ints ht he hc hf with ⟨hcs, _⟩ | ⟨a, len', cap', zs, hcs, _, hl, hm, hz, _, hcell, hwz⟩
  · simp [Value.cells] at hcs
    obtain ⟨rfl, rfl, rfl⟩ := hcs
    exact ⟨[], .emp _ _ _ (by decide), by decide, fun x hx => by cases hx⟩
  · simp [Value.cells] at hcs
    obtain ⟨rfl, rfl, rfl⟩ := hcs
    simp only [if_true] at hz
    refine ⟨zs.take n, ?_, by simp; omega, fun x hx => hwz x (List.mem_of_mem_take hx)⟩
    have hln : (zs.take n).length = n := by simp; omega
    rw [hln]
    by_cases h0 : n = 0
    · subst h0
      simp only [List.take_zero, List.map_nil]
      exact .emp _ _ _ hm
    · have hc0 := hcell 0 (by omega)
      have hb := World.block_lt_of_cell? w _ hc0
      rw [zuj] at hb
      have hsp : a.spot = none := by
        have : a.add 0 = a := by simp [Addr.add]
        rw [this] at hc0
        unfold World.cell? at hc0
        split at hc0
        · split at hc0
          · cases hc0
          · rename_i hh
            simpa using hh
        · cases hc0
      obtain ⟨g, o, sp⟩ := a
      simp only at hsp
      subst hsp
      refine .fro [] g o n cap _ (fun j => .int .i64 (zs.getD j 0)) rfl hb hl hm (fun j hj => ?_) (fun j t hj => ?_)
      · have h1 := hcell j (by simp at hj; omega)
        have e : (⟨g, o, none⟩ : Addr).add j = ⟨g, o + j, none⟩ := by
          unfold Addr.add
          split
          · rename_i h; subst h; rfl
          · rfl
        rw [e] at h1
        exact h1
      · simp only [List.getElem?_map, Option.map_eq_some_iff] at hj
        obtain ⟨x, hx, rfl⟩ := hj
        have hjn : j < n := by
          have := (List.getElem?_eq_some_iff.1 hx).1
          simp at this; omega
        rw [List.getElem?_take_of_lt hjn] at hx
        simp only [List.getD, hx]
        exact .sc _ _ rfl
end
end Go.Proofs.Ytodliknibbafeaa
end
section
/- Proved here: the law HolonomyChecks returns true for every input, and its arguments read afterwards as before. No condition. -/
namespace Go.Proofs.Ytodliknibbafeaa.holonomyChecks
open Go.ChangeShapes Go.WideShapes Go.ChangeAt Go.RowKit
open Go.ChangeMaps (open_string shut_string)
theorem own : ownKnob Try.prog.godebug = none := by kernel_rfl
set_option maxRecDepth 100000 in
theorem zvi (H : Type) (enc : TypeId × Value → H) (W : World) (base : Nat) (args : Array Value) (ds gs : List (DataW H)) (before : List MemPlace)
    (hval0 : ∀ (j : Nat) t v, Try.f5.params[j]? = some t → args[j]? = some v → Value.okWide Try.prog W .any base t v)
    (hW : DataW.Whole enc Try.prog Try.f5.params.toList Rows.holonomyChecksSpec.vars false W args.toList ds gs before) :
    Calls Try.prog 5 args W fun e W' => ∃ v, e = .returned v ∧ Rows.holonomyChecksSpec.post enc Try.prog Try.f5 false true false false W args v W' := by
  have hW' := hW
  obtain ⟨p, q, hA0, hV, rfl, hfz, hnd⟩ := hW
  have hval := hval0
  have hA : DataW.TrodAll enc Try.prog W 0 (fun _ => true) true Try.f5.params.toList args.toList ds p := hA0
  rw [Try.params5] at hA hval
  obtain ⟨v0, vs0, d0, ds0, p0, q0, hargs, rfl, rfl, h0, r0⟩ := trodAll_cons hA
  obtain ⟨v1, vs1, d1, ds1, p1, q1, rfl, rfl, rfl, h1, r1⟩ := trodAll_cons r0
  obtain ⟨v2, vs2, d2, ds2, p2, q2, rfl, rfl, rfl, h2, r2⟩ := trodAll_cons r1
  obtain ⟨v3, vs3, d3, ds3, p3, q3, rfl, rfl, rfl, h3, r3⟩ := trodAll_cons r2
  obtain ⟨rfl, rfl, rfl⟩ := trodAll_nil r3
  obtain rfl : args = #[v0, v1, v2, v3] := by cases args; simp_all
  obtain ⟨rfl, rfl⟩ := trodVars_none hV
  obtain ⟨a0, t0, w0, z0⟩ := zta Try.underlying22 Try.underlying3 (by kernel_rfl) (hval 0 22 v0 rfl rfl) h0
  obtain ⟨a1, rfl, rfl, rfl, w1⟩ := open_int Try.underlying3 (hval 1 3 v1 rfl rfl) h1
  obtain ⟨a2, rfl, rfl, rfl, w2⟩ := open_int Try.underlying3 (hval 2 3 v2 rfl rfl) h2
  obtain ⟨a3, rfl, rfl, rfl, w3⟩ := open_int Try.underlying3 (hval 3 3 v3 rfl rfl) h3
  obtain ⟨outs, hlaw⟩ := zra a0 w0 z0 a1 w1 a2 w2 a3 w3
  refine (zto zrO (by kernel_rfl) zD0 hlaw rfl W _ rfl (fun i t hi => ?_)).mono fun e W' ⟨he, bel⟩ => ?_
  · match i, hi with
    | 0, hi => cases hi; exact t0
    | 1, hi => cases hi; exact .sc _ _ rfl
    | 2, hi => cases hi; exact .sc _ _ rfl
    | 3, hi => cases hi; exact .sc _ _ rfl
  · subst he
    exact ⟨_, rfl, _, _, _, [], _, [], hW', trodAll_mk1 (shut_bool Try.underlying4 _), z9N 12 bel (by kernel_rfl) hA0, rfl, bel.frame _, fun h => by cases h⟩
theorem z9H {a b : Bool} (ha : a = true) (hb : b = true) : (a && b) = true := by rw [ha, hb]; rfl
set_option maxHeartbeats 4000000 in
theorem zzc : joinedFacts Try.checked.prog 5 Try.f5 Rows.holonomyChecksSpec Rows.holonomyChecksRow = true :=
  (z9H (z9H (z9H (z9H (z9H (z9H (z9H (z9H (z9H (z9H (z9H (z9H (z9H (z9H (z9H (z9H (z9H (z9H (z9H (z9H (z9H (z9H (z9H (z9H (z9H (z9H (z9H (z9H (z9H (z9H (z9H (by as_aux_lemma => kernel_rfl)
    (by as_aux_lemma => kernel_rfl))
    (by as_aux_lemma => kernel_rfl))
    (by as_aux_lemma => kernel_rfl))
    (by as_aux_lemma => kernel_rfl))
    (by as_aux_lemma => kernel_rfl))
    (by as_aux_lemma => kernel_rfl))
    (by as_aux_lemma => kernel_rfl))
    (by as_aux_lemma => kernel_rfl))
    (by as_aux_lemma => kernel_rfl))
    (by as_aux_lemma => kernel_rfl))
    (by as_aux_lemma => kernel_rfl))
    (by as_aux_lemma => kernel_rfl))
    (by as_aux_lemma => kernel_rfl))
    (by as_aux_lemma => kernel_rfl))
    (by as_aux_lemma => kernel_rfl))
    (by as_aux_lemma => kernel_rfl))
    (by as_aux_lemma => kernel_rfl))
    (by as_aux_lemma => kernel_rfl))
    (by as_aux_lemma => kernel_rfl))
    (by as_aux_lemma => kernel_rfl))
    (by as_aux_lemma => kernel_rfl))
    (by as_aux_lemma => kernel_rfl))
    (by as_aux_lemma => kernel_rfl))
    (by as_aux_lemma => kernel_rfl))
    (by as_aux_lemma => kernel_rfl))
    (by as_aux_lemma => kernel_rfl))
    (by as_aux_lemma => kernel_rfl))
    (by as_aux_lemma => kernel_rfl))
    (by as_aux_lemma => kernel_rfl))
    (by as_aux_lemma => kernel_rfl))
    (by as_aux_lemma => kernel_rfl))
set_option maxRecDepth 100000 in
theorem zy9 (os : Os) (started : os.Started) (H : Type) (enc : TypeId × Value → H) :
    ReturnsInHanded {} Try.checked os 5 .any (Rows.holonomyChecksSpec.pre6 enc Try.prog Try.f5 Rows.holonomyChecksRow.domain false) (Rows.holonomyChecksSpec.post enc Try.prog Try.f5 false true false false) := by
  refine returnsInHanded_of_change (C := Try.checked) (by kernel_rfl) started (by kernel_rfl) Try.func5
    (ChangeSpec.witness6 (enc := enc) (C := Try.checked) false ⟨#[], #[.slice none 0 0, .int .i64 0, .int .i64 0, .int .i64 0], []⟩ 8 (by kernel_rfl) (by kernel_rfl) (by kernel_rfl) (by kernel_rfl)) ?_
  intro W base args ds gs before hval0 hW hcnd _
  exact zvi H enc W base args ds gs before hval0 hW
theorem zC2 : Rows.holonomyChecksRow.holds Try.pinned (OpenSpec.ofChange Rows.holonomyChecksSpec) :=
  OpenClaim.holds_of_wide 5 Try.f5 rfl rfl rfl rfl rfl rfl rfl ⟨rfl, rfl, rfl, rfl, rfl⟩ rfl rfl rfl rfl rfl (by kernel_rfl) Try.func5 zzc
    (of_decide_eq_true (by kernel_rfl)) (by unfold Func.isWrapper; first | (rw [if_pos (by decide +kernel)]; kernel_rfl) | (rw [if_neg (by decide +kernel)]; exact ⟨rfl, rfl⟩))
    (fun os started H enc _ => zy9 os started H enc)
theorem proved : Rows.HolonomyChecksSaid :=
  zC2
#print axioms proved
end Go.Proofs.Ytodliknibbafeaa.holonomyChecks
end

/- Proved here: the law ImagesBelow returns true for every input, and its arguments read afterwards as before. No condition. -/
import Derived.Test.YtbnnipkanechoaaMImagesBelow4
import Derived.ChangeOld
import Derived.ChangeReads
import Derived.Below
import Derived.ChangeSlices
import Derived.Deep.Grids
import Derived.WideShapes
import Derived.WalkKit
import Derived.ProofKit
import Derived.Test.YtbnnipkanechoaaRows
import Derived.Test.YtbnnipkanechoaaChecked
import Derived.OpenShut
import Derived.ShutString
import Derived.Deep.DeepHandedRow
set_option linter.unusedVariables false
set_option linter.unusedSimpArgs false
section
/- The sort of images keeps its promise: slices.SortFunc by the library's contract, its comparison walked. -/
namespace Go.Proofs.Ytbnnipkanechoaa
open Go Go.RowKit Go.Sort
set_option maxRecDepth 100000
set_option maxHeartbeats 4000000
set_option linter.unusedVariables false
set_option linter.unusedSimpArgs false

/-! The comparison. -/
def encS (x : Fin 128) : Value := .int .i64 ((x.val : Nat) : Int)
def cfS (p r : Fin 128) : Int := if Lib.compareInt (szN r.val) (szN p.val) ≠ 0 then Lib.compareInt (szN r.val) (szN p.val) else Lib.compareInt (p.val : Nat) (r.val : Nat)
theorem onesP (k : Nat) (W : World) (hk : k < 128) : Calls Try.prog 91 #[.int .u64 (k : Int)] W fun e w' => e = .returned (.int .i64 (szN k)) ∧ w' = W := by
  have h0 : (0 : Int) ≤ (k : Int) := by omega
  have h1 : (k : Int) < 128 := by omega
  go_enter Try.func91, Try.ntmps91
  go_wp2
  all_goals go_ret
  all_goals refine ⟨congrArg Ending.returned (congrArg (Value.int IntKind.i64) ?_), rfl⟩
  clear h0 h1
  revert k
  decide +kernel
theorem ones_w (k : Nat) (W : World) (hk : k < 128) : Calls Try.prog 78 #[.int .u64 (k : Int)] W fun e w' => e = .returned (.int .i64 (szN k)) ∧ w' = W := by
  go_enter Try.func78, Try.ntmps78
  go_wp2_with (go_at_call 91; refine (onesP k _ hk).mono ?_; rintro e w' ⟨rfl, rfl⟩)
  go_ret
  exact ⟨rfl, rfl⟩
theorem size_w (k : Nat) (W : World) (hk : k < 128) : Calls Try.prog 68 #[.int .i64 (k : Int)] W fun e w' => e = .returned (.int .i64 (szN k)) ∧ w' = W := by
  have hw : IntKind.u64.wrap (k : Int) = (k : Int) := by rw [IntKind.wrap_u64]; omega
  go_enter Try.func68, Try.ntmps68
  go_wp2_with (go_at_call 78; refine (ones_w k _ hk).mono ?_; rintro e w' ⟨rfl, rfl⟩)
  go_ret
  exact ⟨rfl, rfl⟩
theorem or2 (a b : Int) (g : Nat) (W : World) (ha : W.cell? ⟨g, 0, none⟩ = some (.int .i64 a)) (hb : W.cell? ⟨g, 1, none⟩ = some (.int .i64 b)) : Calls Try.prog 66 #[.slice (some ⟨g, 0, none⟩) 2 2] W fun e w' => e = .returned (.int .i64 (if a ≠ 0 then a else b)) ∧ w' = W := by
  go_enter Try.func66, Try.ntmps66
  go_wp2
  go_loop [8] (fun vi => ∃ k : Nat, k ≤ 2 ∧ vi = .int .i64 k ∧ (0 < k → a = 0) ∧ (1 < k → b = 0)) (fun vi => 2 - (intOf vi).toNat)
  case atStart => exact ⟨0, by omega, rfl, by omega, by omega⟩
  case round =>
    obtain ⟨k, hk, rfl, h1, h2⟩ := hrel
    rcases (by omega : k = 0 ∨ k = 1 ∨ k = 2) with rfl | rfl | rfl
    · clear h1 h2
      by_cases h : a = 0
      · subst h
        go_wp2
        go_round
        case rel => exact ⟨1, by omega, by go_num, by simp, by simp⟩
        case measure => simp [intOf]
      · go_wp2
        go_ret
        simp [h]
    · have h1 := h1 (by omega)
      clear h2
      subst h1
      by_cases h : b = 0
      · subst h
        go_wp2
        go_round
        case rel => exact ⟨2, by omega, by go_num, by simp, by simp⟩
        case measure => simp [intOf]
      · go_wp2
        go_ret
        simp
    · have h1 := h1 (by omega)
      have h2 := h2 (by omega)
      subst h1 h2
      go_wp2
      go_ret
      simp
theorem cmp_w (x y : Fin 128) (W : World) : Calls Try.prog 65 #[encS x, encS y] W fun e w' => e = .returned (.int .i64 (cfS x y)) ∧ ∃ q os', w' = grow (W.drewN q) os' := by
  obtain ⟨x, hx⟩ := x
  obtain ⟨y, hy⟩ := y
  unfold cfS encS
  simp only
  generalize hc1 : Lib.compareInt (szN y) (szN x) = c1
  generalize hc2 : Lib.compareInt (x : Int) (y : Int) = c2
  have H1 := Lib.hid hc1
  have H2 := Lib.hid hc2
  clear hc1 hc2
  go_enter Try.func65, Try.ntmps65
  go_wp2_with (first | (go_at_call 68; first | (refine (size_w y _ hy).mono ?_; rintro e w' ⟨rfl, rfl⟩) | (refine (size_w x _ hx).mono ?_; rintro e w' ⟨rfl, rfl⟩)) | (go_at_call 67; refine (Try.cmp_Compare_int _ _ _).mono ?_; rintro e w' ⟨rfl, rfl⟩; first | rw [H1.out] | rw [H2.out]) | (go_at_call 66; refine (or2 c1 c2 _ _ ?_ ?_).mono ?_))
  · simp
  · simp
  all_goals go_ret
  all_goals exact ⟨rfl, 0, #[_], alloc_eq_grow _ _⟩

/-! The order. -/
theorem cmpI_lt (a b : Int) : Lib.compareInt a b < 0 ↔ a < b := by unfold Lib.compareInt; split <;> (try split) <;> omega
theorem cmpI_0 (a b : Int) : Lib.compareInt a b = 0 ↔ a = b := by unfold Lib.compareInt; split <;> (try split) <;> omega
theorem lt_iff (p r : Fin 128) : ltOf cfS p r = true ↔ (szN r.val < szN p.val ∨ (szN r.val = szN p.val ∧ p.val < r.val)) := by
  unfold ltOf cfS
  rw [decide_eq_true_iff]
  split
  · rename_i h
    have := (not_congr (cmpI_0 (szN r.val) (szN p.val))).1 h
    rw [cmpI_lt]
    omega
  · rename_i h
    have := (cmpI_0 (szN r.val) (szN p.val)).1 (by simpa using h)
    rw [cmpI_lt]
    omega
theorem lt_not (p r : Fin 128) : ltOf cfS p r = false ↔ ¬ (szN r.val < szN p.val ∨ (szN r.val = szN p.val ∧ p.val < r.val)) := by
  rw [← lt_iff]; simp
theorem swoS : SWO (ltOf cfS) where
  irrefl x := by rw [lt_not]; omega
  trans x y z h1 h2 := by rw [lt_iff] at *; omega
  ntrans x y z h1 h2 := by rw [lt_not] at *; omega
theorem leI_iff (a b : Int) : leI a b = true ↔ (szN b.toNat < szN a.toNat ∨ (szN a.toNat = szN b.toNat ∧ a.toNat ≤ b.toNat)) := by
  unfold leI befN; simp
theorem insB_perm (x : Int) : ∀ l : List Int, (insB x l).Perm (x :: l)
  | [] => .refl _
  | y :: l => by
    unfold insB
    split
    · exact .refl _
    · exact ((insB_perm x l).cons y).trans (.swap x y l)
theorem sortI_perm : ∀ l : List Int, (sortI l).Perm l
  | [] => .refl _
  | x :: l => (insB_perm x (sortI l)).trans ((sortI_perm l).cons x)
theorem insB_sorted (x : Int) : ∀ l : List Int, l.Pairwise (fun a b => leI a b = true) → (insB x l).Pairwise (fun a b => leI a b = true)
  | [], _ => by simp [insB]
  | y :: l, h => by
    unfold insB
    rw [List.pairwise_cons] at h
    split
    · rename_i hxy
      refine List.pairwise_cons.2 ⟨fun z hz => ?_, List.pairwise_cons.2 h⟩
      rcases List.mem_cons.1 hz with rfl | hz
      · exact hxy
      · have := h.1 z hz
        rw [leI_iff] at *
        omega
    · rename_i hxy
      refine List.pairwise_cons.2 ⟨fun z hz => ?_, insB_sorted x l h.2⟩
      rcases List.mem_cons.1 ((insB_perm x l).mem_iff.1 hz) with rfl | hz
      · rw [leI_iff] at *
        omega
      · exact h.1 z hz
theorem sortI_sorted : ∀ l : List Int, (sortI l).Pairwise (fun a b => leI a b = true)
  | [] => by simp [sortI]
  | x :: l => insB_sorted x _ (sortI_sorted l)
theorem perm_sorted_eq : ∀ {l1 l2 : List Int}, l1.Perm l2 → (∀ x ∈ l1, 0 ≤ x) → l1.Pairwise (fun a b => leI a b = true) → l2.Pairwise (fun a b => leI a b = true) → l1 = l2
  | [], l2, h, _, _, _ => by rw [List.nil_perm] at h; exact h.symm
  | a :: l1, [], h, _, _, _ => by simp at h
  | a :: l1, b :: l2, h, h0, h1, h2 => by
    have hab : a = b := by
      rcases List.mem_cons.1 (h.mem_iff.1 (List.mem_cons_self ..)) with e | ha
      · exact e
      · rcases List.mem_cons.1 (h.mem_iff.2 (List.mem_cons_self ..)) with e | hb
        · exact e.symm
        · have e1 := (List.pairwise_cons.1 h2).1 a ha
          have e2 := (List.pairwise_cons.1 h1).1 b hb
          have p1 := h0 a (List.mem_cons_self ..)
          have p2 := h0 b (h.mem_iff.2 (List.mem_cons_self ..))
          rw [leI_iff] at e1 e2
          omega
    subst hab
    rw [perm_sorted_eq (List.perm_cons a |>.1 h) (fun x hx => h0 x (List.mem_cons_of_mem _ hx)) (List.pairwise_cons.1 h1).2 (List.pairwise_cons.1 h2).2]

/-! The promise. -/
def toF (x : Int) : Fin 128 := ⟨x.toNat % 128, Nat.mod_lt _ (by decide)⟩
def ofF (f : Fin 128) : Int := (f.val : Int)
theorem toF_of {x : Int} (h : 0 ≤ x ∧ x < 128) : ofF (toF x) = x := by simp only [ofF, toF]; omega
/-- New blocks are the result's. -/
def newK (B : Nat) (K : Nat → Color) (b : Nat) : Color := if B ≤ b then [0] else K b
theorem sorted_ints {xs : List Int} (hx : ∀ x ∈ xs, 0 ≤ x ∧ x < 128) {d' : Array (Fin 128)} (hp : PermIn 0 (xs.map toF).toArray.size (xs.map toF).toArray d') (hs : SortedIn (ltOf cfS) 0 (xs.map toF).toArray.size d') : d'.toList.map ofF = sortI xs := by
  obtain ⟨h1, _, h3⟩ := hp
  have hsz : d'.size = xs.length := by simpa using h1
  have e1 : (xs.map toF).map ofF = xs := by
    rw [List.map_map]
    conv => rhs; rw [← List.map_id xs]
    exact List.map_congr_left fun x hxm => toF_of (hx x hxm)
  have hp2 : d'.toList.Perm (xs.map toF) := by
    have : (d'.extract 0 (xs.map toF).toArray.size).toList = d'.toList := by
      rw [← h1]; simp
    rw [this] at h3
    simp at h3
    rwa [List.take_of_length_le (by simp)] at h3
  have hp3 : (d'.toList.map ofF).Perm xs := by
    have := hp2.map ofF
    rwa [e1] at this
  refine perm_sorted_eq (hp3.trans (sortI_perm xs).symm) (fun x hxm => (hx x (hp3.mem_iff.1 hxm)).1) ?_ (sortI_sorted xs)
  rw [List.pairwise_iff_getElem]
  intro i j hi hj hij
  simp only [List.length_map, Array.length_toList] at hi hj
  have := hs i j (by omega) hij (by simp; omega)
  rw [lt_not, getElem!_pos d' i hi, getElem!_pos d' j hj] at this
  rw [leI_iff]
  simp only [List.getElem_map, Array.getElem_toList, ofF, Int.toNat_natCast]
  omega
theorem heap_row {w : World} {g n : Nat} {os : Array Obj} {cur : Array Value} {e : TypeId} {fr : Nat × Nat} (d : Array (Fin 128)) (hb : w.heap[g]? = some (.cells cur e fr)) : (sortWorld encS w g 0 n d os).heap[g]? = some (.cells (putCells encS 0 d cur) e fr) := by
  unfold sortWorld
  rw [heap_grow_old _ _ (by rw [size_putRow]; exact lt_heap hb)]
  simp [putRow, mapBlock, Sort.ahead, Array.getElem?_modify, hb, onCells]
theorem heap_other {w : World} {g n : Nat} {os : Array Obj} (d : Array (Fin 128)) {b : Nat} (hb : b < w.heap.size) (hne : b ≠ g) : (sortWorld encS w g 0 n d os).heap[b]? = w.heap[b]? := by
  unfold sortWorld
  rw [heap_grow_old _ _ (by rw [size_putRow]; exact hb)]
  simp [putRow, mapBlock, Sort.ahead, Array.getElem?_modify, Ne.symm hne]
theorem size_row {w : World} {g n : Nat} {os : Array Obj} (d : Array (Fin 128)) : w.heap.size ≤ (sortWorld encS w g 0 n d os).heap.size := by
  unfold sortWorld
  rw [size_grow, size_putRow]
  show w.heap.size ≤ w.heap.size + _
  omega
theorem xtC_sound {I : World → (Nat → Color) → Prop} : Sound Try.prog I xtC := by
  intro f args r outs h
  unfold xtC at h
  split at h
  case isFalse => cases h
  rename_i hf
  subst hf
  unfold xSort at h
  split at h
  case h_2 => cases h
  rename_i n cs f fs gs
  split at h
  case isFalse => cases h
  rename_i hfg
  obtain ⟨rfl, hfs, hgs⟩ := hfg
  simp only [Array.isEmpty_iff] at hfs hgs
  subst hfs hgs
  split at h
  case h_2 => cases h
  rename_i xs hxs
  split at h
  case isFalse => cases h
  rename_i hn
  subst hn
  unfold vSort at h
  split at h
  case isFalse => cases h
  rename_i hc
  obtain ⟨hne, hlen, hall⟩ := hc
  have hx : ∀ x ∈ xs, 0 ≤ x ∧ x < 128 := by simpa using hall
  obtain ⟨rfl, rfl⟩ : T.tup [] = r ∧ [T.os 1 (sortI xs).length ((sortI xs).map fun x => .sc (.int .i64 x)), .dead] = outs := by simpa using h
  have hcs := intsI_inv hxs
  subst hcs
  clear h hxs hall
  refine ⟨fun vals w => ?_, fun w K vals hs ha hI => ?_⟩
  · have hb : ∃ c, Try.f64.body = some c := ⟨_, rfl⟩
    obtain ⟨c, hb⟩ := hb
    have hname : Try.f64.name ≠ "runtime.NumGoroutine" := by decide
    simp [callFunc, program, Sem.run, Try.func64, hname, hb]
  · obtain ⟨v, u, rfl⟩ : ∃ v u, vals = #[v, u] := by
      obtain ⟨l⟩ := vals
      match l, hs with
      | [v, u], _ => exact ⟨v, u, rfl⟩
    have hv : TRep w K (col 0) v (.os 1 xs.length (xs.map fun x => .sc (.int .i64 x))) := ha 0 _ rfl
    have hu : TRep w K [] u (.sc (.func (.func 65) #[] #[])) := ha 1 _ rfl
    rw [hu.sc_eq]
    clear hu ha
    have hl0 : 0 < xs.length := List.length_pos_iff.2 hne
    generalize hT : T.os 1 xs.length (xs.map fun x => T.sc (.int .i64 x)) = t at hv
    cases hv with
    | nil => injection hT with _ e _; omega
    | own c g n cap size cs arr e fz F hfz hc0 hK hg hsz hl hz hn hcap hF hh =>
      injection hT with e1 e2 e3
      subst e1 e2 e3
      have hcell : ∀ j (hj : j < xs.length), arr[j]? = some (.int .i64 xs[j]) := fun j hj => by
        rw [hF j (by simpa using hj)]
        have := hh j (.sc (.int .i64 xs[j])) (by simp [hj])
        rw [this.sc_eq]
      have hH : Holds encS w g 0 (xs.map toF).toArray := fun j hj => by
        have hj' : j < xs.length := by simpa using hj
        constructor
        · rw [Nat.zero_add, cell_of hg, hcell j hj', getElem!_pos _ j hj]
          simp only [encS, List.getElem_toArray, List.getElem_map]
          have := toF_of (hx _ (List.getElem_mem hj'))
          unfold ofF at this
          rw [this]
        · unfold World.frozen?
          rw [Nat.zero_add]
          simp only [hg]
          have := hfz j (by omega)
          obtain ⟨lo, hi⟩ := fz
          simp only at this ⊢
          simp only [Bool.and_eq_false_iff, decide_eq_false_iff_not]
          omega
      have eg : ∀ args w, (callFunc 65 args).run Try.prog w = .ok (.enter 65 args) w := enters_of Try.func65 (by kernel_rfl) rfl
      have hcmp : CmpLays1 Try.prog 65 #[] encS cfS g 0 (xs.map toF).toArray.size w := fun m os dk _ x y => cmp_w x y _
      have hcon := Try.slices_SortFunc encS (fun _ => rfl) cfS swoS 65 #[] g 0 cap (xs.map toF).toArray w eg hcmp hH (lt_heap hg) (by simpa using hlen)
      have hsize : (xs.map toF).toArray.size = xs.length := by simp
      rw [hsize] at hcon
      refine hcon.mono fun e' w' ⟨he, d', m, os, hp, hso, hw⟩ => ?_
      subst hw
      have hsort := sorted_ints hx (by rw [hsize]; exact hp) (by rw [hsize]; exact hso)
      have hd : d'.size = xs.length := by have := hp.1; simpa using this
      have hys : (sortI xs).length = xs.length := (sortI_perm xs).length_eq
      refine ⟨.tuple #[], newK w.heap.size K, he, ?_, fun i t hi hio => ?_, rfl, rfl, rfl, size_row d', fun b hb hcb => ⟨by unfold newK; rw [if_neg (by omega)], heap_other d' hb ?_⟩, ?_⟩
      · exact .tup _ #[] [] (fun _ => undef) rfl (fun j hj => by simp at hj) (fun j t ht => by simp at ht)
      · match i, hi with
        | 0, hi =>
          refine ⟨_, rfl, ?_⟩
          show TRep _ _ (col 0) (.slice (some ⟨g, 0, none⟩) xs.length cap) _
          rw [← hys]
          refine .own (col 0) g _ cap 1 _ (putCells encS 0 d' arr) e fz (fun j => .int .i64 ((sortI xs).getD j 0)) (fun i hi => hfz i (by simpa [putCells] using hi)) (by simp [col]) (by unfold newK; rw [if_neg (by have := lt_heap hg; omega)]; exact hK) (heap_row d' hg) (by simpa [putCells] using hsz) (by simp) (by omega) (by omega) hcap (fun j hj => ?_) (fun j t ht => ?_)
          · have hj' : j < xs.length := by simpa [hys] using hj
            have hja : j < arr.size := (Array.getElem?_eq_some_iff.1 (hcell j hj')).1
            have hjd : j < d'.size := by omega
            simp only [putCells, Array.getElem?_mapIdx, hcell j hj', Option.map_some]
            rw [if_pos (by omega), Nat.sub_zero, getElem!_pos d' j hjd]
            have : (sortI xs).getD j 0 = ofF d'[j] := by
              rw [← hsort]; simp [List.getD, hjd]
            rw [this]; rfl
          · simp only [List.getElem?_map, Option.map_eq_some_iff] at ht
            obtain ⟨x, hx', rfl⟩ := ht
            simp only [List.getD, hx']
            exact .sc _ _ rfl
        | 1, hi => cases hi; cases hio
      · rintro rfl
        rw [hK] at hcb
        simp [col] at hcb
      · intro b arr0 e0 fz0 hb0
        by_cases hbg : b = g
        · subst hbg
          rw [hg] at hb0
          cases hb0
          exact ⟨_, _, _, heap_row d' hg, by simp [putCells]⟩
        · exact ⟨_, _, _, (heap_other d' (lt_heap hb0) hbg).trans hb0, rfl⟩
    | _ => cases hT
end Go.Proofs.Ytbnnipkanechoaa
end
section
/- Schedules that are trees, checked state by state. Over any program. -/
namespace Go.Proofs.Ytbnnipkanechoaa
set_option linter.unusedVariables false
set_option linter.unusedSimpArgs false

/-- A state: all that is ready is at hand. -/
structure StOk (ops : Array Oper) (t : SchT) (L : Array Bool) (d : Nat) (ns : List Nat) : Prop where
  ord : orderT .any ops true t L = true
  dep : t.depth = d
  nx : ∀ z ∈ t.nexts, z ∈ ns
/-- Some of what is ready. -/
structure BrOk (ops : Array Oper) (t : SchT) (L : Array Bool) (d : Nat) (ns hs : List Nat) : Prop where
  ord : orderT .any ops false t L = true
  dep : t.depth = d
  nx : ∀ z ∈ t.nexts, z ∈ ns
  hd : ∀ i ∈ hs, i ∈ t.heads
theorem st_nil {ops : Array Oper} {L : Array Bool} (h : decide (Region.ready .any ops L = []) = true) : StOk ops .nil L 0 [] := ⟨by simp only [orderT, h, Bool.and_true], rfl, fun z hz => by simp [SchT.nexts] at hz⟩
theorem st_q {ops : Array Oper} {k m : Nat} {rest : SchT} {L L' : Array Bool} {d : Nat} {ns : List Nat} (h : StOk ops rest L' d ns) (hL : L.setIfInBounds k true = L')
    (hc : ((m == 0 || m == 3) && (Region.ready .any ops L).contains k && Region.free .any ops L k && !(ns.contains k) && (m == 3 || ns.all fun z => (ancL .any ops ops.size [z]).contains k)) = true) : StOk ops (.op k m rest) L (d + 1) ns := by
  simp only [Bool.and_eq_true, Bool.or_eq_true, Bool.not_eq_true', beq_iff_eq] at hc
  obtain ⟨⟨⟨⟨h1, h2⟩, h3⟩, h4⟩, h5⟩ := hc
  have hm2 : ¬ m = 2 := by omega
  have hk : k ∉ ns := by simpa using h4
  refine ⟨?_, by simp only [SchT.depth, h.dep], fun z hz => h.nx z (by simpa only [SchT.nexts, if_neg hm2] using hz)⟩
  simp only [orderT]
  rw [if_pos (by simpa using h1), hL, h.ord, h2, h3]
  have h6 : rest.nexts.contains k = false := by
    rw [Bool.eq_false_iff]
    intro hh
    exact hk (h.nx k (by simpa using hh))
  rw [h6]
  simp only [Bool.not_false, Bool.and_self, Bool.true_and, Bool.and_true, Bool.or_eq_true, beq_iff_eq]
  rcases h5 with h5 | h5
  · exact .inl h5
  · exact .inr (List.all_eq_true.2 fun z hz => List.all_eq_true.1 h5 z (h.nx z hz))
theorem st_e {ops : Array Oper} {k m : Nat} {rest : SchT} {L L' : Array Bool} {d : Nat} {ns ns' : List Nat} (h : StOk ops rest L' d ns) (hL : L.setIfInBounds k true = L')
    (hc : ((m == 1 || m == 2) && decide (Region.ready .any ops L = [k])) = true) (hn : (if m = 2 then [k] else ns) = ns') : StOk ops (.op k m rest) L (d + 1) ns' := by
  subst hn
  simp only [Bool.and_eq_true, Bool.or_eq_true, beq_iff_eq] at hc
  obtain ⟨h1, h2⟩ := hc
  refine ⟨?_, by simp only [SchT.depth, h.dep], fun z hz => ?_⟩
  · simp only [orderT]
    rw [if_neg (by omega), hL, h.ord, h2]
    simp [h1]
  · simp only [SchT.nexts] at hz
    split at hz
    · rename_i e; rw [if_pos e]; exact hz
    · rename_i e; rw [if_neg e]; exact h.nx z hz
theorem br_e {ops : Array Oper} {k m : Nat} {rest : SchT} {L L' : Array Bool} {d : Nat} {ns ns' : List Nat} (h : StOk ops rest L' d ns) (hL : L.setIfInBounds k true = L')
    (hc : ((m == 1 || m == 2) && (Region.ready .any ops L).contains k) = true) (hn : (if m = 2 then [k] else ns) = ns') : BrOk ops (.op k m rest) L (d + 1) ns' [k] := by
  subst hn
  simp only [Bool.and_eq_true, Bool.or_eq_true, beq_iff_eq] at hc
  obtain ⟨h1, h2⟩ := hc
  refine ⟨?_, by simp only [SchT.depth, h.dep], fun z hz => ?_, fun i hi => by simpa [SchT.heads] using hi⟩
  · simp only [orderT]
    rw [if_neg (by simp), hL, h.ord, h2]
    simp [h1]
  · simp only [SchT.nexts] at hz
    split at hz
    · rename_i e; rw [if_pos e]; exact hz
    · rename_i e; rw [if_neg e]; exact h.nx z hz
theorem br_alt {ops : Array Oper} {a b : SchT} {L : Array Bool} {d : Nat} {n1 n2 h1 h2 : List Nat} (ha : BrOk ops a L d n1 h1) (hb : BrOk ops b L d n2 h2) : BrOk ops (.alt a b) L d (n1 ++ n2) (h1 ++ h2) := by
  refine ⟨?_, by simp only [SchT.depth, ha.dep], fun z hz => ?_, fun i hi => ?_⟩
  · simp only [orderT, ha.ord, hb.ord, ha.dep, hb.dep]; simp
  · simp only [SchT.nexts, List.mem_append] at hz ⊢
    exact hz.imp (ha.nx z) (hb.nx z)
  · simp only [SchT.heads, List.mem_append] at hi ⊢
    exact hi.imp (ha.hd i) (hb.hd i)
theorem st_alt {ops : Array Oper} {a b : SchT} {L : Array Bool} {d : Nat} {ns ns' hs : List Nat} (h : BrOk ops (.alt a b) L d ns hs) (hc : ((Region.ready .any ops L).all fun i => hs.contains i) = true) (hn : (ns.all fun z => ns'.contains z) = true) : StOk ops (.alt a b) L d ns' := by
  refine ⟨?_, h.dep, fun z hz => by simpa using List.all_eq_true.1 hn z (h.nx z hz)⟩
  have := h.ord
  simp only [orderT, Bool.and_eq_true, decide_eq_true_eq] at this ⊢
  obtain ⟨⟨⟨h1, h2⟩, h3⟩, h4⟩ := this
  refine ⟨⟨⟨?_, h2⟩, h3⟩, h4⟩
  simp only [Bool.not_true, Bool.false_or, decide_eq_true_eq]
  intro i hi
  have := List.all_eq_true.1 hc i hi
  exact h.hd i (by simpa using this)

/-- The check of code, but for some regions. -/
def okC2 (cf : Cfg) (sk : Nat → Bool) : Code → Bool
  | .region id ops draw => sk id || (!draw || (match cf.dt id with | some t => okDrawT ops t | none => (match cf.dr id with | some sch => okDraw ops sch | none => true)))
  | .seq a b => okC2 cf sk a && okC2 cf sk b
  | .cond _ x y => okC2 cf sk x && okC2 cf sk y
  | .block _ c => okC2 cf sk c
  | .loop c => okC2 cf sk c
  | .scope c => okC2 cf sk c
  | _ => true
/-- The regions of a number. -/
def regsOf (i : Nat) : Code → List (Array Oper)
  | .region id ops _ => if Nat.beq id i then [ops] else []
  | .seq a b => regsOf i a ++ regsOf i b
  | .cond _ x y => regsOf i x ++ regsOf i y
  | .block _ c => regsOf i c
  | .loop c => regsOf i c
  | .scope c => regsOf i c
  | _ => []
noncomputable def regOf (i : Nat) (c : Code) : Array Oper := match regsOf i c with | x :: _ => x | [] => #[]
theorem okC_of {cf : Cfg} {sk : Nat → Bool} : ∀ (c : Code), okC2 cf sk c = true → (∀ i, sk i = true → ∃ t, cf.dt i = some t ∧ ∀ o ∈ regsOf i c, okDrawT o t = true) → okC cf c = true
  | .region id ops draw, h, hs => by
    simp only [okC2, Bool.or_eq_true] at h
    simp only [okC, Bool.or_eq_true]
    rcases h with h | h
    · right
      obtain ⟨t, h1, h2⟩ := hs id h
      rw [h1]
      exact h2 ops (by simp [regsOf])
    · exact h
  | .seq a b, h, hs => by
    simp only [okC2, Bool.and_eq_true] at h
    simp only [okC, Bool.and_eq_true]
    exact ⟨okC_of a h.1 fun i hi => by obtain ⟨t, h1, h2⟩ := hs i hi; exact ⟨t, h1, fun o ho => h2 o (by simp only [regsOf, List.mem_append]; exact .inl ho)⟩,
      okC_of b h.2 fun i hi => by obtain ⟨t, h1, h2⟩ := hs i hi; exact ⟨t, h1, fun o ho => h2 o (by simp only [regsOf, List.mem_append]; exact .inr ho)⟩⟩
  | .cond _ a b, h, hs => by
    simp only [okC2, Bool.and_eq_true] at h
    simp only [okC, Bool.and_eq_true]
    exact ⟨okC_of a h.1 fun i hi => by obtain ⟨t, h1, h2⟩ := hs i hi; exact ⟨t, h1, fun o ho => h2 o (by simp only [regsOf, List.mem_append]; exact .inl ho)⟩,
      okC_of b h.2 fun i hi => by obtain ⟨t, h1, h2⟩ := hs i hi; exact ⟨t, h1, fun o ho => h2 o (by simp only [regsOf, List.mem_append]; exact .inr ho)⟩⟩
  | .block _ c, h, hs => by simp only [okC]; exact okC_of c (by simpa only [okC2] using h) (by simpa only [regsOf] using hs)
  | .loop c, h, hs => by simp only [okC]; exact okC_of c (by simpa only [okC2] using h) (by simpa only [regsOf] using hs)
  | .scope c, h, hs => by simp only [okC]; exact okC_of c (by simpa only [okC2] using h) (by simpa only [regsOf] using hs)
  | .skip, _, _ => rfl
  | .label .., _, _ => rfl
  | .exit .., _, _ => rfl
  | .ret, _, _ => rfl
  | .rangeFunc .., _, _ => rfl
  | .goto _, _, _ => rfl
  | .refuse _, _, _ => rfl
theorem st_done {c : Code} {i : Nat} {t : SchT} {n : Nat} {ns : List Nat} {L : Array Bool} (hr : (regsOf i c).length = 1) (hs : StOk (regOf i c) t L n ns) (hL : L = Array.replicate (regOf i c).toList.length false) (hd : (decide (n = (regOf i c).toList.length) && Region.noSelect (regOf i c)) = true) : ∀ o ∈ regsOf i c, okDrawT o t = true := by
  intro o ho
  obtain ⟨x, hx⟩ : ∃ x, regsOf i c = [x] := List.length_eq_one_iff.1 hr
  have e : regOf i c = x := by unfold regOf; rw [hx]
  rw [hx] at ho
  obtain rfl : o = x := by simpa using ho
  rw [e] at hs hL hd
  subst hL
  simp only [Bool.and_eq_true, decide_eq_true_eq] at hd
  unfold okDrawT
  simp only [Bool.and_eq_true, decide_eq_true_eq]
  exact ⟨⟨hs.dep.trans hd.1, hd.2⟩, hs.ord⟩
theorem okFn_of {P : Program} {f : FuncId} {cf : Cfg} {fn : Func} {c : Code} (l : List Nat) (hf : P.funcs[f]? = some fn) (hb : fn.body = some c) (hn : (fn.name != "runtime.NumGoroutine") = true) (h2 : okC2 cf l.contains c = true)
    (ht : ∀ i ∈ l, ∃ t, cf.dt i = some t ∧ ∀ o ∈ regsOf i c, okDrawT o t = true) : okFn P f cf = true := by
  unfold okFn
  simp only [hf, hb, hn, Bool.true_and]
  exact okC_of c h2 fun j hj => ht j (by simpa using hj)
end Go.Proofs.Ytbnnipkanechoaa
end
section
/- The schedules are orders. -/
namespace Go.Proofs.Ytbnnipkanechoaa
open Go
set_option maxRecDepth 100000

theorem cok3 : okFn Try.prog 3 cf3 = true := by kernel_rfl
theorem cok4 : okFn Try.prog 4 cf4 = true := by kernel_rfl
theorem cok5 : okFn Try.prog 5 cf5 = true := by kernel_rfl
theorem cok6 : okFn Try.prog 6 cf6 = true := by kernel_rfl
theorem cok8 : okFn Try.prog 8 cf8 = true := by kernel_rfl
theorem cok9 : okFn Try.prog 9 cf9 = true := by kernel_rfl
theorem cok10 : okFn Try.prog 10 cf10 = true := by kernel_rfl
theorem cok11 : okFn Try.prog 11 cf11 = true := by kernel_rfl
theorem cok12 : okFn Try.prog 12 cf12 = true := by kernel_rfl
theorem cok13 : okFn Try.prog 13 cf13 = true := by kernel_rfl
theorem tr14_10_o41 : StOk (regOf 10 cd14) tr14_10_41 #[true, true, true, true, true, true, true, true, true, true, true, true, true, true] 0 [] := st_nil (by kernel_rfl)
theorem tr14_10_o40 : StOk (regOf 10 cd14) tr14_10_40 #[true, true, true, true, true, true, true, true, true, true, true, true, true, false] 1 [13] := st_e tr14_10_o41 rfl (by kernel_rfl) rfl
theorem tr14_10_o39 : StOk (regOf 10 cd14) tr14_10_39 #[true, true, true, true, true, true, true, true, true, true, true, false, true, false] 2 [13] := st_q tr14_10_o40 rfl (by kernel_rfl)
theorem tr14_10_o38 : StOk (regOf 10 cd14) tr14_10_38 #[true, true, true, true, true, true, true, true, true, true, true, true, false, false] 2 [13] := st_e tr14_10_o40 rfl (by kernel_rfl) rfl
theorem tr14_10_o37 : StOk (regOf 10 cd14) tr14_10_37 #[true, true, true, true, false, true, true, true, true, true, true, false, true, false] 3 [13] := st_e tr14_10_o39 rfl (by kernel_rfl) rfl
theorem tr14_10_o36 : StOk (regOf 10 cd14) tr14_10_36 #[true, true, true, true, true, true, false, true, true, true, true, false, true, false] 3 [13] := st_e tr14_10_o39 rfl (by kernel_rfl) rfl
theorem tr14_10_o35 : StOk (regOf 10 cd14) tr14_10_35 #[true, true, true, true, true, true, true, true, false, true, true, false, true, false] 3 [13] := st_e tr14_10_o39 rfl (by kernel_rfl) rfl
theorem tr14_10_o34 : StOk (regOf 10 cd14) tr14_10_34 #[true, true, true, true, true, true, true, true, true, true, false, false, true, false] 3 [13] := st_e tr14_10_o39 rfl (by kernel_rfl) rfl
theorem tr14_10_o33 : StOk (regOf 10 cd14) tr14_10_33 #[true, true, true, true, true, true, true, true, true, true, true, false, false, false] 3 [13] := st_q tr14_10_o38 rfl (by kernel_rfl)
theorem tr14_10_o32 : StOk (regOf 10 cd14) tr14_10_32 #[true, true, true, true, false, true, false, true, true, true, true, false, true, false] 4 [13] := st_alt (br_alt (br_e tr14_10_o36 rfl (by kernel_rfl) rfl) (br_e tr14_10_o37 rfl (by kernel_rfl) rfl)) (by kernel_rfl) rfl
theorem tr14_10_o31 : StOk (regOf 10 cd14) tr14_10_31 #[true, true, true, true, false, true, true, true, false, true, true, false, true, false] 4 [13] := st_alt (br_alt (br_e tr14_10_o35 rfl (by kernel_rfl) rfl) (br_e tr14_10_o37 rfl (by kernel_rfl) rfl)) (by kernel_rfl) rfl
theorem tr14_10_o30 : StOk (regOf 10 cd14) tr14_10_30 #[true, true, true, true, false, true, true, true, true, true, false, false, true, false] 4 [13] := st_alt (br_alt (br_e tr14_10_o34 rfl (by kernel_rfl) rfl) (br_e tr14_10_o37 rfl (by kernel_rfl) rfl)) (by kernel_rfl) rfl
theorem tr14_10_o29 : StOk (regOf 10 cd14) tr14_10_29 #[true, true, true, true, false, true, true, true, true, true, true, false, false, false] 4 [13] := st_alt (br_alt (br_e tr14_10_o33 rfl (by kernel_rfl) rfl) (br_e tr14_10_o37 rfl (by kernel_rfl) rfl)) (by kernel_rfl) rfl
theorem tr14_10_o28 : StOk (regOf 10 cd14) tr14_10_28 #[true, true, true, true, true, true, false, true, false, true, true, false, true, false] 4 [13] := st_alt (br_alt (br_e tr14_10_o35 rfl (by kernel_rfl) rfl) (br_e tr14_10_o36 rfl (by kernel_rfl) rfl)) (by kernel_rfl) rfl
theorem tr14_10_o27 : StOk (regOf 10 cd14) tr14_10_27 #[true, true, true, true, true, true, false, true, true, true, false, false, true, false] 4 [13] := st_alt (br_alt (br_e tr14_10_o34 rfl (by kernel_rfl) rfl) (br_e tr14_10_o36 rfl (by kernel_rfl) rfl)) (by kernel_rfl) rfl
theorem tr14_10_o26 : StOk (regOf 10 cd14) tr14_10_26 #[true, true, true, true, true, true, false, true, true, true, true, false, false, false] 4 [13] := st_alt (br_alt (br_e tr14_10_o33 rfl (by kernel_rfl) rfl) (br_e tr14_10_o36 rfl (by kernel_rfl) rfl)) (by kernel_rfl) rfl
theorem tr14_10_o25 : StOk (regOf 10 cd14) tr14_10_25 #[true, true, true, true, true, true, true, true, false, true, false, false, true, false] 4 [13] := st_alt (br_alt (br_e tr14_10_o34 rfl (by kernel_rfl) rfl) (br_e tr14_10_o35 rfl (by kernel_rfl) rfl)) (by kernel_rfl) rfl
theorem tr14_10_o24 : StOk (regOf 10 cd14) tr14_10_24 #[true, true, true, true, true, true, true, true, false, true, true, false, false, false] 4 [13] := st_alt (br_alt (br_e tr14_10_o33 rfl (by kernel_rfl) rfl) (br_e tr14_10_o35 rfl (by kernel_rfl) rfl)) (by kernel_rfl) rfl
theorem tr14_10_o23 : StOk (regOf 10 cd14) tr14_10_23 #[true, true, true, true, true, true, true, true, true, true, false, false, false, false] 4 [13] := st_alt (br_alt (br_e tr14_10_o33 rfl (by kernel_rfl) rfl) (br_e tr14_10_o34 rfl (by kernel_rfl) rfl)) (by kernel_rfl) rfl
theorem tr14_10_o22 : StOk (regOf 10 cd14) tr14_10_22 #[true, true, true, true, false, true, false, true, false, true, true, false, true, false] 5 [13] := st_alt (br_alt (br_e tr14_10_o28 rfl (by kernel_rfl) rfl) (br_alt (br_e tr14_10_o31 rfl (by kernel_rfl) rfl) (br_e tr14_10_o32 rfl (by kernel_rfl) rfl))) (by kernel_rfl) rfl
theorem tr14_10_o21 : StOk (regOf 10 cd14) tr14_10_21 #[true, true, true, true, false, true, false, true, true, true, false, false, true, false] 5 [13] := st_alt (br_alt (br_e tr14_10_o27 rfl (by kernel_rfl) rfl) (br_alt (br_e tr14_10_o30 rfl (by kernel_rfl) rfl) (br_e tr14_10_o32 rfl (by kernel_rfl) rfl))) (by kernel_rfl) rfl
theorem tr14_10_o20 : StOk (regOf 10 cd14) tr14_10_20 #[true, true, true, true, false, true, false, true, true, true, true, false, false, false] 5 [13] := st_alt (br_alt (br_e tr14_10_o26 rfl (by kernel_rfl) rfl) (br_alt (br_e tr14_10_o29 rfl (by kernel_rfl) rfl) (br_e tr14_10_o32 rfl (by kernel_rfl) rfl))) (by kernel_rfl) rfl
theorem tr14_10_o19 : StOk (regOf 10 cd14) tr14_10_19 #[true, true, true, true, false, true, true, true, false, true, false, false, true, false] 5 [13] := st_alt (br_alt (br_e tr14_10_o25 rfl (by kernel_rfl) rfl) (br_alt (br_e tr14_10_o30 rfl (by kernel_rfl) rfl) (br_e tr14_10_o31 rfl (by kernel_rfl) rfl))) (by kernel_rfl) rfl
theorem tr14_10_o18 : StOk (regOf 10 cd14) tr14_10_18 #[true, true, true, true, false, true, true, true, false, true, true, false, false, false] 5 [13] := st_alt (br_alt (br_e tr14_10_o24 rfl (by kernel_rfl) rfl) (br_alt (br_e tr14_10_o29 rfl (by kernel_rfl) rfl) (br_e tr14_10_o31 rfl (by kernel_rfl) rfl))) (by kernel_rfl) rfl
theorem tr14_10_o17 : StOk (regOf 10 cd14) tr14_10_17 #[true, true, true, true, false, true, true, true, true, true, false, false, false, false] 5 [13] := st_alt (br_alt (br_e tr14_10_o23 rfl (by kernel_rfl) rfl) (br_alt (br_e tr14_10_o29 rfl (by kernel_rfl) rfl) (br_e tr14_10_o30 rfl (by kernel_rfl) rfl))) (by kernel_rfl) rfl
theorem tr14_10_o16 : StOk (regOf 10 cd14) tr14_10_16 #[true, true, true, true, true, true, false, true, false, true, false, false, true, false] 5 [13] := st_alt (br_alt (br_e tr14_10_o25 rfl (by kernel_rfl) rfl) (br_alt (br_e tr14_10_o27 rfl (by kernel_rfl) rfl) (br_e tr14_10_o28 rfl (by kernel_rfl) rfl))) (by kernel_rfl) rfl
theorem tr14_10_o15 : StOk (regOf 10 cd14) tr14_10_15 #[true, true, true, true, true, true, false, true, false, true, true, false, false, false] 5 [13] := st_alt (br_alt (br_e tr14_10_o24 rfl (by kernel_rfl) rfl) (br_alt (br_e tr14_10_o26 rfl (by kernel_rfl) rfl) (br_e tr14_10_o28 rfl (by kernel_rfl) rfl))) (by kernel_rfl) rfl
theorem tr14_10_o14 : StOk (regOf 10 cd14) tr14_10_14 #[true, true, true, true, true, true, false, true, true, true, false, false, false, false] 5 [13] := st_alt (br_alt (br_e tr14_10_o23 rfl (by kernel_rfl) rfl) (br_alt (br_e tr14_10_o26 rfl (by kernel_rfl) rfl) (br_e tr14_10_o27 rfl (by kernel_rfl) rfl))) (by kernel_rfl) rfl
theorem tr14_10_o13 : StOk (regOf 10 cd14) tr14_10_13 #[true, true, true, true, true, true, true, true, false, true, false, false, false, false] 5 [13] := st_alt (br_alt (br_e tr14_10_o23 rfl (by kernel_rfl) rfl) (br_alt (br_e tr14_10_o24 rfl (by kernel_rfl) rfl) (br_e tr14_10_o25 rfl (by kernel_rfl) rfl))) (by kernel_rfl) rfl
theorem tr14_10_o12 : StOk (regOf 10 cd14) tr14_10_12 #[true, true, true, true, false, true, false, true, false, true, false, false, true, false] 6 [13] := st_alt (br_alt (br_e tr14_10_o16 rfl (by kernel_rfl) rfl) (br_alt (br_e tr14_10_o19 rfl (by kernel_rfl) rfl) (br_alt (br_e tr14_10_o21 rfl (by kernel_rfl) rfl) (br_e tr14_10_o22 rfl (by kernel_rfl) rfl)))) (by kernel_rfl) rfl
theorem tr14_10_o11 : StOk (regOf 10 cd14) tr14_10_11 #[true, true, true, true, false, true, false, true, false, true, true, false, false, false] 6 [13] := st_alt (br_alt (br_e tr14_10_o15 rfl (by kernel_rfl) rfl) (br_alt (br_e tr14_10_o18 rfl (by kernel_rfl) rfl) (br_alt (br_e tr14_10_o20 rfl (by kernel_rfl) rfl) (br_e tr14_10_o22 rfl (by kernel_rfl) rfl)))) (by kernel_rfl) rfl
theorem tr14_10_o10 : StOk (regOf 10 cd14) tr14_10_10 #[true, true, true, true, false, true, false, true, true, true, false, false, false, false] 6 [13] := st_alt (br_alt (br_e tr14_10_o14 rfl (by kernel_rfl) rfl) (br_alt (br_e tr14_10_o17 rfl (by kernel_rfl) rfl) (br_alt (br_e tr14_10_o20 rfl (by kernel_rfl) rfl) (br_e tr14_10_o21 rfl (by kernel_rfl) rfl)))) (by kernel_rfl) rfl
theorem tr14_10_o9 : StOk (regOf 10 cd14) tr14_10_9 #[true, true, true, true, false, true, true, true, false, true, false, false, false, false] 6 [13] := st_alt (br_alt (br_e tr14_10_o13 rfl (by kernel_rfl) rfl) (br_alt (br_e tr14_10_o17 rfl (by kernel_rfl) rfl) (br_alt (br_e tr14_10_o18 rfl (by kernel_rfl) rfl) (br_e tr14_10_o19 rfl (by kernel_rfl) rfl)))) (by kernel_rfl) rfl
theorem tr14_10_o8 : StOk (regOf 10 cd14) tr14_10_8 #[true, true, true, true, true, true, false, true, false, true, false, false, false, false] 6 [13] := st_alt (br_alt (br_e tr14_10_o13 rfl (by kernel_rfl) rfl) (br_alt (br_e tr14_10_o14 rfl (by kernel_rfl) rfl) (br_alt (br_e tr14_10_o15 rfl (by kernel_rfl) rfl) (br_e tr14_10_o16 rfl (by kernel_rfl) rfl)))) (by kernel_rfl) rfl
theorem tr14_10_o7 : StOk (regOf 10 cd14) tr14_10_7 #[true, true, true, true, false, true, false, true, false, true, false, false, false, false] 7 [13] := st_alt (br_alt (br_e tr14_10_o8 rfl (by kernel_rfl) rfl) (br_alt (br_e tr14_10_o9 rfl (by kernel_rfl) rfl) (br_alt (br_e tr14_10_o10 rfl (by kernel_rfl) rfl) (br_alt (br_e tr14_10_o11 rfl (by kernel_rfl) rfl) (br_e tr14_10_o12 rfl (by kernel_rfl) rfl))))) (by kernel_rfl) rfl
theorem tr14_10_o6 : StOk (regOf 10 cd14) tr14_10_6 #[true, true, true, true, false, true, false, true, false, false, false, false, false, false] 8 [13] := st_q tr14_10_o7 rfl (by kernel_rfl)
theorem tr14_10_o5 : StOk (regOf 10 cd14) tr14_10_5 #[true, true, true, true, false, true, false, false, false, false, false, false, false, false] 9 [13] := st_q tr14_10_o6 rfl (by kernel_rfl)
theorem tr14_10_o4 : StOk (regOf 10 cd14) tr14_10_4 #[true, true, true, true, false, false, false, false, false, false, false, false, false, false] 10 [13] := st_q tr14_10_o5 rfl (by kernel_rfl)
theorem tr14_10_o3 : StOk (regOf 10 cd14) tr14_10_3 #[true, true, true, false, false, false, false, false, false, false, false, false, false, false] 11 [13] := st_q tr14_10_o4 rfl (by kernel_rfl)
theorem tr14_10_o2 : StOk (regOf 10 cd14) tr14_10_2 #[true, true, false, false, false, false, false, false, false, false, false, false, false, false] 12 [13] := st_q tr14_10_o3 rfl (by kernel_rfl)
theorem tr14_10_o1 : StOk (regOf 10 cd14) tr14_10_1 #[true, false, false, false, false, false, false, false, false, false, false, false, false, false] 13 [13] := st_q tr14_10_o2 rfl (by kernel_rfl)
theorem tr14_10_o0 : StOk (regOf 10 cd14) tr14_10_0 #[false, false, false, false, false, false, false, false, false, false, false, false, false, false] 14 [13] := st_q tr14_10_o1 rfl (by kernel_rfl)
theorem cok14 : okFn Try.prog 14 cf14 = true := okFn_of [10] fn14 bd14 rfl (by kernel_rfl) (by simp only [List.forall_mem_cons]; exact ⟨⟨_, rfl, st_done (by kernel_rfl) tr14_10_o0 (by kernel_rfl) (by kernel_rfl)⟩, fun _ h => by cases h⟩)
theorem tr15_47_o49 : StOk (regOf 47 cd15) tr15_47_49 #[true, true, true, true, true, true, true, true, true, true, true, true, true, true, true, true] 0 [] := st_nil (by kernel_rfl)
theorem tr15_47_o48 : StOk (regOf 47 cd15) tr15_47_48 #[true, true, true, true, true, true, true, true, true, true, true, true, true, true, true, false] 1 [15] := st_e tr15_47_o49 rfl (by kernel_rfl) rfl
theorem tr15_47_o47 : StOk (regOf 47 cd15) tr15_47_47 #[true, true, true, true, true, true, true, true, true, true, true, true, true, true, false, false] 2 [15] := st_q tr15_47_o48 rfl (by kernel_rfl)
theorem tr15_47_o46 : StOk (regOf 47 cd15) tr15_47_46 #[true, true, true, true, true, true, true, false, true, true, true, true, true, true, false, false] 3 [15] := st_e tr15_47_o47 rfl (by kernel_rfl) rfl
theorem tr15_47_o45 : StOk (regOf 47 cd15) tr15_47_45 #[true, true, true, true, true, true, true, true, true, true, true, true, true, false, false, false] 3 [13] := st_e tr15_47_o47 rfl (by kernel_rfl) rfl
theorem tr15_47_o44 : StOk (regOf 47 cd15) tr15_47_44 #[true, true, true, true, true, true, true, false, true, true, true, true, true, false, false, false] 4 [13] := st_alt (br_alt (br_e tr15_47_o45 rfl (by kernel_rfl) rfl) (br_e tr15_47_o46 rfl (by kernel_rfl) rfl)) (by kernel_rfl) rfl
theorem tr15_47_o43 : StOk (regOf 47 cd15) tr15_47_43 #[true, true, true, true, true, true, true, true, true, true, true, true, false, false, false, false] 4 [13] := st_q tr15_47_o45 rfl (by kernel_rfl)
theorem tr15_47_o42 : StOk (regOf 47 cd15) tr15_47_42 #[true, true, true, true, true, false, true, true, true, true, true, true, false, false, false, false] 5 [13] := st_e tr15_47_o43 rfl (by kernel_rfl) rfl
theorem tr15_47_o41 : StOk (regOf 47 cd15) tr15_47_41 #[true, true, true, true, true, true, true, false, true, true, true, true, false, false, false, false] 5 [13] := st_q tr15_47_o44 rfl (by kernel_rfl)
theorem tr15_47_o40 : StOk (regOf 47 cd15) tr15_47_40 #[true, true, true, true, true, true, true, true, true, true, true, false, false, false, false, false] 5 [11] := st_e tr15_47_o43 rfl (by kernel_rfl) rfl
theorem tr15_47_o39 : StOk (regOf 47 cd15) tr15_47_39 #[true, true, true, true, true, false, true, false, true, true, true, true, false, false, false, false] 6 [13] := st_alt (br_alt (br_e tr15_47_o41 rfl (by kernel_rfl) rfl) (br_e tr15_47_o42 rfl (by kernel_rfl) rfl)) (by kernel_rfl) rfl
theorem tr15_47_o38 : StOk (regOf 47 cd15) tr15_47_38 #[true, true, true, true, true, false, true, true, true, true, true, false, false, false, false, false] 6 [11] := st_alt (br_alt (br_e tr15_47_o40 rfl (by kernel_rfl) rfl) (br_e tr15_47_o42 rfl (by kernel_rfl) rfl)) (by kernel_rfl) rfl
theorem tr15_47_o37 : StOk (regOf 47 cd15) tr15_47_37 #[true, true, true, true, true, true, true, false, true, true, true, false, false, false, false, false] 6 [11] := st_alt (br_alt (br_e tr15_47_o40 rfl (by kernel_rfl) rfl) (br_e tr15_47_o41 rfl (by kernel_rfl) rfl)) (by kernel_rfl) rfl
theorem tr15_47_o36 : StOk (regOf 47 cd15) tr15_47_36 #[true, true, true, true, true, true, true, true, true, true, false, false, false, false, false, false] 6 [11] := st_q tr15_47_o40 rfl (by kernel_rfl)
theorem tr15_47_o35 : StOk (regOf 47 cd15) tr15_47_35 #[true, true, true, false, true, true, true, true, true, true, false, false, false, false, false, false] 7 [11] := st_e tr15_47_o36 rfl (by kernel_rfl) rfl
theorem tr15_47_o34 : StOk (regOf 47 cd15) tr15_47_34 #[true, true, true, true, true, false, true, false, true, true, true, false, false, false, false, false] 7 [11] := st_alt (br_alt (br_e tr15_47_o37 rfl (by kernel_rfl) rfl) (br_alt (br_e tr15_47_o38 rfl (by kernel_rfl) rfl) (br_e tr15_47_o39 rfl (by kernel_rfl) rfl))) (by kernel_rfl) rfl
theorem tr15_47_o33 : StOk (regOf 47 cd15) tr15_47_33 #[true, true, true, true, true, false, true, true, true, true, false, false, false, false, false, false] 7 [11] := st_q tr15_47_o38 rfl (by kernel_rfl)
theorem tr15_47_o32 : StOk (regOf 47 cd15) tr15_47_32 #[true, true, true, true, true, true, true, false, true, true, false, false, false, false, false, false] 7 [11] := st_q tr15_47_o37 rfl (by kernel_rfl)
theorem tr15_47_o31 : StOk (regOf 47 cd15) tr15_47_31 #[true, true, true, true, true, true, true, true, true, false, false, false, false, false, false, false] 7 [9] := st_e tr15_47_o36 rfl (by kernel_rfl) rfl
theorem tr15_47_o30 : StOk (regOf 47 cd15) tr15_47_30 #[true, true, true, false, true, false, true, true, true, true, false, false, false, false, false, false] 8 [11] := st_alt (br_alt (br_e tr15_47_o33 rfl (by kernel_rfl) rfl) (br_e tr15_47_o35 rfl (by kernel_rfl) rfl)) (by kernel_rfl) rfl
theorem tr15_47_o29 : StOk (regOf 47 cd15) tr15_47_29 #[true, true, true, false, true, true, true, false, true, true, false, false, false, false, false, false] 8 [11] := st_alt (br_alt (br_e tr15_47_o32 rfl (by kernel_rfl) rfl) (br_e tr15_47_o35 rfl (by kernel_rfl) rfl)) (by kernel_rfl) rfl
theorem tr15_47_o28 : StOk (regOf 47 cd15) tr15_47_28 #[true, true, true, false, true, true, true, true, true, false, false, false, false, false, false, false] 8 [9] := st_alt (br_alt (br_e tr15_47_o31 rfl (by kernel_rfl) rfl) (br_e tr15_47_o35 rfl (by kernel_rfl) rfl)) (by kernel_rfl) rfl
theorem tr15_47_o27 : StOk (regOf 47 cd15) tr15_47_27 #[true, true, true, true, true, false, true, false, true, true, false, false, false, false, false, false] 8 [11] := st_q tr15_47_o34 rfl (by kernel_rfl)
theorem tr15_47_o26 : StOk (regOf 47 cd15) tr15_47_26 #[true, true, true, true, true, false, true, true, true, false, false, false, false, false, false, false] 8 [9] := st_alt (br_alt (br_e tr15_47_o31 rfl (by kernel_rfl) rfl) (br_e tr15_47_o33 rfl (by kernel_rfl) rfl)) (by kernel_rfl) rfl
theorem tr15_47_o25 : StOk (regOf 47 cd15) tr15_47_25 #[true, true, true, true, true, true, true, false, true, false, false, false, false, false, false, false] 8 [9] := st_alt (br_alt (br_e tr15_47_o31 rfl (by kernel_rfl) rfl) (br_e tr15_47_o32 rfl (by kernel_rfl) rfl)) (by kernel_rfl) rfl
theorem tr15_47_o24 : StOk (regOf 47 cd15) tr15_47_24 #[true, true, true, true, true, true, true, true, false, false, false, false, false, false, false, false] 8 [9] := st_q tr15_47_o31 rfl (by kernel_rfl)
theorem tr15_47_o23 : StOk (regOf 47 cd15) tr15_47_23 #[true, false, true, true, true, true, true, true, false, false, false, false, false, false, false, false] 9 [9] := st_e tr15_47_o24 rfl (by kernel_rfl) rfl
theorem tr15_47_o22 : StOk (regOf 47 cd15) tr15_47_22 #[true, true, true, false, true, false, true, false, true, true, false, false, false, false, false, false] 9 [11] := st_alt (br_alt (br_e tr15_47_o27 rfl (by kernel_rfl) rfl) (br_alt (br_e tr15_47_o29 rfl (by kernel_rfl) rfl) (br_e tr15_47_o30 rfl (by kernel_rfl) rfl))) (by kernel_rfl) rfl
theorem tr15_47_o21 : StOk (regOf 47 cd15) tr15_47_21 #[true, true, true, false, true, false, true, true, true, false, false, false, false, false, false, false] 9 [9] := st_alt (br_alt (br_e tr15_47_o26 rfl (by kernel_rfl) rfl) (br_alt (br_e tr15_47_o28 rfl (by kernel_rfl) rfl) (br_e tr15_47_o30 rfl (by kernel_rfl) rfl))) (by kernel_rfl) rfl
theorem tr15_47_o20 : StOk (regOf 47 cd15) tr15_47_20 #[true, true, true, false, true, true, true, false, true, false, false, false, false, false, false, false] 9 [9] := st_alt (br_alt (br_e tr15_47_o25 rfl (by kernel_rfl) rfl) (br_alt (br_e tr15_47_o28 rfl (by kernel_rfl) rfl) (br_e tr15_47_o29 rfl (by kernel_rfl) rfl))) (by kernel_rfl) rfl
theorem tr15_47_o19 : StOk (regOf 47 cd15) tr15_47_19 #[true, true, true, false, true, true, true, true, false, false, false, false, false, false, false, false] 9 [9] := st_q tr15_47_o28 rfl (by kernel_rfl)
theorem tr15_47_o18 : StOk (regOf 47 cd15) tr15_47_18 #[true, true, true, true, true, false, true, false, true, false, false, false, false, false, false, false] 9 [9] := st_alt (br_alt (br_e tr15_47_o25 rfl (by kernel_rfl) rfl) (br_alt (br_e tr15_47_o26 rfl (by kernel_rfl) rfl) (br_e tr15_47_o27 rfl (by kernel_rfl) rfl))) (by kernel_rfl) rfl
theorem tr15_47_o17 : StOk (regOf 47 cd15) tr15_47_17 #[true, true, true, true, true, false, true, true, false, false, false, false, false, false, false, false] 9 [9] := st_q tr15_47_o26 rfl (by kernel_rfl)
theorem tr15_47_o16 : StOk (regOf 47 cd15) tr15_47_16 #[true, true, true, true, true, true, true, false, false, false, false, false, false, false, false, false] 9 [9] := st_q tr15_47_o25 rfl (by kernel_rfl)
theorem tr15_47_o15 : StOk (regOf 47 cd15) tr15_47_15 #[true, false, true, false, true, true, true, true, false, false, false, false, false, false, false, false] 10 [9] := st_alt (br_alt (br_e tr15_47_o19 rfl (by kernel_rfl) rfl) (br_e tr15_47_o23 rfl (by kernel_rfl) rfl)) (by kernel_rfl) rfl
theorem tr15_47_o14 : StOk (regOf 47 cd15) tr15_47_14 #[true, false, true, true, true, false, true, true, false, false, false, false, false, false, false, false] 10 [9] := st_alt (br_alt (br_e tr15_47_o17 rfl (by kernel_rfl) rfl) (br_e tr15_47_o23 rfl (by kernel_rfl) rfl)) (by kernel_rfl) rfl
theorem tr15_47_o13 : StOk (regOf 47 cd15) tr15_47_13 #[true, false, true, true, true, true, true, false, false, false, false, false, false, false, false, false] 10 [9] := st_alt (br_alt (br_e tr15_47_o16 rfl (by kernel_rfl) rfl) (br_e tr15_47_o23 rfl (by kernel_rfl) rfl)) (by kernel_rfl) rfl
theorem tr15_47_o12 : StOk (regOf 47 cd15) tr15_47_12 #[true, true, true, false, true, false, true, false, true, false, false, false, false, false, false, false] 10 [9] := st_alt (br_alt (br_e tr15_47_o18 rfl (by kernel_rfl) rfl) (br_alt (br_e tr15_47_o20 rfl (by kernel_rfl) rfl) (br_alt (br_e tr15_47_o21 rfl (by kernel_rfl) rfl) (br_e tr15_47_o22 rfl (by kernel_rfl) rfl)))) (by kernel_rfl) rfl
theorem tr15_47_o11 : StOk (regOf 47 cd15) tr15_47_11 #[true, true, true, false, true, false, true, true, false, false, false, false, false, false, false, false] 10 [9] := st_q tr15_47_o21 rfl (by kernel_rfl)
theorem tr15_47_o10 : StOk (regOf 47 cd15) tr15_47_10 #[true, true, true, false, true, true, true, false, false, false, false, false, false, false, false, false] 10 [9] := st_q tr15_47_o20 rfl (by kernel_rfl)
theorem tr15_47_o9 : StOk (regOf 47 cd15) tr15_47_9 #[true, true, true, true, true, false, true, false, false, false, false, false, false, false, false, false] 10 [9] := st_q tr15_47_o18 rfl (by kernel_rfl)
theorem tr15_47_o8 : StOk (regOf 47 cd15) tr15_47_8 #[true, false, true, false, true, false, true, true, false, false, false, false, false, false, false, false] 11 [9] := st_alt (br_alt (br_e tr15_47_o11 rfl (by kernel_rfl) rfl) (br_alt (br_e tr15_47_o14 rfl (by kernel_rfl) rfl) (br_e tr15_47_o15 rfl (by kernel_rfl) rfl))) (by kernel_rfl) rfl
theorem tr15_47_o7 : StOk (regOf 47 cd15) tr15_47_7 #[true, false, true, false, true, true, true, false, false, false, false, false, false, false, false, false] 11 [9] := st_alt (br_alt (br_e tr15_47_o10 rfl (by kernel_rfl) rfl) (br_alt (br_e tr15_47_o13 rfl (by kernel_rfl) rfl) (br_e tr15_47_o15 rfl (by kernel_rfl) rfl))) (by kernel_rfl) rfl
theorem tr15_47_o6 : StOk (regOf 47 cd15) tr15_47_6 #[true, false, true, true, true, false, true, false, false, false, false, false, false, false, false, false] 11 [9] := st_alt (br_alt (br_e tr15_47_o9 rfl (by kernel_rfl) rfl) (br_alt (br_e tr15_47_o13 rfl (by kernel_rfl) rfl) (br_e tr15_47_o14 rfl (by kernel_rfl) rfl))) (by kernel_rfl) rfl
theorem tr15_47_o5 : StOk (regOf 47 cd15) tr15_47_5 #[true, true, true, false, true, false, true, false, false, false, false, false, false, false, false, false] 11 [9] := st_q tr15_47_o12 rfl (by kernel_rfl)
theorem tr15_47_o4 : StOk (regOf 47 cd15) tr15_47_4 #[true, false, true, false, true, false, true, false, false, false, false, false, false, false, false, false] 12 [9] := st_alt (br_alt (br_e tr15_47_o5 rfl (by kernel_rfl) rfl) (br_alt (br_e tr15_47_o6 rfl (by kernel_rfl) rfl) (br_alt (br_e tr15_47_o7 rfl (by kernel_rfl) rfl) (br_e tr15_47_o8 rfl (by kernel_rfl) rfl)))) (by kernel_rfl) rfl
theorem tr15_47_o3 : StOk (regOf 47 cd15) tr15_47_3 #[true, false, true, false, true, false, false, false, false, false, false, false, false, false, false, false] 13 [9] := st_q tr15_47_o4 rfl (by kernel_rfl)
theorem tr15_47_o2 : StOk (regOf 47 cd15) tr15_47_2 #[true, false, true, false, false, false, false, false, false, false, false, false, false, false, false, false] 14 [9] := st_q tr15_47_o3 rfl (by kernel_rfl)
theorem tr15_47_o1 : StOk (regOf 47 cd15) tr15_47_1 #[true, false, false, false, false, false, false, false, false, false, false, false, false, false, false, false] 15 [9] := st_q tr15_47_o2 rfl (by kernel_rfl)
theorem tr15_47_o0 : StOk (regOf 47 cd15) tr15_47_0 #[false, false, false, false, false, false, false, false, false, false, false, false, false, false, false, false] 16 [9] := st_q tr15_47_o1 rfl (by kernel_rfl)
theorem tr15_77_o24 : StOk (regOf 77 cd15) tr15_77_24 #[true, true, true, true, true, true, true, true, true, true, true, true, true] 0 [] := st_nil (by kernel_rfl)
theorem tr15_77_o23 : StOk (regOf 77 cd15) tr15_77_23 #[true, true, true, true, true, true, true, true, true, true, true, true, false] 1 [12] := st_e tr15_77_o24 rfl (by kernel_rfl) rfl
theorem tr15_77_o22 : StOk (regOf 77 cd15) tr15_77_22 #[true, true, true, true, true, true, true, true, true, true, true, false, false] 2 [12] := st_q tr15_77_o23 rfl (by kernel_rfl)
theorem tr15_77_o21 : StOk (regOf 77 cd15) tr15_77_21 #[true, false, true, true, true, true, true, true, true, true, true, false, false] 3 [1] := st_e tr15_77_o22 rfl (by kernel_rfl) rfl
theorem tr15_77_o20 : StOk (regOf 77 cd15) tr15_77_20 #[true, true, true, true, true, true, true, true, true, true, false, false, false] 3 [10] := st_e tr15_77_o22 rfl (by kernel_rfl) rfl
theorem tr15_77_o19 : StOk (regOf 77 cd15) tr15_77_19 #[true, false, true, true, true, true, true, true, true, true, false, false, false] 4 [1, 10] := st_alt (br_alt (br_e tr15_77_o20 rfl (by kernel_rfl) rfl) (br_e tr15_77_o21 rfl (by kernel_rfl) rfl)) (by kernel_rfl) rfl
theorem tr15_77_o18 : StOk (regOf 77 cd15) tr15_77_18 #[true, true, true, true, true, true, true, false, true, true, false, false, false] 4 [7] := st_e tr15_77_o20 rfl (by kernel_rfl) rfl
theorem tr15_77_o17 : StOk (regOf 77 cd15) tr15_77_17 #[true, true, true, true, true, true, true, true, true, false, false, false, false] 4 [10] := st_e tr15_77_o20 rfl (by kernel_rfl) rfl
theorem tr15_77_o16 : StOk (regOf 77 cd15) tr15_77_16 #[true, false, true, true, true, true, true, false, true, true, false, false, false] 5 [1, 7] := st_alt (br_alt (br_e tr15_77_o18 rfl (by kernel_rfl) rfl) (br_e tr15_77_o19 rfl (by kernel_rfl) rfl)) (by kernel_rfl) rfl
theorem tr15_77_o15 : StOk (regOf 77 cd15) tr15_77_15 #[true, false, true, true, true, true, true, true, true, false, false, false, false] 5 [1, 10] := st_alt (br_alt (br_e tr15_77_o17 rfl (by kernel_rfl) rfl) (br_e tr15_77_o19 rfl (by kernel_rfl) rfl)) (by kernel_rfl) rfl
theorem tr15_77_o14 : StOk (regOf 77 cd15) tr15_77_14 #[true, true, true, true, true, true, false, false, true, true, false, false, false] 5 [7] := st_q tr15_77_o18 rfl (by kernel_rfl)
theorem tr15_77_o13 : StOk (regOf 77 cd15) tr15_77_13 #[true, true, true, true, true, true, true, false, true, false, false, false, false] 5 [7] := st_alt (br_alt (br_e tr15_77_o17 rfl (by kernel_rfl) rfl) (br_e tr15_77_o18 rfl (by kernel_rfl) rfl)) (by kernel_rfl) rfl
theorem tr15_77_o12 : StOk (regOf 77 cd15) tr15_77_12 #[true, false, true, true, true, true, false, false, true, true, false, false, false] 6 [1, 7] := st_q tr15_77_o16 rfl (by kernel_rfl)
theorem tr15_77_o11 : StOk (regOf 77 cd15) tr15_77_11 #[true, false, true, true, true, true, true, false, true, false, false, false, false] 6 [1, 7] := st_alt (br_alt (br_e tr15_77_o13 rfl (by kernel_rfl) rfl) (br_alt (br_e tr15_77_o15 rfl (by kernel_rfl) rfl) (br_e tr15_77_o16 rfl (by kernel_rfl) rfl))) (by kernel_rfl) rfl
theorem tr15_77_o10 : StOk (regOf 77 cd15) tr15_77_10 #[true, true, true, true, false, true, false, false, true, true, false, false, false] 6 [4] := st_e tr15_77_o14 rfl (by kernel_rfl) rfl
theorem tr15_77_o9 : StOk (regOf 77 cd15) tr15_77_9 #[true, true, true, true, true, true, false, false, true, false, false, false, false] 6 [7] := st_q tr15_77_o13 rfl (by kernel_rfl)
theorem tr15_77_o8 : StOk (regOf 77 cd15) tr15_77_8 #[true, false, true, true, false, true, false, false, true, true, false, false, false] 7 [1, 4] := st_alt (br_alt (br_e tr15_77_o10 rfl (by kernel_rfl) rfl) (br_e tr15_77_o12 rfl (by kernel_rfl) rfl)) (by kernel_rfl) rfl
theorem tr15_77_o7 : StOk (regOf 77 cd15) tr15_77_7 #[true, false, true, true, true, true, false, false, true, false, false, false, false] 7 [1, 7] := st_q tr15_77_o11 rfl (by kernel_rfl)
theorem tr15_77_o6 : StOk (regOf 77 cd15) tr15_77_6 #[true, true, true, true, false, true, false, false, true, false, false, false, false] 7 [4] := st_alt (br_alt (br_e tr15_77_o9 rfl (by kernel_rfl) rfl) (br_e tr15_77_o10 rfl (by kernel_rfl) rfl)) (by kernel_rfl) rfl
theorem tr15_77_o5 : StOk (regOf 77 cd15) tr15_77_5 #[true, false, true, true, false, true, false, false, true, false, false, false, false] 8 [1, 4] := st_alt (br_alt (br_e tr15_77_o6 rfl (by kernel_rfl) rfl) (br_alt (br_e tr15_77_o7 rfl (by kernel_rfl) rfl) (br_e tr15_77_o8 rfl (by kernel_rfl) rfl))) (by kernel_rfl) rfl
theorem tr15_77_o4 : StOk (regOf 77 cd15) tr15_77_4 #[true, false, true, true, false, true, false, false, false, false, false, false, false] 9 [1, 4] := st_q tr15_77_o5 rfl (by kernel_rfl)
theorem tr15_77_o3 : StOk (regOf 77 cd15) tr15_77_3 #[true, false, true, true, false, false, false, false, false, false, false, false, false] 10 [1, 4] := st_q tr15_77_o4 rfl (by kernel_rfl)
theorem tr15_77_o2 : StOk (regOf 77 cd15) tr15_77_2 #[true, false, true, false, false, false, false, false, false, false, false, false, false] 11 [1, 4] := st_q tr15_77_o3 rfl (by kernel_rfl)
theorem tr15_77_o1 : StOk (regOf 77 cd15) tr15_77_1 #[true, false, false, false, false, false, false, false, false, false, false, false, false] 12 [1, 4] := st_q tr15_77_o2 rfl (by kernel_rfl)
theorem tr15_77_o0 : StOk (regOf 77 cd15) tr15_77_0 #[false, false, false, false, false, false, false, false, false, false, false, false, false] 13 [1, 4] := st_q tr15_77_o1 rfl (by kernel_rfl)
theorem cok15 : okFn Try.prog 15 cf15 = true := okFn_of [47, 77] fn15 bd15 rfl (by kernel_rfl) (by simp only [List.forall_mem_cons]; exact ⟨⟨_, rfl, st_done (by kernel_rfl) tr15_47_o0 (by kernel_rfl) (by kernel_rfl)⟩, ⟨_, rfl, st_done (by kernel_rfl) tr15_77_o0 (by kernel_rfl) (by kernel_rfl)⟩, fun _ h => by cases h⟩)
theorem cok16 : okFn Try.prog 16 cf16 = true := by kernel_rfl
theorem cok17 : okFn Try.prog 17 cf17 = true := by kernel_rfl
theorem cok18 : okFn Try.prog 18 cf18 = true := by kernel_rfl
theorem cok19 : okFn Try.prog 19 cf19 = true := by kernel_rfl
theorem cok20 : okFn Try.prog 20 cf20 = true := by kernel_rfl
theorem cok21 : okFn Try.prog 21 cf21 = true := by kernel_rfl
theorem cok22 : okFn Try.prog 22 cf22 = true := by kernel_rfl
theorem cok23 : okFn Try.prog 23 cf23 = true := by kernel_rfl
theorem cok24 : okFn Try.prog 24 cf24 = true := by kernel_rfl
theorem cok25 : okFn Try.prog 25 cf25 = true := by kernel_rfl
theorem cok26 : okFn Try.prog 26 cf26 = true := by kernel_rfl
theorem cok27 : okFn Try.prog 27 cf27 = true := by kernel_rfl
theorem cok28 : okFn Try.prog 28 cf28 = true := by kernel_rfl
theorem cok29 : okFn Try.prog 29 cf29 = true := by kernel_rfl
theorem cok30 : okFn Try.prog 30 cf30 = true := by kernel_rfl
theorem cok31 : okFn Try.prog 31 cf31 = true := by kernel_rfl
theorem tr32_7_o64 : StOk (regOf 7 cd32) tr32_7_64 #[true, true, true, true, true, true, true, true, true, true, true, true, true, true, true, true, true] 0 [] := st_nil (by kernel_rfl)
theorem tr32_7_o63 : StOk (regOf 7 cd32) tr32_7_63 #[true, true, true, true, true, true, true, true, true, true, true, true, true, true, true, true, false] 1 [16] := st_e tr32_7_o64 rfl (by kernel_rfl) rfl
theorem tr32_7_o62 : StOk (regOf 7 cd32) tr32_7_62 #[true, true, true, true, true, true, true, true, true, true, true, true, true, true, true, false, false] 2 [16] := st_q tr32_7_o63 rfl (by kernel_rfl)
theorem tr32_7_o61 : StOk (regOf 7 cd32) tr32_7_61 #[true, true, true, true, true, true, true, true, true, true, true, true, true, true, false, false, false] 3 [14] := st_e tr32_7_o62 rfl (by kernel_rfl) rfl
theorem tr32_7_o60 : StOk (regOf 7 cd32) tr32_7_60 #[true, true, true, true, true, true, true, true, true, true, true, true, false, true, false, false, false] 4 [12] := st_e tr32_7_o61 rfl (by kernel_rfl) rfl
theorem tr32_7_o59 : StOk (regOf 7 cd32) tr32_7_59 #[true, true, true, true, true, true, true, true, true, true, true, false, false, true, false, false, false] 5 [12] := st_e tr32_7_o60 rfl (by kernel_rfl) rfl
theorem tr32_7_o58 : StOk (regOf 7 cd32) tr32_7_58 #[true, true, true, true, true, true, true, true, true, true, true, true, false, false, false, false, false] 5 [12] := st_q tr32_7_o60 rfl (by kernel_rfl)
theorem tr32_7_o57 : StOk (regOf 7 cd32) tr32_7_57 #[true, true, true, true, true, true, false, true, true, true, true, true, false, false, false, false, false] 6 [6] := st_e tr32_7_o58 rfl (by kernel_rfl) rfl
theorem tr32_7_o56 : StOk (regOf 7 cd32) tr32_7_56 #[true, true, true, true, true, true, true, true, false, true, true, true, false, false, false, false, false] 6 [8] := st_e tr32_7_o58 rfl (by kernel_rfl) rfl
theorem tr32_7_o55 : StOk (regOf 7 cd32) tr32_7_55 #[true, true, true, true, true, true, true, true, true, true, false, false, false, true, false, false, false] 6 [12] := st_e tr32_7_o59 rfl (by kernel_rfl) rfl
theorem tr32_7_o54 : StOk (regOf 7 cd32) tr32_7_54 #[true, true, true, true, true, true, true, true, true, true, true, false, false, false, false, false, false] 6 [12] := st_q tr32_7_o59 rfl (by kernel_rfl)
theorem tr32_7_o53 : StOk (regOf 7 cd32) tr32_7_53 #[true, false, true, true, true, true, false, true, true, true, true, true, false, false, false, false, false] 7 [1] := st_e tr32_7_o57 rfl (by kernel_rfl) rfl
theorem tr32_7_o52 : StOk (regOf 7 cd32) tr32_7_52 #[true, true, true, true, true, false, false, true, true, true, true, true, false, false, false, false, false] 7 [6] := st_e tr32_7_o57 rfl (by kernel_rfl) rfl
theorem tr32_7_o51 : StOk (regOf 7 cd32) tr32_7_51 #[true, true, true, true, true, true, false, true, false, true, true, true, false, false, false, false, false] 7 [6, 8] := st_alt (br_alt (br_e tr32_7_o56 rfl (by kernel_rfl) rfl) (br_e tr32_7_o57 rfl (by kernel_rfl) rfl)) (by kernel_rfl) rfl
theorem tr32_7_o50 : StOk (regOf 7 cd32) tr32_7_50 #[true, true, true, true, true, true, false, true, true, true, true, false, false, false, false, false, false] 7 [6] := st_alt (br_alt (br_e tr32_7_o54 rfl (by kernel_rfl) rfl) (br_e tr32_7_o57 rfl (by kernel_rfl) rfl)) (by kernel_rfl) rfl
theorem tr32_7_o49 : StOk (regOf 7 cd32) tr32_7_49 #[true, true, true, true, true, true, true, true, false, true, true, false, false, false, false, false, false] 7 [8] := st_alt (br_alt (br_e tr32_7_o54 rfl (by kernel_rfl) rfl) (br_e tr32_7_o56 rfl (by kernel_rfl) rfl)) (by kernel_rfl) rfl
theorem tr32_7_o48 : StOk (regOf 7 cd32) tr32_7_48 #[true, true, true, true, true, true, true, true, true, true, false, false, false, false, false, false, false] 7 [12] := st_q tr32_7_o55 rfl (by kernel_rfl)
theorem tr32_7_o47 : StOk (regOf 7 cd32) tr32_7_47 #[true, false, true, true, true, false, false, true, true, true, true, true, false, false, false, false, false] 8 [1] := st_alt (br_alt (br_e tr32_7_o52 rfl (by kernel_rfl) rfl) (br_e tr32_7_o53 rfl (by kernel_rfl) rfl)) (by kernel_rfl) rfl
theorem tr32_7_o46 : StOk (regOf 7 cd32) tr32_7_46 #[true, false, true, true, true, true, false, true, false, true, true, true, false, false, false, false, false] 8 [1, 8] := st_alt (br_alt (br_e tr32_7_o51 rfl (by kernel_rfl) rfl) (br_e tr32_7_o53 rfl (by kernel_rfl) rfl)) (by kernel_rfl) rfl
theorem tr32_7_o45 : StOk (regOf 7 cd32) tr32_7_45 #[true, false, true, true, true, true, false, true, true, true, true, false, false, false, false, false, false] 8 [1] := st_alt (br_alt (br_e tr32_7_o50 rfl (by kernel_rfl) rfl) (br_e tr32_7_o53 rfl (by kernel_rfl) rfl)) (by kernel_rfl) rfl
theorem tr32_7_o44 : StOk (regOf 7 cd32) tr32_7_44 #[true, true, true, true, false, false, false, true, true, true, true, true, false, false, false, false, false] 8 [6] := st_q tr32_7_o52 rfl (by kernel_rfl)
theorem tr32_7_o43 : StOk (regOf 7 cd32) tr32_7_43 #[true, true, true, true, true, false, false, true, false, true, true, true, false, false, false, false, false] 8 [6, 8] := st_alt (br_alt (br_e tr32_7_o51 rfl (by kernel_rfl) rfl) (br_e tr32_7_o52 rfl (by kernel_rfl) rfl)) (by kernel_rfl) rfl
theorem tr32_7_o42 : StOk (regOf 7 cd32) tr32_7_42 #[true, true, true, true, true, false, false, true, true, true, true, false, false, false, false, false, false] 8 [6] := st_alt (br_alt (br_e tr32_7_o50 rfl (by kernel_rfl) rfl) (br_e tr32_7_o52 rfl (by kernel_rfl) rfl)) (by kernel_rfl) rfl
theorem tr32_7_o41 : StOk (regOf 7 cd32) tr32_7_41 #[true, true, true, true, true, true, false, true, false, true, true, false, false, false, false, false, false] 8 [6, 8] := st_alt (br_alt (br_e tr32_7_o49 rfl (by kernel_rfl) rfl) (br_alt (br_e tr32_7_o50 rfl (by kernel_rfl) rfl) (br_e tr32_7_o51 rfl (by kernel_rfl) rfl))) (by kernel_rfl) rfl
theorem tr32_7_o40 : StOk (regOf 7 cd32) tr32_7_40 #[true, true, true, true, true, true, false, true, true, true, false, false, false, false, false, false, false] 8 [6] := st_alt (br_alt (br_e tr32_7_o48 rfl (by kernel_rfl) rfl) (br_e tr32_7_o50 rfl (by kernel_rfl) rfl)) (by kernel_rfl) rfl
theorem tr32_7_o39 : StOk (regOf 7 cd32) tr32_7_39 #[true, true, true, true, true, true, true, true, false, true, false, false, false, false, false, false, false] 8 [8] := st_alt (br_alt (br_e tr32_7_o48 rfl (by kernel_rfl) rfl) (br_e tr32_7_o49 rfl (by kernel_rfl) rfl)) (by kernel_rfl) rfl
theorem tr32_7_o38 : StOk (regOf 7 cd32) tr32_7_38 #[true, false, true, true, false, false, false, true, true, true, true, true, false, false, false, false, false] 9 [1] := st_q tr32_7_o47 rfl (by kernel_rfl)
theorem tr32_7_o37 : StOk (regOf 7 cd32) tr32_7_37 #[true, false, true, true, true, false, false, true, false, true, true, true, false, false, false, false, false] 9 [1, 8] := st_alt (br_alt (br_e tr32_7_o43 rfl (by kernel_rfl) rfl) (br_alt (br_e tr32_7_o46 rfl (by kernel_rfl) rfl) (br_e tr32_7_o47 rfl (by kernel_rfl) rfl))) (by kernel_rfl) rfl
theorem tr32_7_o36 : StOk (regOf 7 cd32) tr32_7_36 #[true, false, true, true, true, false, false, true, true, true, true, false, false, false, false, false, false] 9 [1] := st_alt (br_alt (br_e tr32_7_o42 rfl (by kernel_rfl) rfl) (br_alt (br_e tr32_7_o45 rfl (by kernel_rfl) rfl) (br_e tr32_7_o47 rfl (by kernel_rfl) rfl))) (by kernel_rfl) rfl
theorem tr32_7_o35 : StOk (regOf 7 cd32) tr32_7_35 #[true, false, true, true, true, true, false, true, false, true, true, false, false, false, false, false, false] 9 [1, 8] := st_alt (br_alt (br_e tr32_7_o41 rfl (by kernel_rfl) rfl) (br_alt (br_e tr32_7_o45 rfl (by kernel_rfl) rfl) (br_e tr32_7_o46 rfl (by kernel_rfl) rfl))) (by kernel_rfl) rfl
theorem tr32_7_o34 : StOk (regOf 7 cd32) tr32_7_34 #[true, false, true, true, true, true, false, true, true, true, false, false, false, false, false, false, false] 9 [1] := st_alt (br_alt (br_e tr32_7_o40 rfl (by kernel_rfl) rfl) (br_e tr32_7_o45 rfl (by kernel_rfl) rfl)) (by kernel_rfl) rfl
theorem tr32_7_o33 : StOk (regOf 7 cd32) tr32_7_33 #[true, true, true, false, false, false, false, true, true, true, true, true, false, false, false, false, false] 9 [6] := st_e tr32_7_o44 rfl (by kernel_rfl) rfl
theorem tr32_7_o32 : StOk (regOf 7 cd32) tr32_7_32 #[true, true, true, true, false, false, false, true, false, true, true, true, false, false, false, false, false] 9 [6, 8] := st_q tr32_7_o43 rfl (by kernel_rfl)
theorem tr32_7_o31 : StOk (regOf 7 cd32) tr32_7_31 #[true, true, true, true, false, false, false, true, true, true, true, false, false, false, false, false, false] 9 [6] := st_q tr32_7_o42 rfl (by kernel_rfl)
theorem tr32_7_o30 : StOk (regOf 7 cd32) tr32_7_30 #[true, true, true, true, true, false, false, true, false, true, true, false, false, false, false, false, false] 9 [6, 8] := st_alt (br_alt (br_e tr32_7_o41 rfl (by kernel_rfl) rfl) (br_alt (br_e tr32_7_o42 rfl (by kernel_rfl) rfl) (br_e tr32_7_o43 rfl (by kernel_rfl) rfl))) (by kernel_rfl) rfl
theorem tr32_7_o29 : StOk (regOf 7 cd32) tr32_7_29 #[true, true, true, true, true, false, false, true, true, true, false, false, false, false, false, false, false] 9 [6] := st_alt (br_alt (br_e tr32_7_o40 rfl (by kernel_rfl) rfl) (br_e tr32_7_o42 rfl (by kernel_rfl) rfl)) (by kernel_rfl) rfl
theorem tr32_7_o28 : StOk (regOf 7 cd32) tr32_7_28 #[true, true, true, true, true, true, false, true, false, true, false, false, false, false, false, false, false] 9 [6, 8] := st_alt (br_alt (br_e tr32_7_o39 rfl (by kernel_rfl) rfl) (br_alt (br_e tr32_7_o40 rfl (by kernel_rfl) rfl) (br_e tr32_7_o41 rfl (by kernel_rfl) rfl))) (by kernel_rfl) rfl
theorem tr32_7_o27 : StOk (regOf 7 cd32) tr32_7_27 #[true, false, true, false, false, false, false, true, true, true, true, true, false, false, false, false, false] 10 [1] := st_alt (br_alt (br_e tr32_7_o33 rfl (by kernel_rfl) rfl) (br_e tr32_7_o38 rfl (by kernel_rfl) rfl)) (by kernel_rfl) rfl
theorem tr32_7_o26 : StOk (regOf 7 cd32) tr32_7_26 #[true, false, true, true, false, false, false, true, false, true, true, true, false, false, false, false, false] 10 [1, 8] := st_q tr32_7_o37 rfl (by kernel_rfl)
theorem tr32_7_o25 : StOk (regOf 7 cd32) tr32_7_25 #[true, false, true, true, false, false, false, true, true, true, true, false, false, false, false, false, false] 10 [1] := st_q tr32_7_o36 rfl (by kernel_rfl)
theorem tr32_7_o24 : StOk (regOf 7 cd32) tr32_7_24 #[true, false, true, true, true, false, false, true, false, true, true, false, false, false, false, false, false] 10 [1, 8] := st_alt (br_alt (br_e tr32_7_o30 rfl (by kernel_rfl) rfl) (br_alt (br_e tr32_7_o35 rfl (by kernel_rfl) rfl) (br_alt (br_e tr32_7_o36 rfl (by kernel_rfl) rfl) (br_e tr32_7_o37 rfl (by kernel_rfl) rfl)))) (by kernel_rfl) rfl
theorem tr32_7_o23 : StOk (regOf 7 cd32) tr32_7_23 #[true, false, true, true, true, false, false, true, true, true, false, false, false, false, false, false, false] 10 [1] := st_alt (br_alt (br_e tr32_7_o29 rfl (by kernel_rfl) rfl) (br_alt (br_e tr32_7_o34 rfl (by kernel_rfl) rfl) (br_e tr32_7_o36 rfl (by kernel_rfl) rfl))) (by kernel_rfl) rfl
theorem tr32_7_o22 : StOk (regOf 7 cd32) tr32_7_22 #[true, false, true, true, true, true, false, true, false, true, false, false, false, false, false, false, false] 10 [1, 8] := st_alt (br_alt (br_e tr32_7_o28 rfl (by kernel_rfl) rfl) (br_alt (br_e tr32_7_o34 rfl (by kernel_rfl) rfl) (br_e tr32_7_o35 rfl (by kernel_rfl) rfl))) (by kernel_rfl) rfl
theorem tr32_7_o21 : StOk (regOf 7 cd32) tr32_7_21 #[true, true, true, false, false, false, false, true, false, true, true, true, false, false, false, false, false] 10 [6, 8] := st_alt (br_alt (br_e tr32_7_o32 rfl (by kernel_rfl) rfl) (br_e tr32_7_o33 rfl (by kernel_rfl) rfl)) (by kernel_rfl) rfl
theorem tr32_7_o20 : StOk (regOf 7 cd32) tr32_7_20 #[true, true, true, false, false, false, false, true, true, true, true, false, false, false, false, false, false] 10 [6] := st_alt (br_alt (br_e tr32_7_o31 rfl (by kernel_rfl) rfl) (br_e tr32_7_o33 rfl (by kernel_rfl) rfl)) (by kernel_rfl) rfl
theorem tr32_7_o19 : StOk (regOf 7 cd32) tr32_7_19 #[true, true, true, true, false, false, false, true, false, true, true, false, false, false, false, false, false] 10 [6, 8] := st_q tr32_7_o30 rfl (by kernel_rfl)
theorem tr32_7_o18 : StOk (regOf 7 cd32) tr32_7_18 #[true, true, true, true, false, false, false, true, true, true, false, false, false, false, false, false, false] 10 [6] := st_q tr32_7_o29 rfl (by kernel_rfl)
theorem tr32_7_o17 : StOk (regOf 7 cd32) tr32_7_17 #[true, true, true, true, true, false, false, true, false, true, false, false, false, false, false, false, false] 10 [6, 8] := st_alt (br_alt (br_e tr32_7_o28 rfl (by kernel_rfl) rfl) (br_alt (br_e tr32_7_o29 rfl (by kernel_rfl) rfl) (br_e tr32_7_o30 rfl (by kernel_rfl) rfl))) (by kernel_rfl) rfl
theorem tr32_7_o16 : StOk (regOf 7 cd32) tr32_7_16 #[true, false, true, false, false, false, false, true, false, true, true, true, false, false, false, false, false] 11 [1, 8] := st_alt (br_alt (br_e tr32_7_o21 rfl (by kernel_rfl) rfl) (br_alt (br_e tr32_7_o26 rfl (by kernel_rfl) rfl) (br_e tr32_7_o27 rfl (by kernel_rfl) rfl))) (by kernel_rfl) rfl
theorem tr32_7_o15 : StOk (regOf 7 cd32) tr32_7_15 #[true, false, true, false, false, false, false, true, true, true, true, false, false, false, false, false, false] 11 [1] := st_alt (br_alt (br_e tr32_7_o20 rfl (by kernel_rfl) rfl) (br_alt (br_e tr32_7_o25 rfl (by kernel_rfl) rfl) (br_e tr32_7_o27 rfl (by kernel_rfl) rfl))) (by kernel_rfl) rfl
theorem tr32_7_o14 : StOk (regOf 7 cd32) tr32_7_14 #[true, false, true, true, false, false, false, true, false, true, true, false, false, false, false, false, false] 11 [1, 8] := st_q tr32_7_o24 rfl (by kernel_rfl)
theorem tr32_7_o13 : StOk (regOf 7 cd32) tr32_7_13 #[true, false, true, true, false, false, false, true, true, true, false, false, false, false, false, false, false] 11 [1] := st_q tr32_7_o23 rfl (by kernel_rfl)
theorem tr32_7_o12 : StOk (regOf 7 cd32) tr32_7_12 #[true, false, true, true, true, false, false, true, false, true, false, false, false, false, false, false, false] 11 [1, 8] := st_alt (br_alt (br_e tr32_7_o17 rfl (by kernel_rfl) rfl) (br_alt (br_e tr32_7_o22 rfl (by kernel_rfl) rfl) (br_alt (br_e tr32_7_o23 rfl (by kernel_rfl) rfl) (br_e tr32_7_o24 rfl (by kernel_rfl) rfl)))) (by kernel_rfl) rfl
theorem tr32_7_o11 : StOk (regOf 7 cd32) tr32_7_11 #[true, true, true, false, false, false, false, true, false, true, true, false, false, false, false, false, false] 11 [6, 8] := st_alt (br_alt (br_e tr32_7_o19 rfl (by kernel_rfl) rfl) (br_alt (br_e tr32_7_o20 rfl (by kernel_rfl) rfl) (br_e tr32_7_o21 rfl (by kernel_rfl) rfl))) (by kernel_rfl) rfl
theorem tr32_7_o10 : StOk (regOf 7 cd32) tr32_7_10 #[true, true, true, false, false, false, false, true, true, true, false, false, false, false, false, false, false] 11 [6] := st_alt (br_alt (br_e tr32_7_o18 rfl (by kernel_rfl) rfl) (br_e tr32_7_o20 rfl (by kernel_rfl) rfl)) (by kernel_rfl) rfl
theorem tr32_7_o9 : StOk (regOf 7 cd32) tr32_7_9 #[true, true, true, true, false, false, false, true, false, true, false, false, false, false, false, false, false] 11 [6, 8] := st_q tr32_7_o17 rfl (by kernel_rfl)
theorem tr32_7_o8 : StOk (regOf 7 cd32) tr32_7_8 #[true, false, true, false, false, false, false, true, false, true, true, false, false, false, false, false, false] 12 [1, 8] := st_alt (br_alt (br_e tr32_7_o11 rfl (by kernel_rfl) rfl) (br_alt (br_e tr32_7_o14 rfl (by kernel_rfl) rfl) (br_alt (br_e tr32_7_o15 rfl (by kernel_rfl) rfl) (br_e tr32_7_o16 rfl (by kernel_rfl) rfl)))) (by kernel_rfl) rfl
theorem tr32_7_o7 : StOk (regOf 7 cd32) tr32_7_7 #[true, false, true, false, false, false, false, true, true, true, false, false, false, false, false, false, false] 12 [1] := st_alt (br_alt (br_e tr32_7_o10 rfl (by kernel_rfl) rfl) (br_alt (br_e tr32_7_o13 rfl (by kernel_rfl) rfl) (br_e tr32_7_o15 rfl (by kernel_rfl) rfl))) (by kernel_rfl) rfl
theorem tr32_7_o6 : StOk (regOf 7 cd32) tr32_7_6 #[true, false, true, true, false, false, false, true, false, true, false, false, false, false, false, false, false] 12 [1, 8] := st_q tr32_7_o12 rfl (by kernel_rfl)
theorem tr32_7_o5 : StOk (regOf 7 cd32) tr32_7_5 #[true, true, true, false, false, false, false, true, false, true, false, false, false, false, false, false, false] 12 [6, 8] := st_alt (br_alt (br_e tr32_7_o9 rfl (by kernel_rfl) rfl) (br_alt (br_e tr32_7_o10 rfl (by kernel_rfl) rfl) (br_e tr32_7_o11 rfl (by kernel_rfl) rfl))) (by kernel_rfl) rfl
theorem tr32_7_o4 : StOk (regOf 7 cd32) tr32_7_4 #[true, false, true, false, false, false, false, true, false, true, false, false, false, false, false, false, false] 13 [1, 8] := st_alt (br_alt (br_e tr32_7_o5 rfl (by kernel_rfl) rfl) (br_alt (br_e tr32_7_o6 rfl (by kernel_rfl) rfl) (br_alt (br_e tr32_7_o7 rfl (by kernel_rfl) rfl) (br_e tr32_7_o8 rfl (by kernel_rfl) rfl)))) (by kernel_rfl) rfl
theorem tr32_7_o3 : StOk (regOf 7 cd32) tr32_7_3 #[true, false, true, false, false, false, false, true, false, false, false, false, false, false, false, false, false] 14 [1, 8] := st_q tr32_7_o4 rfl (by kernel_rfl)
theorem tr32_7_o2 : StOk (regOf 7 cd32) tr32_7_2 #[true, false, true, false, false, false, false, false, false, false, false, false, false, false, false, false, false] 15 [1, 8] := st_q tr32_7_o3 rfl (by kernel_rfl)
theorem tr32_7_o1 : StOk (regOf 7 cd32) tr32_7_1 #[true, false, false, false, false, false, false, false, false, false, false, false, false, false, false, false, false] 16 [1, 8] := st_q tr32_7_o2 rfl (by kernel_rfl)
theorem tr32_7_o0 : StOk (regOf 7 cd32) tr32_7_0 #[false, false, false, false, false, false, false, false, false, false, false, false, false, false, false, false, false] 17 [1, 8] := st_q tr32_7_o1 rfl (by kernel_rfl)
theorem cok32 : okFn Try.prog 32 cf32 = true := okFn_of [7] fn32 bd32 rfl (by kernel_rfl) (by simp only [List.forall_mem_cons]; exact ⟨⟨_, rfl, st_done (by kernel_rfl) tr32_7_o0 (by kernel_rfl) (by kernel_rfl)⟩, fun _ h => by cases h⟩)
theorem cok33 : okFn Try.prog 33 cf33 = true := by kernel_rfl
theorem cok34 : okFn Try.prog 34 cf34 = true := by kernel_rfl
theorem cok35 : okFn Try.prog 35 cf35 = true := by kernel_rfl
theorem cok36 : okFn Try.prog 36 cf36 = true := by kernel_rfl
theorem cok37 : okFn Try.prog 37 cf37 = true := by kernel_rfl
theorem cok38 : okFn Try.prog 38 cf38 = true := by kernel_rfl
theorem cok39 : okFn Try.prog 39 cf39 = true := by kernel_rfl
theorem cok40 : okFn Try.prog 40 cf40 = true := by kernel_rfl
theorem cok41 : okFn Try.prog 41 cf41 = true := by kernel_rfl
theorem cok42 : okFn Try.prog 42 cf42 = true := by kernel_rfl
theorem cok43 : okFn Try.prog 43 cf43 = true := by kernel_rfl
theorem cok44 : okFn Try.prog 44 cf44 = true := by kernel_rfl
theorem cok45 : okFn Try.prog 45 cf45 = true := by kernel_rfl
theorem cok46 : okFn Try.prog 46 cf46 = true := by kernel_rfl
theorem cok47 : okFn Try.prog 47 cf47 = true := by kernel_rfl
theorem cok48 : okFn Try.prog 48 cf48 = true := by kernel_rfl
theorem cok49 : okFn Try.prog 49 cf49 = true := by kernel_rfl
theorem cok50 : okFn Try.prog 50 cf50 = true := by kernel_rfl
theorem cok51 : okFn Try.prog 51 cf51 = true := by kernel_rfl
theorem cok52 : okFn Try.prog 52 cf52 = true := by kernel_rfl
theorem cok53 : okFn Try.prog 53 cf53 = true := by kernel_rfl
theorem cok54 : okFn Try.prog 54 cf54 = true := by kernel_rfl
theorem cok55 : okFn Try.prog 55 cf55 = true := by kernel_rfl
theorem cok56 : okFn Try.prog 56 cf56 = true := by kernel_rfl
theorem cok57 : okFn Try.prog 57 cf57 = true := by kernel_rfl
theorem cok58 : okFn Try.prog 58 cf58 = true := by kernel_rfl
theorem cok59 : okFn Try.prog 59 cf59 = true := by kernel_rfl
theorem cok60 : okFn Try.prog 60 cf60 = true := by kernel_rfl
theorem cok61 : okFn Try.prog 61 cf61 = true := by kernel_rfl
theorem cok62 : okFn Try.prog 62 cf62 = true := by kernel_rfl
theorem cok63 : okFn Try.prog 63 cf63 = true := by kernel_rfl
theorem cok65 : okFn Try.prog 65 cf65 = true := by kernel_rfl
theorem cok66 : okFn Try.prog 66 cf66 = true := by kernel_rfl
theorem cok67 : okFn Try.prog 67 cf67 = true := by kernel_rfl
theorem cok68 : okFn Try.prog 68 cf68 = true := by kernel_rfl
theorem cok69 : okFn Try.prog 69 cf69 = true := by kernel_rfl
theorem cok70 : okFn Try.prog 70 cf70 = true := by kernel_rfl
theorem cok71 : okFn Try.prog 71 cf71 = true := by kernel_rfl
theorem cok72 : okFn Try.prog 72 cf72 = true := by kernel_rfl
theorem cok73 : okFn Try.prog 73 cf73 = true := by kernel_rfl
theorem cok74 : okFn Try.prog 74 cf74 = true := by kernel_rfl
theorem cok76 : okFn Try.prog 76 cf76 = true := by kernel_rfl
theorem cok77 : okFn Try.prog 77 cf77 = true := by kernel_rfl
theorem cok78 : okFn Try.prog 78 cf78 = true := by kernel_rfl
theorem cok79 : okFn Try.prog 79 cf79 = true := by kernel_rfl
theorem cok80 : okFn Try.prog 80 cf80 = true := by kernel_rfl
theorem cok88 : okFn Try.prog 88 cf88 = true := by kernel_rfl
theorem cok89 : okFn Try.prog 89 cf89 = true := by kernel_rfl
theorem cok90 : okFn Try.prog 90 cf90 = true := by kernel_rfl
theorem cok91 : okFn Try.prog 91 cf91 = true := by kernel_rfl
theorem cok92 : okFn Try.prog 92 cf92 = true := by kernel_rfl
theorem cok98 : okFn Try.prog 98 cf98 = true := by kernel_rfl
theorem cok100 : okFn Try.prog 100 cf100 = true := by kernel_rfl
theorem if_ok {p : Prop} [Decidable p] {a c : Cfg} {r : Option Cfg} {G : Prop} (h : (if p then some a else r) = some c) (h1 : p → a = c → G) (h2 : r = some c → G) : G := by
  split at h
  · rename_i hp; exact h1 hp (Option.some.inj h)
  · exact h2 h
theorem cfOk : ∀ f c, cfAll f = some c → okFn Try.prog f c = true := by
  intro f c h
  unfold cfAll at h
  refine if_ok h (fun e h => by rw [e, ← h]; exact cok3) fun h => ?_
  refine if_ok h (fun e h => by rw [e, ← h]; exact cok4) fun h => ?_
  refine if_ok h (fun e h => by rw [e, ← h]; exact cok5) fun h => ?_
  refine if_ok h (fun e h => by rw [e, ← h]; exact cok6) fun h => ?_
  refine if_ok h (fun e h => by rw [e, ← h]; exact cok8) fun h => ?_
  refine if_ok h (fun e h => by rw [e, ← h]; exact cok9) fun h => ?_
  refine if_ok h (fun e h => by rw [e, ← h]; exact cok10) fun h => ?_
  refine if_ok h (fun e h => by rw [e, ← h]; exact cok11) fun h => ?_
  refine if_ok h (fun e h => by rw [e, ← h]; exact cok12) fun h => ?_
  refine if_ok h (fun e h => by rw [e, ← h]; exact cok13) fun h => ?_
  refine if_ok h (fun e h => by rw [e, ← h]; exact cok14) fun h => ?_
  refine if_ok h (fun e h => by rw [e, ← h]; exact cok15) fun h => ?_
  refine if_ok h (fun e h => by rw [e, ← h]; exact cok16) fun h => ?_
  refine if_ok h (fun e h => by rw [e, ← h]; exact cok17) fun h => ?_
  refine if_ok h (fun e h => by rw [e, ← h]; exact cok18) fun h => ?_
  refine if_ok h (fun e h => by rw [e, ← h]; exact cok19) fun h => ?_
  refine if_ok h (fun e h => by rw [e, ← h]; exact cok20) fun h => ?_
  refine if_ok h (fun e h => by rw [e, ← h]; exact cok21) fun h => ?_
  refine if_ok h (fun e h => by rw [e, ← h]; exact cok22) fun h => ?_
  refine if_ok h (fun e h => by rw [e, ← h]; exact cok23) fun h => ?_
  refine if_ok h (fun e h => by rw [e, ← h]; exact cok24) fun h => ?_
  refine if_ok h (fun e h => by rw [e, ← h]; exact cok25) fun h => ?_
  refine if_ok h (fun e h => by rw [e, ← h]; exact cok26) fun h => ?_
  refine if_ok h (fun e h => by rw [e, ← h]; exact cok27) fun h => ?_
  refine if_ok h (fun e h => by rw [e, ← h]; exact cok28) fun h => ?_
  refine if_ok h (fun e h => by rw [e, ← h]; exact cok29) fun h => ?_
  refine if_ok h (fun e h => by rw [e, ← h]; exact cok30) fun h => ?_
  refine if_ok h (fun e h => by rw [e, ← h]; exact cok31) fun h => ?_
  refine if_ok h (fun e h => by rw [e, ← h]; exact cok32) fun h => ?_
  refine if_ok h (fun e h => by rw [e, ← h]; exact cok33) fun h => ?_
  refine if_ok h (fun e h => by rw [e, ← h]; exact cok34) fun h => ?_
  refine if_ok h (fun e h => by rw [e, ← h]; exact cok35) fun h => ?_
  refine if_ok h (fun e h => by rw [e, ← h]; exact cok36) fun h => ?_
  refine if_ok h (fun e h => by rw [e, ← h]; exact cok37) fun h => ?_
  refine if_ok h (fun e h => by rw [e, ← h]; exact cok38) fun h => ?_
  refine if_ok h (fun e h => by rw [e, ← h]; exact cok39) fun h => ?_
  refine if_ok h (fun e h => by rw [e, ← h]; exact cok40) fun h => ?_
  refine if_ok h (fun e h => by rw [e, ← h]; exact cok41) fun h => ?_
  refine if_ok h (fun e h => by rw [e, ← h]; exact cok42) fun h => ?_
  refine if_ok h (fun e h => by rw [e, ← h]; exact cok43) fun h => ?_
  refine if_ok h (fun e h => by rw [e, ← h]; exact cok44) fun h => ?_
  refine if_ok h (fun e h => by rw [e, ← h]; exact cok45) fun h => ?_
  refine if_ok h (fun e h => by rw [e, ← h]; exact cok46) fun h => ?_
  refine if_ok h (fun e h => by rw [e, ← h]; exact cok47) fun h => ?_
  refine if_ok h (fun e h => by rw [e, ← h]; exact cok48) fun h => ?_
  refine if_ok h (fun e h => by rw [e, ← h]; exact cok49) fun h => ?_
  refine if_ok h (fun e h => by rw [e, ← h]; exact cok50) fun h => ?_
  refine if_ok h (fun e h => by rw [e, ← h]; exact cok51) fun h => ?_
  refine if_ok h (fun e h => by rw [e, ← h]; exact cok52) fun h => ?_
  refine if_ok h (fun e h => by rw [e, ← h]; exact cok53) fun h => ?_
  refine if_ok h (fun e h => by rw [e, ← h]; exact cok54) fun h => ?_
  refine if_ok h (fun e h => by rw [e, ← h]; exact cok55) fun h => ?_
  refine if_ok h (fun e h => by rw [e, ← h]; exact cok56) fun h => ?_
  refine if_ok h (fun e h => by rw [e, ← h]; exact cok57) fun h => ?_
  refine if_ok h (fun e h => by rw [e, ← h]; exact cok58) fun h => ?_
  refine if_ok h (fun e h => by rw [e, ← h]; exact cok59) fun h => ?_
  refine if_ok h (fun e h => by rw [e, ← h]; exact cok60) fun h => ?_
  refine if_ok h (fun e h => by rw [e, ← h]; exact cok61) fun h => ?_
  refine if_ok h (fun e h => by rw [e, ← h]; exact cok62) fun h => ?_
  refine if_ok h (fun e h => by rw [e, ← h]; exact cok63) fun h => ?_
  refine if_ok h (fun e h => by rw [e, ← h]; exact cok65) fun h => ?_
  refine if_ok h (fun e h => by rw [e, ← h]; exact cok66) fun h => ?_
  refine if_ok h (fun e h => by rw [e, ← h]; exact cok67) fun h => ?_
  refine if_ok h (fun e h => by rw [e, ← h]; exact cok68) fun h => ?_
  refine if_ok h (fun e h => by rw [e, ← h]; exact cok69) fun h => ?_
  refine if_ok h (fun e h => by rw [e, ← h]; exact cok70) fun h => ?_
  refine if_ok h (fun e h => by rw [e, ← h]; exact cok71) fun h => ?_
  refine if_ok h (fun e h => by rw [e, ← h]; exact cok72) fun h => ?_
  refine if_ok h (fun e h => by rw [e, ← h]; exact cok73) fun h => ?_
  refine if_ok h (fun e h => by rw [e, ← h]; exact cok74) fun h => ?_
  refine if_ok h (fun e h => by rw [e, ← h]; exact cok76) fun h => ?_
  refine if_ok h (fun e h => by rw [e, ← h]; exact cok77) fun h => ?_
  refine if_ok h (fun e h => by rw [e, ← h]; exact cok78) fun h => ?_
  refine if_ok h (fun e h => by rw [e, ← h]; exact cok79) fun h => ?_
  refine if_ok h (fun e h => by rw [e, ← h]; exact cok80) fun h => ?_
  refine if_ok h (fun e h => by rw [e, ← h]; exact cok88) fun h => ?_
  refine if_ok h (fun e h => by rw [e, ← h]; exact cok89) fun h => ?_
  refine if_ok h (fun e h => by rw [e, ← h]; exact cok90) fun h => ?_
  refine if_ok h (fun e h => by rw [e, ← h]; exact cok91) fun h => ?_
  refine if_ok h (fun e h => by rw [e, ← h]; exact cok92) fun h => ?_
  refine if_ok h (fun e h => by rw [e, ← h]; exact cok98) fun h => ?_
  refine if_ok h (fun e h => by rw [e, ← h]; exact cok100) fun h => ?_
  cases h
end Go.Proofs.Ytbnnipkanechoaa
end
section
/- What was read before a call that keeps all old blocks is read behind it. Over any program. -/
namespace Go.Proofs.Ytbnnipkanechoaa
set_option linter.unusedVariables false
set_option linter.unusedSimpArgs false
open Go.RowKit

/-- A type none of whose parts is a slice of elements without cells. -/
def flatT (P : Program) : Nat → TypeId → Bool
  | 0, _ => false
  | m + 1, t =>
    match P.underlying t with
    | some (.slice e) => P.cellsOf e != 0 && flatT P m e
    | some (.pointer e) => flatT P m e
    | some (.struct fs) => fs.toList.all fun f => flatT P m f.type
    | some (.array _ e) => flatT P m e
    | some (.map _ e) => flatT P m e
    | _ => true

section
variable {H : Type} {enc : TypeId × Value → H} {P : Program} {w : World} {base : Nat}

theorem trodStep_spare {m : Nat} {r r' : TypeId → List Value → Option (DataW H × List MemPlace)}
    (hr : ∀ t cs x, flatT P m t = true → r t cs = some x → r' t cs = some x) {t : TypeId} {cs : List Value} {x : DataW H × List MemPlace} (hf : flatT P (m + 1) t = true)
    (h : DataW.trodStep enc P w base (fun _ => true) true r t cs = some x) : DataW.trodStep enc P w base (fun b => decide (b < w.heap.size)) true r' t cs = some x := by
  unfold DataW.trodStep at h ⊢
  unfold flatT at hf
  split at h
  case h_1 => exact h
  case h_2 => exact h
  case h_3 => exact h
  case h_4 => exact h
  case h_5 => exact h
  case h_6 e a hu =>
    rw [hu] at hf
    simp only [Option.map_eq_some_iff, Option.bind_eq_some_iff] at h ⊢
    obtain ⟨y, ⟨cs', hc, hy⟩, rfl⟩ := h
    exact ⟨y, ⟨cs', hc, hr _ _ _ hf hy⟩, rfl⟩
  case h_7 => exact h
  case h_8 e a len cap hu =>
    rw [hu] at hf
    simp only [Bool.and_eq_true, bne_iff_ne, ne_eq] at hf
    obtain ⟨hcell, hfe⟩ := hf
    simp only at h ⊢
    split at h
    · rename_i hc
      rw [if_pos hc]
      simp only [Option.map_eq_some_iff, Option.bind_eq_some_iff, if_true] at h ⊢
      obtain ⟨elems, he, rest, hrest, rfl⟩ := h
      have one : ∀ (i : Nat) (y : DataW H × List MemPlace), (w.cells? base (a.add (i * P.cellsOf e)) (P.cellsOf e)).bind (r e) = some y → (w.cells? base (a.add (i * P.cellsOf e)) (P.cellsOf e)).bind (r' e) = some y := by
        intro i y hv
        simp only [Option.bind_eq_some_iff] at hv ⊢
        obtain ⟨cs', hc', hy'⟩ := hv
        exact ⟨cs', hc', hr _ _ _ hfe hy'⟩
      refine ⟨elems, mapM_carry he (fun i y _ _ hy => one i y hy), rest, ?_, rfl⟩
      by_cases hb : a.block < w.heap.size
      · rw [if_pos (by simpa using hb)]
        exact mapM_carry hrest (fun j y _ _ hy => one (len + j) y hy)
      · rw [if_neg (by simpa using hb)]
        have hz : cap - len = 0 := by
          rcases Nat.eq_zero_or_pos (cap - len) with h0 | h0
          · exact h0
          · exfalso
            have hl : rest.length = cap - len := by simpa using mapM_some_length hrest
            have h1 := mapM_some_get hrest 0 0 (by simp [h0])
            obtain ⟨y, hy⟩ : ∃ y, rest[0]? = some y := ⟨rest[0], List.getElem?_eq_getElem (by omega)⟩
            rw [hy] at h1
            simp only [Option.bind_eq_some_iff] at h1
            obtain ⟨cs', hc', _⟩ := h1
            have h2 := World.cells?_block hc' (by omega)
            have h3 : (a.add ((len + 0) * P.cellsOf e)).block = a.block := by unfold Addr.add; split <;> rfl
            omega
        rw [hz] at hrest
        simpa using hrest
    · cases h
  case h_9 fs _ hu =>
    rw [hu] at hf
    split at h
    · rename_i hc
      rw [if_pos hc]
      simp only [Option.map_eq_some_iff] at h ⊢
      obtain ⟨xs, hx, rfl⟩ := h
      exact ⟨xs, mapM_carry hx (fun f y hin _ hv => hr _ _ _ (List.all_eq_true.1 hf f hin) hv), rfl⟩
    · cases h
  case h_10 n e _ hu =>
    rw [hu] at hf
    split at h
    · rename_i hc
      rw [if_pos hc]
      simp only [Option.map_eq_some_iff] at h ⊢
      obtain ⟨xs, hx, rfl⟩ := h
      exact ⟨xs, mapM_carry hx (fun f y _ _ hv => hr _ _ _ hf hv), rfl⟩
    · cases h
  case h_11 => exact h
  case h_12 => exact h
  case h_13 => exact h
  case h_14 k e b hu =>
    rw [hu] at hf
    split at h
    · rename_i es clock hb
      split at h
      · rename_i hc
        simp only [Option.bind_eq_some_iff] at h
        obtain ⟨entries, he, hd⟩ := h
        split at hd
        · rename_i hris
          have hx := Option.some.inj hd
          subst hx
          simp only [if_pos hc, Option.bind_eq_some_iff]
          refine ⟨entries, mapM_carry he (fun x y _ hy hv => ?_), by simp [hris]⟩
          simp only [Option.bind_eq_some_iff] at hv ⊢
          obtain ⟨key, hk, hz⟩ := hv
          refine ⟨key, hk, ?_⟩
          split at hz
          · rename_i hfm
            rw [if_pos hfm]
            simp only [Option.map_eq_some_iff] at hz ⊢
            obtain ⟨q, hq, rfl⟩ := hz
            exact ⟨q, hr _ _ _ hf hq, rfl⟩
          · cases hz
        · cases hd
      · cases h
    · cases h
  case h_15 => exact h
  case h_16 => exact h
  case h_17 => exact h
  case h_18 => exact h
  case h_19 => exact h
  case h_20 => exact h
  case h_21 => cases h

theorem trod_spare : ∀ (n m : Nat) (t : TypeId) (cs : List Value) (x : DataW H × List MemPlace), flatT P m t = true →
    DataW.trod enc P w base (fun _ => true) true n t cs = some x → DataW.trod enc P w base (fun b => decide (b < w.heap.size)) true n t cs = some x := by
  intro n
  induction n with
  | zero => intro m t cs x _ h; simp [DataW.trod] at h
  | succ n ih =>
    intro m t cs x hf h
    cases m with
    | zero => simp [flatT] at hf
    | succ m =>
      rw [DataW.trod_step] at h ⊢
      exact trodStep_spare (m := m) (fun t cs x hf hx => ih m t cs x hf hx) hf h

theorem sameAt_below {w' : World} (hb : Below w.heap.size w w') {p : MemPlace} (hp : p.block < w.heap.size) : w.sameAt w' p := by
  cases p with
  | cell b off => exact hb.cell (p := ⟨b, off, none⟩) hp
  | map b => exact hb.block b hp

theorem trodAll_below {w' : World} (m : Nat) (hb : Below w.heap.size w w') : ∀ {ts : List TypeId} {vs : List Value} {ds : List (DataW H)} {ps : List MemPlace}, (ts.all (flatT P m)) = true →
    DataW.TrodAll enc P w 0 (fun _ => true) true ts vs ds ps → DataW.TrodAll enc P w' 0 (fun b => decide (b < w.heap.size)) true ts vs ds ps
  | [], [], [], ps, _, h => h
  | t :: ts, v :: vs, d :: ds, ps, hf, ⟨p, q, ⟨n, h1⟩, h2, e⟩ => by
    simp only [List.all_cons, Bool.and_eq_true] at hf
    have h3 := trod_spare n m t _ _ hf.1 h1
    exact ⟨p, q, ⟨n, DataW.trod_carry n _ _ _ h3 (fun z hz => sameAt_below hb (DataW.trod_lt n _ _ _ h3 z hz))⟩, trodAll_below m hb hf.2 h2, e⟩
  | [], _ :: _, _, _, _, h => by cases h
  | [], [], _ :: _, _, _, h => by cases h
  | _ :: _, [], _, _, _, h => by cases h
  | _ :: _, _ :: _, [], _, _, h => by cases h
end

section
variable {H : Type} {enc : TypeId × Value → H} {P : Program} {w : World} {r : Reach} {b0 : Nat}
open Go.ChangeShapes Go.WideShapes
open Go.Deep (open_bools)

/-- What the first n cells of a slice hold. -/
def CellsAt (w : World) (n : Nat) (ga : Option Addr) (F : Nat → Value) : Prop := ∀ j, j < n → ∃ a, ga = some a ∧ w.cell? (a.add j) = some (F j) ∧ a.block < w.heap.size

theorem add_block (a : Addr) (j : Nat) : (a.add j).block = a.block := by unfold Addr.add; split <;> rfl

theorem open_boolS {t e : TypeId} {v : Value} {d : DataW H} {ps : List MemPlace} (ht : P.underlying t = some (.slice e)) (he : P.underlying e = some .bool) (hc : P.cellsOf e = 1)
    (hval : Value.okWide P w r b0 t v) (hd : DataW.Trod enc P w 0 (fun _ => true) true t v d ps) :
    ∃ ga n cap, ∃ B : Nat → Bool, v = .slice ga n cap ∧ n ≤ maxLen ∧ CellsAt w n ga (fun j => .bool (B j)) := by
  obtain ⟨ga, n, cap, rfl⟩ := okWide_slice ht hval
  obtain ⟨fuel, hf⟩ := hd
  rcases open_bools ht he hc hf with ⟨hcs, _⟩ | ⟨a, len', cap', B, hcs, _, hl, hm, _, hcell⟩
  · simp [Value.cells] at hcs
    obtain ⟨rfl, rfl, rfl⟩ := hcs
    exact ⟨_, _, _, fun _ => false, rfl, by decide, fun j hj => by omega⟩
  · simp [Value.cells] at hcs
    obtain ⟨rfl, rfl, rfl⟩ := hcs
    exact ⟨_, _, _, B, rfl, by omega, fun j hj => ⟨a, rfl, hcell j (by omega), by have := World.block_lt_of_cell? w _ (hcell j (by omega)); rwa [add_block] at this⟩⟩

theorem open_intS {t e : TypeId} {v : Value} {d : DataW H} {ps : List MemPlace} (ht : P.underlying t = some (.slice e)) (he : P.underlying e = some (.int .i64)) (hc : P.cellsOf e = 1)
    (hval : Value.okWide P w r b0 t v) (hd : DataW.Trod enc P w 0 (fun _ => true) true t v d ps) :
    ∃ ga n cap, ∃ B : List Int, v = .slice ga n cap ∧ n ≤ maxLen ∧ (B.length = n ∧ CellsAt w n ga (fun j => .int .i64 (B.getD j 0)) ∧ ∀ x ∈ B, (Lit.int .i64 x).wf = true) := by
  obtain ⟨ga, n, cap, rfl⟩ := okWide_slice ht hval
  obtain ⟨fuel, hf⟩ := hd
  rcases open_ints ht he hc hf with ⟨hcs, _⟩ | ⟨a, len', cap', zs, hcs, _, hl, hm, hz, _, hcell, hwz⟩
  · simp [Value.cells] at hcs
    obtain ⟨rfl, rfl, rfl⟩ := hcs
    exact ⟨_, _, _, [], rfl, by decide, rfl, fun j hj => by omega, fun x hx => by cases hx⟩
  · simp [Value.cells] at hcs
    obtain ⟨rfl, rfl, rfl⟩ := hcs
    simp only [if_true] at hz
    refine ⟨_, _, _, zs.take n, rfl, by omega, by simp; omega, fun j hj => ⟨a, rfl, ?_, by have := World.block_lt_of_cell? w _ (hcell j (by omega)); rwa [add_block] at this⟩, fun x hx => hwz x (List.mem_of_mem_take hx)⟩
    rw [hcell j (by omega)]
    simp [List.getD, List.getElem?_take_of_lt hj]
end
end Go.Proofs.Ytbnnipkanechoaa
end
section
/- From a law's run on trees to its call: every block of before is laid for good. Over any program. -/
namespace Go.Proofs.Ytbnnipkanechoaa
open Go.ChangeShapes Go.WideShapes Go.RowKit
set_option linter.unusedVariables false
set_option linter.unusedSimpArgs false

/-- Nothing of what was there before is the call's. -/
def KZ : Nat → Color := fun _ => []

theorem lift_true {P : Program} {Xc : Contract} {cf : FuncId → Option Cfg} {f : FuncId} {args : List T} {outs : List T} (hX : Sound P (fun _ _ => True) Xc) (hm : P.follows .mixedOrders = true) (hf : ∀ f c, cf f = some c → okFn P f c = true)
    (h : Lim P Xc cf f args = some (.sc (.bool true), outs)) (hio : args.all (fun t => !isIo t) = true) (W : World) (vals : Array Value) (hs : vals.size = args.length)
    (ha : ∀ i t, args[i]? = some t → TRep W KZ [] (vals.getD i undef) t) : Calls P f vals W fun e W' => e = .returned (.bool true) ∧ Below W.heap.size W W' := by
  have hc := lim_ok (I := fun _ _ => True) EnvS.none hX hm hf h
  refine (hc.calls W KZ vals hs (fun i t hi => ?_) trivial).mono fun e W' ⟨v, K', he, hv, _, hst⟩ => ?_
  · have h1 := List.all_eq_true.1 hio t (List.mem_of_getElem? hi)
    unfold ArgRep
    rw [if_neg (by simpa using h1)]
    exact ha i t hi
  · generalize hT : T.sc (.bool true) = t at hv
    cases hv with
    | sc c v hb => cases hT; exact ⟨he, hst.os, hst.tape, hst.output, hst.size, fun b hb => (hst.old b hb (.inl rfl)).2⟩
    | _ => cases hT

section
variable {H : Type} {enc : TypeId × Value → H} {P : Program} {w : World} {r : Reach} {b0 : Nat}
/-- A slice of integers reads as a tree. -/
theorem open_intT {t e : TypeId} {v : Value} {d : DataW H} {ps : List MemPlace} (ht : P.underlying t = some (.slice e)) (he : P.underlying e = some (.int .i64)) (hc : P.cellsOf e = 1)
    (hval : Value.okWide P w r b0 t v) (hd : DataW.Trod enc P w 0 (fun _ => true) true t v d ps) :
    ∃ xs : List Int, TRep w KZ [] v (.sl xs.length (xs.map fun x => .sc (.int .i64 x))) ∧ xs.length ≤ maxLen ∧ ∀ x ∈ xs, (Lit.int .i64 x).wf = true := by
  obtain ⟨ga, n, cap, rfl⟩ := okWide_slice ht hval
  obtain ⟨fuel, hf⟩ := hd
  rcases open_ints ht he hc hf with ⟨hcs, _⟩ | ⟨a, len', cap', zs, hcs, _, hl, hm, hz, _, hcell, hwz⟩
  · simp [Value.cells] at hcs
    obtain ⟨rfl, rfl, rfl⟩ := hcs
    exact ⟨[], .emp _ _ _ (by decide), by decide, fun x hx => by cases hx⟩
  · simp [Value.cells] at hcs
    obtain ⟨rfl, rfl, rfl⟩ := hcs
    simp only [if_true] at hz
    refine ⟨zs.take n, ?_, by simp; omega, fun x hx => hwz x (List.mem_of_mem_take hx)⟩
    have hln : (zs.take n).length = n := by simp; omega
    rw [hln]
    by_cases h0 : n = 0
    · subst h0
      simp only [List.take_zero, List.map_nil]
      exact .emp _ _ _ hm
    · have hc0 := hcell 0 (by omega)
      have hb := World.block_lt_of_cell? w _ hc0
      rw [add_block] at hb
      have hsp : a.spot = none := by
        have : a.add 0 = a := by simp [Addr.add]
        rw [this] at hc0
        unfold World.cell? at hc0
        split at hc0
        · split at hc0
          · cases hc0
          · rename_i hh
            simpa using hh
        · cases hc0
      obtain ⟨g, o, sp⟩ := a
      simp only at hsp
      subst hsp
      refine .fro [] g o n cap _ (fun j => .int .i64 (zs.getD j 0)) rfl hb hl hm (fun j hj => ?_) (fun j t hj => ?_)
      · have h1 := hcell j (by simp at hj; omega)
        have e : (⟨g, o, none⟩ : Addr).add j = ⟨g, o + j, none⟩ := by
          unfold Addr.add
          split
          · rename_i h; subst h; rfl
          · rfl
        rw [e] at h1
        exact h1
      · simp only [List.getElem?_map, Option.map_eq_some_iff] at hj
        obtain ⟨x, hx, rfl⟩ := hj
        have hjn : j < n := by
          have := (List.getElem?_eq_some_iff.1 hx).1
          simp at this; omega
        rw [List.getElem?_take_of_lt hjn] at hx
        simp only [List.getD, hx]
        exact .sc _ _ rfl
end
end Go.Proofs.Ytbnnipkanechoaa
end
section
/- Proved here: the law ImagesBelow returns true for every input, and its arguments read afterwards as before. No condition. -/
namespace Go.Proofs.Ytbnnipkanechoaa.imagesBelow
open Go.ChangeShapes Go.WideShapes Go.ChangeAt Go.RowKit
open Go.ChangeMaps (open_string shut_string)
set_option linter.unusedVariables false
set_option linter.unusedSimpArgs false

theorem own : ownKnob Try.prog.godebug = none := by kernel_rfl
set_option maxRecDepth 100000 in
/-- What the call gives, for every argument. -/
theorem contract (H : Type) (enc : TypeId × Value → H) (W : World) (base : Nat) (args : Array Value) (ds gs : List (DataW H)) (before : List MemPlace)
    (hval0 : ∀ (j : Nat) t v, Try.f9.params[j]? = some t → args[j]? = some v → Value.okWide Try.prog W .any base t v)
    (hW : DataW.Whole enc Try.prog Try.f9.params.toList Rows.imagesBelowSpec.vars false W args.toList ds gs before) :
    Calls Try.prog 9 args W fun e W' => ∃ v, e = .returned v ∧ Rows.imagesBelowSpec.post enc Try.prog Try.f9 false true false false W args v W' := by
  have hW' := hW
  obtain ⟨p, q, hA0, hV, rfl, hfz, hnd⟩ := hW
  have hval := hval0
  have hA : DataW.TrodAll enc Try.prog W 0 (fun _ => true) true Try.f9.params.toList args.toList ds p := hA0
  rw [Try.params9] at hA hval
  obtain ⟨v0, vs0, d0, ds0, p0, q0, hargs, rfl, rfl, h0, r0⟩ := trodAll_cons hA
  obtain ⟨v1, vs1, d1, ds1, p1, q1, rfl, rfl, rfl, h1, r1⟩ := trodAll_cons r0
  obtain ⟨v2, vs2, d2, ds2, p2, q2, rfl, rfl, rfl, h2, r2⟩ := trodAll_cons r1
  obtain ⟨v3, vs3, d3, ds3, p3, q3, rfl, rfl, rfl, h3, r3⟩ := trodAll_cons r2
  obtain ⟨rfl, rfl, rfl⟩ := trodAll_nil r3
  obtain rfl : args = #[v0, v1, v2, v3] := by cases args; simp_all
  obtain ⟨rfl, rfl⟩ := trodVars_none hV
  obtain ⟨a0, t0, w0, z0⟩ := open_intT Try.underlying22 Try.underlying3 (by kernel_rfl) (hval 0 22 v0 rfl rfl) h0
  obtain ⟨a1, rfl, rfl, rfl, w1⟩ := open_int Try.underlying3 (hval 1 3 v1 rfl rfl) h1
  obtain ⟨a2, rfl, rfl, rfl, w2⟩ := open_int Try.underlying3 (hval 2 3 v2 rfl rfl) h2
  obtain ⟨a3, rfl, rfl, rfl, w3⟩ := open_int Try.underlying3 (hval 3 3 v3 rfl rfl) h3
  obtain ⟨outs, hlaw⟩ := lawBelow a0 w0 z0 a1 w1 a2 w2 a3 w3
  refine (lift_true xtC_sound (by kernel_rfl) cfOk hlaw rfl W _ rfl (fun i t hi => ?_)).mono fun e W' ⟨he, bel⟩ => ?_
  · match i, hi with
    | 0, hi => cases hi; exact t0
    | 1, hi => cases hi; exact .sc _ _ rfl
    | 2, hi => cases hi; exact .sc _ _ rfl
    | 3, hi => cases hi; exact .sc _ _ rfl
  · subst he
    exact ⟨_, rfl, _, _, _, [], _, [], hW', trodAll_mk1 (shut_bool Try.underlying4 _), trodAll_below 12 bel (by kernel_rfl) hA0, rfl, bel.frame _, fun h => by cases h⟩

theorem band {a b : Bool} (ha : a = true) (hb : b = true) : (a && b) = true := by rw [ha, hb]; rfl
set_option maxHeartbeats 4000000 in
theorem facts : joinedFacts Try.checked.prog 9 Try.f9 Rows.imagesBelowSpec Rows.imagesBelowRow = true :=
  (band (band (band (band (band (band (band (band (band (band (band (band (band (band (band (band (band (band (band (band (band (band (band (band (band (band (band (band (band (band (band (by as_aux_lemma => kernel_rfl)
    (by as_aux_lemma => kernel_rfl))
    (by as_aux_lemma => kernel_rfl))
    (by as_aux_lemma => kernel_rfl))
    (by as_aux_lemma => kernel_rfl))
    (by as_aux_lemma => kernel_rfl))
    (by as_aux_lemma => kernel_rfl))
    (by as_aux_lemma => kernel_rfl))
    (by as_aux_lemma => kernel_rfl))
    (by as_aux_lemma => kernel_rfl))
    (by as_aux_lemma => kernel_rfl))
    (by as_aux_lemma => kernel_rfl))
    (by as_aux_lemma => kernel_rfl))
    (by as_aux_lemma => kernel_rfl))
    (by as_aux_lemma => kernel_rfl))
    (by as_aux_lemma => kernel_rfl))
    (by as_aux_lemma => kernel_rfl))
    (by as_aux_lemma => kernel_rfl))
    (by as_aux_lemma => kernel_rfl))
    (by as_aux_lemma => kernel_rfl))
    (by as_aux_lemma => kernel_rfl))
    (by as_aux_lemma => kernel_rfl))
    (by as_aux_lemma => kernel_rfl))
    (by as_aux_lemma => kernel_rfl))
    (by as_aux_lemma => kernel_rfl))
    (by as_aux_lemma => kernel_rfl))
    (by as_aux_lemma => kernel_rfl))
    (by as_aux_lemma => kernel_rfl))
    (by as_aux_lemma => kernel_rfl))
    (by as_aux_lemma => kernel_rfl))
    (by as_aux_lemma => kernel_rfl))
    (by as_aux_lemma => kernel_rfl))

set_option maxRecDepth 100000 in
theorem lifted (os : Os) (started : os.Started) (H : Type) (enc : TypeId × Value → H) :
    ReturnsInHanded {} Try.checked os 9 .any (Rows.imagesBelowSpec.pre6 enc Try.prog Try.f9 Rows.imagesBelowRow.domain false) (Rows.imagesBelowSpec.post enc Try.prog Try.f9 false true false false) := by
  refine returnsInHanded_of_change (C := Try.checked) (by kernel_rfl) started (by kernel_rfl) Try.func9
    (ChangeSpec.witness6 (enc := enc) (C := Try.checked) false ⟨#[], #[.slice none 0 0, .int .i64 0, .int .i64 0, .int .i64 0], []⟩ 8 (by kernel_rfl) (by kernel_rfl) (by kernel_rfl) (by kernel_rfl)) ?_
  intro W base args ds gs before hval0 hW hcnd _
  exact contract H enc W base args ds gs before hval0 hW

theorem over : Rows.imagesBelowRow.holds Try.pinned (OpenSpec.ofChange Rows.imagesBelowSpec) :=
  OpenClaim.holds_of_wide 9 Try.f9 rfl rfl rfl rfl rfl rfl rfl ⟨rfl, rfl, rfl, rfl, rfl⟩ rfl rfl rfl rfl rfl (by kernel_rfl) Try.func9 facts
    (of_decide_eq_true (by kernel_rfl)) (by unfold Func.isWrapper; first | (rw [if_pos (by decide +kernel)]; kernel_rfl) | (rw [if_neg (by decide +kernel)]; exact ⟨rfl, rfl⟩))
    (fun os started H enc _ => lifted os started H enc)

/-- The given statement. -/
theorem proved : Rows.ImagesBelowSaid :=
  over
#print axioms proved
end Go.Proofs.Ytbnnipkanechoaa.imagesBelow
end

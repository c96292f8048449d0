/- Proved here: the law ImagesOf returns true for every input, and its arguments read afterwards as before. No condition. -/
import Derived.Test.YtbnnipkanechoaaMImagesOf5
import Derived.ChangeOld
import Derived.ChangeReads
import Derived.Below
import Derived.ChangeSlices
import Derived.Deep.Grids
import Derived.WideShapes
import Derived.WalkKit
import Derived.ProofKit
import Derived.Test.YtbnnipkanechoaaRows
import Derived.Test.YtbnnipkanechoaaChecked
import Derived.OpenShut
import Derived.ShutString
import Derived.Deep.DeepHandedRow
set_option linter.unusedVariables false
set_option linter.unusedSimpArgs false
section
namespace Go.Proofs.Ytbnnipkanechoaa
open Go Go.RowKit Go.Sort
set_option maxRecDepth 100000
set_option maxHeartbeats 4000000
def zmR (x : Fin 128) : Value := .int .i64 ((x.val : Nat) : Int)
def cfS (p r : Fin 128) : Int := if Lib.compareInt (szN r.val) (szN p.val) ≠ 0 then Lib.compareInt (szN r.val) (szN p.val) else Lib.compareInt (p.val : Nat) (r.val : Nat)
theorem zsQ (k : Nat) (W : World) (hk : k < 128) : Calls Try.prog 91 #[.int .u64 (k : Int)] W fun e w' => e = .returned (.int .i64 (szN k)) ∧ w' = W := by
  have h0 : (0 : Int) ≤ (k : Int) := by omega
  have h1 : (k : Int) < 128 := by omega
  go_enter Try.func91, Try.ntmps91
  go_wp2
  all_goals go_ret
  all_goals refine ⟨congrArg Ending.returned (congrArg (Value.int IntKind.i64) ?_), rfl⟩
  clear h0 h1
  revert k
  decide +kernel
theorem zrP (k : Nat) (W : World) (hk : k < 128) : Calls Try.prog 78 #[.int .u64 (k : Int)] W fun e w' => e = .returned (.int .i64 (szN k)) ∧ w' = W := by
  go_enter Try.func78, Try.ntmps78
  go_wp2_with (go_at_call 91; refine (zsQ k _ hk).mono ?_; rintro e w' ⟨rfl, rfl⟩)
  go_ret
  exact ⟨rfl, rfl⟩
theorem zq8 (k : Nat) (W : World) (hk : k < 128) : Calls Try.prog 68 #[.int .i64 (k : Int)] W fun e w' => e = .returned (.int .i64 (szN k)) ∧ w' = W := by
  have hw : IntKind.u64.wrap (k : Int) = (k : Int) := by rw [IntKind.wrap_u64]; omega
  go_enter Try.func68, Try.ntmps68
  go_wp2_with (go_at_call 78; refine (zrP k _ hk).mono ?_; rintro e w' ⟨rfl, rfl⟩)
  go_ret
  exact ⟨rfl, rfl⟩
theorem or2 (a b : Int) (g : Nat) (W : World) (ha : W.cell? ⟨g, 0, none⟩ = some (.int .i64 a)) (hb : W.cell? ⟨g, 1, none⟩ = some (.int .i64 b)) : Calls Try.prog 66 #[.slice (some ⟨g, 0, none⟩) 2 2] W fun e w' => e = .returned (.int .i64 (if a ≠ 0 then a else b)) ∧ w' = W := by
  go_enter Try.func66, Try.ntmps66
  go_wp2
  go_loop [8] (fun vi => ∃ k : Nat, k ≤ 2 ∧ vi = .int .i64 k ∧ (0 < k → a = 0) ∧ (1 < k → b = 0)) (fun vi => 2 - (intOf vi).toNat)
  case atStart => exact ⟨0, by omega, rfl, by omega, by omega⟩
  case round =>
    obtain ⟨k, hk, rfl, h1, h2⟩ := hrel
    rcases (by omega : k = 0 ∨ k = 1 ∨ k = 2) with rfl | rfl | rfl
    · clear h1 h2
      by_cases h : a = 0
      · subst h
        go_wp2
        go_round
        case rel => exact ⟨1, by omega, by go_num, by simp, by simp⟩
        case measure => simp [intOf]
      · go_wp2
        go_ret
        simp [h]
    · have h1 := h1 (by omega)
      clear h2
      subst h1
      by_cases h : b = 0
      · subst h
        go_wp2
        go_round
        case rel => exact ⟨2, by omega, by go_num, by simp, by simp⟩
        case measure => simp [intOf]
      · go_wp2
        go_ret
        simp
    · have h1 := h1 (by omega)
      have h2 := h2 (by omega)
      subst h1 h2
      go_wp2
      go_ret
      simp
theorem zun (x y : Fin 128) (W : World) : Calls Try.prog 65 #[zmR x, zmR y] W fun e w' => e = .returned (.int .i64 (cfS x y)) ∧ ∃ q os', w' = grow (W.drewN q) os' := by
  obtain ⟨x, hx⟩ := x
  obtain ⟨y, hy⟩ := y
  unfold cfS zmR
  simp only
  generalize hc1 : Lib.compareInt (szN y) (szN x) = c1
  generalize hc2 : Lib.compareInt (x : Int) (y : Int) = c2
  have H1 := Lib.hid hc1
  have H2 := Lib.hid hc2
  clear hc1 hc2
  go_enter Try.func65, Try.ntmps65
  go_wp2_with (first | (go_at_call 68; first | (refine (zq8 y _ hy).mono ?_; rintro e w' ⟨rfl, rfl⟩) | (refine (zq8 x _ hx).mono ?_; rintro e w' ⟨rfl, rfl⟩)) | (go_at_call 67; refine (Try.cmp_Compare_int _ _ _).mono ?_; rintro e w' ⟨rfl, rfl⟩; first | rw [H1.out] | rw [H2.out]) | (go_at_call 66; refine (or2 c1 c2 _ _ ?_ ?_).mono ?_))
  · simp
  · simp
  all_goals go_ret
  all_goals exact ⟨rfl, 0, #[_], alloc_eq_grow _ _⟩
theorem zoD (a b : Int) : Lib.compareInt a b < 0 ↔ a < b := by unfold Lib.compareInt; split <;> (try split) <;> omega
theorem zqm (a b : Int) : Lib.compareInt a b = 0 ↔ a = b := by unfold Lib.compareInt; split <;> (try split) <;> omega
theorem zqg (p r : Fin 128) : ltOf cfS p r = true ↔ (szN r.val < szN p.val ∨ (szN r.val = szN p.val ∧ p.val < r.val)) := by
  unfold ltOf cfS
  rw [decide_eq_true_iff]
  split
  · rename_i h
    have := (not_congr (zqm (szN r.val) (szN p.val))).1 h
    rw [zoD]
    omega
  · rename_i h
    have := (zqm (szN r.val) (szN p.val)).1 (by simpa using h)
    rw [zoD]
    omega
theorem zo2 (p r : Fin 128) : ltOf cfS p r = false ↔ ¬ (szN r.val < szN p.val ∨ (szN r.val = szN p.val ∧ p.val < r.val)) := by
  rw [← zqg]; simp
theorem zvt : SWO (ltOf cfS) where
  irrefl x := by rw [zo2]; omega
  trans x y z h1 h2 := by rw [zqg] at *; omega
  ntrans x y z h1 h2 := by rw [zo2] at *; omega
theorem zgm (a b : Int) : leI a b = true ↔ (szN b.toNat < szN a.toNat ∨ (szN a.toNat = szN b.toNat ∧ a.toNat ≤ b.toNat)) := by
  unfold leI zmN; simp
theorem zeb (x : Int) : ∀ l : List Int, (zpA x l).Perm (x :: l)
  | [] => .refl _
  | y :: l => by
    unfold zpA
    split
    · exact .refl _
    · exact ((zeb x l).cons y).trans (.swap x y l)
theorem zc7 : ∀ l : List Int, (zaK l).Perm l
  | [] => .refl _
  | x :: l => (zeb x (zaK l)).trans ((zc7 l).cons x)
theorem zea (x : Int) : ∀ l : List Int, l.Pairwise (fun a b => leI a b = true) → (zpA x l).Pairwise (fun a b => leI a b = true)
  | [], _ => by simp [zpA]
  | y :: l, h => by
    unfold zpA
    rw [List.pairwise_cons] at h
    split
    · rename_i hxy
      refine List.pairwise_cons.2 ⟨fun z hz => ?_, List.pairwise_cons.2 h⟩
      rcases List.mem_cons.1 hz with rfl | hz
      · exact hxy
      · have := h.1 z hz
        rw [zgm] at *
        omega
    · rename_i hxy
      refine List.pairwise_cons.2 ⟨fun z hz => ?_, zea x l h.2⟩
      rcases List.mem_cons.1 ((zeb x l).mem_iff.1 hz) with rfl | hz
      · rw [zgm] at *
        omega
      · exact h.1 z hz
theorem zcv : ∀ l : List Int, (zaK l).Pairwise (fun a b => leI a b = true)
  | [] => by simp [zaK]
  | x :: l => zea x _ (zcv l)
theorem z9V : ∀ {l1 l2 : List Int}, l1.Perm l2 → (∀ x ∈ l1, 0 ≤ x) → l1.Pairwise (fun a b => leI a b = true) → l2.Pairwise (fun a b => leI a b = true) → l1 = l2
  | [], l2, h, _, _, _ => by rw [List.nil_perm] at h; exact h.symm
  | a :: l1, [], h, _, _, _ => by simp at h
  | a :: l1, b :: l2, h, h0, h1, h2 => by
    have hab : a = b := by
      rcases List.mem_cons.1 (h.mem_iff.1 (List.mem_cons_self ..)) with e | ha
      · exact e
      · rcases List.mem_cons.1 (h.mem_iff.2 (List.mem_cons_self ..)) with e | hb
        · exact e.symm
        · have e1 := (List.pairwise_cons.1 h2).1 a ha
          have e2 := (List.pairwise_cons.1 h1).1 b hb
          have p1 := h0 a (List.mem_cons_self ..)
          have p2 := h0 b (h.mem_iff.2 (List.mem_cons_self ..))
          rw [zgm] at e1 e2
          omega
    subst hab
    rw [z9V (List.perm_cons a |>.1 h) (fun x hx => h0 x (List.mem_cons_of_mem _ hx)) (List.pairwise_cons.1 h1).2 (List.pairwise_cons.1 h2).2]
def toF (x : Int) : Fin 128 := ⟨x.toNat % 128, Nat.mod_lt _ (by decide)⟩
def ofF (f : Fin 128) : Int := (f.val : Int)
theorem zq5 {x : Int} (h : 0 ≤ x ∧ x < 128) : ofF (toF x) = x := by simp only [ofF, toF]; omega
def zsR (B : Nat) (K : Nat → z0l) (b : Nat) : z0l := if B ≤ b then [0] else K b
theorem zjb {xs : List Int} (hx : ∀ x ∈ xs, 0 ≤ x ∧ x < 128) {d' : Array (Fin 128)} (hp : PermIn 0 (xs.map toF).toArray.size (xs.map toF).toArray d') (hs : SortedIn (ltOf cfS) 0 (xs.map toF).toArray.size d') : d'.toList.map ofF = zaK xs := by
  obtain ⟨h1, _, h3⟩ := hp
  have hsz : d'.size = xs.length := by simpa using h1
  have e1 : (xs.map toF).map ofF = xs := by
    rw [List.map_map]
    conv => rhs; rw [← List.map_id xs]
    exact List.map_congr_left fun x hxm => zq5 (hx x hxm)
  have hp2 : d'.toList.Perm (xs.map toF) := by
    have : (d'.extract 0 (xs.map toF).toArray.size).toList = d'.toList := by
      rw [← h1]; simp
    rw [this] at h3
    simp at h3
    rwa [List.take_of_length_le (by simp)] at h3
  have hp3 : (d'.toList.map ofF).Perm xs := by
    have := hp2.map ofF
    rwa [e1] at this
  refine z9V (hp3.trans (zc7 xs).symm) (fun x hxm => (hx x (hp3.mem_iff.1 hxm)).1) ?_ (zcv xs)
  rw [List.pairwise_iff_getElem]
  intro i j hi hj hij
  simp only [List.length_map, Array.length_toList] at hi hj
  have := hs i j (by omega) hij (by simp; omega)
  rw [zo2, getElem!_pos d' i hi, getElem!_pos d' j hj] at this
  rw [zgm]
  simp only [List.getElem_map, Array.getElem_toList, ofF, Int.toNat_natCast]
  omega
theorem zkw {w : World} {g n : Nat} {os : Array Obj} {cur : Array Value} {e : TypeId} {fr : Nat × Nat} (d : Array (Fin 128)) (hb : w.heap[g]? = some (.cells cur e fr)) : (sortWorld zmR w g 0 n d os).heap[g]? = some (.cells (putCells zmR 0 d cur) e fr) := by
  unfold sortWorld
  rw [heap_grow_old _ _ (by rw [size_putRow]; exact z2N hb)]
  simp [putRow, mapBlock, Sort.ahead, Array.getElem?_modify, hb, onCells]
theorem zfT {w : World} {g n : Nat} {os : Array Obj} (d : Array (Fin 128)) {b : Nat} (hb : b < w.heap.size) (hne : b ≠ g) : (sortWorld zmR w g 0 n d os).heap[b]? = w.heap[b]? := by
  unfold sortWorld
  rw [heap_grow_old _ _ (by rw [size_putRow]; exact hb)]
  simp [putRow, mapBlock, Sort.ahead, Array.getElem?_modify, Ne.symm hne]
theorem zpb {w : World} {g n : Nat} {os : Array Obj} (d : Array (Fin 128)) : w.heap.size ≤ (sortWorld zmR w g 0 n d os).heap.size := by
  unfold sortWorld
  rw [size_grow, size_putRow]
  show w.heap.size ≤ w.heap.size + _
  omega
theorem zmV {I : World → (Nat → z0l) → Prop} : zat Try.prog I xtC := by
  intro f args r outs h
  unfold xtC at h
  split at h
  case isFalse => cases h
  rename_i hf
  subst hf
  unfold zqp at h
  split at h
  case h_2 => cases h
  rename_i n cs f fs gs
  split at h
  case isFalse => cases h
  rename_i hfg
  obtain ⟨rfl, hfs, hgs⟩ := hfg
  simp only [Array.isEmpty_iff] at hfs hgs
  subst hfs hgs
  split at h
  case h_2 => cases h
  rename_i xs hxs
  split at h
  case isFalse => cases h
  rename_i hn
  subst hn
  unfold zl9 at h
  split at h
  case isFalse => cases h
  rename_i hc
  obtain ⟨hne, hlen, hall⟩ := hc
  have hx : ∀ x ∈ xs, 0 ≤ x ∧ x < 128 := by simpa using hall
  obtain ⟨rfl, rfl⟩ : T.tup [] = r ∧ [T.os 1 (zaK xs).length ((zaK xs).map fun x => .sc (.int .i64 x)), .dead] = outs := by simpa using h
  have hcs := zih hxs
  subst hcs
  clear h hxs hall
  refine ⟨fun vals w => ?_, fun w K vals hs ha hI => ?_⟩
  · have hb : ∃ c, Try.f64.body = some c := ⟨_, rfl⟩
    obtain ⟨c, hb⟩ := hb
    have hname : Try.f64.name ≠ "runtime.NumGoroutine" := by decide
    simp [callFunc, program, Sem.run, Try.func64, hname, hb]
  · obtain ⟨v, u, rfl⟩ : ∃ v u, vals = #[v, u] := by
      obtain ⟨l⟩ := vals
      match l, hs with
      | [v, u], _ => exact ⟨v, u, rfl⟩
    have hv : TRep w K (col 0) v (.os 1 xs.length (xs.map fun x => .sc (.int .i64 x))) := ha 0 _ rfl
    have hu : TRep w K [] u (.sc (.func (.func 65) #[] #[])) := ha 1 _ rfl
    rw [hu.sc_eq]
    clear hu ha
    have hl0 : 0 < xs.length := List.length_pos_iff.2 hne
    generalize hT : T.os 1 xs.length (xs.map fun x => T.sc (.int .i64 x)) = t at hv
    cases hv with
    | nil => injection hT with _ e _; omega
    | own c g n cap size cs arr e fz F hfz hc0 hK hg hsz hl hz hn hcap hF hh =>
      injection hT with e1 e2 e3
      subst e1 e2 e3
      have hcell : ∀ j (hj : j < xs.length), arr[j]? = some (.int .i64 xs[j]) := fun j hj => by
        rw [hF j (by simpa using hj)]
        have := hh j (.sc (.int .i64 xs[j])) (by simp [hj])
        rw [this.sc_eq]
      have hH : Holds zmR w g 0 (xs.map toF).toArray := fun j hj => by
        have hj' : j < xs.length := by simpa using hj
        constructor
        · rw [Nat.zero_add, z3U hg, hcell j hj', getElem!_pos _ j hj]
          simp only [zmR, List.getElem_toArray, List.getElem_map]
          have := zq5 (hx _ (List.getElem_mem hj'))
          unfold ofF at this
          rw [this]
        · unfold World.frozen?
          rw [Nat.zero_add]
          simp only [hg]
          have := hfz j (by omega)
          obtain ⟨lo, hi⟩ := fz
          simp only at this ⊢
          simp only [Bool.and_eq_false_iff, decide_eq_false_iff_not]
          omega
      have eg : ∀ args w, (callFunc 65 args).run Try.prog w = .ok (.enter 65 args) w := enters_of Try.func65 (by kernel_rfl) rfl
      have hcmp : CmpLays1 Try.prog 65 #[] zmR cfS g 0 (xs.map toF).toArray.size w := fun m os dk _ x y => zun x y _
      have hcon := Try.slices_SortFunc zmR (fun _ => rfl) cfS zvt 65 #[] g 0 cap (xs.map toF).toArray w eg hcmp hH (z2N hg) (by simpa using hlen)
      have hsize : (xs.map toF).toArray.size = xs.length := by simp
      rw [hsize] at hcon
      refine hcon.mono fun e' w' ⟨he, d', m, os, hp, hso, hw⟩ => ?_
      subst hw
      have hsort := zjb hx (by rw [hsize]; exact hp) (by rw [hsize]; exact hso)
      have hd : d'.size = xs.length := by have := hp.1; simpa using this
      have hys : (zaK xs).length = xs.length := (zc7 xs).length_eq
      refine ⟨.tuple #[], zsR w.heap.size K, he, ?_, fun i t hi hio => ?_, rfl, rfl, rfl, zpb d', fun b hb hcb => ⟨by unfold zsR; rw [if_neg (by omega)], zfT d' hb ?_⟩, ?_⟩
      · exact .tup _ #[] [] (fun _ => undef) rfl (fun j hj => by simp at hj) (fun j t ht => by simp at ht)
      · match i, hi with
        | 0, hi =>
          refine ⟨_, rfl, ?_⟩
          show TRep _ _ (col 0) (.slice (some ⟨g, 0, none⟩) xs.length cap) _
          rw [← hys]
          refine .own (col 0) g _ cap 1 _ (putCells zmR 0 d' arr) e fz (fun j => .int .i64 ((zaK xs).getD j 0)) (fun i hi => hfz i (by simpa [putCells] using hi)) (by simp [col]) (by unfold zsR; rw [if_neg (by have := z2N hg; omega)]; exact hK) (zkw d' hg) (by simpa [putCells] using hsz) (by simp) (by omega) (by omega) hcap (fun j hj => ?_) (fun j t ht => ?_)
          · have hj' : j < xs.length := by simpa [hys] using hj
            have hja : j < arr.size := (Array.getElem?_eq_some_iff.1 (hcell j hj')).1
            have hjd : j < d'.size := by omega
            simp only [putCells, Array.getElem?_mapIdx, hcell j hj', Option.map_some]
            rw [if_pos (by omega), Nat.sub_zero, getElem!_pos d' j hjd]
            have : (zaK xs).getD j 0 = ofF d'[j] := by
              rw [← hsort]; simp [List.getD, hjd]
            rw [this]; rfl
          · simp only [List.getElem?_map, Option.map_eq_some_iff] at ht
            obtain ⟨x, hx', rfl⟩ := ht
            simp only [List.getD, hx']
            exact .sc _ _ rfl
        | 1, hi => cases hi; cases hio
      · rintro rfl
        rw [hK] at hcb
        simp [col] at hcb
      · intro b arr0 e0 fz0 hb0
        by_cases hbg : b = g
        · subst hbg
          rw [hg] at hb0
          cases hb0
          exact ⟨_, _, _, zkw d' hg, by simp [putCells]⟩
        · exact ⟨_, _, _, (zfT d' (z2N hb0) hbg).trans hb0, rfl⟩
    | _ => cases hT
end Go.Proofs.Ytbnnipkanechoaa
end
section
namespace Go.Proofs.Ytbnnipkanechoaa
structure StOk (ops : Array Oper) (t : SchT) (L : Array Bool) (d : Nat) (ns : List Nat) : Prop where
  ord : z3y .any ops true t L = true
  dep : t.depth = d
  nx : ∀ z ∈ t.nexts, z ∈ ns
structure BrOk (ops : Array Oper) (t : SchT) (L : Array Bool) (d : Nat) (ns hs : List Nat) : Prop where
  ord : z3y .any ops false t L = true
  dep : t.depth = d
  nx : ∀ z ∈ t.nexts, z ∈ ns
  hd : ∀ i ∈ hs, i ∈ t.heads
theorem zk8 {ops : Array Oper} {L : Array Bool} (h : decide (Region.ready .any ops L = []) = true) : StOk ops .nil L 0 [] := ⟨by simp only [z3y, h, Bool.and_true], rfl, fun z hz => by simp [SchT.nexts] at hz⟩
theorem z5k {ops : Array Oper} {k m : Nat} {rest : SchT} {L L' : Array Bool} {d : Nat} {ns : List Nat} (h : StOk ops rest L' d ns) (hL : L.setIfInBounds k true = L')
    (hc : ((m == 0 || m == 3) && (Region.ready .any ops L).contains k && Region.free .any ops L k && !(ns.contains k) && (m == 3 || ns.all fun z => (zrt .any ops ops.size [z]).contains k)) = true) : StOk ops (.op k m rest) L (d + 1) ns := by
  simp only [Bool.and_eq_true, Bool.or_eq_true, Bool.not_eq_true', beq_iff_eq] at hc
  obtain ⟨⟨⟨⟨h1, h2⟩, h3⟩, h4⟩, h5⟩ := hc
  have hm2 : ¬ m = 2 := by omega
  have hk : k ∉ ns := by simpa using h4
  refine ⟨?_, by simp only [SchT.depth, h.dep], fun z hz => h.nx z (by simpa only [SchT.nexts, if_neg hm2] using hz)⟩
  simp only [z3y]
  rw [if_pos (by simpa using h1), hL, h.ord, h2, h3]
  have h6 : rest.nexts.contains k = false := by
    rw [Bool.eq_false_iff]
    intro hh
    exact hk (h.nx k (by simpa using hh))
  rw [h6]
  simp only [Bool.not_false, Bool.and_self, Bool.true_and, Bool.and_true, Bool.or_eq_true, beq_iff_eq]
  rcases h5 with h5 | h5
  · exact .inl h5
  · exact .inr (List.all_eq_true.2 fun z hz => List.all_eq_true.1 h5 z (h.nx z hz))
theorem zau {ops : Array Oper} {k m : Nat} {rest : SchT} {L L' : Array Bool} {d : Nat} {ns ns' : List Nat} (h : StOk ops rest L' d ns) (hL : L.setIfInBounds k true = L')
    (hc : ((m == 1 || m == 2) && decide (Region.ready .any ops L = [k])) = true) (hn : (if m = 2 then [k] else ns) = ns') : StOk ops (.op k m rest) L (d + 1) ns' := by
  subst hn
  simp only [Bool.and_eq_true, Bool.or_eq_true, beq_iff_eq] at hc
  obtain ⟨h1, h2⟩ := hc
  refine ⟨?_, by simp only [SchT.depth, h.dep], fun z hz => ?_⟩
  · simp only [z3y]
    rw [if_neg (by omega), hL, h.ord, h2]
    simp [h1]
  · simp only [SchT.nexts] at hz
    split at hz
    · rename_i e; rw [if_pos e]; exact hz
    · rename_i e; rw [if_neg e]; exact h.nx z hz
theorem z1k {ops : Array Oper} {k m : Nat} {rest : SchT} {L L' : Array Bool} {d : Nat} {ns ns' : List Nat} (h : StOk ops rest L' d ns) (hL : L.setIfInBounds k true = L')
    (hc : ((m == 1 || m == 2) && (Region.ready .any ops L).contains k) = true) (hn : (if m = 2 then [k] else ns) = ns') : BrOk ops (.op k m rest) L (d + 1) ns' [k] := by
  subst hn
  simp only [Bool.and_eq_true, Bool.or_eq_true, beq_iff_eq] at hc
  obtain ⟨h1, h2⟩ := hc
  refine ⟨?_, by simp only [SchT.depth, h.dep], fun z hz => ?_, fun i hi => by simpa [SchT.heads] using hi⟩
  · simp only [z3y]
    rw [if_neg (by simp), hL, h.ord, h2]
    simp [h1]
  · simp only [SchT.nexts] at hz
    split at hz
    · rename_i e; rw [if_pos e]; exact hz
    · rename_i e; rw [if_neg e]; exact h.nx z hz
theorem z0p {ops : Array Oper} {a b : SchT} {L : Array Bool} {d : Nat} {n1 n2 h1 h2 : List Nat} (ha : BrOk ops a L d n1 h1) (hb : BrOk ops b L d n2 h2) : BrOk ops (.alt a b) L d (n1 ++ n2) (h1 ++ h2) := by
  refine ⟨?_, by simp only [SchT.depth, ha.dep], fun z hz => ?_, fun i hi => ?_⟩
  · simp only [z3y, ha.ord, hb.ord, ha.dep, hb.dep]; simp
  · simp only [SchT.nexts, List.mem_append] at hz ⊢
    exact hz.imp (ha.nx z) (hb.nx z)
  · simp only [SchT.heads, List.mem_append] at hi ⊢
    exact hi.imp (ha.hd i) (hb.hd i)
theorem z0Z {ops : Array Oper} {a b : SchT} {L : Array Bool} {d : Nat} {ns ns' hs : List Nat} (h : BrOk ops (.alt a b) L d ns hs) (hc : ((Region.ready .any ops L).all fun i => hs.contains i) = true) (hn : (ns.all fun z => ns'.contains z) = true) : StOk ops (.alt a b) L d ns' := by
  refine ⟨?_, h.dep, fun z hz => by simpa using List.all_eq_true.1 hn z (h.nx z hz)⟩
  have := h.ord
  simp only [z3y, Bool.and_eq_true, decide_eq_true_eq] at this ⊢
  obtain ⟨⟨⟨h1, h2⟩, h3⟩, h4⟩ := this
  refine ⟨⟨⟨?_, h2⟩, h3⟩, h4⟩
  simp only [Bool.not_true, Bool.false_or, decide_eq_true_eq]
  intro i hi
  have := List.all_eq_true.1 hc i hi
  exact h.hd i (by simpa using this)
def zjm (cf : Cfg) (sk : Nat → Bool) : Code → Bool
  | .region id ops draw => sk id || (!draw || (match cf.dt id with | some t => zam ops t | none => (match cf.dr id with | some sch => znR ops sch | none => true)))
  | .seq a b => zjm cf sk a && zjm cf sk b
  | .cond _ x y => zjm cf sk x && zjm cf sk y
  | .block _ c => zjm cf sk c
  | .loop c => zjm cf sk c
  | .scope c => zjm cf sk c
  | _ => true
def z4B (i : Nat) : Code → List (Array Oper)
  | .region id ops _ => if Nat.beq id i then [ops] else []
  | .seq a b => z4B i a ++ z4B i b
  | .cond _ x y => z4B i x ++ z4B i y
  | .block _ c => z4B i c
  | .loop c => z4B i c
  | .scope c => z4B i c
  | _ => []
noncomputable def z0x (i : Nat) (c : Code) : Array Oper := match z4B i c with | x :: _ => x | [] => #[]
theorem zcy {cf : Cfg} {sk : Nat → Bool} : ∀ (c : Code), zjm cf sk c = true → (∀ i, sk i = true → ∃ t, cf.dt i = some t ∧ ∀ o ∈ z4B i c, zam o t = true) → okC cf c = true
  | .region id ops draw, h, hs => by
    simp only [zjm, Bool.or_eq_true] at h
    simp only [okC, Bool.or_eq_true]
    rcases h with h | h
    · right
      obtain ⟨t, h1, h2⟩ := hs id h
      rw [h1]
      exact h2 ops (by simp [z4B])
    · exact h
  | .seq a b, h, hs => by
    simp only [zjm, Bool.and_eq_true] at h
    simp only [okC, Bool.and_eq_true]
    exact ⟨zcy a h.1 fun i hi => by obtain ⟨t, h1, h2⟩ := hs i hi; exact ⟨t, h1, fun o ho => h2 o (by simp only [z4B, List.mem_append]; exact .inl ho)⟩,
      zcy b h.2 fun i hi => by obtain ⟨t, h1, h2⟩ := hs i hi; exact ⟨t, h1, fun o ho => h2 o (by simp only [z4B, List.mem_append]; exact .inr ho)⟩⟩
  | .cond _ a b, h, hs => by
    simp only [zjm, Bool.and_eq_true] at h
    simp only [okC, Bool.and_eq_true]
    exact ⟨zcy a h.1 fun i hi => by obtain ⟨t, h1, h2⟩ := hs i hi; exact ⟨t, h1, fun o ho => h2 o (by simp only [z4B, List.mem_append]; exact .inl ho)⟩,
      zcy b h.2 fun i hi => by obtain ⟨t, h1, h2⟩ := hs i hi; exact ⟨t, h1, fun o ho => h2 o (by simp only [z4B, List.mem_append]; exact .inr ho)⟩⟩
  | .block _ c, h, hs => by simp only [okC]; exact zcy c (by simpa only [zjm] using h) (by simpa only [z4B] using hs)
  | .loop c, h, hs => by simp only [okC]; exact zcy c (by simpa only [zjm] using h) (by simpa only [z4B] using hs)
  | .scope c, h, hs => by simp only [okC]; exact zcy c (by simpa only [zjm] using h) (by simpa only [z4B] using hs)
  | .skip, _, _ => rfl
  | .label .., _, _ => rfl
  | .exit .., _, _ => rfl
  | .ret, _, _ => rfl
  | .rangeFunc .., _, _ => rfl
  | .goto _, _, _ => rfl
  | .refuse _, _, _ => rfl
theorem zg4 {c : Code} {i : Nat} {t : SchT} {n : Nat} {ns : List Nat} {L : Array Bool} (hr : (z4B i c).length = 1) (hs : StOk (z0x i c) t L n ns) (hL : L = Array.replicate (z0x i c).toList.length false) (hd : (decide (n = (z0x i c).toList.length) && Region.noSelect (z0x i c)) = true) : ∀ o ∈ z4B i c, zam o t = true := by
  intro o ho
  obtain ⟨x, hx⟩ : ∃ x, z4B i c = [x] := List.length_eq_one_iff.1 hr
  have e : z0x i c = x := by unfold z0x; rw [hx]
  rw [hx] at ho
  obtain rfl : o = x := by simpa using ho
  rw [e] at hs hL hd
  subst hL
  simp only [Bool.and_eq_true, decide_eq_true_eq] at hd
  unfold zam
  simp only [Bool.and_eq_true, decide_eq_true_eq]
  exact ⟨⟨hs.dep.trans hd.1, hd.2⟩, hs.ord⟩
theorem zjl {P : Program} {f : FuncId} {cf : Cfg} {fn : Func} {c : Code} (l : List Nat) (hf : P.funcs[f]? = some fn) (hb : fn.body = some c) (hn : (fn.name != "runtime.NumGoroutine") = true) (h2 : zjm cf l.contains c = true)
    (ht : ∀ i ∈ l, ∃ t, cf.dt i = some t ∧ ∀ o ∈ z4B i c, zam o t = true) : z3l P f cf = true := by
  unfold z3l
  simp only [hf, hb, hn, Bool.true_and]
  exact zcy c h2 fun j hj => ht j (by simpa using hj)
end Go.Proofs.Ytbnnipkanechoaa
end
section
namespace Go.Proofs.Ytbnnipkanechoaa
open Go
set_option maxRecDepth 100000
theorem zwz : z3l Try.prog 3 cf3 = true := by kernel_rfl
theorem zwy : z3l Try.prog 4 cf4 = true := by kernel_rfl
theorem zwx : z3l Try.prog 5 cf5 = true := by kernel_rfl
theorem zww : z3l Try.prog 6 cf6 = true := by kernel_rfl
theorem zwv : z3l Try.prog 8 cf8 = true := by kernel_rfl
theorem zwu : z3l Try.prog 9 cf9 = true := by kernel_rfl
theorem zum : z3l Try.prog 10 cf10 = true := by kernel_rfl
theorem zul : z3l Try.prog 11 cf11 = true := by kernel_rfl
theorem zuk : z3l Try.prog 12 cf12 = true := by kernel_rfl
theorem zuj : z3l Try.prog 13 cf13 = true := by kernel_rfl
theorem zj5 : StOk (z0x 10 z7H) zfx #[true, true, true, true, true, true, true, true, true, true, true, true, true, true] 0 [] := zk8 (by kernel_rfl)
theorem zdF : StOk (z0x 10 z7H) zbU #[true, true, true, true, true, true, true, true, true, true, true, true, true, false] 1 [13] := zau zj5 rfl (by kernel_rfl) rfl
theorem z8h : StOk (z0x 10 z7H) z7M #[true, true, true, true, true, true, true, true, true, true, true, false, true, false] 2 [13] := z5k zdF rfl (by kernel_rfl)
theorem zj6 : StOk (z0x 10 z7H) zfy #[true, true, true, true, true, true, true, true, true, true, true, true, false, false] 2 [13] := zau zdF rfl (by kernel_rfl) rfl
theorem z8i : StOk (z0x 10 z7H) z7N #[true, true, true, true, false, true, true, true, true, true, true, false, true, false] 3 [13] := zau z8h rfl (by kernel_rfl) rfl
theorem z8j : StOk (z0x 10 z7H) z7O #[true, true, true, true, true, true, false, true, true, true, true, false, true, false] 3 [13] := zau z8h rfl (by kernel_rfl) rfl
theorem z8k : StOk (z0x 10 z7H) z7P #[true, true, true, true, true, true, true, true, false, true, true, false, true, false] 3 [13] := zau z8h rfl (by kernel_rfl) rfl
theorem z8l : StOk (z0x 10 z7H) z7Q #[true, true, true, true, true, true, true, true, true, true, false, false, true, false] 3 [13] := zau z8h rfl (by kernel_rfl) rfl
theorem z8m : StOk (z0x 10 z7H) z7R #[true, true, true, true, true, true, true, true, true, true, true, false, false, false] 3 [13] := z5k zj6 rfl (by kernel_rfl)
theorem za9 : StOk (z0x 10 z7H) z9s #[true, true, true, true, false, true, false, true, true, true, true, false, true, false] 4 [13] := z0Z (z0p (z1k z8j rfl (by kernel_rfl) rfl) (z1k z8i rfl (by kernel_rfl) rfl)) (by kernel_rfl) rfl
theorem zaa : StOk (z0x 10 z7H) z9t #[true, true, true, true, false, true, true, true, false, true, true, false, true, false] 4 [13] := z0Z (z0p (z1k z8k rfl (by kernel_rfl) rfl) (z1k z8i rfl (by kernel_rfl) rfl)) (by kernel_rfl) rfl
theorem zab : StOk (z0x 10 z7H) z9u #[true, true, true, true, false, true, true, true, true, true, false, false, true, false] 4 [13] := z0Z (z0p (z1k z8l rfl (by kernel_rfl) rfl) (z1k z8i rfl (by kernel_rfl) rfl)) (by kernel_rfl) rfl
theorem zac : StOk (z0x 10 z7H) z9v #[true, true, true, true, false, true, true, true, true, true, true, false, false, false] 4 [13] := z0Z (z0p (z1k z8m rfl (by kernel_rfl) rfl) (z1k z8i rfl (by kernel_rfl) rfl)) (by kernel_rfl) rfl
theorem zad : StOk (z0x 10 z7H) z9w #[true, true, true, true, true, true, false, true, false, true, true, false, true, false] 4 [13] := z0Z (z0p (z1k z8k rfl (by kernel_rfl) rfl) (z1k z8j rfl (by kernel_rfl) rfl)) (by kernel_rfl) rfl
theorem zae : StOk (z0x 10 z7H) z9x #[true, true, true, true, true, true, false, true, true, true, false, false, true, false] 4 [13] := z0Z (z0p (z1k z8l rfl (by kernel_rfl) rfl) (z1k z8j rfl (by kernel_rfl) rfl)) (by kernel_rfl) rfl
theorem zaf : StOk (z0x 10 z7H) z9y #[true, true, true, true, true, true, false, true, true, true, true, false, false, false] 4 [13] := z0Z (z0p (z1k z8m rfl (by kernel_rfl) rfl) (z1k z8j rfl (by kernel_rfl) rfl)) (by kernel_rfl) rfl
theorem zag : StOk (z0x 10 z7H) z9z #[true, true, true, true, true, true, true, true, false, true, false, false, true, false] 4 [13] := z0Z (z0p (z1k z8l rfl (by kernel_rfl) rfl) (z1k z8k rfl (by kernel_rfl) rfl)) (by kernel_rfl) rfl
theorem zah : StOk (z0x 10 z7H) z9A #[true, true, true, true, true, true, true, true, false, true, true, false, false, false] 4 [13] := z0Z (z0p (z1k z8m rfl (by kernel_rfl) rfl) (z1k z8k rfl (by kernel_rfl) rfl)) (by kernel_rfl) rfl
theorem zai : StOk (z0x 10 z7H) z9B #[true, true, true, true, true, true, true, true, true, true, false, false, false, false] 4 [13] := z0Z (z0p (z1k z8m rfl (by kernel_rfl) rfl) (z1k z8l rfl (by kernel_rfl) rfl)) (by kernel_rfl) rfl
theorem zdG : StOk (z0x 10 z7H) zbV #[true, true, true, true, false, true, false, true, false, true, true, false, true, false] 5 [13] := z0Z (z0p (z1k zad rfl (by kernel_rfl) rfl) (z0p (z1k zaa rfl (by kernel_rfl) rfl) (z1k za9 rfl (by kernel_rfl) rfl))) (by kernel_rfl) rfl
theorem zdH : StOk (z0x 10 z7H) zbW #[true, true, true, true, false, true, false, true, true, true, false, false, true, false] 5 [13] := z0Z (z0p (z1k zae rfl (by kernel_rfl) rfl) (z0p (z1k zab rfl (by kernel_rfl) rfl) (z1k za9 rfl (by kernel_rfl) rfl))) (by kernel_rfl) rfl
theorem zdI : StOk (z0x 10 z7H) zbX #[true, true, true, true, false, true, false, true, true, true, true, false, false, false] 5 [13] := z0Z (z0p (z1k zaf rfl (by kernel_rfl) rfl) (z0p (z1k zac rfl (by kernel_rfl) rfl) (z1k za9 rfl (by kernel_rfl) rfl))) (by kernel_rfl) rfl
theorem zdJ : StOk (z0x 10 z7H) zbY #[true, true, true, true, false, true, true, true, false, true, false, false, true, false] 5 [13] := z0Z (z0p (z1k zag rfl (by kernel_rfl) rfl) (z0p (z1k zab rfl (by kernel_rfl) rfl) (z1k zaa rfl (by kernel_rfl) rfl))) (by kernel_rfl) rfl
theorem zdK : StOk (z0x 10 z7H) zbZ #[true, true, true, true, false, true, true, true, false, true, true, false, false, false] 5 [13] := z0Z (z0p (z1k zah rfl (by kernel_rfl) rfl) (z0p (z1k zac rfl (by kernel_rfl) rfl) (z1k zaa rfl (by kernel_rfl) rfl))) (by kernel_rfl) rfl
theorem zdL : StOk (z0x 10 z7H) zc0 #[true, true, true, true, false, true, true, true, true, true, false, false, false, false] 5 [13] := z0Z (z0p (z1k zai rfl (by kernel_rfl) rfl) (z0p (z1k zac rfl (by kernel_rfl) rfl) (z1k zab rfl (by kernel_rfl) rfl))) (by kernel_rfl) rfl
theorem zdM : StOk (z0x 10 z7H) zc1 #[true, true, true, true, true, true, false, true, false, true, false, false, true, false] 5 [13] := z0Z (z0p (z1k zag rfl (by kernel_rfl) rfl) (z0p (z1k zae rfl (by kernel_rfl) rfl) (z1k zad rfl (by kernel_rfl) rfl))) (by kernel_rfl) rfl
theorem zdN : StOk (z0x 10 z7H) zc2 #[true, true, true, true, true, true, false, true, false, true, true, false, false, false] 5 [13] := z0Z (z0p (z1k zah rfl (by kernel_rfl) rfl) (z0p (z1k zaf rfl (by kernel_rfl) rfl) (z1k zad rfl (by kernel_rfl) rfl))) (by kernel_rfl) rfl
theorem zdO : StOk (z0x 10 z7H) zc3 #[true, true, true, true, true, true, false, true, true, true, false, false, false, false] 5 [13] := z0Z (z0p (z1k zai rfl (by kernel_rfl) rfl) (z0p (z1k zaf rfl (by kernel_rfl) rfl) (z1k zae rfl (by kernel_rfl) rfl))) (by kernel_rfl) rfl
theorem zdP : StOk (z0x 10 z7H) zc4 #[true, true, true, true, true, true, true, true, false, true, false, false, false, false] 5 [13] := z0Z (z0p (z1k zai rfl (by kernel_rfl) rfl) (z0p (z1k zah rfl (by kernel_rfl) rfl) (z1k zag rfl (by kernel_rfl) rfl))) (by kernel_rfl) rfl
theorem zj7 : StOk (z0x 10 z7H) zfz #[true, true, true, true, false, true, false, true, false, true, false, false, true, false] 6 [13] := z0Z (z0p (z1k zdM rfl (by kernel_rfl) rfl) (z0p (z1k zdJ rfl (by kernel_rfl) rfl) (z0p (z1k zdH rfl (by kernel_rfl) rfl) (z1k zdG rfl (by kernel_rfl) rfl)))) (by kernel_rfl) rfl
theorem zj8 : StOk (z0x 10 z7H) zfA #[true, true, true, true, false, true, false, true, false, true, true, false, false, false] 6 [13] := z0Z (z0p (z1k zdN rfl (by kernel_rfl) rfl) (z0p (z1k zdK rfl (by kernel_rfl) rfl) (z0p (z1k zdI rfl (by kernel_rfl) rfl) (z1k zdG rfl (by kernel_rfl) rfl)))) (by kernel_rfl) rfl
theorem zj9 : StOk (z0x 10 z7H) zfB #[true, true, true, true, false, true, false, true, true, true, false, false, false, false] 6 [13] := z0Z (z0p (z1k zdO rfl (by kernel_rfl) rfl) (z0p (z1k zdL rfl (by kernel_rfl) rfl) (z0p (z1k zdI rfl (by kernel_rfl) rfl) (z1k zdH rfl (by kernel_rfl) rfl)))) (by kernel_rfl) rfl
theorem zlO : StOk (z0x 10 z7H) zho #[true, true, true, true, false, true, true, true, false, true, false, false, false, false] 6 [13] := z0Z (z0p (z1k zdP rfl (by kernel_rfl) rfl) (z0p (z1k zdL rfl (by kernel_rfl) rfl) (z0p (z1k zdK rfl (by kernel_rfl) rfl) (z1k zdJ rfl (by kernel_rfl) rfl)))) (by kernel_rfl) rfl
theorem zlP : StOk (z0x 10 z7H) zhp #[true, true, true, true, true, true, false, true, false, true, false, false, false, false] 6 [13] := z0Z (z0p (z1k zdP rfl (by kernel_rfl) rfl) (z0p (z1k zdO rfl (by kernel_rfl) rfl) (z0p (z1k zdN rfl (by kernel_rfl) rfl) (z1k zdM rfl (by kernel_rfl) rfl)))) (by kernel_rfl) rfl
theorem zlQ : StOk (z0x 10 z7H) zhq #[true, true, true, true, false, true, false, true, false, true, false, false, false, false] 7 [13] := z0Z (z0p (z1k zlP rfl (by kernel_rfl) rfl) (z0p (z1k zlO rfl (by kernel_rfl) rfl) (z0p (z1k zj9 rfl (by kernel_rfl) rfl) (z0p (z1k zj8 rfl (by kernel_rfl) rfl) (z1k zj7 rfl (by kernel_rfl) rfl))))) (by kernel_rfl) rfl
theorem zlR : StOk (z0x 10 z7H) zhr #[true, true, true, true, false, true, false, true, false, false, false, false, false, false] 8 [13] := z5k zlQ rfl (by kernel_rfl)
theorem zlS : StOk (z0x 10 z7H) zhs #[true, true, true, true, false, true, false, false, false, false, false, false, false, false] 9 [13] := z5k zlR rfl (by kernel_rfl)
theorem zlT : StOk (z0x 10 z7H) zht #[true, true, true, true, false, false, false, false, false, false, false, false, false, false] 10 [13] := z5k zlS rfl (by kernel_rfl)
theorem zlU : StOk (z0x 10 z7H) zhu #[true, true, true, false, false, false, false, false, false, false, false, false, false, false] 11 [13] := z5k zlT rfl (by kernel_rfl)
theorem zlV : StOk (z0x 10 z7H) zhv #[true, true, false, false, false, false, false, false, false, false, false, false, false, false] 12 [13] := z5k zlU rfl (by kernel_rfl)
theorem zlW : StOk (z0x 10 z7H) zhw #[true, false, false, false, false, false, false, false, false, false, false, false, false, false] 13 [13] := z5k zlV rfl (by kernel_rfl)
theorem zlX : StOk (z0x 10 z7H) zhx #[false, false, false, false, false, false, false, false, false, false, false, false, false, false] 14 [13] := z5k zlW rfl (by kernel_rfl)
theorem zui : z3l Try.prog 14 cf14 = true := zjl [10] zvn zvr rfl (by kernel_rfl) (by simp only [List.forall_mem_cons]; exact ⟨⟨_, rfl, zg4 (by kernel_rfl) zlX (by kernel_rfl) (by kernel_rfl)⟩, fun _ h => by cases h⟩)
theorem ziR : StOk (z0x 47 z3X) zfj #[true, true, true, true, true, true, true, true, true, true, true, true, true, true, true, true] 0 [] := zk8 (by kernel_rfl)
theorem ziS : StOk (z0x 47 z3X) zfk #[true, true, true, true, true, true, true, true, true, true, true, true, true, true, true, false] 1 [15] := zau ziR rfl (by kernel_rfl) rfl
theorem zdm : StOk (z0x 47 z3X) zbB #[true, true, true, true, true, true, true, true, true, true, true, true, true, true, false, false] 2 [15] := z5k ziS rfl (by kernel_rfl)
theorem ziT : StOk (z0x 47 z3X) zfl #[true, true, true, true, true, true, true, false, true, true, true, true, true, true, false, false] 3 [15] := zau zdm rfl (by kernel_rfl) rfl
theorem zdn : StOk (z0x 47 z3X) zbC #[true, true, true, true, true, true, true, true, true, true, true, true, true, false, false, false] 3 [13] := zau zdm rfl (by kernel_rfl) rfl
theorem ziU : StOk (z0x 47 z3X) zfm #[true, true, true, true, true, true, true, false, true, true, true, true, true, false, false, false] 4 [13] := z0Z (z0p (z1k zdn rfl (by kernel_rfl) rfl) (z1k ziT rfl (by kernel_rfl) rfl)) (by kernel_rfl) rfl
theorem zdo : StOk (z0x 47 z3X) zbD #[true, true, true, true, true, true, true, true, true, true, true, true, false, false, false, false] 4 [13] := z5k zdn rfl (by kernel_rfl)
theorem zdp : StOk (z0x 47 z3X) zbE #[true, true, true, true, true, false, true, true, true, true, true, true, false, false, false, false] 5 [13] := zau zdo rfl (by kernel_rfl) rfl
theorem zdq : StOk (z0x 47 z3X) zbF #[true, true, true, true, true, true, true, false, true, true, true, true, false, false, false, false] 5 [13] := z5k ziU rfl (by kernel_rfl)
theorem za3 : StOk (z0x 47 z3X) z9m #[true, true, true, true, true, true, true, true, true, true, true, false, false, false, false, false] 5 [11] := zau zdo rfl (by kernel_rfl) rfl
theorem ziV : StOk (z0x 47 z3X) zfn #[true, true, true, true, true, false, true, false, true, true, true, true, false, false, false, false] 6 [13] := z0Z (z0p (z1k zdq rfl (by kernel_rfl) rfl) (z1k zdp rfl (by kernel_rfl) rfl)) (by kernel_rfl) rfl
theorem zdr : StOk (z0x 47 z3X) zbG #[true, true, true, true, true, false, true, true, true, true, true, false, false, false, false, false] 6 [11] := z0Z (z0p (z1k za3 rfl (by kernel_rfl) rfl) (z1k zdp rfl (by kernel_rfl) rfl)) (by kernel_rfl) rfl
theorem zds : StOk (z0x 47 z3X) zbH #[true, true, true, true, true, true, true, false, true, true, true, false, false, false, false, false] 6 [11] := z0Z (z0p (z1k za3 rfl (by kernel_rfl) rfl) (z1k zdq rfl (by kernel_rfl) rfl)) (by kernel_rfl) rfl
theorem zdt : StOk (z0x 47 z3X) zbI #[true, true, true, true, true, true, true, true, true, true, false, false, false, false, false, false] 6 [11] := z5k za3 rfl (by kernel_rfl)
theorem za4 : StOk (z0x 47 z3X) z9n #[true, true, true, false, true, true, true, true, true, true, false, false, false, false, false, false] 7 [11] := zau zdt rfl (by kernel_rfl) rfl
theorem ziW : StOk (z0x 47 z3X) zfo #[true, true, true, true, true, false, true, false, true, true, true, false, false, false, false, false] 7 [11] := z0Z (z0p (z1k zds rfl (by kernel_rfl) rfl) (z0p (z1k zdr rfl (by kernel_rfl) rfl) (z1k ziV rfl (by kernel_rfl) rfl))) (by kernel_rfl) rfl
theorem zdu : StOk (z0x 47 z3X) zbJ #[true, true, true, true, true, false, true, true, true, true, false, false, false, false, false, false] 7 [11] := z5k zdr rfl (by kernel_rfl)
theorem zdv : StOk (z0x 47 z3X) zbK #[true, true, true, true, true, true, true, false, true, true, false, false, false, false, false, false] 7 [11] := z5k zds rfl (by kernel_rfl)
theorem z8g : StOk (z0x 47 z3X) z7L #[true, true, true, true, true, true, true, true, true, false, false, false, false, false, false, false] 7 [9] := zau zdt rfl (by kernel_rfl) rfl
theorem zdw : StOk (z0x 47 z3X) zbL #[true, true, true, false, true, false, true, true, true, true, false, false, false, false, false, false] 8 [11] := z0Z (z0p (z1k zdu rfl (by kernel_rfl) rfl) (z1k za4 rfl (by kernel_rfl) rfl)) (by kernel_rfl) rfl
theorem zdx : StOk (z0x 47 z3X) zbM #[true, true, true, false, true, true, true, false, true, true, false, false, false, false, false, false] 8 [11] := z0Z (z0p (z1k zdv rfl (by kernel_rfl) rfl) (z1k za4 rfl (by kernel_rfl) rfl)) (by kernel_rfl) rfl
theorem za5 : StOk (z0x 47 z3X) z9o #[true, true, true, false, true, true, true, true, true, false, false, false, false, false, false, false] 8 [9] := z0Z (z0p (z1k z8g rfl (by kernel_rfl) rfl) (z1k za4 rfl (by kernel_rfl) rfl)) (by kernel_rfl) rfl
theorem zdy : StOk (z0x 47 z3X) zbN #[true, true, true, true, true, false, true, false, true, true, false, false, false, false, false, false] 8 [11] := z5k ziW rfl (by kernel_rfl)
theorem za6 : StOk (z0x 47 z3X) z9p #[true, true, true, true, true, false, true, true, true, false, false, false, false, false, false, false] 8 [9] := z0Z (z0p (z1k z8g rfl (by kernel_rfl) rfl) (z1k zdu rfl (by kernel_rfl) rfl)) (by kernel_rfl) rfl
theorem za7 : StOk (z0x 47 z3X) z9q #[true, true, true, true, true, true, true, false, true, false, false, false, false, false, false, false] 8 [9] := z0Z (z0p (z1k z8g rfl (by kernel_rfl) rfl) (z1k zdv rfl (by kernel_rfl) rfl)) (by kernel_rfl) rfl
theorem ziX : StOk (z0x 47 z3X) zfp #[true, true, true, true, true, true, true, true, false, false, false, false, false, false, false, false] 8 [9] := z5k z8g rfl (by kernel_rfl)
theorem za8 : StOk (z0x 47 z3X) z9r #[true, false, true, true, true, true, true, true, false, false, false, false, false, false, false, false] 9 [9] := zau ziX rfl (by kernel_rfl) rfl
theorem ziY : StOk (z0x 47 z3X) zfq #[true, true, true, false, true, false, true, false, true, true, false, false, false, false, false, false] 9 [11] := z0Z (z0p (z1k zdy rfl (by kernel_rfl) rfl) (z0p (z1k zdx rfl (by kernel_rfl) rfl) (z1k zdw rfl (by kernel_rfl) rfl))) (by kernel_rfl) rfl
theorem zdz : StOk (z0x 47 z3X) zbO #[true, true, true, false, true, false, true, true, true, false, false, false, false, false, false, false] 9 [9] := z0Z (z0p (z1k za6 rfl (by kernel_rfl) rfl) (z0p (z1k za5 rfl (by kernel_rfl) rfl) (z1k zdw rfl (by kernel_rfl) rfl))) (by kernel_rfl) rfl
theorem zdA : StOk (z0x 47 z3X) zbP #[true, true, true, false, true, true, true, false, true, false, false, false, false, false, false, false] 9 [9] := z0Z (z0p (z1k za7 rfl (by kernel_rfl) rfl) (z0p (z1k za5 rfl (by kernel_rfl) rfl) (z1k zdx rfl (by kernel_rfl) rfl))) (by kernel_rfl) rfl
theorem ziZ : StOk (z0x 47 z3X) zfr #[true, true, true, false, true, true, true, true, false, false, false, false, false, false, false, false] 9 [9] := z5k za5 rfl (by kernel_rfl)
theorem zdB : StOk (z0x 47 z3X) zbQ #[true, true, true, true, true, false, true, false, true, false, false, false, false, false, false, false] 9 [9] := z0Z (z0p (z1k za7 rfl (by kernel_rfl) rfl) (z0p (z1k za6 rfl (by kernel_rfl) rfl) (z1k zdy rfl (by kernel_rfl) rfl))) (by kernel_rfl) rfl
theorem zj0 : StOk (z0x 47 z3X) zfs #[true, true, true, true, true, false, true, true, false, false, false, false, false, false, false, false] 9 [9] := z5k za6 rfl (by kernel_rfl)
theorem zj1 : StOk (z0x 47 z3X) zft #[true, true, true, true, true, true, true, false, false, false, false, false, false, false, false, false] 9 [9] := z5k za7 rfl (by kernel_rfl)
theorem zdC : StOk (z0x 47 z3X) zbR #[true, false, true, false, true, true, true, true, false, false, false, false, false, false, false, false] 10 [9] := z0Z (z0p (z1k ziZ rfl (by kernel_rfl) rfl) (z1k za8 rfl (by kernel_rfl) rfl)) (by kernel_rfl) rfl
theorem zdD : StOk (z0x 47 z3X) zbS #[true, false, true, true, true, false, true, true, false, false, false, false, false, false, false, false] 10 [9] := z0Z (z0p (z1k zj0 rfl (by kernel_rfl) rfl) (z1k za8 rfl (by kernel_rfl) rfl)) (by kernel_rfl) rfl
theorem zdE : StOk (z0x 47 z3X) zbT #[true, false, true, true, true, true, true, false, false, false, false, false, false, false, false, false] 10 [9] := z0Z (z0p (z1k zj1 rfl (by kernel_rfl) rfl) (z1k za8 rfl (by kernel_rfl) rfl)) (by kernel_rfl) rfl
theorem zj2 : StOk (z0x 47 z3X) zfu #[true, true, true, false, true, false, true, false, true, false, false, false, false, false, false, false] 10 [9] := z0Z (z0p (z1k zdB rfl (by kernel_rfl) rfl) (z0p (z1k zdA rfl (by kernel_rfl) rfl) (z0p (z1k zdz rfl (by kernel_rfl) rfl) (z1k ziY rfl (by kernel_rfl) rfl)))) (by kernel_rfl) rfl
theorem zj3 : StOk (z0x 47 z3X) zfv #[true, true, true, false, true, false, true, true, false, false, false, false, false, false, false, false] 10 [9] := z5k zdz rfl (by kernel_rfl)
theorem zj4 : StOk (z0x 47 z3X) zfw #[true, true, true, false, true, true, true, false, false, false, false, false, false, false, false, false] 10 [9] := z5k zdA rfl (by kernel_rfl)
theorem zlE : StOk (z0x 47 z3X) zhe #[true, true, true, true, true, false, true, false, false, false, false, false, false, false, false, false] 10 [9] := z5k zdB rfl (by kernel_rfl)
theorem zlF : StOk (z0x 47 z3X) zhf #[true, false, true, false, true, false, true, true, false, false, false, false, false, false, false, false] 11 [9] := z0Z (z0p (z1k zj3 rfl (by kernel_rfl) rfl) (z0p (z1k zdD rfl (by kernel_rfl) rfl) (z1k zdC rfl (by kernel_rfl) rfl))) (by kernel_rfl) rfl
theorem zlG : StOk (z0x 47 z3X) zhg #[true, false, true, false, true, true, true, false, false, false, false, false, false, false, false, false] 11 [9] := z0Z (z0p (z1k zj4 rfl (by kernel_rfl) rfl) (z0p (z1k zdE rfl (by kernel_rfl) rfl) (z1k zdC rfl (by kernel_rfl) rfl))) (by kernel_rfl) rfl
theorem zlH : StOk (z0x 47 z3X) zhh #[true, false, true, true, true, false, true, false, false, false, false, false, false, false, false, false] 11 [9] := z0Z (z0p (z1k zlE rfl (by kernel_rfl) rfl) (z0p (z1k zdE rfl (by kernel_rfl) rfl) (z1k zdD rfl (by kernel_rfl) rfl))) (by kernel_rfl) rfl
theorem zlI : StOk (z0x 47 z3X) zhi #[true, true, true, false, true, false, true, false, false, false, false, false, false, false, false, false] 11 [9] := z5k zj2 rfl (by kernel_rfl)
theorem zlJ : StOk (z0x 47 z3X) zhj #[true, false, true, false, true, false, true, false, false, false, false, false, false, false, false, false] 12 [9] := z0Z (z0p (z1k zlI rfl (by kernel_rfl) rfl) (z0p (z1k zlH rfl (by kernel_rfl) rfl) (z0p (z1k zlG rfl (by kernel_rfl) rfl) (z1k zlF rfl (by kernel_rfl) rfl)))) (by kernel_rfl) rfl
theorem zlK : StOk (z0x 47 z3X) zhk #[true, false, true, false, true, false, false, false, false, false, false, false, false, false, false, false] 13 [9] := z5k zlJ rfl (by kernel_rfl)
theorem zlL : StOk (z0x 47 z3X) zhl #[true, false, true, false, false, false, false, false, false, false, false, false, false, false, false, false] 14 [9] := z5k zlK rfl (by kernel_rfl)
theorem zlM : StOk (z0x 47 z3X) zhm #[true, false, false, false, false, false, false, false, false, false, false, false, false, false, false, false] 15 [9] := z5k zlL rfl (by kernel_rfl)
theorem zlN : StOk (z0x 47 z3X) zhn #[false, false, false, false, false, false, false, false, false, false, false, false, false, false, false, false] 16 [9] := z5k zlM rfl (by kernel_rfl)
theorem ziK : StOk (z0x 77 z3X) zfc #[true, true, true, true, true, true, true, true, true, true, true, true, true] 0 [] := zk8 (by kernel_rfl)
theorem ziL : StOk (z0x 77 z3X) zfd #[true, true, true, true, true, true, true, true, true, true, true, true, false] 1 [12] := zau ziK rfl (by kernel_rfl) rfl
theorem zdg : StOk (z0x 77 z3X) zbv #[true, true, true, true, true, true, true, true, true, true, true, false, false] 2 [12] := z5k ziL rfl (by kernel_rfl)
theorem ziM : StOk (z0x 77 z3X) zfe #[true, false, true, true, true, true, true, true, true, true, true, false, false] 3 [1] := zau zdg rfl (by kernel_rfl) rfl
theorem za1 : StOk (z0x 77 z3X) z9k #[true, true, true, true, true, true, true, true, true, true, false, false, false] 3 [10] := zau zdg rfl (by kernel_rfl) rfl
theorem zdh : StOk (z0x 77 z3X) zbw #[true, false, true, true, true, true, true, true, true, true, false, false, false] 4 [1, 10] := z0Z (z0p (z1k za1 rfl (by kernel_rfl) rfl) (z1k ziM rfl (by kernel_rfl) rfl)) (by kernel_rfl) rfl
theorem za2 : StOk (z0x 77 z3X) z9l #[true, true, true, true, true, true, true, false, true, true, false, false, false] 4 [7] := zau za1 rfl (by kernel_rfl) rfl
theorem zdi : StOk (z0x 77 z3X) zbx #[true, true, true, true, true, true, true, true, true, false, false, false, false] 4 [10] := zau za1 rfl (by kernel_rfl) rfl
theorem zdj : StOk (z0x 77 z3X) zby #[true, false, true, true, true, true, true, false, true, true, false, false, false] 5 [1, 7] := z0Z (z0p (z1k za2 rfl (by kernel_rfl) rfl) (z1k zdh rfl (by kernel_rfl) rfl)) (by kernel_rfl) rfl
theorem ziN : StOk (z0x 77 z3X) zff #[true, false, true, true, true, true, true, true, true, false, false, false, false] 5 [1, 10] := z0Z (z0p (z1k zdi rfl (by kernel_rfl) rfl) (z1k zdh rfl (by kernel_rfl) rfl)) (by kernel_rfl) rfl
theorem ziO : StOk (z0x 77 z3X) zfg #[true, true, true, true, true, true, false, false, true, true, false, false, false] 5 [7] := z5k za2 rfl (by kernel_rfl)
theorem zdk : StOk (z0x 77 z3X) zbz #[true, true, true, true, true, true, true, false, true, false, false, false, false] 5 [7] := z0Z (z0p (z1k zdi rfl (by kernel_rfl) rfl) (z1k za2 rfl (by kernel_rfl) rfl)) (by kernel_rfl) rfl
theorem ziP : StOk (z0x 77 z3X) zfh #[true, false, true, true, true, true, false, false, true, true, false, false, false] 6 [1, 7] := z5k zdj rfl (by kernel_rfl)
theorem ziQ : StOk (z0x 77 z3X) zfi #[true, false, true, true, true, true, true, false, true, false, false, false, false] 6 [1, 7] := z0Z (z0p (z1k zdk rfl (by kernel_rfl) rfl) (z0p (z1k ziN rfl (by kernel_rfl) rfl) (z1k zdj rfl (by kernel_rfl) rfl))) (by kernel_rfl) rfl
theorem zdl : StOk (z0x 77 z3X) zbA #[true, true, true, true, false, true, false, false, true, true, false, false, false] 6 [4] := zau ziO rfl (by kernel_rfl) rfl
theorem zlu : StOk (z0x 77 z3X) zh4 #[true, true, true, true, true, true, false, false, true, false, false, false, false] 6 [7] := z5k zdk rfl (by kernel_rfl)
theorem zlv : StOk (z0x 77 z3X) zh5 #[true, false, true, true, false, true, false, false, true, true, false, false, false] 7 [1, 4] := z0Z (z0p (z1k zdl rfl (by kernel_rfl) rfl) (z1k ziP rfl (by kernel_rfl) rfl)) (by kernel_rfl) rfl
theorem zlw : StOk (z0x 77 z3X) zh6 #[true, false, true, true, true, true, false, false, true, false, false, false, false] 7 [1, 7] := z5k ziQ rfl (by kernel_rfl)
theorem zlx : StOk (z0x 77 z3X) zh7 #[true, true, true, true, false, true, false, false, true, false, false, false, false] 7 [4] := z0Z (z0p (z1k zlu rfl (by kernel_rfl) rfl) (z1k zdl rfl (by kernel_rfl) rfl)) (by kernel_rfl) rfl
theorem zly : StOk (z0x 77 z3X) zh8 #[true, false, true, true, false, true, false, false, true, false, false, false, false] 8 [1, 4] := z0Z (z0p (z1k zlx rfl (by kernel_rfl) rfl) (z0p (z1k zlw rfl (by kernel_rfl) rfl) (z1k zlv rfl (by kernel_rfl) rfl))) (by kernel_rfl) rfl
theorem zlz : StOk (z0x 77 z3X) zh9 #[true, false, true, true, false, true, false, false, false, false, false, false, false] 9 [1, 4] := z5k zly rfl (by kernel_rfl)
theorem zlA : StOk (z0x 77 z3X) zha #[true, false, true, true, false, false, false, false, false, false, false, false, false] 10 [1, 4] := z5k zlz rfl (by kernel_rfl)
theorem zlB : StOk (z0x 77 z3X) zhb #[true, false, true, false, false, false, false, false, false, false, false, false, false] 11 [1, 4] := z5k zlA rfl (by kernel_rfl)
theorem zlC : StOk (z0x 77 z3X) zhc #[true, false, false, false, false, false, false, false, false, false, false, false, false] 12 [1, 4] := z5k zlB rfl (by kernel_rfl)
theorem zlD : StOk (z0x 77 z3X) zhd #[false, false, false, false, false, false, false, false, false, false, false, false, false] 13 [1, 4] := z5k zlC rfl (by kernel_rfl)
theorem zuh : z3l Try.prog 15 cf15 = true := zjl [47, 77] zvm zvq rfl (by kernel_rfl) (by simp only [List.forall_mem_cons]; exact ⟨⟨_, rfl, zg4 (by kernel_rfl) zlN (by kernel_rfl) (by kernel_rfl)⟩, ⟨_, rfl, zg4 (by kernel_rfl) zlD (by kernel_rfl) (by kernel_rfl)⟩, fun _ h => by cases h⟩)
theorem zug : z3l Try.prog 16 cf16 = true := by kernel_rfl
theorem zuf : z3l Try.prog 17 cf17 = true := by kernel_rfl
theorem zue : z3l Try.prog 18 cf18 = true := by kernel_rfl
theorem zud : z3l Try.prog 19 cf19 = true := by kernel_rfl
theorem zuc : z3l Try.prog 20 cf20 = true := by kernel_rfl
theorem zub : z3l Try.prog 21 cf21 = true := by kernel_rfl
theorem zua : z3l Try.prog 22 cf22 = true := by kernel_rfl
theorem zu9 : z3l Try.prog 23 cf23 = true := by kernel_rfl
theorem zu8 : z3l Try.prog 24 cf24 = true := by kernel_rfl
theorem zu7 : z3l Try.prog 25 cf25 = true := by kernel_rfl
theorem zu6 : z3l Try.prog 26 cf26 = true := by kernel_rfl
theorem zu5 : z3l Try.prog 27 cf27 = true := by kernel_rfl
theorem zu4 : z3l Try.prog 28 cf28 = true := by kernel_rfl
theorem zu3 : z3l Try.prog 29 cf29 = true := by kernel_rfl
theorem zu2 : z3l Try.prog 30 cf30 = true := by kernel_rfl
theorem zu1 : z3l Try.prog 31 cf31 = true := by kernel_rfl
theorem zlb : StOk (z0x 7 z4z) zgL #[true, true, true, true, true, true, true, true, true, true, true, true, true, true, true, true, true] 0 [] := zk8 (by kernel_rfl)
theorem zlc : StOk (z0x 7 z4z) zgM #[true, true, true, true, true, true, true, true, true, true, true, true, true, true, true, true, false] 1 [16] := zau zlb rfl (by kernel_rfl) rfl
theorem zld : StOk (z0x 7 z4z) zgN #[true, true, true, true, true, true, true, true, true, true, true, true, true, true, true, false, false] 2 [16] := z5k zlc rfl (by kernel_rfl)
theorem zle : StOk (z0x 7 z4z) zgO #[true, true, true, true, true, true, true, true, true, true, true, true, true, true, false, false, false] 3 [14] := zau zld rfl (by kernel_rfl) rfl
theorem zeS : StOk (z0x 7 z4z) zcW #[true, true, true, true, true, true, true, true, true, true, true, true, false, true, false, false, false] 4 [12] := zau zle rfl (by kernel_rfl) rfl
theorem zeT : StOk (z0x 7 z4z) zcX #[true, true, true, true, true, true, true, true, true, true, true, false, false, true, false, false, false] 5 [12] := zau zeS rfl (by kernel_rfl) rfl
theorem zeU : StOk (z0x 7 z4z) zcY #[true, true, true, true, true, true, true, true, true, true, true, true, false, false, false, false, false] 5 [12] := z5k zeS rfl (by kernel_rfl)
theorem z9g : StOk (z0x 7 z4z) z8E #[true, true, true, true, true, true, false, true, true, true, true, true, false, false, false, false, false] 6 [6] := zau zeU rfl (by kernel_rfl) rfl
theorem zeV : StOk (z0x 7 z4z) zcZ #[true, true, true, true, true, true, true, true, false, true, true, true, false, false, false, false, false] 6 [8] := zau zeU rfl (by kernel_rfl) rfl
theorem zlf : StOk (z0x 7 z4z) zgP #[true, true, true, true, true, true, true, true, true, true, false, false, false, true, false, false, false] 6 [12] := zau zeT rfl (by kernel_rfl) rfl
theorem zeW : StOk (z0x 7 z4z) zd0 #[true, true, true, true, true, true, true, true, true, true, true, false, false, false, false, false, false] 6 [12] := z5k zeT rfl (by kernel_rfl)
theorem zbj : StOk (z0x 7 z4z) zax #[true, false, true, true, true, true, false, true, true, true, true, true, false, false, false, false, false] 7 [1] := zau z9g rfl (by kernel_rfl) rfl
theorem z9h : StOk (z0x 7 z4z) z8F #[true, true, true, true, true, false, false, true, true, true, true, true, false, false, false, false, false] 7 [6] := zau z9g rfl (by kernel_rfl) rfl
theorem zbk : StOk (z0x 7 z4z) zay #[true, true, true, true, true, true, false, true, false, true, true, true, false, false, false, false, false] 7 [6, 8] := z0Z (z0p (z1k zeV rfl (by kernel_rfl) rfl) (z1k z9g rfl (by kernel_rfl) rfl)) (by kernel_rfl) rfl
theorem z9i : StOk (z0x 7 z4z) z8G #[true, true, true, true, true, true, false, true, true, true, true, false, false, false, false, false, false] 7 [6] := z0Z (z0p (z1k zeW rfl (by kernel_rfl) rfl) (z1k z9g rfl (by kernel_rfl) rfl)) (by kernel_rfl) rfl
theorem zeX : StOk (z0x 7 z4z) zd1 #[true, true, true, true, true, true, true, true, false, true, true, false, false, false, false, false, false] 7 [8] := z0Z (z0p (z1k zeW rfl (by kernel_rfl) rfl) (z1k zeV rfl (by kernel_rfl) rfl)) (by kernel_rfl) rfl
theorem zeY : StOk (z0x 7 z4z) zd2 #[true, true, true, true, true, true, true, true, true, true, false, false, false, false, false, false, false] 7 [12] := z5k zlf rfl (by kernel_rfl)
theorem zbl : StOk (z0x 7 z4z) zaz #[true, false, true, true, true, false, false, true, true, true, true, true, false, false, false, false, false] 8 [1] := z0Z (z0p (z1k z9h rfl (by kernel_rfl) rfl) (z1k zbj rfl (by kernel_rfl) rfl)) (by kernel_rfl) rfl
theorem zeZ : StOk (z0x 7 z4z) zd3 #[true, false, true, true, true, true, false, true, false, true, true, true, false, false, false, false, false] 8 [1, 8] := z0Z (z0p (z1k zbk rfl (by kernel_rfl) rfl) (z1k zbj rfl (by kernel_rfl) rfl)) (by kernel_rfl) rfl
theorem zbm : StOk (z0x 7 z4z) zaA #[true, false, true, true, true, true, false, true, true, true, true, false, false, false, false, false, false] 8 [1] := z0Z (z0p (z1k z9i rfl (by kernel_rfl) rfl) (z1k zbj rfl (by kernel_rfl) rfl)) (by kernel_rfl) rfl
theorem zlg : StOk (z0x 7 z4z) zgQ #[true, true, true, true, false, false, false, true, true, true, true, true, false, false, false, false, false] 8 [6] := z5k z9h rfl (by kernel_rfl)
theorem zbn : StOk (z0x 7 z4z) zaB #[true, true, true, true, true, false, false, true, false, true, true, true, false, false, false, false, false] 8 [6, 8] := z0Z (z0p (z1k zbk rfl (by kernel_rfl) rfl) (z1k z9h rfl (by kernel_rfl) rfl)) (by kernel_rfl) rfl
theorem z9j : StOk (z0x 7 z4z) z8H #[true, true, true, true, true, false, false, true, true, true, true, false, false, false, false, false, false] 8 [6] := z0Z (z0p (z1k z9i rfl (by kernel_rfl) rfl) (z1k z9h rfl (by kernel_rfl) rfl)) (by kernel_rfl) rfl
theorem zbo : StOk (z0x 7 z4z) zaC #[true, true, true, true, true, true, false, true, false, true, true, false, false, false, false, false, false] 8 [6, 8] := z0Z (z0p (z1k zeX rfl (by kernel_rfl) rfl) (z0p (z1k z9i rfl (by kernel_rfl) rfl) (z1k zbk rfl (by kernel_rfl) rfl))) (by kernel_rfl) rfl
theorem zbp : StOk (z0x 7 z4z) zaD #[true, true, true, true, true, true, false, true, true, true, false, false, false, false, false, false, false] 8 [6] := z0Z (z0p (z1k zeY rfl (by kernel_rfl) rfl) (z1k z9i rfl (by kernel_rfl) rfl)) (by kernel_rfl) rfl
theorem zlh : StOk (z0x 7 z4z) zgR #[true, true, true, true, true, true, true, true, false, true, false, false, false, false, false, false, false] 8 [8] := z0Z (z0p (z1k zeY rfl (by kernel_rfl) rfl) (z1k zeX rfl (by kernel_rfl) rfl)) (by kernel_rfl) rfl
theorem zli : StOk (z0x 7 z4z) zgS #[true, false, true, true, false, false, false, true, true, true, true, true, false, false, false, false, false] 9 [1] := z5k zbl rfl (by kernel_rfl)
theorem zf0 : StOk (z0x 7 z4z) zd4 #[true, false, true, true, true, false, false, true, false, true, true, true, false, false, false, false, false] 9 [1, 8] := z0Z (z0p (z1k zbn rfl (by kernel_rfl) rfl) (z0p (z1k zeZ rfl (by kernel_rfl) rfl) (z1k zbl rfl (by kernel_rfl) rfl))) (by kernel_rfl) rfl
theorem zbq : StOk (z0x 7 z4z) zaE #[true, false, true, true, true, false, false, true, true, true, true, false, false, false, false, false, false] 9 [1] := z0Z (z0p (z1k z9j rfl (by kernel_rfl) rfl) (z0p (z1k zbm rfl (by kernel_rfl) rfl) (z1k zbl rfl (by kernel_rfl) rfl))) (by kernel_rfl) rfl
theorem zf1 : StOk (z0x 7 z4z) zd5 #[true, false, true, true, true, true, false, true, false, true, true, false, false, false, false, false, false] 9 [1, 8] := z0Z (z0p (z1k zbo rfl (by kernel_rfl) rfl) (z0p (z1k zbm rfl (by kernel_rfl) rfl) (z1k zeZ rfl (by kernel_rfl) rfl))) (by kernel_rfl) rfl
theorem zf2 : StOk (z0x 7 z4z) zd6 #[true, false, true, true, true, true, false, true, true, true, false, false, false, false, false, false, false] 9 [1] := z0Z (z0p (z1k zbp rfl (by kernel_rfl) rfl) (z1k zbm rfl (by kernel_rfl) rfl)) (by kernel_rfl) rfl
theorem zbr : StOk (z0x 7 z4z) zaF #[true, true, true, false, false, false, false, true, true, true, true, true, false, false, false, false, false] 9 [6] := zau zlg rfl (by kernel_rfl) rfl
theorem zlj : StOk (z0x 7 z4z) zgT #[true, true, true, true, false, false, false, true, false, true, true, true, false, false, false, false, false] 9 [6, 8] := z5k zbn rfl (by kernel_rfl)
theorem zlk : StOk (z0x 7 z4z) zgU #[true, true, true, true, false, false, false, true, true, true, true, false, false, false, false, false, false] 9 [6] := z5k z9j rfl (by kernel_rfl)
theorem zbs : StOk (z0x 7 z4z) zaG #[true, true, true, true, true, false, false, true, false, true, true, false, false, false, false, false, false] 9 [6, 8] := z0Z (z0p (z1k zbo rfl (by kernel_rfl) rfl) (z0p (z1k z9j rfl (by kernel_rfl) rfl) (z1k zbn rfl (by kernel_rfl) rfl))) (by kernel_rfl) rfl
theorem zbt : StOk (z0x 7 z4z) zaH #[true, true, true, true, true, false, false, true, true, true, false, false, false, false, false, false, false] 9 [6] := z0Z (z0p (z1k zbp rfl (by kernel_rfl) rfl) (z1k z9j rfl (by kernel_rfl) rfl)) (by kernel_rfl) rfl
theorem zf3 : StOk (z0x 7 z4z) zd7 #[true, true, true, true, true, true, false, true, false, true, false, false, false, false, false, false, false] 9 [6, 8] := z0Z (z0p (z1k zlh rfl (by kernel_rfl) rfl) (z0p (z1k zbp rfl (by kernel_rfl) rfl) (z1k zbo rfl (by kernel_rfl) rfl))) (by kernel_rfl) rfl
theorem zf4 : StOk (z0x 7 z4z) zd8 #[true, false, true, false, false, false, false, true, true, true, true, true, false, false, false, false, false] 10 [1] := z0Z (z0p (z1k zbr rfl (by kernel_rfl) rfl) (z1k zli rfl (by kernel_rfl) rfl)) (by kernel_rfl) rfl
theorem zll : StOk (z0x 7 z4z) zgV #[true, false, true, true, false, false, false, true, false, true, true, true, false, false, false, false, false] 10 [1, 8] := z5k zf0 rfl (by kernel_rfl)
theorem zlm : StOk (z0x 7 z4z) zgW #[true, false, true, true, false, false, false, true, true, true, true, false, false, false, false, false, false] 10 [1] := z5k zbq rfl (by kernel_rfl)
theorem zf5 : StOk (z0x 7 z4z) zd9 #[true, false, true, true, true, false, false, true, false, true, true, false, false, false, false, false, false] 10 [1, 8] := z0Z (z0p (z1k zbs rfl (by kernel_rfl) rfl) (z0p (z1k zf1 rfl (by kernel_rfl) rfl) (z0p (z1k zbq rfl (by kernel_rfl) rfl) (z1k zf0 rfl (by kernel_rfl) rfl)))) (by kernel_rfl) rfl
theorem zf6 : StOk (z0x 7 z4z) zda #[true, false, true, true, true, false, false, true, true, true, false, false, false, false, false, false, false] 10 [1] := z0Z (z0p (z1k zbt rfl (by kernel_rfl) rfl) (z0p (z1k zf2 rfl (by kernel_rfl) rfl) (z1k zbq rfl (by kernel_rfl) rfl))) (by kernel_rfl) rfl
theorem zln : StOk (z0x 7 z4z) zgX #[true, false, true, true, true, true, false, true, false, true, false, false, false, false, false, false, false] 10 [1, 8] := z0Z (z0p (z1k zf3 rfl (by kernel_rfl) rfl) (z0p (z1k zf2 rfl (by kernel_rfl) rfl) (z1k zf1 rfl (by kernel_rfl) rfl))) (by kernel_rfl) rfl
theorem zf7 : StOk (z0x 7 z4z) zdb #[true, true, true, false, false, false, false, true, false, true, true, true, false, false, false, false, false] 10 [6, 8] := z0Z (z0p (z1k zlj rfl (by kernel_rfl) rfl) (z1k zbr rfl (by kernel_rfl) rfl)) (by kernel_rfl) rfl
theorem zbu : StOk (z0x 7 z4z) zaI #[true, true, true, false, false, false, false, true, true, true, true, false, false, false, false, false, false] 10 [6] := z0Z (z0p (z1k zlk rfl (by kernel_rfl) rfl) (z1k zbr rfl (by kernel_rfl) rfl)) (by kernel_rfl) rfl
theorem zlo : StOk (z0x 7 z4z) zgY #[true, true, true, true, false, false, false, true, false, true, true, false, false, false, false, false, false] 10 [6, 8] := z5k zbs rfl (by kernel_rfl)
theorem zlp : StOk (z0x 7 z4z) zgZ #[true, true, true, true, false, false, false, true, true, true, false, false, false, false, false, false, false] 10 [6] := z5k zbt rfl (by kernel_rfl)
theorem zf8 : StOk (z0x 7 z4z) zdc #[true, true, true, true, true, false, false, true, false, true, false, false, false, false, false, false, false] 10 [6, 8] := z0Z (z0p (z1k zf3 rfl (by kernel_rfl) rfl) (z0p (z1k zbt rfl (by kernel_rfl) rfl) (z1k zbs rfl (by kernel_rfl) rfl))) (by kernel_rfl) rfl
theorem zlq : StOk (z0x 7 z4z) zh0 #[true, false, true, false, false, false, false, true, false, true, true, true, false, false, false, false, false] 11 [1, 8] := z0Z (z0p (z1k zf7 rfl (by kernel_rfl) rfl) (z0p (z1k zll rfl (by kernel_rfl) rfl) (z1k zf4 rfl (by kernel_rfl) rfl))) (by kernel_rfl) rfl
theorem zf9 : StOk (z0x 7 z4z) zdd #[true, false, true, false, false, false, false, true, true, true, true, false, false, false, false, false, false] 11 [1] := z0Z (z0p (z1k zbu rfl (by kernel_rfl) rfl) (z0p (z1k zlm rfl (by kernel_rfl) rfl) (z1k zf4 rfl (by kernel_rfl) rfl))) (by kernel_rfl) rfl
theorem zlr : StOk (z0x 7 z4z) zh1 #[true, false, true, true, false, false, false, true, false, true, true, false, false, false, false, false, false] 11 [1, 8] := z5k zf5 rfl (by kernel_rfl)
theorem zls : StOk (z0x 7 z4z) zh2 #[true, false, true, true, false, false, false, true, true, true, false, false, false, false, false, false, false] 11 [1] := z5k zf6 rfl (by kernel_rfl)
theorem zlt : StOk (z0x 7 z4z) zh3 #[true, false, true, true, true, false, false, true, false, true, false, false, false, false, false, false, false] 11 [1, 8] := z0Z (z0p (z1k zf8 rfl (by kernel_rfl) rfl) (z0p (z1k zln rfl (by kernel_rfl) rfl) (z0p (z1k zf6 rfl (by kernel_rfl) rfl) (z1k zf5 rfl (by kernel_rfl) rfl)))) (by kernel_rfl) rfl
theorem zfa : StOk (z0x 7 z4z) zde #[true, true, true, false, false, false, false, true, false, true, true, false, false, false, false, false, false] 11 [6, 8] := z0Z (z0p (z1k zlo rfl (by kernel_rfl) rfl) (z0p (z1k zbu rfl (by kernel_rfl) rfl) (z1k zf7 rfl (by kernel_rfl) rfl))) (by kernel_rfl) rfl
theorem zfb : StOk (z0x 7 z4z) zdf #[true, true, true, false, false, false, false, true, true, true, false, false, false, false, false, false, false] 11 [6] := z0Z (z0p (z1k zlp rfl (by kernel_rfl) rfl) (z1k zbu rfl (by kernel_rfl) rfl)) (by kernel_rfl) rfl
theorem zn4 : StOk (z0x 7 z4z) zjV #[true, true, true, true, false, false, false, true, false, true, false, false, false, false, false, false, false] 11 [6, 8] := z5k zf8 rfl (by kernel_rfl)
theorem zn5 : StOk (z0x 7 z4z) zjW #[true, false, true, false, false, false, false, true, false, true, true, false, false, false, false, false, false] 12 [1, 8] := z0Z (z0p (z1k zfa rfl (by kernel_rfl) rfl) (z0p (z1k zlr rfl (by kernel_rfl) rfl) (z0p (z1k zf9 rfl (by kernel_rfl) rfl) (z1k zlq rfl (by kernel_rfl) rfl)))) (by kernel_rfl) rfl
theorem zn6 : StOk (z0x 7 z4z) zjX #[true, false, true, false, false, false, false, true, true, true, false, false, false, false, false, false, false] 12 [1] := z0Z (z0p (z1k zfb rfl (by kernel_rfl) rfl) (z0p (z1k zls rfl (by kernel_rfl) rfl) (z1k zf9 rfl (by kernel_rfl) rfl))) (by kernel_rfl) rfl
theorem zn7 : StOk (z0x 7 z4z) zjY #[true, false, true, true, false, false, false, true, false, true, false, false, false, false, false, false, false] 12 [1, 8] := z5k zlt rfl (by kernel_rfl)
theorem zn8 : StOk (z0x 7 z4z) zjZ #[true, true, true, false, false, false, false, true, false, true, false, false, false, false, false, false, false] 12 [6, 8] := z0Z (z0p (z1k zn4 rfl (by kernel_rfl) rfl) (z0p (z1k zfb rfl (by kernel_rfl) rfl) (z1k zfa rfl (by kernel_rfl) rfl))) (by kernel_rfl) rfl
theorem zn9 : StOk (z0x 7 z4z) zk0 #[true, false, true, false, false, false, false, true, false, true, false, false, false, false, false, false, false] 13 [1, 8] := z0Z (z0p (z1k zn8 rfl (by kernel_rfl) rfl) (z0p (z1k zn7 rfl (by kernel_rfl) rfl) (z0p (z1k zn6 rfl (by kernel_rfl) rfl) (z1k zn5 rfl (by kernel_rfl) rfl)))) (by kernel_rfl) rfl
theorem zna : StOk (z0x 7 z4z) zk1 #[true, false, true, false, false, false, false, true, false, false, false, false, false, false, false, false, false] 14 [1, 8] := z5k zn9 rfl (by kernel_rfl)
theorem znb : StOk (z0x 7 z4z) zk2 #[true, false, true, false, false, false, false, false, false, false, false, false, false, false, false, false, false] 15 [1, 8] := z5k zna rfl (by kernel_rfl)
theorem znc : StOk (z0x 7 z4z) zk3 #[true, false, false, false, false, false, false, false, false, false, false, false, false, false, false, false, false] 16 [1, 8] := z5k znb rfl (by kernel_rfl)
theorem znd : StOk (z0x 7 z4z) zk4 #[false, false, false, false, false, false, false, false, false, false, false, false, false, false, false, false, false] 17 [1, 8] := z5k znc rfl (by kernel_rfl)
theorem zu0 : z3l Try.prog 32 cf32 = true := zjl [7] zvl zvp rfl (by kernel_rfl) (by simp only [List.forall_mem_cons]; exact ⟨⟨_, rfl, zg4 (by kernel_rfl) znd (by kernel_rfl) (by kernel_rfl)⟩, fun _ h => by cases h⟩)
theorem ztZ : z3l Try.prog 33 cf33 = true := by kernel_rfl
theorem ztY : z3l Try.prog 34 cf34 = true := by kernel_rfl
theorem ztX : z3l Try.prog 35 cf35 = true := by kernel_rfl
theorem ztW : z3l Try.prog 36 cf36 = true := by kernel_rfl
theorem ztV : z3l Try.prog 37 cf37 = true := by kernel_rfl
theorem ztU : z3l Try.prog 38 cf38 = true := by kernel_rfl
theorem ztT : z3l Try.prog 39 cf39 = true := by kernel_rfl
theorem ztS : z3l Try.prog 40 cf40 = true := by kernel_rfl
theorem ztR : z3l Try.prog 41 cf41 = true := by kernel_rfl
theorem ztQ : z3l Try.prog 42 cf42 = true := by kernel_rfl
theorem ztP : z3l Try.prog 43 cf43 = true := by kernel_rfl
theorem ztO : z3l Try.prog 44 cf44 = true := by kernel_rfl
theorem ztN : z3l Try.prog 45 cf45 = true := by kernel_rfl
theorem ztM : z3l Try.prog 46 cf46 = true := by kernel_rfl
theorem ztL : z3l Try.prog 47 cf47 = true := by kernel_rfl
theorem ztK : z3l Try.prog 48 cf48 = true := by kernel_rfl
theorem ztJ : z3l Try.prog 49 cf49 = true := by kernel_rfl
theorem ztI : z3l Try.prog 50 cf50 = true := by kernel_rfl
theorem ztH : z3l Try.prog 51 cf51 = true := by kernel_rfl
theorem ztG : z3l Try.prog 52 cf52 = true := by kernel_rfl
theorem ztF : z3l Try.prog 53 cf53 = true := by kernel_rfl
theorem ztE : z3l Try.prog 54 cf54 = true := by kernel_rfl
theorem ztD : z3l Try.prog 55 cf55 = true := by kernel_rfl
theorem ztC : z3l Try.prog 56 cf56 = true := by kernel_rfl
theorem ztB : z3l Try.prog 57 cf57 = true := by kernel_rfl
theorem ztA : z3l Try.prog 58 cf58 = true := by kernel_rfl
theorem ztz : z3l Try.prog 59 cf59 = true := by kernel_rfl
theorem zty : z3l Try.prog 60 cf60 = true := by kernel_rfl
theorem ztx : z3l Try.prog 61 cf61 = true := by kernel_rfl
theorem ztw : z3l Try.prog 62 cf62 = true := by kernel_rfl
theorem ztv : z3l Try.prog 63 cf63 = true := by kernel_rfl
theorem ztu : z3l Try.prog 65 cf65 = true := by kernel_rfl
theorem ztt : z3l Try.prog 66 cf66 = true := by kernel_rfl
theorem zts : z3l Try.prog 67 cf67 = true := by kernel_rfl
theorem ztr : z3l Try.prog 68 cf68 = true := by kernel_rfl
theorem ztq : z3l Try.prog 69 cf69 = true := by kernel_rfl
theorem ztp : z3l Try.prog 70 cf70 = true := by kernel_rfl
theorem zto : z3l Try.prog 71 cf71 = true := by kernel_rfl
theorem ztn : z3l Try.prog 72 cf72 = true := by kernel_rfl
theorem ztm : z3l Try.prog 73 cf73 = true := by kernel_rfl
theorem ztl : z3l Try.prog 74 cf74 = true := by kernel_rfl
theorem ztk : z3l Try.prog 76 cf76 = true := by kernel_rfl
theorem ztj : z3l Try.prog 77 cf77 = true := by kernel_rfl
theorem zti : z3l Try.prog 78 cf78 = true := by kernel_rfl
theorem zth : z3l Try.prog 79 cf79 = true := by kernel_rfl
theorem ztg : z3l Try.prog 80 cf80 = true := by kernel_rfl
theorem ztf : z3l Try.prog 88 cf88 = true := by kernel_rfl
theorem zte : z3l Try.prog 89 cf89 = true := by kernel_rfl
theorem ztd : z3l Try.prog 90 cf90 = true := by kernel_rfl
theorem ztc : z3l Try.prog 91 cf91 = true := by kernel_rfl
theorem ztb : z3l Try.prog 92 cf92 = true := by kernel_rfl
theorem zta : z3l Try.prog 98 cf98 = true := by kernel_rfl
theorem zsh : z3l Try.prog 100 cf100 = true := by kernel_rfl
theorem z1K {p : Prop} [Decidable p] {a c : Cfg} {r : Option Cfg} {G : Prop} (h : (if p then some a else r) = some c) (h1 : p → a = c → G) (h2 : r = some c → G) : G := by
  split at h
  · rename_i hp; exact h1 hp (Option.some.inj h)
  · exact h2 h
theorem zwB : ∀ f c, z1Z f = some c → z3l Try.prog f c = true := by
  intro f c h
  unfold z1Z at h
  refine z1K h (fun e h => by rw [e, ← h]; exact zwz) fun h => ?_
  refine z1K h (fun e h => by rw [e, ← h]; exact zwy) fun h => ?_
  refine z1K h (fun e h => by rw [e, ← h]; exact zwx) fun h => ?_
  refine z1K h (fun e h => by rw [e, ← h]; exact zww) fun h => ?_
  refine z1K h (fun e h => by rw [e, ← h]; exact zwv) fun h => ?_
  refine z1K h (fun e h => by rw [e, ← h]; exact zwu) fun h => ?_
  refine z1K h (fun e h => by rw [e, ← h]; exact zum) fun h => ?_
  refine z1K h (fun e h => by rw [e, ← h]; exact zul) fun h => ?_
  refine z1K h (fun e h => by rw [e, ← h]; exact zuk) fun h => ?_
  refine z1K h (fun e h => by rw [e, ← h]; exact zuj) fun h => ?_
  refine z1K h (fun e h => by rw [e, ← h]; exact zui) fun h => ?_
  refine z1K h (fun e h => by rw [e, ← h]; exact zuh) fun h => ?_
  refine z1K h (fun e h => by rw [e, ← h]; exact zug) fun h => ?_
  refine z1K h (fun e h => by rw [e, ← h]; exact zuf) fun h => ?_
  refine z1K h (fun e h => by rw [e, ← h]; exact zue) fun h => ?_
  refine z1K h (fun e h => by rw [e, ← h]; exact zud) fun h => ?_
  refine z1K h (fun e h => by rw [e, ← h]; exact zuc) fun h => ?_
  refine z1K h (fun e h => by rw [e, ← h]; exact zub) fun h => ?_
  refine z1K h (fun e h => by rw [e, ← h]; exact zua) fun h => ?_
  refine z1K h (fun e h => by rw [e, ← h]; exact zu9) fun h => ?_
  refine z1K h (fun e h => by rw [e, ← h]; exact zu8) fun h => ?_
  refine z1K h (fun e h => by rw [e, ← h]; exact zu7) fun h => ?_
  refine z1K h (fun e h => by rw [e, ← h]; exact zu6) fun h => ?_
  refine z1K h (fun e h => by rw [e, ← h]; exact zu5) fun h => ?_
  refine z1K h (fun e h => by rw [e, ← h]; exact zu4) fun h => ?_
  refine z1K h (fun e h => by rw [e, ← h]; exact zu3) fun h => ?_
  refine z1K h (fun e h => by rw [e, ← h]; exact zu2) fun h => ?_
  refine z1K h (fun e h => by rw [e, ← h]; exact zu1) fun h => ?_
  refine z1K h (fun e h => by rw [e, ← h]; exact zu0) fun h => ?_
  refine z1K h (fun e h => by rw [e, ← h]; exact ztZ) fun h => ?_
  refine z1K h (fun e h => by rw [e, ← h]; exact ztY) fun h => ?_
  refine z1K h (fun e h => by rw [e, ← h]; exact ztX) fun h => ?_
  refine z1K h (fun e h => by rw [e, ← h]; exact ztW) fun h => ?_
  refine z1K h (fun e h => by rw [e, ← h]; exact ztV) fun h => ?_
  refine z1K h (fun e h => by rw [e, ← h]; exact ztU) fun h => ?_
  refine z1K h (fun e h => by rw [e, ← h]; exact ztT) fun h => ?_
  refine z1K h (fun e h => by rw [e, ← h]; exact ztS) fun h => ?_
  refine z1K h (fun e h => by rw [e, ← h]; exact ztR) fun h => ?_
  refine z1K h (fun e h => by rw [e, ← h]; exact ztQ) fun h => ?_
  refine z1K h (fun e h => by rw [e, ← h]; exact ztP) fun h => ?_
  refine z1K h (fun e h => by rw [e, ← h]; exact ztO) fun h => ?_
  refine z1K h (fun e h => by rw [e, ← h]; exact ztN) fun h => ?_
  refine z1K h (fun e h => by rw [e, ← h]; exact ztM) fun h => ?_
  refine z1K h (fun e h => by rw [e, ← h]; exact ztL) fun h => ?_
  refine z1K h (fun e h => by rw [e, ← h]; exact ztK) fun h => ?_
  refine z1K h (fun e h => by rw [e, ← h]; exact ztJ) fun h => ?_
  refine z1K h (fun e h => by rw [e, ← h]; exact ztI) fun h => ?_
  refine z1K h (fun e h => by rw [e, ← h]; exact ztH) fun h => ?_
  refine z1K h (fun e h => by rw [e, ← h]; exact ztG) fun h => ?_
  refine z1K h (fun e h => by rw [e, ← h]; exact ztF) fun h => ?_
  refine z1K h (fun e h => by rw [e, ← h]; exact ztE) fun h => ?_
  refine z1K h (fun e h => by rw [e, ← h]; exact ztD) fun h => ?_
  refine z1K h (fun e h => by rw [e, ← h]; exact ztC) fun h => ?_
  refine z1K h (fun e h => by rw [e, ← h]; exact ztB) fun h => ?_
  refine z1K h (fun e h => by rw [e, ← h]; exact ztA) fun h => ?_
  refine z1K h (fun e h => by rw [e, ← h]; exact ztz) fun h => ?_
  refine z1K h (fun e h => by rw [e, ← h]; exact zty) fun h => ?_
  refine z1K h (fun e h => by rw [e, ← h]; exact ztx) fun h => ?_
  refine z1K h (fun e h => by rw [e, ← h]; exact ztw) fun h => ?_
  refine z1K h (fun e h => by rw [e, ← h]; exact ztv) fun h => ?_
  refine z1K h (fun e h => by rw [e, ← h]; exact ztu) fun h => ?_
  refine z1K h (fun e h => by rw [e, ← h]; exact ztt) fun h => ?_
  refine z1K h (fun e h => by rw [e, ← h]; exact zts) fun h => ?_
  refine z1K h (fun e h => by rw [e, ← h]; exact ztr) fun h => ?_
  refine z1K h (fun e h => by rw [e, ← h]; exact ztq) fun h => ?_
  refine z1K h (fun e h => by rw [e, ← h]; exact ztp) fun h => ?_
  refine z1K h (fun e h => by rw [e, ← h]; exact zto) fun h => ?_
  refine z1K h (fun e h => by rw [e, ← h]; exact ztn) fun h => ?_
  refine z1K h (fun e h => by rw [e, ← h]; exact ztm) fun h => ?_
  refine z1K h (fun e h => by rw [e, ← h]; exact ztl) fun h => ?_
  refine z1K h (fun e h => by rw [e, ← h]; exact ztk) fun h => ?_
  refine z1K h (fun e h => by rw [e, ← h]; exact ztj) fun h => ?_
  refine z1K h (fun e h => by rw [e, ← h]; exact zti) fun h => ?_
  refine z1K h (fun e h => by rw [e, ← h]; exact zth) fun h => ?_
  refine z1K h (fun e h => by rw [e, ← h]; exact ztg) fun h => ?_
  refine z1K h (fun e h => by rw [e, ← h]; exact ztf) fun h => ?_
  refine z1K h (fun e h => by rw [e, ← h]; exact zte) fun h => ?_
  refine z1K h (fun e h => by rw [e, ← h]; exact ztd) fun h => ?_
  refine z1K h (fun e h => by rw [e, ← h]; exact ztc) fun h => ?_
  refine z1K h (fun e h => by rw [e, ← h]; exact ztb) fun h => ?_
  refine z1K h (fun e h => by rw [e, ← h]; exact zta) fun h => ?_
  refine z1K h (fun e h => by rw [e, ← h]; exact zsh) fun h => ?_
  cases h
end Go.Proofs.Ytbnnipkanechoaa
end
section
namespace Go.Proofs.Ytbnnipkanechoaa
open Go.RowKit
def zem (P : Program) : Nat → TypeId → Bool
  | 0, _ => false
  | m + 1, t =>
    match P.underlying t with
    | some (.slice e) => P.cellsOf e != 0 && zem P m e
    | some (.pointer e) => zem P m e
    | some (.struct fs) => fs.toList.all fun f => zem P m f.type
    | some (.array _ e) => zem P m e
    | some (.map _ e) => zem P m e
    | _ => true
section
variable {H : Type} {enc : TypeId × Value → H} {P : Program} {w : World} {base : Nat}
theorem zeE {m : Nat} {r r' : TypeId → List Value → Option (DataW H × List MemPlace)}
    (hr : ∀ t cs x, zem P m t = true → r t cs = some x → r' t cs = some x) {t : TypeId} {cs : List Value} {x : DataW H × List MemPlace} (hf : zem P (m + 1) t = true)
    (h : DataW.trodStep enc P w base (fun _ => true) true r t cs = some x) : DataW.trodStep enc P w base (fun b => decide (b < w.heap.size)) true r' t cs = some x := by
  unfold DataW.trodStep at h ⊢
  unfold zem at hf
  split at h
  case h_1 => exact h
  case h_2 => exact h
  case h_3 => exact h
  case h_4 => exact h
  case h_5 => exact h
  case h_6 e a hu =>
    rw [hu] at hf
    simp only [Option.map_eq_some_iff, Option.bind_eq_some_iff] at h ⊢
    obtain ⟨y, ⟨cs', hc, hy⟩, rfl⟩ := h
    exact ⟨y, ⟨cs', hc, hr _ _ _ hf hy⟩, rfl⟩
  case h_7 => exact h
  case h_8 e a len cap hu =>
    rw [hu] at hf
    simp only [Bool.and_eq_true, bne_iff_ne, ne_eq] at hf
    obtain ⟨hcell, hfe⟩ := hf
    simp only at h ⊢
    split at h
    · rename_i hc
      rw [if_pos hc]
      simp only [Option.map_eq_some_iff, Option.bind_eq_some_iff, if_true] at h ⊢
      obtain ⟨elems, he, rest, hrest, rfl⟩ := h
      have one : ∀ (i : Nat) (y : DataW H × List MemPlace), (w.cells? base (a.add (i * P.cellsOf e)) (P.cellsOf e)).bind (r e) = some y → (w.cells? base (a.add (i * P.cellsOf e)) (P.cellsOf e)).bind (r' e) = some y := by
        intro i y hv
        simp only [Option.bind_eq_some_iff] at hv ⊢
        obtain ⟨cs', hc', hy'⟩ := hv
        exact ⟨cs', hc', hr _ _ _ hfe hy'⟩
      refine ⟨elems, mapM_carry he (fun i y _ _ hy => one i y hy), rest, ?_, rfl⟩
      by_cases hb : a.block < w.heap.size
      · rw [if_pos (by simpa using hb)]
        exact mapM_carry hrest (fun j y _ _ hy => one (len + j) y hy)
      · rw [if_neg (by simpa using hb)]
        have hz : cap - len = 0 := by
          rcases Nat.eq_zero_or_pos (cap - len) with h0 | h0
          · exact h0
          · exfalso
            have hl : rest.length = cap - len := by simpa using mapM_some_length hrest
            have h1 := mapM_some_get hrest 0 0 (by simp [h0])
            obtain ⟨y, hy⟩ : ∃ y, rest[0]? = some y := ⟨rest[0], List.getElem?_eq_getElem (by omega)⟩
            rw [hy] at h1
            simp only [Option.bind_eq_some_iff] at h1
            obtain ⟨cs', hc', _⟩ := h1
            have h2 := World.cells?_block hc' (by omega)
            have h3 : (a.add ((len + 0) * P.cellsOf e)).block = a.block := by unfold Addr.add; split <;> rfl
            omega
        rw [hz] at hrest
        simpa using hrest
    · cases h
  case h_9 fs _ hu =>
    rw [hu] at hf
    split at h
    · rename_i hc
      rw [if_pos hc]
      simp only [Option.map_eq_some_iff] at h ⊢
      obtain ⟨xs, hx, rfl⟩ := h
      exact ⟨xs, mapM_carry hx (fun f y hin _ hv => hr _ _ _ (List.all_eq_true.1 hf f hin) hv), rfl⟩
    · cases h
  case h_10 n e _ hu =>
    rw [hu] at hf
    split at h
    · rename_i hc
      rw [if_pos hc]
      simp only [Option.map_eq_some_iff] at h ⊢
      obtain ⟨xs, hx, rfl⟩ := h
      exact ⟨xs, mapM_carry hx (fun f y _ _ hv => hr _ _ _ hf hv), rfl⟩
    · cases h
  case h_11 => exact h
  case h_12 => exact h
  case h_13 => exact h
  case h_14 k e b hu =>
    rw [hu] at hf
    split at h
    · rename_i es clock hb
      split at h
      · rename_i hc
        simp only [Option.bind_eq_some_iff] at h
        obtain ⟨entries, he, hd⟩ := h
        split at hd
        · rename_i hris
          have hx := Option.some.inj hd
          subst hx
          simp only [if_pos hc, Option.bind_eq_some_iff]
          refine ⟨entries, mapM_carry he (fun x y _ hy hv => ?_), by simp [hris]⟩
          simp only [Option.bind_eq_some_iff] at hv ⊢
          obtain ⟨key, hk, hz⟩ := hv
          refine ⟨key, hk, ?_⟩
          split at hz
          · rename_i hfm
            rw [if_pos hfm]
            simp only [Option.map_eq_some_iff] at hz ⊢
            obtain ⟨q, hq, rfl⟩ := hz
            exact ⟨q, hr _ _ _ hf hq, rfl⟩
          · cases hz
        · cases hd
      · cases h
    · cases h
  case h_15 => exact h
  case h_16 => exact h
  case h_17 => exact h
  case h_18 => exact h
  case h_19 => exact h
  case h_20 => exact h
  case h_21 => cases h
theorem zla : ∀ (n m : Nat) (t : TypeId) (cs : List Value) (x : DataW H × List MemPlace), zem P m t = true →
    DataW.trod enc P w base (fun _ => true) true n t cs = some x → DataW.trod enc P w base (fun b => decide (b < w.heap.size)) true n t cs = some x := by
  intro n
  induction n with
  | zero => intro m t cs x _ h; simp [DataW.trod] at h
  | succ n ih =>
    intro m t cs x hf h
    cases m with
    | zero => simp [zem] at hf
    | succ m =>
      rw [DataW.trod_step] at h ⊢
      exact zeE (m := m) (fun t cs x hf hx => ih m t cs x hf hx) hf h
theorem zhK {w' : World} (hb : Below w.heap.size w w') {p : MemPlace} (hp : p.block < w.heap.size) : w.sameAt w' p := by
  cases p with
  | cell b off => exact hb.cell (p := ⟨b, off, none⟩) hp
  | map b => exact hb.block b hp
theorem zaw {w' : World} (m : Nat) (hb : Below w.heap.size w w') : ∀ {ts : List TypeId} {vs : List Value} {ds : List (DataW H)} {ps : List MemPlace}, (ts.all (zem P m)) = true →
    DataW.TrodAll enc P w 0 (fun _ => true) true ts vs ds ps → DataW.TrodAll enc P w' 0 (fun b => decide (b < w.heap.size)) true ts vs ds ps
  | [], [], [], ps, _, h => h
  | t :: ts, v :: vs, d :: ds, ps, hf, ⟨p, q, ⟨n, h1⟩, h2, e⟩ => by
    simp only [List.all_cons, Bool.and_eq_true] at hf
    have h3 := zla n m t _ _ hf.1 h1
    exact ⟨p, q, ⟨n, DataW.trod_carry n _ _ _ h3 (fun z hz => zhK hb (DataW.trod_lt n _ _ _ h3 z hz))⟩, zaw m hb hf.2 h2, e⟩
  | [], _ :: _, _, _, _, h => by cases h
  | [], [], _ :: _, _, _, h => by cases h
  | _ :: _, [], _, _, _, h => by cases h
  | _ :: _, _ :: _, [], _, _, h => by cases h
end
section
variable {H : Type} {enc : TypeId × Value → H} {P : Program} {w : World} {r : Reach} {b0 : Nat}
open Go.ChangeShapes Go.WideShapes
open Go.Deep (open_bools)
theorem zoW (a : Addr) (j : Nat) : (a.add j).block = a.block := by unfold Addr.add; split <;> rfl
end
end Go.Proofs.Ytbnnipkanechoaa
end
section
namespace Go.Proofs.Ytbnnipkanechoaa
open Go.ChangeShapes Go.WideShapes Go.RowKit
def KZ : Nat → z0l := fun _ => []
theorem zo6 {P : Program} {Xc : z0G} {cf : FuncId → Option Cfg} {f : FuncId} {args : List T} {outs : List T} (hX : zat P (fun _ _ => True) Xc) (hm : P.follows .mixedOrders = true) (hf : ∀ f c, cf f = some c → z3l P f c = true)
    (h : Lim P Xc cf f args = some (.sc (.bool true), outs)) (hio : args.all (fun t => !z3i t) = true) (W : World) (vals : Array Value) (hs : vals.size = args.length)
    (ha : ∀ i t, args[i]? = some t → TRep W KZ [] (vals.getD i undef) t) : Calls P f vals W fun e W' => e = .returned (.bool true) ∧ Below W.heap.size W W' := by
  have hc := zs2 (I := fun _ _ => True) EnvS.none hX hm hf h
  refine (hc.calls W KZ vals hs (fun i t hi => ?_) trivial).mono fun e W' ⟨v, K', he, hv, _, hst⟩ => ?_
  · have h1 := List.all_eq_true.1 hio t (List.mem_of_getElem? hi)
    unfold zfZ
    rw [if_neg (by simpa using h1)]
    exact ha i t hi
  · generalize hT : T.sc (.bool true) = t at hv
    cases hv with
    | sc c v hb => cases hT; exact ⟨he, hst.os, hst.tape, hst.output, hst.size, fun b hb => (hst.old b hb (.inl rfl)).2⟩
    | _ => cases hT
section
variable {H : Type} {enc : TypeId × Value → H} {P : Program} {w : World} {r : Reach} {b0 : Nat}
theorem znP {t e : TypeId} {v : Value} {d : DataW H} {ps : List MemPlace} (ht : P.underlying t = some (.slice e)) (he : P.underlying e = some (.int .i64)) (hc : P.cellsOf e = 1)
    (hval : Value.okWide P w r b0 t v) (hd : DataW.Trod enc P w 0 (fun _ => true) true t v d ps) :
    ∃ xs : List Int, TRep w KZ [] v (.sl xs.length (xs.map fun x => .sc (.int .i64 x))) ∧ xs.length ≤ maxLen ∧ ∀ x ∈ xs, (Lit.int .i64 x).wf = true := by
  obtain ⟨ga, n, cap, rfl⟩ := okWide_slice ht hval
  obtain ⟨fuel, hf⟩ := hd
  rcases open_ints ht he hc hf with ⟨hcs, _⟩ | ⟨a, len', cap', zs, hcs, _, hl, hm, hz, _, hcell, hwz⟩
  · simp [Value.cells] at hcs
    obtain ⟨rfl, rfl, rfl⟩ := hcs
    exact ⟨[], .emp _ _ _ (by decide), by decide, fun x hx => by cases hx⟩
  · simp [Value.cells] at hcs
    obtain ⟨rfl, rfl, rfl⟩ := hcs
    simp only [if_true] at hz
    refine ⟨zs.take n, ?_, by simp; omega, fun x hx => hwz x (List.mem_of_mem_take hx)⟩
    have hln : (zs.take n).length = n := by simp; omega
    rw [hln]
    by_cases h0 : n = 0
    · subst h0
      simp only [List.take_zero, List.map_nil]
      exact .emp _ _ _ hm
    · have hc0 := hcell 0 (by omega)
      have hb := World.block_lt_of_cell? w _ hc0
      rw [zoW] at hb
      have hsp : a.spot = none := by
        have : a.add 0 = a := by simp [Addr.add]
        rw [this] at hc0
        unfold World.cell? at hc0
        split at hc0
        · split at hc0
          · cases hc0
          · rename_i hh
            simpa using hh
        · cases hc0
      obtain ⟨g, o, sp⟩ := a
      simp only at hsp
      subst hsp
      refine .fro [] g o n cap _ (fun j => .int .i64 (zs.getD j 0)) rfl hb hl hm (fun j hj => ?_) (fun j t hj => ?_)
      · have h1 := hcell j (by simp at hj; omega)
        have e : (⟨g, o, none⟩ : Addr).add j = ⟨g, o + j, none⟩ := by
          unfold Addr.add
          split
          · rename_i h; subst h; rfl
          · rfl
        rw [e] at h1
        exact h1
      · simp only [List.getElem?_map, Option.map_eq_some_iff] at hj
        obtain ⟨x, hx, rfl⟩ := hj
        have hjn : j < n := by
          have := (List.getElem?_eq_some_iff.1 hx).1
          simp at this; omega
        rw [List.getElem?_take_of_lt hjn] at hx
        simp only [List.getD, hx]
        exact .sc _ _ rfl
end
end Go.Proofs.Ytbnnipkanechoaa
end
section
/- Proved here: the law ImagesOf returns true for every input, and its arguments read afterwards as before. No condition. -/
namespace Go.Proofs.Ytbnnipkanechoaa.imagesOf
open Go.ChangeShapes Go.WideShapes Go.ChangeAt Go.RowKit
open Go.ChangeMaps (open_string shut_string)
theorem own : ownKnob Try.prog.godebug = none := by kernel_rfl
set_option maxRecDepth 100000 in
theorem zpN (H : Type) (enc : TypeId × Value → H) (W : World) (base : Nat) (args : Array Value) (ds gs : List (DataW H)) (before : List MemPlace)
    (hval0 : ∀ (j : Nat) t v, Try.f3.params[j]? = some t → args[j]? = some v → Value.okWide Try.prog W .any base t v)
    (hW : DataW.Whole enc Try.prog Try.f3.params.toList Rows.imagesOfSpec.vars false W args.toList ds gs before) :
    Calls Try.prog 3 args W fun e W' => ∃ v, e = .returned v ∧ Rows.imagesOfSpec.post enc Try.prog Try.f3 false true false false W args v W' := by
  have hW' := hW
  obtain ⟨p, q, hA0, hV, rfl, hfz, hnd⟩ := hW
  have hval := hval0
  have hA : DataW.TrodAll enc Try.prog W 0 (fun _ => true) true Try.f3.params.toList args.toList ds p := hA0
  rw [Try.params3] at hA hval
  obtain ⟨v0, vs0, d0, ds0, p0, q0, hargs, rfl, rfl, h0, r0⟩ := trodAll_cons hA
  obtain ⟨rfl, rfl, rfl⟩ := trodAll_nil r0
  obtain rfl : args = #[v0] := by cases args; simp_all
  obtain ⟨rfl, rfl⟩ := trodVars_none hV
  obtain ⟨a0, t0, w0, z0⟩ := znP Try.underlying22 Try.underlying3 (by kernel_rfl) (hval 0 22 v0 rfl rfl) h0
  obtain ⟨outs, hlaw⟩ := zsX a0 w0 z0
  refine (zo6 zmV (by kernel_rfl) zwB hlaw rfl W _ rfl (fun i t hi => ?_)).mono fun e W' ⟨he, bel⟩ => ?_
  · match i, hi with
    | 0, hi => cases hi; exact t0
  · subst he
    exact ⟨_, rfl, _, _, _, [], _, [], hW', trodAll_mk1 (shut_bool Try.underlying4 _), zaw 12 bel (by kernel_rfl) hA0, rfl, bel.frame _, fun h => by cases h⟩
theorem zas {a b : Bool} (ha : a = true) (hb : b = true) : (a && b) = true := by rw [ha, hb]; rfl
set_option maxHeartbeats 4000000 in
theorem zt0 : joinedFacts Try.checked.prog 3 Try.f3 Rows.imagesOfSpec Rows.imagesOfRow = true :=
  (zas (zas (zas (zas (zas (zas (zas (zas (zas (zas (zas (zas (zas (zas (zas (zas (zas (zas (zas (zas (zas (zas (zas (zas (zas (zas (zas (zas (zas (zas (zas (by as_aux_lemma => kernel_rfl)
    (by as_aux_lemma => kernel_rfl))
    (by as_aux_lemma => kernel_rfl))
    (by as_aux_lemma => kernel_rfl))
    (by as_aux_lemma => kernel_rfl))
    (by as_aux_lemma => kernel_rfl))
    (by as_aux_lemma => kernel_rfl))
    (by as_aux_lemma => kernel_rfl))
    (by as_aux_lemma => kernel_rfl))
    (by as_aux_lemma => kernel_rfl))
    (by as_aux_lemma => kernel_rfl))
    (by as_aux_lemma => kernel_rfl))
    (by as_aux_lemma => kernel_rfl))
    (by as_aux_lemma => kernel_rfl))
    (by as_aux_lemma => kernel_rfl))
    (by as_aux_lemma => kernel_rfl))
    (by as_aux_lemma => kernel_rfl))
    (by as_aux_lemma => kernel_rfl))
    (by as_aux_lemma => kernel_rfl))
    (by as_aux_lemma => kernel_rfl))
    (by as_aux_lemma => kernel_rfl))
    (by as_aux_lemma => kernel_rfl))
    (by as_aux_lemma => kernel_rfl))
    (by as_aux_lemma => kernel_rfl))
    (by as_aux_lemma => kernel_rfl))
    (by as_aux_lemma => kernel_rfl))
    (by as_aux_lemma => kernel_rfl))
    (by as_aux_lemma => kernel_rfl))
    (by as_aux_lemma => kernel_rfl))
    (by as_aux_lemma => kernel_rfl))
    (by as_aux_lemma => kernel_rfl))
    (by as_aux_lemma => kernel_rfl))
set_option maxRecDepth 100000 in
theorem zs3 (os : Os) (started : os.Started) (H : Type) (enc : TypeId × Value → H) :
    ReturnsInHanded {} Try.checked os 3 .any (Rows.imagesOfSpec.pre6 enc Try.prog Try.f3 Rows.imagesOfRow.domain false) (Rows.imagesOfSpec.post enc Try.prog Try.f3 false true false false) := by
  refine returnsInHanded_of_change (C := Try.checked) (by kernel_rfl) started (by kernel_rfl) Try.func3
    (ChangeSpec.witness6 (enc := enc) (C := Try.checked) false ⟨#[], #[.slice none 0 0], []⟩ 8 (by kernel_rfl) (by kernel_rfl) (by kernel_rfl) (by kernel_rfl)) ?_
  intro W base args ds gs before hval0 hW hcnd _
  exact zpN H enc W base args ds gs before hval0 hW
theorem zvz : Rows.imagesOfRow.holds Try.pinned (OpenSpec.ofChange Rows.imagesOfSpec) :=
  OpenClaim.holds_of_wide 3 Try.f3 rfl rfl rfl rfl rfl rfl rfl ⟨rfl, rfl, rfl, rfl, rfl⟩ rfl rfl rfl rfl rfl (by kernel_rfl) Try.func3 zt0
    (of_decide_eq_true (by kernel_rfl)) (by unfold Func.isWrapper; first | (rw [if_pos (by decide +kernel)]; kernel_rfl) | (rw [if_neg (by decide +kernel)]; exact ⟨rfl, rfl⟩))
    (fun os started H enc _ => zs3 os started H enc)
theorem proved : Rows.ImagesOfSaid :=
  zvz
#print axioms proved
end Go.Proofs.Ytbnnipkanechoaa.imagesOf
end

/- The walk of word.Occurrences. -/
import Derived.Test.YtndgafhdeddbjaaOccur
namespace Go.Proofs.Ytndgafhdeddbjaa
set_option linter.unusedVariables false
open Go.RowKit

theorem Try.zero52 : ((Try.prog.info? 52).bind (·.zero)).map (·.cells) = some (Array.replicate 256 (.slice none 0 0)) := by kernel_rfl

/-- The indexes of byte b among the last d of u, in descending order. -/
def posn (u : List UInt8) (d b : Nat) : List Nat := ((List.range u.length).reverse.take d).filter fun i => (u.getD i 0).toNat == b

theorem posn_zero (u : List UInt8) (b : Nat) : posn u 0 b = [] := rfl

theorem posn_succ (u : List UInt8) (d b : Nat) (h : d < u.length) :
    posn u (d + 1) b = posn u d b ++ if (u.getD (u.length - 1 - d) 0).toNat = b then [u.length - 1 - d] else [] := by
  have h' : d < (List.range u.length).reverse.length := by simpa using h
  simp only [posn]
  rw [List.take_succ_eq_append_getElem h', List.filter_append]
  congr 1
  rw [List.getElem_reverse, List.getElem_range, List.length_range]
  simp only [List.filter_cons, List.filter_nil, beq_iff_eq]

theorem posn_length (u : List UInt8) (d b : Nat) : (posn u d b).length ≤ u.length := by
  refine Nat.le_trans (List.length_filter_le _ _) ?_
  rw [List.length_take]; simp; omega

theorem posn_full (u : List UInt8) (b : Nat) : posn u u.length b = (List.range u.length).reverse.filter fun i => (u.getD i 0).toNat == b := by
  simp only [posn]; rw [List.take_of_length_le (by simp)]

theorem posn_mem (u : List UInt8) (b i : Nat) : i ∈ posn u u.length b ↔ i < u.length ∧ (u.getD i 0).toNat = b := by
  rw [posn_full]; simp

theorem posn_sorted (u : List UInt8) (b : Nat) : (posn u u.length b).Pairwise (· > ·) := by
  rw [posn_full]
  exact List.Pairwise.filter _ (List.pairwise_reverse.2 List.pairwise_lt_range)

theorem grown_free {w w' : World} {row : Option Nat} (hg : w.grownBy w' row) {a : Addr} {v : Value} (h : w.cell? a = some v) (hne : some a.block ≠ row) (hf : w.frozen? a = false) : w'.frozen? a = false :=
  (World.frozen?_of_block (hg.block a.block (World.block_lt_of_cell? w a h) hne)).trans hf

/-- The table of places: block A holds a slice for each byte; each is a row of its own. -/
structure Places (w : World) (A : Nat) (pv : Nat → Value) (P : Nat → List Nat) : Prop where
  cells : Arr w A 256 pv
  rows : ∀ b, b < 256 → w.ownsRow (A + 1) 3 1 (pv b) (P b).length ((P b).map intV)
  apart : ∀ b b', b < 256 → b' < 256 → b ≠ b' → ∀ g, (pv b).ownBlock = some g → (pv b').ownBlock ≠ some g

theorem Places.start {w : World} {A : Nat} (h : Arr w A 256 fun _ => .slice none 0 0) : Places w A (fun _ => .slice none 0 0) (fun _ => []) :=
  ⟨h, fun _ _ => World.ownsRow_nil _ _ _ _, fun _ _ _ _ _ g h => by cases h⟩

theorem Places.congr {w : World} {A : Nat} {pv : Nat → Value} {P P' : Nat → List Nat} (h : Places w A pv P) (e : ∀ b, b < 256 → P b = P' b) : Places w A pv P' :=
  ⟨h.cells, fun b hb => by rw [← e b hb]; exact h.rows b hb, h.apart⟩

theorem Places.push {w w1 : World} {A b : Nat} {pv : Nat → Value} {P : Nat → List Nat} (h : Places w A pv P) (hb : b < 256) {v' : Value} {x : Nat}
    (ho : w1.ownsRow (A + 1) 3 1 v' ((P b).length + 1) ((P b).map intV ++ [intV x])) (hg : w.grownBy w1 (pv b).ownBlock) (hs : SameOrNew w (pv b) v') :
    Places (w1.setCell ⟨A, b, none⟩ v') A (fun i => if i = b then v' else pv i) (fun i => if i = b then P b ++ [x] else P i) := by
  have hA : some A ≠ (pv b).ownBlock := fun e => by have := ((h.rows b hb).lt A e.symm).1; omega
  have hrow : ∀ {v : Value} {n : Nat} {xs : List Value}, w1.ownsRow (A + 1) 3 1 v n xs → (w1.setCell ⟨A, b, none⟩ v').ownsRow (A + 1) 3 1 v n xs :=
    fun k => ownsRow_setCell_below k (by simp) _
  refine ⟨((h.cells.grown hg hA).set b hb v'), fun i hi => ?_, fun i j hi hj hij g hgi => ?_⟩
  · by_cases e : i = b
    · subst e
      simp only [↓reduceIte]
      have := hrow ho
      simpa using this
    · simp only [if_neg e]
      refine hrow ((h.rows i hi).kept hg ?_)
      cases hv : (pv i).ownBlock with
      | none => exact .inl rfl
      | some g => exact .inr fun e' => h.apart i b hi hb e g hv e'.symm
  · have lt : ∀ i, i < 256 → ∀ g, (pv i).ownBlock = some g → g < w.heap.size := fun i hi g hg => ((h.rows i hi).lt g hg).2
    by_cases e : i = b
    · subst e
      simp only [↓reduceIte] at hgi
      simp only [if_neg (Ne.symm hij)]
      rcases hs with hs | ⟨g', hg', hge⟩
      · exact h.apart i j hi hj hij g (hs ▸ hgi)
      · rw [hgi] at hg'; cases hg'
        intro hc; have := lt j hj g hc; omega
    · simp only [if_neg e] at hgi
      by_cases e2 : j = b
      · subst e2
        simp only [↓reduceIte]
        rcases hs with hs | ⟨g', hg', hge⟩
        · rw [hs]; exact h.apart i j hi hj hij g hgi
        · rw [hg']; intro hc; cases hc; have := lt i hi g hgi; omega
      · simp only [if_neg e2]
        exact h.apart i j hi hj hij g hgi

theorem Places.kept {w w' : World} {A : Nat} {pv : Nat → Value} {P : Nat → List Nat} (h : Places w A pv P) {B : Nat} (hb : Below B w w') (hB : w.heap.size ≤ B) : Places w' A pv P := by
  refine ⟨h.cells.below hb (Nat.lt_of_lt_of_le (h.cells.lt (by omega)) hB), fun b hb' => (h.rows b hb').kept (row := none) ⟨hb.os, hb.tape, hb.output, hb.size, fun k hk _ => hb.block k (by omega)⟩ (by cases (pv b).ownBlock <;> simp), h.apart⟩

set_option maxRecDepth 100000 in
set_option maxHeartbeats 400000 in
theorem occ_any (u s : ByteArray) (m : Int) (w : World) (hu : u.size ≤ 1000) (hs : s.size ≤ maxLen) :
    Calls Try.prog 30 #[.string u, .string s, .int .i64 m] w fun e w' => e = .returned (intV (occM u.data.toList s.data.toList m)) ∧ Below w.heap.size w w' := by
  unfold maxLen at hs
  by_cases hm : 1 ≤ m ∧ m ≤ 2147483648 ∧ u.size ≤ s.size
  case neg =>
    have H : Hid (occM u.data.toList s.data.toList m = 0) := by
      by_cases h1 : 1 ≤ m ∧ m ≤ 2147483648
      · simp only [occM, if_pos h1, Hid]
        rw [occ_short _ _ (by show s.size < u.size; omega)]; simp
      · exact occM_bad h1
    go_enter Try.func30, Try.ntmps30
    go_wp2_with (fail)
    all_goals first
      | (go_ret; exact ⟨by rw [H.out]; rfl, Below.refl _ _⟩)
      | (exfalso; omega)
  case pos =>
    obtain ⟨m1, m2, m3⟩ := hm
    obtain ⟨M, rfl⟩ := Int.eq_ofNat_of_zero_le (show 0 ≤ m by omega)
    have hM : occM u.data.toList s.data.toList (M : Int) = occ u.data.toList s.data.toList % M := by simp only [occM, if_pos (And.intro m1 m2)]; rfl
    have HM := Lib.hid hM
    clear hM
    have hul : u.data.toList.length = u.size := rfl
    have hsl : s.data.toList.length = s.size := rfl
    have HUL := Lib.hid hul
    have HSL := Lib.hid hsl
    clear hul hsl
    go_enter Try.func30, Try.ntmps30
    go_wp2_with (refine wpList_alloc_arr 52 (.slice none 0 0) 256 rfl rfl Try.zero52 ?_; intro w1 hA hB hlt; have HA := Lib.hid (Places.start hA); have HB := Lib.hid hB; have hsz : w.heap.size < w1.heap.size := hlt; clear hA hB hlt)
    go_loopw [8] (fun vi wr => ∃ d : Nat, d ≤ u.size ∧ vi = .int .i64 ((u.size : Int) - 1 - d) ∧ (∃ pv, Places wr w.heap.size pv (posn u.data.toList d)) ∧ Below w.heap.size w wr) (fun vi _ => (intOf vi + 1).toNat)
    case atStart => exact ⟨0, Nat.zero_le _, by simp, ⟨_, HA.out⟩, HB.out⟩
    case round =>
      obtain ⟨d, hd, rfl, ⟨pv, hP⟩, hB⟩ := hrel
      have HP := Lib.hid hP
      have HB' := Lib.hid hB
      clear hP hB
      by_cases hlt : d < u.size
      · have hj1 : ((u.size : Int) - 1 - d) = ((u.size - 1 - d : Nat) : Int) := by omega
        rw [hj1]
        have HJ := Lib.hid hj1
        clear hj1
        have hjl : u.size - 1 - d < u.size := by omega
        generalize hj : u.size - 1 - d = j at *
        have Hj := Lib.hid hj
        clear hj
        have hb : u[j].toNat < 256 := UInt8.toNat_lt _
        have e1 := HP.out.cells.get u[j].toNat hb (v := pv u[j].toNat) rfl
        have e2 := HP.out.cells.free u[j].toNat hb
        have hown := Lib.hid (HP.out.rows u[j].toNat hb)
        have hb' : (u[j].toNat : Int) < 256 := by omega
        have hlen := posn_length u.data.toList d u[j].toNat
        rw [HUL.out] at hlen
        have hA : some w.heap.size ≠ (pv u[j].toNat).ownBlock := fun e => by have := (hown.out.lt _ e.symm).1; omega
        have HA := Lib.hid hA
        have hwr : w.heap.size < wr.heap.size := HP.out.cells.lt (by omega)
        clear hA
        have C0 : Hid (∀ o, (wr.alloc o).drew.cell? ⟨w.heap.size, u[j].toNat, none⟩ = some (pv u[j].toNat)) := fun o => (World.cell?_drew _ _).trans ((World.cell?_alloc_lt _ _ _ (by simp; omega)).trans e1)
        have Z0 : Hid (∀ o, (wr.alloc o).drew.frozen? ⟨w.heap.size, u[j].toNat, none⟩ = false) := fun o => (World.frozen?_drew _ _).trans ((World.frozen?_alloc_old _ _ _ (by simp; omega)).trans e2)
        have HPo : Hid (∀ o, Places (wr.alloc o).drew w.heap.size pv (posn u.data.toList d)) := fun o => HP.out.kept (((Below.refl wr.heap.size wr).alloc (Nat.le_refl _) o).drew) (Nat.le_refl _)
        have HBs : Hid (w.heap.size ≤ wr.heap.size) := HB'.out.size
        have HBa : Hid (∀ o, w.heap.size ≤ (wr.alloc o).drew.heap.size) := fun o => by simp; have := HBs.out; omega
        have HBl : Hid (∀ k, (pv u[j].toNat).ownBlock = some k → w.heap.size ≤ k) := fun k hk => by have := (hown.out.lt k hk).1; omega
        have HPP : Hid (∀ b, b < 256 → (if b = u[j].toNat then posn u.data.toList d u[j].toNat ++ [j] else posn u.data.toList d b) = posn u.data.toList (d + 1) b) := fun b hb => by
          have hj' : u.data.toList.getD (u.data.toList.length - 1 - d) 0 = u[j] := by
            rw [HUL.out, Hj.out, getD_get _ _ _ (by rw [HUL.out]; omega)]; rfl
          rw [posn_succ _ _ _ (by rw [HUL.out]; omega), hj', HUL.out, Hj.out]
          by_cases e : b = u[j].toNat
          · subst e; simp
          · rw [if_neg e, if_neg (Ne.symm e), List.append_nil]
        go_wp2
        go_region_law (refine step_push_place _ _ 51 3 (.int .i64 0) 8 (w.heap.size + 1) rfl rfl Try.underlying51 Try.info3 rfl (pv u[j].toNat) _ _ rfl (hown.out.alloc _) (.int .i64 (j : Int)) _ _ rfl (by simp [World.cell?_alloc_new]) rfl (by omega) (by omega) (by simp; omega) ?_; intro v' w' ho hg hs hn; obtain ⟨ga, gk, gl, rfl⟩ := hn; have f1 := hg.cell (C0.out _) HA.out; have f2 := grown_free hg (C0.out _) HA.out (Z0.out _); have HS := Lib.hid hs; clear hs)
        all_goals
          go_wp2
          go_roundw
          case rel => exact ⟨d + 1, by omega, by congr 1; have := HJ.out; omega, ⟨_, (((HPo.out _).push hb ho hg HS.out).congr HPP.out)⟩, (((HB'.out.alloc HBs.out _).drew).grown hg (HBa.out _) HBl.out).setCell (Nat.le_refl _) _⟩
          case measure => simp [intOf]
      · obtain rfl : d = u.size := by omega
        have hkl := HP.out.cells.lt (by omega)
        go_wp2_with (refine wpList_make_arr _ _ 51 3 (.int .i64 0) 8 rfl rfl Try.underlying51 Try.info3 rfl .i64 .i64 _ (u.size + 1) (by omega) rfl rfl (by omega) (by omega) ?_; intro w2 hA hB hlt2 hO; have c0 := hA 0 (by omega); obtain ⟨c1, c2⟩ := c0; have HA2 := Lib.hid hA; have HB2 := Lib.hid hB; have hsz2 : wr.heap.size < w2.heap.size := hlt2; clear hA hB hO hlt2)
        obtain ⟨wo, rfl⟩ : ∃ wo : World, wo = wr := ⟨_, rfl⟩
        have hr0 : 0 ≤ (1 : Int) % (M : Int) := Int.emod_nonneg _ (by omega)
        go_loopw [55] (fun vi wr => ∃ i : Nat, i ≤ s.size ∧ vi = .int .i64 i ∧ Arr wr wo.heap.size (u.size + 1) (fun j => intV (tab u.data.toList s.data.toList M i j)) ∧ Below wo.heap.size wo wr) (fun vi _ => s.size - (intOf vi).toNat)
        case atStart =>
          refine ⟨0, Nat.zero_le _, rfl, (HA2.out.set 0 (by omega) _).congr fun j hj => ?_, HB2.out.setCell (Nat.le_refl _) _⟩
          cases j with
          | zero => simp [tab_first]
          | succ j => simp; rw [tab_start _ _ _ _ (by rw [HUL.out]; omega)]; rfl
        case round =>
          obtain ⟨i, hi, rfl, hA, hB⟩ := hrel
          have HA' := Lib.hid hA
          have HB3 := Lib.hid hB
          clear hA hB
          by_cases hlt : i < s.size
          · have hPn := HP.out.kept HB3.out (Nat.le_refl _)
            have hb : s[i].toNat < 256 := UInt8.toNat_lt _
            have hbI : (s[i].toNat : Int) < 256 := by omega
            obtain ⟨ga, cap, hpv, hnm, hcs⟩ := ownsRow_slice (hPn.rows s[i].toNat hb)
            have e1 := hPn.cells.get s[i].toNat hb hpv
            have HPn := Lib.hid hPn
            have hnl := posn_length u.data.toList u.size s[i].toNat
            rw [HUL.out] at hnl
            have Hpm : Hid (∀ t (h : t < (posn u.data.toList u.size s[i].toNat).length), (posn u.data.toList u.size s[i].toNat)[t] < u.size ∧ u.data.toList.getD ((posn u.data.toList u.size s[i].toNat)[t]) 0 = s[i]) := fun t h => by
              have := (posn_mem u.data.toList s[i].toNat _).1 (by rw [HUL.out]; exact List.getElem_mem h)
              rw [HUL.out] at this
              exact ⟨this.1, UInt8.toNat_inj.1 this.2⟩
            have Hps : Hid ((posn u.data.toList u.size s[i].toNat).Pairwise (· > ·)) := by have := posn_sorted u.data.toList s[i].toNat; rwa [HUL.out] at this
            have Hpa : Hid (∀ j, j < u.size → (u.data.toList.getD j 0 = s[i] ↔ j ∈ posn u.data.toList u.size s[i].toNat)) := fun j hj => by
              have := posn_mem u.data.toList s[i].toNat j
              rw [HUL.out] at this
              rw [this]
              exact ⟨fun e => ⟨hj, by rw [e]⟩, fun e => UInt8.toNat_inj.1 e.2⟩
            have HGw : Hid (∀ g, ga = some ⟨g, 0, none⟩ → g < wo.heap.size) := fun g hg => by
              have h1 := (HP.out.rows s[i].toNat hb).lt g (by rw [hpv, hg]; rfl)
              exact h1.2
            have HCS := Lib.hid hcs
            clear hcs hpv hnm hPn
            generalize hP : posn u.data.toList u.size s[i].toNat = P at *
            have HPe := Lib.hid hP
            clear hP
            go_wp2
            obtain ⟨wi, rfl⟩ : ∃ wi : World, wi = wr := ⟨_, rfl⟩
            go_loopw [64] (fun vt wr => ∃ t : Nat, t ≤ P.length ∧ vt = .int .i64 t ∧ Arr wr wo.heap.size (u.size + 1) (fun j => intV (if 1 ≤ j ∧ j - 1 ∈ P.take t then tab u.data.toList s.data.toList M (i + 1) j else tab u.data.toList s.data.toList M i j)) ∧ Below wo.heap.size wo wr ∧ Below wo.heap.size wi wr) (fun vt _ => P.length - (intOf vt).toNat)
            case atStart => exact ⟨0, Nat.zero_le _, rfl, HA'.out.congr fun j hj => by simp, HB3.out, Below.refl _ _⟩
            case round =>
              obtain ⟨t, ht, rfl, hA, hB, hB4⟩ := hrel
              by_cases htl : t < P.length
              · obtain ⟨g, hga, hcell, hgb⟩ := HCS.out t (intV P[t]) (by simp [htl])
                subst hga
                obtain ⟨hp1, hp2⟩ := Hpm.out t htl
                have hgw : g < wo.heap.size := HGw.out g rfl
                have f1 : wr.cell? ⟨g, t, none⟩ = some (intV P[t]) := (hB4.cell (p := ⟨g, t, none⟩) hgw).trans hcell
                have hnt : ∀ x, x ∈ P.take t → P[t] < x := fun x hx => by
                  obtain ⟨k, hk, rfl⟩ := List.getElem_of_mem hx
                  rw [List.getElem_take]
                  have hk' : k < t := by simp at hk; omega
                  exact List.pairwise_iff_getElem.1 Hps.out k t (by omega) htl hk'
                have g1 := hA.get (P[t] + 1) (by omega) (v := intV (tab u.data.toList s.data.toList M i (P[t] + 1))) (by
                  rw [if_neg]; rintro ⟨_, h⟩; have := hnt _ h; omega)
                have g2 := hA.get P[t] (by omega) (v := intV (tab u.data.toList s.data.toList M i P[t])) (by
                  rw [if_neg]; rintro ⟨h0, h⟩; have := hnt _ h; omega)
                have g3 := hA.free (P[t] + 1) (by omega)
                have l1 := tab_lt u.data.toList s.data.toList M i (P[t] + 1) (by omega)
                have l2 := tab_lt u.data.toList s.data.toList M i P[t] (by omega)
                have hst := tab_step u.data.toList s.data.toList M i P[t] (by rw [HSL.out]; omega) (by rw [HUL.out]; omega)
                have hbyte : u.data.toList[P[t]]'(by rw [HUL.out]; omega) = s.data.toList[i]'(by rw [HSL.out]; omega) := by
                  rw [getD_get _ _ _ (by rw [HUL.out]; omega)] at hp2; exact hp2
                rw [if_pos hbyte] at hst
                have HST := Lib.hid hst
                have HA4 := Lib.hid hA
                have HB5 := Lib.hid hB
                have HB6 := Lib.hid hB4
                have htk : P.take (t + 1) = P.take t ++ [P[t]] := by rw [List.take_succ_eq_append_getElem htl]
                have HTK := Lib.hid htk
                clear hst hA hB hB4 hnt hbyte hp2 hcell htk
                generalize hpt : P[t] = q at *
                have HPT := Lib.hid hpt
                clear hpt
                generalize tab u.data.toList s.data.toList M i (q + 1) = x at *
                generalize tab u.data.toList s.data.toList M i q = y at *
                have hr1 : 0 ≤ ((x : Int) + (y : Int)) % (M : Int) := Int.emod_nonneg _ (by omega)
                have hix : ((q : Int) + 1).toNat = q + 1 := by omega
                go_wp2
                go_region
                go_wp2
                go_roundw
                case rel =>
                  refine ⟨t + 1, by omega, by go_num, ?_, (HB5.out.setCell (Nat.le_refl _) _).drew, (HB6.out.setCell (Nat.le_refl _) _).drew⟩
                  refine (HA4.out.set (q + 1) (by omega) _).drew.congr fun j hj => ?_
                  rw [HTK.out]
                  by_cases hjq : j = q + 1
                  · subst hjq
                    rw [if_pos rfl, if_pos ⟨by omega, by simp⟩, HST.out]
                    simp only [intV]; congr 1
                  · rw [if_neg hjq]
                    congr 2
                    simp only [List.mem_append, List.mem_singleton, eq_iff_iff]
                    constructor
                    · exact fun h => ⟨h.1, .inl h.2⟩
                    · rintro ⟨h1, h2 | h2⟩
                      · exact ⟨h1, h2⟩
                      · omega
                case measure => simp [intOf]; omega
              · obtain rfl : t = P.length := by omega
                have HA4 := Lib.hid hA
                have HB5 := Lib.hid hB
                clear hA hB hB4
                go_wp2
                go_roundw
                case rel =>
                  refine ⟨i + 1, by omega, by go_num, ?_, HB5.out⟩
                  refine HA4.out.congr fun j hj => ?_
                  rw [List.take_length]
                  split
                  · rfl
                  · rename_i hno
                    cases j with
                    | zero => rw [tab_first, tab_first]
                    | succ j =>
                      have hst := tab_step u.data.toList s.data.toList M i j (by rw [HSL.out]; omega) (by rw [HUL.out]; omega)
                      have hne : ¬ (u.data.toList[j]'(by rw [HUL.out]; omega) = s.data.toList[i]'(by rw [HSL.out]; omega)) := fun e => hno ⟨by omega, by
                        rw [Nat.add_sub_cancel]
                        refine (Hpa.out j (by omega)).1 ?_
                        rw [getD_get _ _ _ (by rw [HUL.out]; omega)]; exact e⟩
                      rw [if_neg hne] at hst
                      rw [hst]
                case measure => simp [intOf]; omega
          · have cl := (HA'.out u.size (by omega)).1
            go_wp2
            go_ret
            refine ⟨?_, HB'.out.trans (HB3.out.mono HB'.out.size)⟩
            rw [HM.out, ← tab_end, HUL.out, HSL.out, show s.size = i by omega]
            rfl
end Go.Proofs.Ytndgafhdeddbjaa

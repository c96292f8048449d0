/- The walks of word.Unrank and its reference. -/
import Derived.Test.YtndgafhdeddbjaaRev
import Derived.Test.YtndgafhdeddbjaaValid
import Derived.Test.YtndgafhdeddbjaaOwn
namespace Go.Proofs.Ytndgafhdeddbjaa
set_option linter.unusedVariables false
open Go.RowKit

theorem Try.info5 : (Try.prog.info? 5).map (fun i => (i.zero, i.size, i.bytes)) = some (some (.int .u8 0), 1, 1) := by kernel_rfl

/-- May this be unranked? -/
def mayUnrank (n L : Int) : Bool := okLetters L && decide (0 ≤ n) && decide (n ≤ 4611686018427387904) && (!decide (L = 1) || decide (n ≤ 2048))

def unrankL (n L : Int) : List UInt8 := if mayUnrank n L then (revWord L.toNat n.toNat).reverse else []

/-- An owned row of bytes, made a string. -/
theorem own_str {w : World} {base : Nat} {v : Value} {l : List UInt8} (h : w.ownsRow base 5 1 v l.length (l.map byteV)) :
    (convert 32 9 v).run Try.prog w = .ok (strV l) w := by
  rcases h.2 with ⟨rfl, hl⟩ | ⟨g, cap, cur, rfl, _, hg, _⟩
  · obtain rfl : l = [] := List.length_eq_zero_iff.1 hl
    exact run_convert_bytes_nil w 32 5 Try.underlying32 Try.underlying5 0 0 9 Try.underlying9
  · refine run_convert_bytes_back w 32 9 5 ⟨g, 0, none⟩ cap l Try.underlying32 Try.underlying5 Try.underlying9 fun j hj => ?_
    exact h.cells (g := g) rfl j _ (by simp [hj])

theorem digit_byte (j K : Nat) (hj : 0 < j) (hK : 1 ≤ K) (hK6 : K ≤ 6) : byteV (UInt8.ofNat (97 + (j - 1) % K)) = .int .u8 (97 + ((j : Int) - 1) % (K : Int)) := by
  have h1 : (j - 1) % K < K := Nat.mod_lt _ (by omega)
  have h2 : ((j : Int) - 1) % (K : Int) = (((j - 1) % K : Nat) : Int) := by
    rw [show (j : Int) - 1 = ((j - 1 : Nat) : Int) by omega]; rfl
  simp only [byteV, h2]
  congr 1
  simp
  omega

set_option maxRecDepth 100000 in
set_option maxHeartbeats 400000 in
theorem unrank_any (n L : Int) (w : World) (wn : -9223372036854775808 ≤ n ∧ n ≤ 9223372036854775807) :
    Calls Try.prog 27 #[.int .i64 n, .int .i64 L] w fun e w' => e = .returned (.tuple #[strV (unrankL n L), .bool (mayUnrank n L)]) ∧ Below w.heap.size w w' := by
  by_cases hm : mayUnrank n L = true
  case neg =>
    have hv : unrankL n L = [] := by unfold unrankL; rw [if_neg hm]
    have hb : L < 1 ∨ 6 < L ∨ n < 0 ∨ 4611686018427387904 < n ∨ (L = 1 ∧ 2048 < n) := by
      simp [mayUnrank, okLetters] at hm; omega
    have Hm := Lib.hid hm
    have Hv := Lib.hid hv
    clear hm hv
    go_enter Try.func27, Try.ntmps27
    go_wp2
    all_goals first
      | (go_ret2; refine ⟨?_, Below.refl _ _⟩; rw [Hv.out, Bool.eq_false_iff.2 Hm.out]; rfl)
      | (exfalso; simp at *; omega)
  case pos =>
    have hb : 1 ≤ L ∧ L ≤ 6 ∧ 0 ≤ n ∧ n ≤ 4611686018427387904 ∧ (L = 1 → n ≤ 2048) := by
      simp [mayUnrank, okLetters] at hm; omega
    obtain ⟨h1, h2, h3, h4, h5⟩ := hb
    have Hm := Lib.hid hm
    clear hm
    obtain ⟨m, rfl⟩ := Int.eq_ofNat_of_zero_le h3
    obtain ⟨K, rfl⟩ := Int.eq_ofNat_of_zero_le (show 0 ≤ L by omega)
    have hlen := revWord_length K m (by omega) (by omega) (by omega)
    have H5 := Lib.hid h5
    clear h5
    have hm1 : ((K : Int) == 1) = true → (m : Int) ≤ 2048 := fun h => by simp at h; have := H5.out (by omega); omega
    cases hb1 : ((K : Int) == 1)
    all_goals
      try have hm2 := hm1 hb1
      clear hm1
      go_enter Try.func27, Try.ntmps27
      go_wp2
      go_loopw [0, 6] (fun vn vr wr => ∃ (j : Nat) (acc : List UInt8), j ≤ m ∧ vn = .int .i64 j ∧ acc ++ revWord K j = revWord K m ∧
        wr.ownsRow w.heap.size 5 1 vr acc.length (acc.map byteV) ∧ Below w.heap.size w wr) (fun vn _ _ => (intOf vn).toNat)
      case atStart => exact ⟨m, [], Nat.le_refl _, rfl, rfl, World.ownsRow_nil _ _ _ _, Below.refl _ _⟩
      case round =>
        obtain ⟨j, acc, hj, rfl, hacc, hown, hbel⟩ := hrel
        have Hacc := Lib.hid hacc
        have Hbel := Lib.hid hbel
        clear hacc hbel
        by_cases hj0 : 0 < j
        · have hlen2 : acc.length ≤ 2048 := by have := congrArg List.length Hacc.out; simp at this; omega
          have hlt := hown.lt
          have Hlt := Lib.hid hlt
          clear hlt h3 h4 wn
          have hsz : w.heap.size ≤ wr.heap.size := Hbel.out.size
          have r1 : 0 ≤ ((j : Int) - 1) % (K : Int) ∧ ((j : Int) - 1) % (K : Int) < 6 := ⟨Int.emod_nonneg _ (by omega), by have := Int.emod_lt_of_pos ((j : Int) - 1) (show 0 < (K : Int) by omega); omega⟩
          obtain ⟨r2, r3⟩ := r1
          go_wp2_with (at_builtin; refine wpList_push _ _ 32 5 (.int .u8 0) 1 w.heap.size rfl rfl Try.underlying32 Try.info5 rfl _ _ _ rfl hown _ _ rfl rfl (by omega) (by omega) hsz ?_; intro v' w' hown' hgr hnn)
          have e1 : ((j : Int) - 1) / (K : Int) = (((j - 1) / K : Nat) : Int) := by
            rw [show (j : Int) - 1 = ((j - 1 : Nat) : Int) by omega]; rfl
          have e2 : (j - 1) / K ≤ j - 1 := Nat.div_le_self _ _
          have e3 := digit_byte j K hj0 (by omega) (by omega)
          go_roundw
          case rel =>
            refine ⟨(j - 1) / K, acc ++ [UInt8.ofNat (97 + (j - 1) % K)], by omega, by rw [e1], ?_, ?_, Hbel.out.trans (Below_of_grown hgr hsz fun k hk => (Hlt.out k hk).1)⟩
            · rw [List.append_assoc, List.singleton_append, ← revWord_step K j hj0, Hacc.out]
            · simp only [List.length_append, List.length_singleton, List.map_append, List.map_cons, List.map_nil, e3]
              exact hown'
          case measure => simp [intOf]; rw [e1]; omega
        · obtain rfl : j = 0 := by omega
          have hacc : acc = revWord K m := by have := Hacc.out; simpa [revWord_zero] using this
          have kb := own_str hown
          have hsz2 : Hid ((⟨acc.toArray⟩ : ByteArray).size ≤ maxLen) := by
            show acc.toArray.size ≤ maxLen
            rw [hacc]; unfold maxLen; simp; omega
          have Ha := Lib.hid hacc
          clear h3 h4 wn hacc
          go_wp2_with (go_at_call 38; refine (reverse_any _ _ hsz2.out).mono ?_; rintro e w1 ⟨rfl, hw1⟩)
          go_ret2
          refine ⟨?_, ?_⟩
          · simp [unrankL, Hm.out, Ha.out]
          · exact Hbel.out.trans (hw1.mono Hbel.out.size)


/-- 'string([]byte{c})'. -/
theorem single_str (w : World) (x : Int) (cap : Nat) :
    (convert 32 9 (.slice (some ⟨w.heap.size, 0, none⟩) 1 cap)).run Try.prog (w.alloc (.cells #[.int .u8 x] 5)) = .ok (strV [UInt8.ofNat x.toNat]) (w.alloc (.cells #[.int .u8 x] 5)) := by
  have h := run_convert_bytes_arg (P := Try.prog) (w.alloc (.cells #[.int .u8 x] 5)) 32 5 Try.underlying32 Try.underlying5 w.heap.size 0 1 cap [x] rfl (fun i hi => by
    obtain rfl : i = 0 := by omega
    simp [World.cell?_alloc_new]) 9 Try.underlying9
  simpa [strOfNums] using h

set_option maxRecDepth 100000 in
set_option maxHeartbeats 400000 in
theorem refUnrank_any (n L : Int) (w : World) (wn : -9223372036854775808 ≤ n ∧ n ≤ 9223372036854775807) :
    Calls Try.prog 28 #[.int .i64 n, .int .i64 L] w fun e w' => e = .returned (.tuple #[strV (unrankL n L), .bool (mayUnrank n L)]) ∧ Below w.heap.size w w' := by
  by_cases hm : mayUnrank n L = true
  case neg =>
    have hv : unrankL n L = [] := by unfold unrankL; rw [if_neg hm]
    have hb : okLetters L = false ∨ n < 0 ∨ 4611686018427387904 < n ∨ (L = 1 ∧ 2048 < n) := by
      cases h : okLetters L
      · simp
      · simp [mayUnrank, h] at hm; omega
    have Hm := Lib.hid hm
    have Hv := Lib.hid hv
    have Hb := Lib.hid hb
    clear hm hv hb
    cases hk : okLetters L
    all_goals
      have Hk := Lib.hid hk
      clear hk
      go_enter Try.func28, Try.ntmps28
      go_wp2_with (go_at_call 51; refine (may_any _ _).mono ?_; rintro e w' ⟨rfl, rfl⟩; rw [Hk.out])
      all_goals first
        | (go_ret2; refine ⟨?_, Below.refl _ _⟩; rw [Hv.out, Bool.eq_false_iff.2 Hm.out]; rfl)
        | (exfalso; have := Hb.out; rw [Hk.out] at this; simp at *; omega)
  case pos =>
    have hb : okLetters L = true ∧ 0 ≤ n ∧ n ≤ 4611686018427387904 ∧ (L = 1 → n ≤ 2048) := by
      simp [mayUnrank] at hm; refine ⟨hm.1.1.1, ?_⟩; omega
    obtain ⟨h0, h3, h4, h5⟩ := hb
    have h1 : 1 ≤ L ∧ L ≤ 6 := by simpa [okLetters] using h0
    obtain ⟨h1, h2⟩ := h1
    have Hm := Lib.hid hm
    have H0 := Lib.hid h0
    clear hm h0
    obtain ⟨m, rfl⟩ := Int.eq_ofNat_of_zero_le h3
    obtain ⟨K, rfl⟩ := Int.eq_ofNat_of_zero_le (show 0 ≤ L by omega)
    have hlen := revWord_length K m (by omega) (by omega) (by omega)
    have H5 := Lib.hid h5
    clear h5
    have hm1 : ((K : Int) == 1) = true → (m : Int) ≤ 2048 := fun h => by simp at h; have := H5.out (by omega); omega
    cases hb1 : ((K : Int) == 1)
    all_goals
      try have hm2 := hm1 hb1
      clear hm1
      go_enter Try.func28, Try.ntmps28
      go_wp2_with (go_at_call 51; refine (may_any _ _).mono ?_; rintro e w' ⟨rfl, rfl⟩; rw [H0.out])
      go_loopw [0, 6] (fun vn vr wr => ∃ (j : Nat) (acc : List UInt8), j ≤ m ∧ vn = .int .i64 j ∧ acc ++ revWord K j = revWord K m ∧
        vr = strV acc.reverse ∧ Below w.heap.size w wr) (fun vn _ _ => (intOf vn).toNat)
      case atStart => exact ⟨m, [], Nat.le_refl _, rfl, rfl, rfl, Below.refl _ _⟩
      case round =>
        obtain ⟨j, acc, hj, rfl, hacc, rfl, hbel⟩ := hrel
        have Hacc := Lib.hid hacc
        have Hbel := Lib.hid hbel
        clear hacc hbel
        by_cases hj0 : 0 < j
        · have hlen2 : acc.length ≤ 2048 := by have := congrArg List.length Hacc.out; simp at this; omega
          clear h3 h4 wn
          have hsz : w.heap.size ≤ wr.heap.size := Hbel.out.size
          have r1 : 0 ≤ ((j : Int) - 1) % (K : Int) ∧ ((j : Int) - 1) % (K : Int) < 6 := ⟨Int.emod_nonneg _ (by omega), by have := Int.emod_lt_of_pos ((j : Int) - 1) (show 0 < (K : Int) by omega); omega⟩
          obtain ⟨r2, r3⟩ := r1
          have ks := single_str
          go_wp2
          have e1 : ((j : Int) - 1) / (K : Int) = (((j - 1) / K : Nat) : Int) := by
            rw [show (j : Int) - 1 = ((j - 1 : Nat) : Int) by omega]; rfl
          have e2 : (j - 1) / K ≤ j - 1 := Nat.div_le_self _ _
          go_roundw
          case rel =>
            refine ⟨(j - 1) / K, acc ++ [UInt8.ofNat (97 + (j - 1) % K)], by omega, by rw [e1], ?_, ?_, (Hbel.out.alloc hsz _)⟩
            · rw [List.append_assoc, List.singleton_append, ← revWord_step K j hj0, Hacc.out]
            · congr 1
              apply ByteArray.ext
              simp [ByteArray.data_append]
          case measure => simp [intOf]; rw [e1]; omega
        · obtain rfl : j = 0 := by omega
          have hacc : acc = revWord K m := by have := Hacc.out; simpa [revWord_zero] using this
          have Ha := Lib.hid hacc
          clear h3 h4 wn hacc
          go_wp2
          go_ret2
          refine ⟨?_, ?_⟩
          · simp [unrankL, Hm.out, Ha.out]
          · exact Hbel.out

end Go.Proofs.Ytndgafhdeddbjaa

/- The walk of the law WordPascal. -/
import Derived.Test.YtndgafhdeddbjaaOccLaws
import Derived.Deep.RegionWith
import Derived.Deep.DeepFit
namespace Go.Proofs.Ytndgafhdeddbjaa
set_option linter.unusedVariables false
open Go.RowKit

/-- 'string([]byte{c})', the row laid in whatever way. -/
theorem one_str {w : World} {b : Nat} {c : UInt8} (h : w.cell? ⟨b, 0, none⟩ = some (byteV c)) (cap : Nat) :
    (convert 32 9 (.slice (some ⟨b, 0, none⟩) 1 cap)).run Try.prog w = .ok (strV [c]) w := by
  refine run_convert_bytes_back w 32 9 5 ⟨b, 0, none⟩ cap [c] Try.underlying32 Try.underlying5 Try.underlying9 fun j hj => ?_
  obtain rfl : j = 0 := by simpa using hj
  simpa [Addr.add] using h

theorem one_str_first (w : World) (c : UInt8) (o : Obj) (cap : Nat) :
    (convert 32 9 (.slice (some ⟨w.heap.size, 0, none⟩) 1 cap)).run Try.prog ((w.alloc (.cells #[byteV c] 5)).alloc o).drew = .ok (strV [c]) ((w.alloc (.cells #[byteV c] 5)).alloc o).drew :=
  one_str (by rw [World.cell?_drew, World.cell?_alloc_lt _ _ _ (by simp), World.cell?_alloc_new]; rfl) cap
theorem one_str_second (w : World) (c : UInt8) (o : Obj) (cap : Nat) :
    (convert 32 9 (.slice (some ⟨w.heap.size + 1, 0, none⟩) 1 cap)).run Try.prog ((w.alloc o).alloc (.cells #[byteV c] 5)).drew = .ok (strV [c]) ((w.alloc o).alloc (.cells #[byteV c] 5)).drew :=
  one_str (by
    have h := World.cell?_alloc_new (w.alloc o) #[byteV c] 5 0
    rw [World.size_alloc] at h
    rw [World.cell?_drew, h]; rfl) cap
theorem one_str_only (w : World) (c : UInt8) (cap : Nat) :
    (convert 32 9 (.slice (some ⟨w.heap.size, 0, none⟩) 1 cap)).run Try.prog (w.alloc (.cells #[byteV c] 5)).drew = .ok (strV [c]) (w.alloc (.cells #[byteV c] 5)).drew :=
  one_str (by rw [World.cell?_drew, World.cell?_alloc_new]; rfl) cap

theorem u8_byte {n : Int} (h : (Lit.int .u8 n).wf = true) : ∃ c : UInt8, n = (c.toNat : Int) := by
  have : 0 ≤ n ∧ n ≤ 255 := by simpa [Lit.wf, IntKind.min, IntKind.max, IntKind.bits, IntKind.signed] using h
  refine ⟨UInt8.ofNat n.toNat, ?_⟩
  simp; omega

theorem occM_nil (w : List UInt8) (M : Nat) (h1 : 1 ≤ (M : Int)) (h2 : (M : Int) ≤ 2147483648) : ((occM [] w (M : Int) : Nat) : Int) = 1 % (M : Int) := by
  simp only [occM, if_pos (And.intro h1 h2), occ_nil, Int.toNat_natCast]; rfl

theorem occM_snoc (u w : List UInt8) (a b : UInt8) (M : Nat) (h1 : 1 ≤ (M : Int)) (h2 : (M : Int) ≤ 2147483648) :
    ((occM (u ++ [a]) (w ++ [b]) (M : Int) : Nat) : Int) = if a = b then (((occM (u ++ [a]) w (M : Int) : Nat) : Int) + ((occM u w (M : Int) : Nat) : Int)) % (M : Int) else ((occM (u ++ [a]) w (M : Int) : Nat) : Int) := by
  simp only [occM, if_pos (And.intro h1 h2), occ_snoc, Int.toNat_natCast]
  split
  · rw [Nat.add_mod]; simp
  · simp

theorem occM_lt (u w : List UInt8) (M : Nat) (h1 : 1 ≤ (M : Int)) : occM u w (M : Int) < M := by
  unfold occM
  split
  · simp only [Int.toNat_natCast]; exact Nat.mod_lt _ (by omega)
  · omega

set_option maxRecDepth 100000 in
set_option maxHeartbeats 4000000 in
theorem WordPascal_walk (u s : ByteArray) (a b m : Int) (w : World) (hu : u.size ≤ maxLen) (hs : s.size ≤ maxLen) (wa : (Lit.int .u8 a).wf = true) (wb : (Lit.int .u8 b).wf = true) (wm : (Lit.int .i64 m).wf = true) :
    Calls Try.prog 7 #[.string u, .string s, .int .u8 a, .int .u8 b, .int .i64 m] w fun e w' => e = .returned (.bool true) ∧ Below w.heap.size w w' := by
  obtain ⟨a, rfl⟩ := u8_byte wa
  obtain ⟨b, rfl⟩ := u8_byte wb
  have l1 := cutS_le u 30
  have l2 := cutS_le s 100
  have C1 := Lib.hid fun w => cut_any u 30 w hu (by omega)
  have C2 := Lib.hid fun w => cut_any s 100 w hs (by omega)
  generalize cutS u 30 = u1 at *
  generalize cutS s 100 = s1 at *
  clear wa wb wm hu hs
  by_cases hm : 1 ≤ m ∧ m ≤ 2147483648
  case neg =>
    have HO := fun w => occ_any u1 s1 m w (by omega) (by unfold maxLen; omega)
    rw [occM_bad hm] at HO
    have O := Lib.hid HO
    clear HO
    go_enter Try.func7, Try.ntmps7
    go_wp2_with fail
    refine (C1.out _).mono ?_
    rintro e w1 ⟨rfl, rfl⟩
    go_wp2_with fail
    refine (C2.out _).mono ?_
    rintro e w1 ⟨rfl, rfl⟩
    go_wp2_with fail
    all_goals
      refine (O.out _).mono ?_
      rintro e w1 ⟨rfl, hb1⟩
      have B1 := Lib.hid hb1
      clear hb1
      go_wp2_with fail
      refine (awake_any _).mono ?_
      rintro e w3 ⟨rfl, hb3⟩
      have B3 := Lib.hid (B1.out.trans (hb3.mono B1.out.size))
      clear hb3
      go_wp2
      go_ret
      exact ⟨rfl, B3.out⟩
  case pos =>
    obtain ⟨m1, m2⟩ := hm
    obtain ⟨M, rfl⟩ := Int.eq_ofNat_of_zero_le (show 0 ≤ m by omega)
    have HO1 := fun w => occ_any (u1 ++ ⟨#[a]⟩) s1 M w (by simp; show _ + 1 ≤ _; omega) (by unfold maxLen; omega)
    have HO2 := fun w => occ_any u1 s1 M w (by omega) (by unfold maxLen; omega)
    have HO3 := fun w => occ_any (u1 ++ ⟨#[a]⟩) (s1 ++ ⟨#[b]⟩) M w (by simp; show _ + 1 ≤ _; omega) (by unfold maxLen; simp; show _ + 1 ≤ _; omega)
    have HO4 := fun w => occ_any ⟨#[]⟩ s1 M w (by simp [ByteArray.size]) (by unfold maxLen; omega)
    rw [show ((⟨#[]⟩ : ByteArray).data.toList) = [] by rfl] at HO4
    rw [show ((u1 ++ (⟨#[a]⟩ : ByteArray)).data.toList) = u1.data.toList ++ [a] by simp [ByteArray.data_append]] at HO1 HO3
    rw [show ((s1 ++ (⟨#[b]⟩ : ByteArray)).data.toList) = s1.data.toList ++ [b] by simp [ByteArray.data_append]] at HO3
    have h3 := occM_snoc u1.data.toList s1.data.toList a b M m1 m2
    have h4 := occM_nil s1.data.toList M m1 m2
    have q1 := occM_lt (u1.data.toList ++ [a]) s1.data.toList M m1
    have q2 := occM_lt u1.data.toList s1.data.toList M m1
    simp only [intV] at HO1 HO2 HO3 HO4
    rw [h4] at HO4
    rw [h3] at HO3
    generalize occM (u1.data.toList ++ [a]) s1.data.toList (M : Int) = x at *
    generalize occM u1.data.toList s1.data.toList (M : Int) = y at *
    have O1 := Lib.hid HO1
    have O2 := Lib.hid HO2
    have O4 := Lib.hid HO4
    have hr1 : 0 ≤ ((x : Int) + (y : Int)) % (M : Int) := Int.emod_nonneg _ (by omega)
    have k1 := one_str_first
    have k2 := one_str_second
    have k3 := one_str_only
    clear h3 h4 HO1 HO2 HO4
    have hbb := byte_beq a b
    by_cases hab : a = b
    · rw [if_pos hab] at HO3
      have O3 := Lib.hid HO3
      rw [decide_eq_true hab] at hbb
      clear HO3
      have Hab := Lib.hid hab
      clear hab
      go_enter Try.func7, Try.ntmps7
      go_wp2_with fail
      refine (C1.out _).mono ?_
      rintro e w1 ⟨rfl, rfl⟩
      go_wp2_with fail
      refine (C2.out _).mono ?_
      rintro e w1 ⟨rfl, rfl⟩
      go_wp2_with fail
      go_region
      all_goals
        go_wp2_with fail
        refine (O1.out _).mono ?_
        rintro e w1 ⟨rfl, hb1⟩
        have B1 := Lib.hid ((((Below.refl w.heap.size w).alloc (Nat.le_refl _) _).alloc (by simp) _).drew.trans (hb1.mono (by simp; omega)))
        clear hb1
        go_wp2_with fail
        refine (O2.out _).mono ?_
        rintro e w2 ⟨rfl, hb2⟩
        have B2 := Lib.hid (B1.out.trans (hb2.mono B1.out.size))
        clear hb2
        go_wp2_with fail
        clear k1 k2 k3 hbb q1 q2
        have d1 : ¬ (9223372036854775807 < u1.size + 1) := by omega
        have d2 : ¬ (9223372036854775807 < s1.size + 1) := by omega
        have d3 : ¬ (M = 0) := by omega
        have d4 : ((M : Int) == 0) = false := by simp; omega
        go_region_with (first | (go_at_call_of 30 (s1 ++ (⟨#[b]⟩ : ByteArray)); refine (O3.out _).mono ?_; rintro e w3 ⟨rfl, hb3⟩; have B3 := Lib.hid hb3; clear hb3) | (go_at_call 30; refine (O4.out _).mono ?_; rintro e w4 ⟨rfl, hb4⟩; have B4 := Lib.hid hb4; clear hb4) | (go_at_call 24; refine (awake_any _).mono ?_; rintro e w5 ⟨rfl, hb5⟩; have B5 := Lib.hid hb5; clear hb5))
        all_goals
          go_wp2
          go_ret
          exact ⟨rfl, B2.out.trans ((Below.refl _ _).drew.trans ((B3.out.mono B2.out.size).trans ((B4.out.mono (Nat.le_trans B2.out.size B3.out.size)).trans (B5.out.mono (Nat.le_trans B2.out.size (Nat.le_trans B3.out.size B4.out.size))))))⟩
    · rw [if_neg hab] at HO3
      have O3 := Lib.hid HO3
      rw [decide_eq_false hab] at hbb
      clear HO3
      have Hab := Lib.hid hab
      clear hab
      go_enter Try.func7, Try.ntmps7
      go_wp2_with fail
      refine (C1.out _).mono ?_
      rintro e w1 ⟨rfl, rfl⟩
      go_wp2_with fail
      refine (C2.out _).mono ?_
      rintro e w1 ⟨rfl, rfl⟩
      go_wp2_with fail
      go_region
      all_goals
        go_wp2_with fail
        refine (O1.out _).mono ?_
        rintro e w1 ⟨rfl, hb1⟩
        have B1 := Lib.hid ((((Below.refl w.heap.size w).alloc (Nat.le_refl _) _).alloc (by simp) _).drew.trans (hb1.mono (by simp; omega)))
        clear hb1
        go_wp2_with fail
        clear k1 k2 k3 hbb q1 q2
        have d1 : ¬ (9223372036854775807 < u1.size + 1) := by omega
        have d2 : ¬ (9223372036854775807 < s1.size + 1) := by omega
        have d3 : ¬ (M = 0) := by omega
        have d4 : ((M : Int) == 0) = false := by simp; omega
        go_region_with (first | (go_at_call_of 30 (s1 ++ (⟨#[b]⟩ : ByteArray)); refine (O3.out _).mono ?_; rintro e w3 ⟨rfl, hb3⟩; have B3 := Lib.hid hb3; clear hb3) | (go_at_call 30; refine (O4.out _).mono ?_; rintro e w4 ⟨rfl, hb4⟩; have B4 := Lib.hid hb4; clear hb4) | (go_at_call 24; refine (awake_any _).mono ?_; rintro e w5 ⟨rfl, hb5⟩; have B5 := Lib.hid hb5; clear hb5))
        all_goals
          go_wp2
          go_ret
          exact ⟨rfl, B1.out.trans ((Below.refl _ _).drew.trans ((B3.out.mono B1.out.size).trans ((B4.out.mono (Nat.le_trans B1.out.size B3.out.size)).trans (B5.out.mono (Nat.le_trans B1.out.size (Nat.le_trans B3.out.size B4.out.size))))))⟩
end Go.Proofs.Ytndgafhdeddbjaa

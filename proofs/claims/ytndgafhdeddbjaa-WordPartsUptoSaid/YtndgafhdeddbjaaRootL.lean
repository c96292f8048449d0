/- The walks of the laws WordRoots and WordPeriods. -/
import Derived.Test.YtndgafhdeddbjaaBorderR
import Derived.Test.YtndgafhdeddbjaaAwake
namespace Go.Proofs.Ytndgafhdeddbjaa
set_option linter.unusedVariables false
open Go.RowKit

theorem rootS_size (s : ByteArray) (h : 0 < s.size) : (rootS s).size = rootLen s.data.toList := by
  have := (rootLen_isRoot s.data.toList h).1.2.1
  have hsl : s.data.toList.length = s.size := rfl
  rw [rootS, cutS_size]; omega

theorem rootLen_root (s : ByteArray) (h : 0 < s.size) : rootLen (rootS s).data.toList = rootLen s.data.toList := by
  have hr := rootLen_isRoot s.data.toList h
  have h1 := hr.1.1
  have h2 := hr.1.2.1
  have hs := rootS_size s h
  have hl : (rootS s).data.toList.length = rootLen s.data.toList := hs
  have hr2 := rootLen_isRoot (rootS s).data.toList (by rw [hl]; omega)
  rw [hl] at hr2
  refine isRoot_unique hr2 (isRoot_congr (fun i hi => ?_) (isRoot_root hr))
  rw [fn_get _ _ (by omega), fn_get _ _ (by omega)]
  simp [rootS, cutS]

theorem root_root (s : ByteArray) (h : 0 < s.size) : rootS (rootS s) = rootS s := by
  have hs := rootS_size s h
  rw [show rootS (rootS s) = cutS (rootS s) (rootLen (rootS s).data.toList) from rfl, rootLen_root s h, cutS_long _ _ (by omega)]

theorem root_one (s : ByteArray) (h : 0 < s.size) : rootE (rootS s) = 1 := by
  have hs := rootS_size s h
  have h1 := (rootLen_isRoot s.data.toList h).1.1
  rw [show rootE (rootS s) = (rootS s).size / rootLen (rootS s).data.toList from rfl, rootLen_root s h, hs, Nat.div_self (by omega)]

theorem root_empty : rootS ByteArray.empty = ByteArray.empty := rfl
theorem rootE_empty : rootE ByteArray.empty = 0 := rfl

set_option maxRecDepth 100000 in
set_option maxHeartbeats 400000 in
theorem WordRoots_walk (s : ByteArray) (w : World) (hs : s.size ≤ maxLen) :
    Calls Try.prog 10 #[.string s] w fun e w' => e = .returned (.bool true) ∧ Below w.heap.size w w' := by
  have l1 := cutS_le s 200
  have C := Lib.hid fun w => cut_any s 200 w hs (by omega)
  generalize cutS s 200 = t at *
  have R1 := Lib.hid fun w => root_any t w (by omega)
  have R2 := Lib.hid fun w => refRoot_any t w (by omega)
  by_cases h0 : t.size = 0
  · obtain rfl := empty_of_size t h0
    have hR := R1.out
    have hR' := R2.out
    rw [root_empty, rootE_empty] at hR hR'
    have Q1 := Lib.hid hR
    have Q2 := Lib.hid hR'
    clear hR hR' R1 R2 h0
    have he : ByteArray.empty.toList = [] := by rw [toList_data]; rfl
    go_enter Try.func10, Try.ntmps10
    go_wp2_with fail
    refine (C.out _).mono ?_
    rintro e w1 ⟨rfl, rfl⟩
    go_wp2_with fail
    refine (Q1.out _).mono ?_
    rintro e w1 ⟨rfl, hb1⟩
    have B1 := Lib.hid hb1
    clear hb1
    go_wp2_with fail
    refine (Q2.out _).mono ?_
    rintro e w2 ⟨rfl, hb2⟩
    have B2 := Lib.hid (B1.out.trans (hb2.mono B1.out.size))
    clear hb2
    go_wp2_with fail
    refine (Q1.out _).mono ?_
    rintro e w3 ⟨rfl, hb3⟩
    have B3 := Lib.hid (B2.out.trans (hb3.mono B2.out.size))
    clear hb3
    go_wp2_with fail
    refine (awake_any _).mono ?_
    rintro e w4 ⟨rfl, hb4⟩
    have B4 := Lib.hid (B3.out.trans (hb4.mono B3.out.size))
    clear hb4
    go_wp2
    go_ret
    exact ⟨rfl, B4.out⟩
  · have hsz := rootS_size t (by omega)
    have hR3 := fun w => root_any (rootS t) w (by rw [hsz]; have := (rootLen_isRoot t.data.toList (by show 0 < t.size; omega)).1.2.1; have : t.data.toList.length = t.size := rfl; omega)
    rw [root_root t (by omega), root_one t (by omega)] at hR3
    have R3 := Lib.hid hR3
    clear hR3 hsz
    generalize rootS t = r at *
    generalize rootE t = n at *
    go_enter Try.func10, Try.ntmps10
    go_wp2_with fail
    refine (C.out _).mono ?_
    rintro e w1 ⟨rfl, rfl⟩
    go_wp2_with fail
    refine (R1.out _).mono ?_
    rintro e w1 ⟨rfl, hb1⟩
    have B1 := Lib.hid hb1
    clear hb1
    go_wp2_with fail
    refine (R2.out _).mono ?_
    rintro e w2 ⟨rfl, hb2⟩
    have B2 := Lib.hid (B1.out.trans (hb2.mono B1.out.size))
    clear hb2
    go_wp2_with fail
    refine (R3.out _).mono ?_
    rintro e w3 ⟨rfl, hb3⟩
    have B3 := Lib.hid (B2.out.trans (hb3.mono B2.out.size))
    clear hb3
    go_wp2_with fail
    refine (awake_any _).mono ?_
    rintro e w4 ⟨rfl, hb4⟩
    have B4 := Lib.hid (B3.out.trans (hb4.mono B3.out.size))
    clear hb4
    go_wp2
    go_ret
    exact ⟨rfl, B4.out⟩
end Go.Proofs.Ytndgafhdeddbjaa

/- The walks of word.Rank and its reference. -/
import Derived.Test.YtndgafhdeddbjaaAwake
namespace Go.Proofs.Ytndgafhdeddbjaa
set_option linter.unusedVariables false
open Go.RowKit

def rankFrom (L : Nat) : Nat → List UInt8 → Option Nat
  | n, [] => some n
  | n, c :: l => if n * L + (c.toNat - 96) ≤ 4611686018427387904 then rankFrom L (n * L + (c.toNat - 96)) l else none

def rankL (l : List UInt8) (L : Int) : Option Nat := if validB l L then rankFrom L.toNat 0 l else none

theorem valid_bounds {l : List UInt8} {L : Int} (h : validB l L = true) : 1 ≤ L ∧ L ≤ 6 ∧ l.length ≤ 2048 ∧ ∀ c ∈ l, 97 ≤ c.toNat ∧ (c.toNat : Int) - 97 < L := by
  simp [validB, okLetters, letterIn] at h
  obtain ⟨⟨⟨a, b⟩, c⟩, d⟩ := h
  exact ⟨a, b, c, d⟩

theorem drop_cons (s : ByteArray) (k : Nat) (h : k < s.size) : s.data.toList.drop k = s[k] :: s.data.toList.drop (k + 1) := by
  rw [List.drop_eq_getElem_cons (by simpa using h)]; rfl

theorem div_test (n K c : Int) (hK : 1 ≤ K) : (4611686018427387904 - (c - 97 + 1)) / K < n ↔ 4611686018427387904 < n * K + (c - 96) := by
  rw [Int.ediv_lt_iff_lt_mul (by omega)]; omega

theorem rankFrom_cons {K n : Nat} {l r : List UInt8} {c : UInt8} {x : Option Nat} (hd : l = c :: r) (h : rankFrom K n l = x) (hf : n * K + (c.toNat - 96) ≤ 4611686018427387904) :
    rankFrom K (n * K + (c.toNat - 96)) r = x := by
  rw [hd] at h; simp only [rankFrom, if_pos hf] at h; exact h

theorem rankFrom_none {K n : Nat} {l r : List UInt8} {c : UInt8} {x : Option Nat} (hd : l = c :: r) (h : rankFrom K n l = x) (hf : 4611686018427387904 < n * K + (c.toNat - 96)) : x = none := by
  rw [hd] at h; simp only [rankFrom, if_neg (Nat.not_le.2 hf)] at h; exact h.symm

theorem ret_rank {x : Option Nat} {a : Int} {b : Bool} {y : Option Nat} (h : y = x) (ha : a = ((x.getD 0 : Nat) : Int)) (hb : b = x.isSome) :
    Ending.returned (.tuple #[.int .i64 a, .bool b]) = .returned (.tuple #[.int .i64 ((y.getD 0 : Nat) : Int), .bool y.isSome]) := by
  rw [h, ha, hb]

set_option maxRecDepth 100000 in
set_option maxHeartbeats 400000 in
theorem rank_any (s : ByteArray) (L : Int) (w : World) (hs : s.size ≤ maxLen) :
    Calls Try.prog 25 #[.string s, .int .i64 L] w fun e w' => e = .returned (.tuple #[.int .i64 ((rankL s.data.toList L).getD 0 : Nat), .bool (rankL s.data.toList L).isSome]) ∧ w = w' := by
  cases hv : validB s.data.toList L
  case false =>
    have hr : rankL s.data.toList L = none := by simp [rankL, hv]
    have HR := Lib.hid hr
    have HV := Lib.hid hv
    clear hr hv
    go_enter Try.func25, Try.ntmps25
    go_wp2_with (go_at_call 22; refine (valid_any _ _ _ hs).mono ?_; rintro e w' ⟨rfl, rfl⟩; rw [HV.out])
    go_ret2
    exact ⟨by rw [HR.out]; rfl, rfl⟩
  case true =>
    obtain ⟨h1, h2, h3, h4⟩ := valid_bounds hv
    have hr : rankL s.data.toList L = rankFrom L.toNat 0 s.data.toList := by simp [rankL, hv]
    obtain ⟨K, rfl⟩ := Int.eq_ofNat_of_zero_le (show 0 ≤ L by omega)
    have HR := Lib.hid hr
    have HV := Lib.hid hv
    have H4 := Lib.hid h4
    have h3' : s.size ≤ 2048 := h3
    clear hr hv h4 h3
    go_enter Try.func25, Try.ntmps25
    go_wp2_with (go_at_call 22; refine (valid_any _ _ _ hs).mono ?_; rintro e w' ⟨rfl, rfl⟩; rw [HV.out])
    go_loop [6, 7, 8, 15] (fun vn _ _ vi => ∃ (k n : Nat), k ≤ s.size ∧ vi = .int .i64 k ∧ vn = .int .i64 n ∧ n ≤ 4611686018427387904 ∧ rankFrom K n (s.data.toList.drop k) = rankFrom K 0 s.data.toList) (fun _ _ _ vi => s.size - (intOf vi).toNat)
    case atStart => exact ⟨0, 0, Nat.zero_le _, rfl, rfl, by omega, rfl⟩
    case round =>
      obtain ⟨k, n, hk, rfl, rfl, hn, hrel'⟩ := hrel
      have H := Lib.hid hrel'
      clear hrel'
      by_cases hlt : k < s.size
      · have hc := H4.out s[k] (by
          have : s[k] = s.data.toList[k]'(by simpa using hlt) := rfl
          rw [this]; exact List.getElem_mem _)
        obtain ⟨c1, c2⟩ := hc
        have hd := drop_cons s k hlt
        have HD := Lib.hid hd
        clear hd
        have hdt := div_test n K s[k].toNat h1
        have ho1 : (0 : Int) ≤ (n : Int) * (K : Int) := Int.mul_nonneg (by omega) (by omega)
        have hcast : (n : Int) * (K : Int) = ((n * K : Nat) : Int) := by simp
        have HT := Lib.hid hdt
        have HC := Lib.hid hcast
        have b256 : s[k].toNat < 256 := UInt8.toNat_lt _
        clear hdt hcast
        by_cases hov : (n : Int) * (K : Int) + ((s[k].toNat : Int) - 96) ≤ 4611686018427387904
        · go_wp2
          all_goals first
            | (exfalso; rename_i hx _; have := HT.out.1 hx; omega)
            | (go_round
               case rel =>
                 refine ⟨k + 1, n * K + (s[k].toNat - 96), by omega, by go_num, ?_, ?_, ?_⟩
                 · congr 1; rw [HC.out]; omega
                 · have := HC.out; omega
                 · exact rankFrom_cons HD.out H.out (by have := HC.out; omega)
               case measure => simp [intOf]; omega)
        · go_wp2
          all_goals first
            | (go_ret2
               exact ⟨ret_rank (HR.out.trans (rankFrom_none HD.out H.out (by have := HC.out; omega))) rfl rfl, rfl⟩)
            | (exfalso; rename_i hx; have := HT.out.2 (by omega); omega)
      · go_wp2
        go_ret2
        have hk' : k = s.data.toList.length := by have : s.data.toList.length = s.size := rfl; omega
        have : rankL s.data.toList (K : Int) = some n := by
          rw [HR.out]; refine H.out.symm.trans ?_; rw [hk', List.drop_length]; rfl
        exact ⟨ret_rank this rfl rfl, rfl⟩
set_option maxRecDepth 100000 in
set_option maxHeartbeats 400000 in
theorem refRank_any (s : ByteArray) (L : Int) (w : World) (hs : s.size ≤ maxLen) :
    Calls Try.prog 26 #[.string s, .int .i64 L] w fun e w' => e = .returned (.tuple #[.int .i64 ((rankL s.data.toList L).getD 0 : Nat), .bool (rankL s.data.toList L).isSome]) ∧ w = w' := by
  cases hv : validB s.data.toList L
  case false =>
    have hr : rankL s.data.toList L = none := by simp [rankL, hv]
    have HR := Lib.hid hr
    have HV := Lib.hid hv
    clear hr hv
    go_enter Try.func26, Try.ntmps26
    go_wp2_with (go_at_call 23; refine (refValid_any _ _ _ hs).mono ?_; rintro e w' ⟨rfl, rfl⟩; rw [HV.out])
    go_ret2
    exact ⟨by rw [HR.out]; rfl, rfl⟩
  case true =>
    obtain ⟨h1, h2, h3, h4⟩ := valid_bounds hv
    have hr : rankL s.data.toList L = rankFrom L.toNat 0 s.data.toList := by simp [rankL, hv]
    obtain ⟨K, rfl⟩ := Int.eq_ofNat_of_zero_le (show 0 ≤ L by omega)
    have HR := Lib.hid hr
    have HV := Lib.hid hv
    have H4 := Lib.hid h4
    have h3' : s.size ≤ 2048 := h3
    clear hr hv h4 h3
    go_enter Try.func26, Try.ntmps26
    go_wp2_with (go_at_call 23; refine (refValid_any _ _ _ hs).mono ?_; rintro e w' ⟨rfl, rfl⟩; rw [HV.out])
    go_loop [6, 7, 8] (fun vn vi _ => ∃ (k n : Nat), k ≤ s.size ∧ vi = .int .i64 k ∧ vn = .int .i64 n ∧ n ≤ 4611686018427387904 ∧ rankFrom K n (s.data.toList.drop k) = rankFrom K 0 s.data.toList) (fun _ vi _ => s.size - (intOf vi).toNat)
    case atStart => exact ⟨0, 0, Nat.zero_le _, rfl, rfl, by omega, rfl⟩
    case round =>
      obtain ⟨k, n, hk, rfl, rfl, hn, hrel'⟩ := hrel
      have H := Lib.hid hrel'
      clear hrel'
      by_cases hlt : k < s.size
      · have hc := H4.out s[k] (by
          have : s[k] = s.data.toList[k]'(by simpa using hlt) := rfl
          rw [this]; exact List.getElem_mem _)
        obtain ⟨c1, c2⟩ := hc
        have hd := drop_cons s k hlt
        have HD := Lib.hid hd
        clear hd
        have hdt := div_test n K s[k].toNat h1
        have ho1 : (0 : Int) ≤ (n : Int) * (K : Int) := Int.mul_nonneg (by omega) (by omega)
        have hcast : (n : Int) * (K : Int) = ((n * K : Nat) : Int) := by simp
        have HT := Lib.hid hdt
        have HC := Lib.hid hcast
        have b256 : s[k].toNat < 256 := UInt8.toNat_lt _
        clear hdt hcast
        by_cases hov : (n : Int) * (K : Int) + ((s[k].toNat : Int) - 96) ≤ 4611686018427387904
        · go_wp2
          all_goals first
            | (exfalso; rename_i hx _; have := HT.out.1 hx; omega)
            | (go_round
               case rel =>
                 refine ⟨k + 1, n * K + (s[k].toNat - 96), by omega, by go_num, ?_, ?_, ?_⟩
                 · congr 1; rw [HC.out]; omega
                 · have := HC.out; omega
                 · exact rankFrom_cons HD.out H.out (by have := HC.out; omega)
               case measure => simp [intOf]; omega)
        · go_wp2
          all_goals first
            | (go_ret2
               exact ⟨ret_rank (HR.out.trans (rankFrom_none HD.out H.out (by have := HC.out; omega))) rfl rfl, rfl⟩)
            | (exfalso; rename_i hx; have := HT.out.2 (by omega); omega)
      · go_wp2
        go_ret2
        have hk' : k = s.data.toList.length := by have : s.data.toList.length = s.size := rfl; omega
        have : rankL s.data.toList (K : Int) = some n := by
          rw [HR.out]; refine H.out.symm.trans ?_; rw [hk', List.drop_length]; rfl
        exact ⟨ret_rank this rfl rfl, rfl⟩

/-- The words of the ranks: facts for the laws. -/
theorem rankFrom_le {K : Nat} (hK : 1 ≤ K) : ∀ (l : List UInt8) (n m : Nat), n ≤ 4611686018427387904 → rankFrom K n l = some m → m ≤ 4611686018427387904
  | [], n, m, hn, h => by simp [rankFrom] at h; omega
  | c :: l, n, m, hn, h => by
    simp only [rankFrom] at h
    split at h
    · exact rankFrom_le hK l _ m (by assumption) h
    · cases h

theorem rankFrom_revWord {K : Nat} (hK : 1 ≤ K) (hK6 : K ≤ 6) : ∀ (l : List UInt8) (n m : Nat), (∀ c ∈ l, 97 ≤ c.toNat ∧ c.toNat - 97 < K) → rankFrom K n l = some m → revWord K m = l.reverse ++ revWord K n
  | [], n, m, _, h => by simp [rankFrom] at h; simp [h]
  | c :: l, n, m, hv, h => by
    simp only [rankFrom] at h
    split at h
    · have ih := rankFrom_revWord hK hK6 l _ m (fun x hx => hv x (List.mem_cons_of_mem _ hx)) h
      obtain ⟨h1, h2⟩ := hv c (List.mem_cons_self)
      have e1 : (n * K + (c.toNat - 96) - 1) % K = c.toNat - 97 := by
        rw [show n * K + (c.toNat - 96) - 1 = c.toNat - 97 + K * n by rw [Nat.mul_comm]; omega, Nat.add_mul_mod_self_left, Nat.mod_eq_of_lt h2]
      have e2 : (n * K + (c.toNat - 96) - 1) / K = n := by
        rw [show n * K + (c.toNat - 96) - 1 = c.toNat - 97 + K * n by rw [Nat.mul_comm]; omega, Nat.add_mul_div_left _ _ (by omega), Nat.div_eq_of_lt h2]; omega
      rw [ih, revWord_step K _ (by omega), e1, e2, show 97 + (c.toNat - 97) = c.toNat by omega]
      simp
    · cases h

theorem rankFrom_append {K : Nat} : ∀ (l r : List UInt8) (n : Nat), rankFrom K n (l ++ r) = (rankFrom K n l).bind fun m => rankFrom K m r
  | [], r, n => by simp [rankFrom]
  | c :: l, r, n => by
    simp only [List.cons_append, rankFrom]
    split
    · rw [rankFrom_append l r]
    · rfl

theorem digit_toNat (n K : Nat) (hK : 1 ≤ K) (hK6 : K ≤ 6) : (UInt8.ofNat (97 + (n - 1) % K)).toNat = 97 + (n - 1) % K := by
  have : (n - 1) % K < K := Nat.mod_lt _ (by omega)
  simp; omega

theorem revWord_rank {K : Nat} (hK : 1 ≤ K) (hK6 : K ≤ 6) (n : Nat) (hn : n ≤ 4611686018427387904) : rankFrom K 0 (revWord K n).reverse = some n := by
  induction n using Nat.strongRecOn with
  | _ n ih =>
    by_cases h0 : n = 0
    · subst h0; rfl
    · have hd : (n - 1) / K ≤ n - 1 := Nat.div_le_self _ _
      have hm := Nat.div_add_mod (n - 1) K
      have ht := digit_toNat n K hK hK6
      have e : (n - 1) / K * K + (97 + (n - 1) % K - 96) = n := by rw [Nat.mul_comm]; omega
      rw [revWord_step K n (by omega), List.reverse_cons, rankFrom_append, ih _ (by omega) (by omega)]
      simp only [Option.bind_some, rankFrom, ht, e, if_pos hn]

theorem revWord_letters {K : Nat} (hK : 1 ≤ K) (hK6 : K ≤ 6) (n : Nat) : ∀ c ∈ revWord K n, 97 ≤ c.toNat ∧ c.toNat - 97 < K := by
  induction n using Nat.strongRecOn with
  | _ n ih =>
    by_cases h0 : n = 0
    · subst h0; simp [revWord_zero]
    · have hd : (n - 1) / K ≤ n - 1 := Nat.div_le_self _ _
      have ht := digit_toNat n K hK hK6
      have : (n - 1) % K < K := Nat.mod_lt _ (by omega)
      rw [revWord_step K n (by omega)]
      intro c hc
      rcases List.mem_cons.1 hc with rfl | hc
      · rw [ht]; omega
      · exact ih _ (by omega) c hc

theorem rank_unrank {l : List UInt8} {L : Int} {n : Nat} (h : rankL l L = some n) : mayUnrank n L = true ∧ unrankL n L = l ∧ n ≤ 4611686018427387904 := by
  unfold rankL at h
  split at h
  case isFalse => cases h
  case isTrue hv =>
    obtain ⟨h1, h2, h3, h4⟩ := valid_bounds hv
    obtain ⟨K, rfl⟩ := Int.eq_ofNat_of_zero_le (show 0 ≤ L by omega)
    simp only [Int.toNat_natCast] at h
    have hl := rankFrom_le (by omega) l 0 n (by omega) h
    have hr := rankFrom_revWord (by omega) (by omega) l 0 n (fun c hc => by have := h4 c hc; omega) h
    rw [revWord_zero, List.append_nil] at hr
    have hm : mayUnrank n K = true := by
      have : ((K : Int) = 1 → (n : Int) ≤ 2048) := fun e => by
        obtain rfl : K = 1 := by omega
        have := congrArg List.length hr
        rw [revWord_length_one, List.length_reverse] at this
        omega
      simp [mayUnrank, okLetters]
      omega
    refine ⟨hm, ?_, hl⟩
    simp [unrankL, hm, hr]

theorem unrank_rank {n L : Int} (h : mayUnrank n L = true) : rankL (unrankL n L) L = some n.toNat ∧ 0 ≤ n ∧ (unrankL n L).length ≤ 2048 := by
  have hb : 1 ≤ L ∧ L ≤ 6 ∧ 0 ≤ n ∧ n ≤ 4611686018427387904 ∧ (L = 1 → n ≤ 2048) := by
    simp [mayUnrank, okLetters] at h; omega
  obtain ⟨h1, h2, h3, h4, h5⟩ := hb
  obtain ⟨m, rfl⟩ := Int.eq_ofNat_of_zero_le h3
  obtain ⟨K, rfl⟩ := Int.eq_ofNat_of_zero_le (show 0 ≤ L by omega)
  have hlen := revWord_length K m (by omega) (by omega) (by omega)
  have hv : validB (revWord K m).reverse (K : Int) = true := by
    simp [validB, okLetters, letterIn]
    refine ⟨by omega, fun c hc => ?_⟩
    have := revWord_letters (show 1 ≤ K by omega) (by omega) m c hc
    omega
  have hu : unrankL (m : Int) (K : Int) = (revWord K m).reverse := by simp [unrankL, h]
  refine ⟨?_, h3, by rw [hu, List.length_reverse]; exact hlen⟩
  rw [hu, rankL, hv, if_pos rfl]
  simp only [Int.toNat_natCast]
  exact revWord_rank (by omega) (by omega) m (by omega)
end Go.Proofs.Ytndgafhdeddbjaa

/- Plain facts on periods and primitive roots. No program. -/
import Derived.Test.YtndgafhdeddbjaaBords
namespace Go.Proofs.Ytndgafhdeddbjaa

/-- p is a period of the first n letters of f. -/
def Per (f : Nat → UInt8) (n p : Nat) : Prop := ∀ k, k + p < n → f k = f (k + p)

theorem isB_per (f : Nat → UInt8) (n c : Nat) (h : c < n) : IsB f n c ↔ Per f n (n - c) := by
  constructor
  · rintro ⟨_, h2⟩ k hk
    rw [h2 k (by omega)]; congr 1; omega
  · intro h2
    refine ⟨h, fun k hk => ?_⟩
    rw [h2 k (by omega)]; congr 1; omega

theorem per_all (f : Nat → UInt8) (n : Nat) : Per f n n := fun k hk => by omega

theorem per_sub {f : Nat → UInt8} {n p q : Nat} (hp : Per f n p) (hq : Per f n q) (h : p + q ≤ n) (hpq : p < q) : Per f n (q - p) := by
  intro k hk
  by_cases hkp : p ≤ k
  · have h1 := hp (k - p) (by omega)
    have h2 := hq (k - p) (by omega)
    rw [show k - p + p = k by omega] at h1
    rw [← h1, h2]; congr 1; omega
  · have h1 := hq k (by omega)
    have h2 := hp (k + (q - p)) (by omega)
    rw [h1, h2]; congr 1; omega

theorem per_gcd (f : Nat → UInt8) (n : Nat) : ∀ (s p q : Nat), p + q ≤ s → 1 ≤ p → 1 ≤ q → Per f n p → Per f n q → p + q ≤ n → Per f n (Nat.gcd p q)
  | 0, p, q, hs, h1, _, _, _, _ => by omega
  | s + 1, p, q, hs, h1, h2, hp, hq, h => by
    rcases Nat.lt_trichotomy p q with hlt | heq | hgt
    · have := per_gcd f n s p (q - p) (by omega) h1 (by omega) hp (per_sub hp hq h hlt) (by omega)
      have e : Nat.gcd p (q - p) = Nat.gcd p q := Nat.gcd_sub_self_right (by omega)
      rwa [e] at this
    · subst heq; rw [Nat.gcd_self]; exact hp
    · have := per_gcd f n s (p - q) q (by omega) (by omega) h2 (per_sub hq hp (by omega) hgt) hq (by omega)
      have e : Nat.gcd (p - q) q = Nat.gcd p q := Nat.gcd_sub_self_left (by omega)
      rwa [e] at this

theorem per_mod {f : Nat → UInt8} {n p : Nat} (h : Per f n p) (hp : 1 ≤ p) (k : Nat) (hk : k < n) : f k = f (k % p) := by
  induction k using Nat.strongRecOn with
  | _ k ih =>
    by_cases hlt : k < p
    · rw [Nat.mod_eq_of_lt hlt]
    · have h1 := h (k - p) (by omega)
      rw [show k - p + p = k by omega] at h1
      rw [← h1, ih (k - p) (by omega) (by omega), ← Nat.mod_eq_sub_mod (by omega)]

theorem per_of_mod {f : Nat → UInt8} {n p : Nat} (h : ∀ k, k < n → f k = f (k % p)) : Per f n p := fun k hk => by
  rw [h k (by omega), h (k + p) hk, Nat.add_mod_right]

/-- m divides n and is a period of the first n letters of f. -/
def Good (f : Nat → UInt8) (n m : Nat) : Prop := 1 ≤ m ∧ m ≤ n ∧ n % m = 0 ∧ Per f n m

/-- m is the length of the primitive root of the first n letters of f. -/
def IsRoot (f : Nat → UInt8) (n m : Nat) : Prop := Good f n m ∧ ∀ k, Good f n k → m ≤ k

theorem isRoot_unique {f : Nat → UInt8} {n a b : Nat} (ha : IsRoot f n a) (hb : IsRoot f n b) : a = b :=
  Nat.le_antisymm (ha.2 b hb.1) (hb.2 a ha.1)

/-- The length of the primitive root. -/
def rootLen (l : List UInt8) : Nat := if l.length % (l.length - borderOf l) = 0 then l.length - borderOf l else l.length

theorem rootLen_isRoot (l : List UInt8) (h : 0 < l.length) : IsRoot (fn l) l.length (rootLen l) := by
  obtain ⟨hb, hmax⟩ := borderOf_isLB l h
  have hlt := hb.1
  have hper := (isB_per _ _ _ hlt).1 hb
  have hmin : ∀ q, 1 ≤ q → q ≤ l.length → Per (fn l) l.length q → l.length - borderOf l ≤ q := fun q h1 h2 h3 => by
    have := hmax (l.length - q) ((isB_per _ _ _ (by omega)).2 (by rw [show l.length - (l.length - q) = q by omega]; exact h3))
    omega
  have hp1 : 1 ≤ l.length - borderOf l := by omega
  have hp2 : l.length - borderOf l ≤ l.length := by omega
  unfold rootLen
  generalize l.length - borderOf l = p at *
  generalize l.length = n at *
  split
  · rename_i hd
    exact ⟨⟨hp1, hp2, hd, hper⟩, fun k hk => hmin k hk.1 hk.2.1 hk.2.2.2⟩
  · rename_i hd
    refine ⟨⟨h, Nat.le_refl _, Nat.mod_self _, per_all _ _⟩, fun k hk => ?_⟩
    obtain ⟨k1, k2, k3, k4⟩ := hk
    rcases Nat.lt_or_ge k n with hkl | hkl
    · exfalso
      have hpk := hmin k k1 k2 k4
      obtain ⟨c, hc⟩ := Nat.dvd_of_mod_eq_zero k3
      have hc2 : 2 ≤ c := by
        rcases Nat.lt_or_ge c 2 with h' | h'
        · have : c = 0 ∨ c = 1 := by omega
          rcases this with e | e
          · subst e; simp at hc; omega
          · subst e; simp at hc; omega
        · exact h'
      have h2k : 2 * k ≤ n := by rw [hc, Nat.mul_comm]; exact Nat.mul_le_mul_left _ hc2
      have hg := per_gcd (fn l) n _ p k (Nat.le_refl _) hp1 k1 hper k4 (by omega)
      have hgp : Nat.gcd p k ≤ p := Nat.gcd_le_left _ hp1
      have hg1 : 1 ≤ Nat.gcd p k := Nat.gcd_pos_of_pos_right _ k1
      have hge := hmin _ hg1 (by omega) hg
      have heq : Nat.gcd p k = p := Nat.le_antisymm hgp hge
      have hd1 : p ∣ k := heq ▸ Nat.gcd_dvd_right p k
      exact hd (Nat.mod_eq_zero_of_dvd (Nat.dvd_trans hd1 (Nat.dvd_of_mod_eq_zero k3)))
    · exact hkl

theorem mod_mod_dvd (a : Nat) {b c : Nat} (h : c ∣ b) : a % b % c = a % c := Nat.mod_mod_of_dvd a h

theorem isRoot_congr {f g : Nat → UInt8} {n m : Nat} (h : ∀ i, i < n → f i = g i) (hr : IsRoot f n m) : IsRoot g n m := by
  have hg : ∀ {f g : Nat → UInt8} {k : Nat}, (∀ i, i < n → f i = g i) → Good f n k → Good g n k := fun {f g k} h hk =>
    ⟨hk.1, hk.2.1, hk.2.2.1, fun i hi => by rw [← h i (by omega), ← h (i + k) hi]; exact hk.2.2.2 i hi⟩
  exact ⟨hg h hr.1, fun k hk => hr.2 k (hg (fun i hi => (h i hi).symm) hk)⟩

/-- The root is primitive. -/
theorem isRoot_root {f : Nat → UInt8} {n m : Nat} (h : IsRoot f n m) : IsRoot f m m := by
  obtain ⟨⟨h1, h2, h3, h4⟩, hmin⟩ := h
  refine ⟨⟨h1, Nat.le_refl _, Nat.mod_self _, per_all _ _⟩, fun k hk => ?_⟩
  obtain ⟨k1, k2, k3, k4⟩ := hk
  have hkm : k ∣ m := Nat.dvd_of_mod_eq_zero k3
  refine hmin k ⟨k1, by omega, Nat.mod_eq_zero_of_dvd (Nat.dvd_trans hkm (Nat.dvd_of_mod_eq_zero h3)), per_of_mod fun i hi => ?_⟩
  have hkl : i % k < k := Nat.mod_lt _ (by omega)
  have e1 := per_mod h4 h1 i hi
  have e2 := per_mod k4 k1 (i % m) (Nat.mod_lt _ (by omega))
  rw [mod_mod_dvd _ hkm] at e2
  rw [e1, e2]

/-- The root of a power. -/
theorem isRoot_power {f g : Nat → UInt8} {L K m : Nat} (h : IsRoot f L m) (hK : 1 ≤ K) (hL : 1 ≤ L) (hg : ∀ i, i < K * L → g i = f (i % L)) : IsRoot g (K * L) m := by
  obtain ⟨⟨h1, h2, h3, h4⟩, hmin⟩ := h
  have hmL : m ∣ L := Nat.dvd_of_mod_eq_zero h3
  have hLK : L ≤ K * L := Nat.le_mul_of_pos_left L hK
  have hgood : Good g (K * L) m := by
    refine ⟨h1, by omega, Nat.mod_eq_zero_of_dvd (Nat.dvd_trans hmL (Nat.dvd_mul_left L K)), per_of_mod fun i hi => ?_⟩
    have hl1 : i % m < m := Nat.mod_lt _ (by omega)
    rw [hg i hi, hg (i % m) (by omega), per_mod h4 h1 (i % L) (Nat.mod_lt _ (by omega)), mod_mod_dvd _ hmL, Nat.mod_eq_of_lt (show i % m < L by omega)]
  refine ⟨hgood, fun k hk => ?_⟩
  by_cases hkm : m ≤ k
  · exact hkm
  · obtain ⟨k1, k2, k3, k4⟩ := hk
    have hperL : Per g (K * L) L := per_of_mod fun i hi => by
      have : i % L < L := Nat.mod_lt _ (by omega)
      rw [hg i hi, hg (i % L) (by omega), Nat.mod_mod]
    rcases Nat.lt_or_ge K 2 with hK2 | hK2
    · obtain rfl : K = 1 := by omega
      simp only [Nat.one_mul] at *
      refine hmin k ⟨k1, k2, k3, fun i hi => ?_⟩
      have := k4 i hi
      rw [hg i (by omega), hg (i + k) hi, Nat.mod_eq_of_lt (show i < L by omega), Nat.mod_eq_of_lt hi] at this
      exact this
    · have h2L : 2 * L ≤ K * L := Nat.mul_le_mul_right _ hK2
      have hgc := per_gcd g (K * L) _ k L (Nat.le_refl _) k1 hL k4 hperL (by omega)
      have hg1 : 1 ≤ Nat.gcd k L := Nat.gcd_pos_of_pos_right _ (by omega)
      have hgL : Nat.gcd k L ≤ L := Nat.gcd_le_right _ (by omega)
      have hgk : Nat.gcd k L ≤ k := Nat.gcd_le_left _ (by omega)
      have := hmin (Nat.gcd k L) ⟨hg1, hgL, Nat.mod_eq_zero_of_dvd (Nat.gcd_dvd_right _ _), fun i hi => by
        have := hgc i (by omega)
        rw [hg i (by omega), hg (i + Nat.gcd k L) (by omega), Nat.mod_eq_of_lt (show i < L by omega), Nat.mod_eq_of_lt hi] at this
        exact this⟩
      omega

/-- The root of a rotation. -/
theorem good_rotate {f g : Nat → UInt8} {n m a : Nat} (h : Good f n m) (hg : ∀ i, i < n → g i = f ((i + a) % n)) : Good g n m := by
  obtain ⟨h1, h2, h3, h4⟩ := h
  have hmn : m ∣ n := Nat.dvd_of_mod_eq_zero h3
  refine ⟨h1, h2, h3, per_of_mod fun i hi => ?_⟩
  have hl1 : i % m < m := Nat.mod_lt _ (by omega)
  rw [hg i hi, hg (i % m) (by omega), per_mod h4 h1 _ (Nat.mod_lt _ (by omega)), per_mod h4 h1 ((i % m + a) % n) (Nat.mod_lt _ (by omega)),
    mod_mod_dvd _ hmn, mod_mod_dvd _ hmn, Nat.mod_add_mod]

end Go.Proofs.Ytndgafhdeddbjaa

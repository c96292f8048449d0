/- Proved here: a part of the proof of the law at hand, in one text: no condition. -/
import Derived.Test.YtodliknibbafeaaMHC2
import Derived.Test.YtodliknibbafeaaProg
import Derived.KernelRfl
import Derived.WalkKit
import Derived.Below
set_option linter.unusedVariables false
set_option linter.unusedSimpArgs false
section
namespace Go.Proofs.Ytodliknibbafeaa
structure Run {ρ : Type} (x : Option ρ) (K : ρ → Prop) : Prop where
  out : ∃ v, x = some v ∧ K v
structure RK {σ ρ : Type} (o : σ ⊕ ρ) (K : ρ → Prop) (o' : σ ⊕ ρ) : Prop where
  eq : o' = o
  k : ∀ r, o' = .inr r → K r
class Head {σ ρ : Type} (b : σ → Option (σ ⊕ ρ)) where
  H : σ → Fr
class Ok {ρ : Type} (x : Option ρ) (S : outParam (ρ → Prop)) : Prop where
  ok : ∀ r, x = some r → S r
section
variable {G : Prop} {ρ : Type} {K : ρ → Prop}
theorem zxS {b n : Nat} {x : Option ρ} (k : n * b ≤ 140737488355328 → n ≤ 4611686018427387904 → Run x K → G) (h : Run (chk (z0T b n) x) K) : G := by
  obtain ⟨v, e, hk⟩ := h
  obtain ⟨⟨a, c⟩, e⟩ := z2Q e
  exact k a c ⟨v, e, hk⟩
theorem zxR {n : Nat} {x : Option ρ} (k : n ≤ 140737488355328 → n ≤ 4611686018427387904 → Run x K → G) (h : Run (chk (z0T 1 n) x) K) : G := zxS (fun a b => k (by omega) b) h
theorem zBq {b l : Int} {x : Option ρ} (k : 0 ≤ l → l ≤ 140737488355328 → b * l ≤ 140737488355328 → max l 0 = l → Run x K → G) (h : Run (chk (z1V b l) x) K) : G := by
  obtain ⟨v, e, hk⟩ := h
  obtain ⟨⟨a, c, d⟩, e⟩ := z2Q e
  exact k a c d (by omega) ⟨v, e, hk⟩
theorem zyV {l : Int} {x : Option ρ} (k : 0 ≤ l → l ≤ 140737488355328 → max l 0 = l → Run x K → G) (h : Run (chk (z1V 1 l) x) K) : G := zBq (fun a b _ d => k a b d) h
theorem zyT {i : Int} {n : Nat} {x : Option ρ} (k : 0 ≤ i → i < (n : Int) → i.toNat < n → i.toNat + 1 ≤ n → Run x K → G) (h : Run (chk (0 ≤ i ∧ i < (n : Int)) x) K) : G := by
  obtain ⟨v, e, hk⟩ := h
  obtain ⟨⟨a, c⟩, e⟩ := z2Q e
  exact k a c (by omega) (by omega) ⟨v, e, hk⟩
theorem zxO {i n : Int} {x : Option ρ} (k : 0 ≤ i → i < n → i.toNat < n.toNat → i.toNat + 1 ≤ n.toNat → Run x K → G) (h : Run (chk (0 ≤ i ∧ i < n) x) K) : G := by
  obtain ⟨v, e, hk⟩ := h
  obtain ⟨⟨a, c⟩, e⟩ := z2Q e
  exact k a c (by omega) (by omega) ⟨v, e, hk⟩
theorem zz1 {p : Prop} [Decidable p] {x : Option ρ} (k : p → Run x K → G) (h : Run (chk p x) K) : G := by
  obtain ⟨v, e, hk⟩ := h
  obtain ⟨a, e⟩ := z2Q e
  exact k a ⟨v, e, hk⟩
theorem zyU {α : Type} {xs : List α} {i : Nat} {f : α → Option ρ} (k : ∀ v, i < xs.length → i + 1 ≤ xs.length → xs[i]? = some v → (∀ hh : i < xs.length, xs[i]'hh = v) → Run (f v) K → G) (h : Run ((atI xs (i : Int)).bind f) K) : G := by
  obtain ⟨r, e, hk⟩ := h
  obtain ⟨v, ⟨a, b, c, d⟩, e⟩ := zx8 e
  exact k v a b c d ⟨r, e, hk⟩
theorem zC0 {α : Type} {xs : List α} {i : Int} {f : α → Option ρ} (k : ∀ v, 0 ≤ i → i < xs.length → i.toNat + 1 ≤ xs.length → xs[i.toNat]? = some v → (∀ hh : i.toNat < xs.length, xs[i.toNat]'hh = v) → Run (f v) K → G) (h : Run ((atI xs i).bind f) K) : G := by
  obtain ⟨r, e, hk⟩ := h
  obtain ⟨v, ⟨a, b, c, d, d2⟩, e⟩ := z0U e
  exact k v a b c d d2 ⟨r, e, hk⟩
theorem zxU {s : ByteArray} {i : Int} {f : Int → Option ρ} (k : ∀ v, 0 ≤ i → i < s.size → (∃ b, s[i.toNat]? = some b ∧ v = (b.toNat : Int)) → (∀ hh : i.toNat < s.size, ((s[i.toNat]'hh).toNat : Int) = v) → Run (f v) K → G) (h : Run ((ziP s i).bind f) K) : G := by
  obtain ⟨r, e, hk⟩ := h
  obtain ⟨v, e1, e2⟩ := z0i e
  obtain ⟨a, b, c, d1, d2, d3⟩ := zrE e1
  exact k v a b ⟨c, d1, d2⟩ d3 ⟨r, e2, hk⟩
theorem zwr {α : Type} {xs : List α} {i : Int} {v : α} {f : α → Option ρ} (hv : xs[i.toNat]? = some v) (hi : 0 ≤ i) (k : Run (f v) K → G) (h : Run ((atI xs i).bind f) K) : G := by
  obtain ⟨r, e, hk⟩ := h
  unfold atI at e
  rw [if_pos hi, hv] at e
  exact k ⟨r, e, hk⟩
theorem zxQ {α : Type} {xs : List α} {i : Nat} {v : α} {f : α → Option ρ} (hv : xs[i]? = some v) (k : Run (f v) K → G) (h : Run ((atI xs (i : Int)).bind f) K) : G := zwr (i := (i : Int)) hv (Int.natCast_nonneg i) k h
theorem zC1 {α : Type} {xs : List α} {v : α} {f : α → Option ρ} (hv : xs[0]? = some v) (k : Run (f v) K → G) (h : Run ((atI xs 0).bind f) K) : G := zwr (i := 0) hv (Int.le_refl 0) k h
theorem zwp {α : Type} {e : Option α} {v : α} {f : α → Option ρ} (hv : e = some v) (k : Run (f v) K → G) (h : Run (e.bind f) K) : G := by subst hv; exact k h
theorem zxT {α : Type} {e : Option α} {S : α → Prop} [Ok e S] {f : α → Option ρ} (k : ∀ v, e = some v → S v → Run (f v) K → G) (h : Run (e.bind f) K) : G := by
  obtain ⟨r, e1, hk⟩ := h
  obtain ⟨v, e2, e3⟩ := z0i e1
  exact k v e2 (Ok.ok v e2) ⟨r, e3, hk⟩
theorem zBZ {p : Prop} [Decidable p] {x y : Option ρ} (k : (p = True) → Run x K → G) (k2 : (p = False) → Run y K → G) (h : Run (if p then x else y) K) : G := by
  by_cases c : p
  · rw [if_pos c] at h; exact k (eq_true c) h
  · rw [if_neg c] at h; exact k2 (eq_false c) h
theorem p_0 {α : Type} {xs : List α} {f : α → Option ρ} (k : ∀ v, 0 < xs.length → xs ≠ [] → xs[0]? = some v → (∀ hh : 0 < xs.length, xs[0]'hh = v) → Run (f v) K → G) (h : Run ((atI xs 0).bind f) K) : G := by
  obtain ⟨r, e, hk⟩ := h
  obtain ⟨v, ⟨b, c, d, d2⟩, e⟩ := zx8 (i := 0) e
  exact k v b (List.length_pos_iff.1 b) d d2 ⟨r, e, hk⟩
theorem zyW {α : Type} {xs : List α} {i : Nat} {f : α → Option ρ} (k : ∀ v, (OfNat.ofNat i : Nat) < xs.length → xs ≠ [] → xs[(OfNat.ofNat i : Nat)]? = some v → (∀ hh : (OfNat.ofNat i : Nat) < xs.length, xs[(OfNat.ofNat i : Nat)]'hh = v) → Run (f v) K → G) (h : Run ((atI xs (OfNat.ofNat i : Int)).bind f) K) : G := by
  obtain ⟨r, e, hk⟩ := h
  obtain ⟨v, ⟨b, c, d, d2⟩, e⟩ := zx8 (i := i) e
  exact k v b (List.length_pos_iff.1 (Nat.lt_of_le_of_lt (Nat.zero_le _) b)) d d2 ⟨r, e, hk⟩
class IsS (α : Type) : Prop
theorem zz3 {α : Type} [IsS α] {xs : List α} {i : Int} {f : α → Option ρ} (k : ∀ v, 0 ≤ i → i < xs.length → i.toNat + 1 ≤ xs.length → xs[i.toNat]? = some v → (∀ m, i.toNat * m + m ≤ xs.length * m) → (∀ (g : α → List T) (m : Nat), (∀ x, (g x).length = m) → ((xs.flatMap g).drop (i.toNat * m)).take m = g v) →
    (∀ (g : α → List T) (m j : Nat), (∀ x, (g x).length = m) → j < m → (xs.flatMap g)[i.toNat * m + j]? = (g v)[j]?) → (∀ (g : α → List T) (m : Nat), (∀ x, (g x).length = m) → 0 < m → (xs.flatMap g)[i.toNat * m]? = (g v)[0]?) → Run (f v) K → G) (h : Run ((atI xs i).bind f) K) : G := by
  obtain ⟨r, e, hk⟩ := h
  obtain ⟨v, ⟨a, b, c, d, d2⟩, e⟩ := z0U e
  refine k v a b c d (fun m => ?_) (fun g m hg => (zaW hg d).2.1) (fun g m j hg hj => (zaW hg d).2.2.1 j hj) (fun g m hg hj => (zaW hg d).2.2.1 0 hj) ⟨r, e, hk⟩
  calc i.toNat * m + m = (i.toNat + 1) * m := by rw [Nat.add_mul, Nat.one_mul]
    _ ≤ _ := Nat.mul_le_mul_right _ c
theorem zz2 {α : Type} {l : List α} {j : Nat} {a : α} {i : Int} {f : α → Option ρ} (k : ∀ v, 0 ≤ i → i < l.length → i.toNat + 1 ≤ l.length → (∀ (g : α → T) hh, ((l.map g).set j (g a))[i.toNat]'hh = g v) → (∀ (g : α → T), ((l.map g).set j (g a))[i.toNat]? = some (g v)) → Run (f v) K → G) (h : Run ((atI (l.set j a) i).bind f) K) : G := by
  obtain ⟨r, e, hk⟩ := h
  obtain ⟨v, ⟨x, b, c, d, d2⟩, e⟩ := z0U e
  rw [List.length_set] at b c
  have key : ∀ (g : α → T), ((l.map g).set j (g a))[i.toNat]? = some (g v) := fun g => by rw [← List.map_set, List.getElem?_map, d]; rfl
  exact k v x b c (fun g hh => (List.getElem?_eq_some_iff.1 (key g)).2) key ⟨r, e, hk⟩
theorem zuT {α : Type} {xs : List α} {l u : Int} {f : List α → Option ρ} (k : ∀ v : List α, 0 ≤ l → l ≤ u → u ≤ xs.length → 0 ≤ u → l ≤ (u.toNat : Int) → l ≤ max u 0 → (∀ g : α → T, ((xs.map g).drop l.toNat).take (u.toNat - l.toNat) = v.map g) → (∀ g : α → T, T.sl (u.toNat - l.toNat) (v.map g) = T.sl v.length (v.map g)) → Run (f v) K → G) (h : Run ((z4H xs l u).bind f) K) : G := by
  obtain ⟨r, e, hk⟩ := h
  obtain ⟨v, e1, e2⟩ := z0i e
  obtain ⟨a, b, c, -⟩ := z2F e1
  obtain ⟨d, g⟩ := zaF a b
  exact k v a b c d g (by omega) (fun g => zcF e1) (fun g => zcE e1 g) ⟨r, e2, hk⟩
theorem zuU {α : Type} [IsS α] {xs : List α} {l u : Int} {f : List α → Option ρ} (k : ∀ v : List α, 0 ≤ l → l ≤ u → u ≤ xs.length → 0 ≤ u → l ≤ (u.toNat : Int) → l ≤ max u 0 → (∀ (g : α → List T) (m : Nat), (∀ x, (g x).length = m) → ((xs.flatMap g).drop (l.toNat * m)).take ((u.toNat - l.toNat) * m) = v.flatMap g) → (∀ g : α → List T, T.sl (u.toNat - l.toNat) (v.flatMap g) = T.sl v.length (v.flatMap g)) → Run (f v) K → G) (h : Run ((z4H xs l u).bind f) K) : G := by
  obtain ⟨r, e, hk⟩ := h
  obtain ⟨v, e1, e2⟩ := z0i e
  obtain ⟨a, b, c, -⟩ := z2F e1
  obtain ⟨d, g⟩ := zaF a b
  exact k v a b c d g (by omega) (fun g m hg => zmK hg e1) (fun g => zr0 e1 g) ⟨r, e2, hk⟩
theorem zuS {s : ByteArray} {l u : Int} {f : ByteArray → Option ρ} (k : ∀ v, 0 ≤ l → l ≤ u → u ≤ s.size → 0 ≤ u → l ≤ (u.toNat : Int) → l ≤ max u 0 → s.extract l.toNat u.toNat = v → Run (f v) K → G) (h : Run ((zo4 s l u).bind f) K) : G := by
  obtain ⟨r, e, hk⟩ := h
  obtain ⟨v, e1, e2⟩ := z0i e
  obtain ⟨a, b, c, d⟩ := zmI e1
  obtain ⟨d1, g⟩ := zaF a b
  exact k v a b c d1 g (by omega) d.symm ⟨r, e2, hk⟩
theorem zwq {α β : Type} {e : Option (α ⊕ β)} {S : α ⊕ β → Prop} [Ok e S] {f : α ⊕ β → Option ρ} (k : ∀ v, S (.inl v) → Run (f (.inl v)) K → G) (k2 : ∀ v, S (.inr v) → Run (f (.inr v)) K → G) (h : Run (e.bind f) K) : G := by
  obtain ⟨r, e1, hk⟩ := h
  obtain ⟨v, e2, e3⟩ := z0i e1
  cases v with
  | inl v => exact k v (Ok.ok _ e2) ⟨r, e3, hk⟩
  | inr v => exact k2 v (Ok.ok _ e2) ⟨r, e3, hk⟩
theorem zyY {α : Type} {m : Option α} {x y : Option ρ} (k : m.isSome = true → Run x K → G) (k2 : m = none → Run y K → G) (h : Run (if m.isSome = true then x else y) K) : G := by
  cases m with
  | some v => exact k rfl (by simpa using h)
  | none => exact k2 rfl (by simpa using h)
theorem zyZ {b : Bool} {x y : Option ρ} (k : b = true → Run x K → G) (k2 : b = false → Run y K → G) (h : Run (if b = true then x else y) K) : G := by
  cases b with
  | true => exact k rfl (by simpa using h)
  | false => exact k2 rfl (by simpa using h)
theorem zz0 {α : Type} {xs : List α} {x y : Option ρ} (k : ((xs.length : Int) = 0) = True → xs = [] → Run x K → G) (k2 : ((xs.length : Int) = 0) = False → xs ≠ [] → Run y K → G) (h : Run (if (xs.length : Int) = 0 then x else y) K) : G := by
  by_cases c : (xs.length : Int) = 0
  · rw [if_pos c] at h; exact k (eq_true c) (List.eq_nil_of_length_eq_zero (by omega)) h
  · rw [if_neg c] at h; exact k2 (eq_false c) (fun e => c (by rw [e]; rfl)) h
theorem zyX {α : Type} {xs : List α} {x y : Option ρ} (k : ((0 : Int) < (xs.length : Int)) = True → xs ≠ [] → 0 < xs.length → Run x K → G) (k2 : ((0 : Int) < (xs.length : Int)) = False → xs = [] → Run y K → G) (h : Run (if (0 : Int) < (xs.length : Int) then x else y) K) : G := by
  by_cases c : (0 : Int) < (xs.length : Int)
  · rw [if_pos c] at h; exact k (eq_true c) (fun e => by subst e; simp at c) (by omega) h
  · rw [if_neg c] at h; exact k2 (eq_false c) (List.eq_nil_of_length_eq_zero (by omega)) h
theorem zxN {v : ρ} (k : K v → G) (h : Run (some v) K) : G := by
  obtain ⟨r, e, hk⟩ := h
  cases e; exact k hk
theorem zxP (h : Run none K) : G := by
  obtain ⟨r, e, hk⟩ := h
  cases e
theorem z6H {x : Option ρ} {r : ρ} (h : x = some r) : Run x (· = r) := ⟨r, h, rfl⟩
theorem zqY {α β : Type} {P : α × β → Prop} (h : ∀ a, ∀ b, P (a, b)) : ∀ s : α × β, P s := fun s => h s.1 s.2
end
section
variable {P : Program} {C : z0o} {cf : Cfg} {LF : Nat} {c : Code} {fr : Fr} {Q : X → Fr → Prop} {σ ρ : Type} {K : ρ → Prop} {o : σ ⊕ ρ} {H : σ → Fr} {cn : Fr → Fr}
theorem zBY {s : σ} (h : Run (z0q s : Option (σ ⊕ ρ)) (RK o K)) (e : cn fr = H s) : zax H cn o Q .n fr := by
  obtain ⟨r, e1, e2⟩ := h
  have := z0h e1
  exact z0n (e2.eq.symm.trans this) e
theorem zBW {i : Nat} {x : Option ρ} (k : Run x K → Q (.x i) fr) (h : Run (z0v x : Option (σ ⊕ ρ)) (RK o K)) : zax H cn o Q (.x i) fr := by
  obtain ⟨r, e1, e2⟩ := h
  obtain ⟨v, e3, rfl⟩ := z0w e1
  exact z0C (e2.eq.symm) (k ⟨v, e3, e2.k _ rfl⟩)
theorem zBX {x : Option ρ} (k : Run x K → Q .r fr) (h : Run (z0v x : Option (σ ⊕ ρ)) (RK o K)) : zax H cn o Q .r fr := by
  obtain ⟨r, e1, e2⟩ := h
  obtain ⟨v, e3, rfl⟩ := z0w e1
  exact zda (e2.eq.symm) (k ⟨v, e3, e2.k _ rfl⟩)
end
def zxF {α : Type} (k : Nat) (v : α) : List (Nat × α) → List (Nat × α)
  | [] => []
  | (j, u) :: r => if j = k then (j, v) :: r else (j, u) :: zxF k v r
def zxh {α : Type} : List (Nat × α) → List (Nat × α) → List (Nat × α)
  | [], l => l
  | (k, v) :: r, l => zxh r (zxF k v l)
def zw1 (x : List (Nat × E) × List (Nat × T)) (fr : Fr) : Fr := { fr with tm := zxh x.1 fr.tm, ob := zxh x.2 fr.ob }
class Hd {σ ρ : Type} (b : σ → Option (σ ⊕ ρ)) where
  H : σ → List (Nat × E) × List (Nat × T)
section
variable {P : Program} {C : z0o} {cf : Cfg} {LF : Nat} {c : Code} {fr fr0 : Fr} {Q : X → Fr → Prop} {σ ρ : Type} {K : ρ → Prop}
theorem zwj {lv : List Nat} {body : σ → Option (σ ⊕ ρ)} [hd : Hd body] {s0 : σ} (hk : zd5 c = 5) (hv : cf.live (z8X (lpC c)) = some lv) (h : Run (z0y body LF s0) K)
    (hf : z8Z (some lv) fr = fr0) (h0 : fr0 = zw1 (Hd.H body s0) fr0) (round : ∀ s, ∀ o, Run (body s) (RK o K) → wpC P C cf LF (lpC c) (zw1 (Hd.H body s) fr0) (zax (fun s => zw1 (Hd.H body s) fr0) (z8Z (some lv)) o Q)) : wpC P C cf LF c fr Q := by
  obtain ⟨r, e, hk2⟩ := h
  exact z0R e (fun s => zw1 (Hd.H body s) fr0) hk hv (hf.trans h0) fun s o h1 h2 => round s o ⟨o, h1, rfl, fun r' e' => by rw [h2 r' e']; exact hk2⟩
end
@[simp] theorem zuz {α : Type} (c : Nat) : ∀ l : List α, (l.map fun _ => c).sum = l.length * c
  | [] => by simp
  | x :: l => by simp only [List.map_cons, List.sum_cons, zuz c l, List.length_cons, Nat.add_mul]; omega
abbrev xI (x : Int) : E := .one (.t none (.sc (.int .i64 x)))
abbrev xB (x : Bool) : E := .one (.t none (.sc (.bool x)))
abbrev xS (x : ByteArray) : E := .one (.t none (.sc (.string x)))
theorem zBU {a b : Fr} (h : z5r a b) : z5r a b := h
section
variable {P : Program} {C : z0o} {cf : Cfg} {LF : Nat} {c : Code} {fr : Fr}
theorem zBk {Q : X → Fr → Prop} {id i : Nat} (h : z5V id Q (.x i) fr) : z5V id Q (.x i) fr := h
theorem zyM {Q : X → Fr → Prop} (h : wpC P C cf LF c fr Q) : wpC P C cf LF c fr Q := h
theorem zzk {wio : FuncId → Nat → Bool} {M : List Nat} {ops : Array Oper} {l : List (Nat × Nat)} {Q : Fr → Prop} (h : z6B P C wio M ops l fr Q) : z6B P C wio M ops l fr Q := h
theorem zyP {l : List Oper} {Q : Fr → Prop} (h : ∃ fr2, z3N P l fr = some fr2 ∧ Q fr2) : ∃ fr2, z3N P l fr = some fr2 ∧ Q fr2 := h
theorem tpN {i : Nat} {t : SchT} {Q : Fr → Prop} (e : t = .nil) (h : Q fr) : z3Z P C cf c i t fr Q := by subst e; exact z6p h
theorem tpA {i : Nat} {t a b : SchT} {Q : Fr → Prop} (e : t = .alt a b) (h : z3Z P C cf c i a fr (fun x => z3Z P C cf c i b fr (fun y => z5r x y) ∧ Q x)) : z3Z P C cf c i t fr Q := by subst e; exact z5k h
theorem tpO {i k m : Nat} {t rest : SchT} {o : Oper} {fr1 : Fr} {Q : Fr → Prop} (e : t = .op k m rest) (ho : zkV c k = some o) (hg : o.guard = none) (hs : z0b P C cf.wio (cf.wr i).isEmpty (cf.wr i).contains fr o m = some fr1) (h : z3Z P C cf c i rest fr1 Q) : z3Z P C cf c i t fr Q := by subst e; exact z0E ho hg hs h
theorem tpT {i k m : Nat} {t rest : SchT} {o : Oper} {g : Option (Option Nat × Bool)} {fr1 : Fr} {Q : Fr → Prop} (e : t = .op k m rest) (ho : zkV c k = some o) (hg : zwQ c o = some g) (hv : zvN g fr = some true) (hs : z0b P C cf.wio (cf.wr i).isEmpty (cf.wr i).contains fr o m = some fr1) (h : z3Z P C cf c i rest fr1 Q) : z3Z P C cf c i t fr Q := by subst e; exact zyN ho hg hv hs h
theorem tpF {i k m : Nat} {t rest : SchT} {o : Oper} {g : Option (Option Nat × Bool)} {fr1 : Fr} {Q : Fr → Prop} (e : t = .op k m rest) (ho : zkV c k = some o) (hg : zwQ c o = some g) (hv : zvN g fr = some false) (hs : nrmO? (putF fr o.dst (.one (.k undef))) = some fr1) (h : z3Z P C cf c i rest fr1 Q) : z3Z P C cf c i t fr Q := by subst e; exact zyO ho hg hv hs h
theorem zzm {i : Nat} {t : SchT} {Q : Fr → Prop} (h : z3Z P C cf c i t fr Q) : z3Z P C cf c i t fr Q := h
end
theorem zrR {G : Prop} (g : G := by
  repeat' (first
    | with_reducible refine z0a ?_
    | with_reducible refine z0H ?_
    | with_reducible refine z3O ?_
    | with_reducible refine z0m ?_
    | ((with_reducible refine zBk ?_); first | refine z0l rfl ?_ | refine zfH rfl ?_)
    | with_reducible refine z7f ?_
    | (revert h; with_reducible refine zBW fun h => ?_)
    | (revert h; with_reducible refine zBX fun h => ?_)
    | ((with_reducible refine zBY h ?_); simp [*, zw1, zxh, zxF, Hd.H]; done)
    | (revert h; first
      | with_reducible refine zxP
      | with_reducible refine zxR fun _ _ h => ?_
      | with_reducible refine zxS fun _ _ h => ?_
      | with_reducible refine zyV fun _ _ _ h => ?_
      | with_reducible refine zBq fun _ _ _ _ h => ?_
      | with_reducible refine zyT fun _ _ _ _ h => ?_
      | with_reducible refine zxO fun _ _ _ _ h => ?_
      | with_reducible refine zz1 fun _ h => ?_
      | with_reducible refine zwr (by assumption) (by assumption) fun h => ?_
      | with_reducible refine zxQ (by assumption) fun h => ?_
      | with_reducible refine zC1 (by assumption) fun h => ?_
      | with_reducible refine zwp (by assumption) fun h => ?_
      | with_reducible refine zz3 fun _ _ _ _ _ _ k k1 k2 h => ?_
      | with_reducible refine zz2 fun _ _ _ _ k k1 h => ?_
      | with_reducible refine p_0 fun _ _ _ _ _ h => ?_
      | with_reducible refine zyW fun _ _ _ _ _ h => ?_
      | with_reducible refine zyU fun _ _ _ _ _ h => ?_
      | with_reducible refine zC0 fun _ _ _ _ _ _ h => ?_
      | with_reducible refine zxU fun _ _ _ _ _ h => ?_
      | ((with_reducible refine zuU fun _ _ _ _ _ _ _ k k2 h => ?_); try simp at k; try simp only [Int.reduceToNat, Int.toNat_natCast, Nat.sub_zero] at k2)
      | ((with_reducible refine zuT fun _ _ _ _ _ _ _ k k2 h => ?_); try simp at k; try simp only [Int.reduceToNat, Int.toNat_natCast, Nat.sub_zero] at k2)
      | ((with_reducible refine zuS fun _ _ _ _ _ _ _ k h => ?_); try simp only [Int.reduceToNat, Int.toNat_natCast] at k)
      | ((with_reducible refine zwq (fun _ k h => ?_) fun _ k h => ?_) <;> (try simp at k))
      | ((with_reducible refine zxT fun _ _ k h => ?_); try simp at k))
    | ((with_reducible refine zyM ?_); first
      | refine zq rfl ?_
      | refine zb rfl ?_
      | refine zwi rfl ?_
      | refine z0G rfl ?_
      | refine zwk rfl ?_
      | refine z0Z rfl ?_
      | refine z3m rfl ?_
      | refine zr rfl rfl rfl (by simp [*]; with_reducible rfl) ?_
      | refine z0I rfl rfl rfl rfl ?_
      | refine zaC rfl rfl rfl rfl ?_
      | refine z1c rfl (by first | (simp [*]; done) | fail) ?_
      | refine z0V rfl (by first | (simp [*]; done) | fail) ?_
      | refine zwl rfl rfl (by simp [*]; rfl) ?_
      | (refine zwj rfl rfl h (by simp [*]; rfl) (by first | (simp [*, zw1, zxh, zxF, Hd.H]; done) | fail) ?_; clear h; (repeat' refine zqY fun _ => ?_); intro _ _ h; simp only [zw1, zxh, zxF, Hd.H, Nat.reduceEqDiff, if_true, if_false]))
    | ((with_reducible refine zzk ?_); first
      | (refine z0r rfl rfl fun Q' hQ => ?_; simp [*]; refine hQ.out _ ?_; clear hQ; clear Q')
      | (refine z0u rfl rfl fun Q1 Q2 h1 h2 => ?_; simp [*, z0J]; (first | refine h1.out ?_ | refine h2.out ?_); clear h1 h2; clear Q1 Q2; intro Q' hQ; simp [*]; refine hQ.out _ ?_; clear hQ; clear Q')
      | (refine z0k rfl fun Q' hQ => ?_; simp [*]; refine hQ.out _ ?_; clear hQ; clear Q'))
    | ((with_reducible refine zzm ?_); first
      | refine tpN rfl ?_
      | refine tpA rfl ?_
      | refine tpO rfl rfl rfl (by simp [*, z0b, z0c]; rfl) ?_
      | refine tpT rfl rfl rfl (by first | (simp [*]; done) | fail) (by simp [*, z0b, z0c]; rfl) ?_
      | refine tpF rfl rfl rfl (by first | (simp [*]; done) | fail) (by simp [*]; rfl) ?_)
    | ((with_reducible refine zyP ?_); refine zas rfl (by simp [*]; rfl) ?_)
    | ((with_reducible refine And.intro ?_ ?_); rotate_left)
    | ((with_reducible refine zBU ?_); simp [*, z5r]; done)
    | (revert h; first
      | with_reducible refine zyY (fun _ h => ?_) fun _ h => ?_
      | with_reducible refine zyZ (fun _ h => ?_) fun _ h => ?_
      | with_reducible refine zz0 (fun _ _ h => ?_) fun _ _ h => ?_
      | with_reducible refine zyX (fun _ _ _ h => ?_) fun _ _ h => ?_
      | with_reducible refine zBZ (fun _ h => ?_) fun _ h => ?_
      | ((with_reducible refine zxN fun h => ?_); cases h; simp [*]; done)))) : G := g
end Go.Proofs.Ytodliknibbafeaa
end
section
namespace Go.Proofs.Ytodliknibbafeaa
open Go
structure Tape where
  l : List Int
  at_ : Int
deriving Inhabited
structure DFA where
  letters : Int
  start : Int
  final : List Bool
  next : List (List Int)
deriving Inhabited
structure Imgs where
  sets : List Int
  class_ : List Int
  height : List Int
  tiles : List (List Int)
  words : List ByteArray
  back : List ByteArray
deriving Inhabited
structure Dgm where
  sets : List Int
  next : List (List Int)
  below : List (List Bool)
deriving Inhabited
structure Hol where
  set : Int
  tiles : List Int
  words : List ByteArray
  perms : List (List Int)
deriving Inhabited
instance : IsS Hol := ⟨⟩
end Go.Proofs.Ytodliknibbafeaa
end
section
namespace Go.Proofs.Ytodliknibbafeaa
attribute [simp] undef scB ext z1K z3t Function.comp_def zi5 zlG zd6 zmV nav sub upd z2R z5j z1F zii z1f zrz z5c zy7 z5Y z8Y zoK zry onA kill z2I zhQ zfS z3w z9M zcI zwT z3E zl7 zaE zv2 z9B zcN setT moveT zqZ zo3 plugL' zrv zr5 z5U zy1 zy0 zvG zyd zyc nrmO? plugL putR z7S explode cellsE z3f rdV scE zvn zvm zu7 zrn zrc zrg zre zrd zrm ztv zrb ziz zrl zrf zrh zri zrj zrk zqQ zqN zqO zqP zqR zoD zoE zoF zoG zsJ zsK zsL zsM zv7 ztH zuF zuG List.map_flatMap zo6 zkU zoP z9F zyb unS zz8 zz9 zoL opE zxn zn8 zr8 zr2 zun zC8 z8K zoo zur znY zdf zyz z9a ztu zvh zx3 z7I z7O z8Q z5X zd7 zup zuY zoZ zyI zfT zts z7N z7Q z8O z3n z4a z5d zsC zkF z5r zuc ziR zBr zxE zt7 zvM zfM ziS zwG zv1 zoQ zyG zrD zyp opn zfP z4P znT zx9 zug zyJ z2r zfZ z7k zfv clB ioF zyR zys zb1 z7J putF opF znl z4T zvN zmG z8T z8X onE ids zfV zfU z7h zrq z8Z z3N z5T z3M z3F z4L zxH zsX zkG z8S zcW zxX zr3 zkS zmW zt8 zyA zxW zlx zxV zfX zlA zC5 zC7 zC4 zC6 zzl z7R z0c wrF zaG noM zyK zyC zyg zxm zol zxI ziv zir zl8 zfg zwL zdd zyH zu1 zaJ z9E zmQ zn5 zi4 zwW zwV Option.map_some ziL ztO
end Go.Proofs.Ytodliknibbafeaa
end
section
namespace Go.Proofs.Ytodliknibbafeaa
open Go
def zmX : List T → Option (List Int)
  | [] => some []
  | .sc (.int .i64 x) :: l => (zmX l).map (x :: ·)
  | _ => none
theorem zlb : ∀ xs : List Int, zmX (xs.map fun x => .sc (.int .i64 x)) = some xs
  | [] => rfl
  | x :: xs => by simp [zmX, zlb xs]
theorem zlc : ∀ {cs : List T} {xs : List Int}, zmX cs = some xs → cs = xs.map fun x => .sc (.int .i64 x)
  | [], xs, h => by simp [zmX] at h; subst h; rfl
  | c :: cs, xs, h => by
    unfold zmX at h
    split at h
    · rename_i he; cases he
    · rename_i x l he
      cases he
      simp only [Option.map_eq_some_iff] at h
      obtain ⟨ys, hy, rfl⟩ := h
      simp [← zlc hy]
    · cases h
def szN (s : Nat) : Nat := (List.range 7).countP fun q => s.testBit q
def zub (p r : Nat) : Bool := decide (szN r < szN p) || (decide (szN p = szN r) && decide (p ≤ r))
def leI (a b : Int) : Bool := zub a.toNat b.toNat
def zwI (x : Int) : List Int → List Int
  | [] => [x]
  | y :: l => if leI x y = true then x :: y :: l else y :: zwI x l
def zd3 : List Int → List Int
  | [] => []
  | x :: l => zwI x (zd3 l)
def zuv (xs : List Int) : Option (List Int) := if xs ≠ [] ∧ xs.length < 4611686018427387904 ∧ xs.all (fun x => decide (0 ≤ x ∧ x < 128)) = true then some (zd3 xs) else none
def zvV (fn : FuncId) (args : List T) : Option (T × List T) := match args with
  | [.os 1 n cs, .sc (.func (.func f) fs gs)] => if f = fn ∧ fs.isEmpty ∧ gs.isEmpty then (match zmX cs with | some xs => if xs.length = n then (zuv xs).map fun ys => (.tup [], [.os 1 ys.length (ys.map fun x => .sc (.int .i64 x)), .dead]) else none | none => none) else none
  | _ => none
def xtC : z0o := fun f args => if f = 68 then zvV 69 args else none
end Go.Proofs.Ytodliknibbafeaa
end
section
namespace Go.Proofs.Ytodliknibbafeaa
open Go
set_option maxRecDepth 100000
@[simp] theorem ty3 : z1M Try.prog 3 = some ⟨.int .i64, 1, 8, (some [(.sc (.int .i64 0))])⟩ := by kernel_rfl
@[simp] theorem ty4 : z1M Try.prog 4 = some ⟨.bool, 1, 1, (some [(.sc (.bool false))])⟩ := by kernel_rfl
@[simp] theorem ty5 : z1M Try.prog 5 = some ⟨.int .u8, 1, 1, (some [(.sc (.int .u8 0))])⟩ := by kernel_rfl
@[simp] theorem ty9 : z1M Try.prog 9 = some ⟨.string, 1, 16, (some [(.sc (.string ByteArray.empty))])⟩ := by kernel_rfl
@[simp] theorem ty22 : z1M Try.prog 22 = some ⟨.slice 3, 1, 24, (some [(.os 1 0 [])])⟩ := by kernel_rfl
@[simp] theorem ty23 : z1M Try.prog 23 = some ⟨.pointer 48, 1, 8, (some [(.sc (.pointer none))])⟩ := by kernel_rfl
@[simp] theorem ty25 : z1M Try.prog 25 = some ⟨.slice 4, 1, 24, (some [(.os 1 0 [])])⟩ := by kernel_rfl
@[simp] theorem ty26 : z1M Try.prog 26 = some ⟨.slice 22, 1, 24, (some [(.os 1 0 [])])⟩ := by kernel_rfl
noncomputable def zCd : Array Field := match Try.prog.underlying 28 with | some (.struct fs) => fs | _ => #[]
@[simp] theorem ty28 : z1M Try.prog 28 = some ⟨.struct zCd, 4, 64, (some [(.sc (.int .i64 0)), (.sc (.int .i64 0)), (.os 1 0 []), (.os 1 0 [])])⟩ := by kernel_rfl
@[simp] theorem fi28_0 : z1J Try.prog 28 0 = some (0, 1, false) := by kernel_rfl
@[simp] theorem fi28_1 : z1J Try.prog 28 1 = some (1, 1, false) := by kernel_rfl
@[simp] theorem fi28_2 : z1J Try.prog 28 2 = some (2, 1, false) := by kernel_rfl
@[simp] theorem fi28_3 : z1J Try.prog 28 3 = some (3, 1, false) := by kernel_rfl
@[simp] theorem zBT : z9v Try.prog 28 = (some [(.sc (.int .i64 0)), (.sc (.int .i64 0)), (.os 1 0 []), (.os 1 0 [])]) := by kernel_rfl
@[simp] theorem bs28 (fr : Fr) (parts : List (Nat × Operand)) : z9b Try.prog fr 28 parts = match z7Q fr (z1J Try.prog 28) ([(.sc (.int .i64 0)), (.sc (.int .i64 0)), (.os 1 0 []), (.os 1 0 [])].map (A.t none)) parts with | some xs => some (E.ag xs) | none => none := z3G zBT fr parts
@[simp] theorem ty31 : z1M Try.prog 31 = some ⟨.slice 40, 1, 24, (some [(.os 4 0 [])])⟩ := by kernel_rfl
@[simp] theorem ty32 : z1M Try.prog 32 = some ⟨.int .i64, 1, 8, (some [(.sc (.int .i64 0))])⟩ := by kernel_rfl
@[simp] theorem ty38 : z1M Try.prog 38 = some ⟨.slice 9, 1, 24, (some [(.os 1 0 [])])⟩ := by kernel_rfl
noncomputable def zCc : Array Field := match Try.prog.underlying 40 with | some (.struct fs) => fs | _ => #[]
@[simp] theorem ty40 : z1M Try.prog 40 = some ⟨.struct zCc, 4, 80, (some [(.sc (.int .i64 0)), (.os 1 0 []), (.os 1 0 []), (.os 1 0 [])])⟩ := by kernel_rfl
@[simp] theorem fi40_0 : z1J Try.prog 40 0 = some (0, 1, false) := by kernel_rfl
@[simp] theorem fi40_1 : z1J Try.prog 40 1 = some (1, 1, false) := by kernel_rfl
@[simp] theorem fi40_2 : z1J Try.prog 40 2 = some (2, 1, false) := by kernel_rfl
@[simp] theorem fi40_3 : z1J Try.prog 40 3 = some (3, 1, false) := by kernel_rfl
@[simp] theorem zBS : z9v Try.prog 40 = (some [(.sc (.int .i64 0)), (.os 1 0 []), (.os 1 0 []), (.os 1 0 [])]) := by kernel_rfl
@[simp] theorem bs40 (fr : Fr) (parts : List (Nat × Operand)) : z9b Try.prog fr 40 parts = match z7Q fr (z1J Try.prog 40) ([(.sc (.int .i64 0)), (.os 1 0 []), (.os 1 0 []), (.os 1 0 [])].map (A.t none)) parts with | some xs => some (E.ag xs) | none => none := z3G zBS fr parts
noncomputable def zCb : Array Field := match Try.prog.underlying 48 with | some (.struct fs) => fs | _ => #[]
@[simp] theorem ty48 : z1M Try.prog 48 = some ⟨.struct zCb, 2, 32, (some [(.os 1 0 []), (.sc (.int .i64 0))])⟩ := by kernel_rfl
@[simp] theorem fi48_0 : z1J Try.prog 48 0 = some (0, 1, false) := by kernel_rfl
@[simp] theorem fi48_1 : z1J Try.prog 48 1 = some (1, 1, false) := by kernel_rfl
@[simp] theorem zBR : z9v Try.prog 48 = (some [(.os 1 0 []), (.sc (.int .i64 0))]) := by kernel_rfl
@[simp] theorem bs48 (fr : Fr) (parts : List (Nat × Operand)) : z9b Try.prog fr 48 parts = match z7Q fr (z1J Try.prog 48) ([(.os 1 0 []), (.sc (.int .i64 0))].map (A.t none)) parts with | some xs => some (E.ag xs) | none => none := z3G zBR fr parts
noncomputable def zCa : Array Field := match Try.prog.underlying 52 with | some (.struct fs) => fs | _ => #[]
@[simp] theorem ty52 : z1M Try.prog 52 = some ⟨.struct zCa, 6, 144, (some [(.os 1 0 []), (.os 1 0 []), (.os 1 0 []), (.os 1 0 []), (.os 1 0 []), (.os 1 0 [])])⟩ := by kernel_rfl
@[simp] theorem fi52_0 : z1J Try.prog 52 0 = some (0, 1, false) := by kernel_rfl
@[simp] theorem fi52_1 : z1J Try.prog 52 1 = some (1, 1, false) := by kernel_rfl
@[simp] theorem fi52_2 : z1J Try.prog 52 2 = some (2, 1, false) := by kernel_rfl
@[simp] theorem fi52_3 : z1J Try.prog 52 3 = some (3, 1, false) := by kernel_rfl
@[simp] theorem fi52_4 : z1J Try.prog 52 4 = some (4, 1, false) := by kernel_rfl
@[simp] theorem fi52_5 : z1J Try.prog 52 5 = some (5, 1, false) := by kernel_rfl
@[simp] theorem zBQ : z9v Try.prog 52 = (some [(.os 1 0 []), (.os 1 0 []), (.os 1 0 []), (.os 1 0 []), (.os 1 0 []), (.os 1 0 [])]) := by kernel_rfl
@[simp] theorem bs52 (fr : Fr) (parts : List (Nat × Operand)) : z9b Try.prog fr 52 parts = match z7Q fr (z1J Try.prog 52) ([(.os 1 0 []), (.os 1 0 []), (.os 1 0 []), (.os 1 0 []), (.os 1 0 []), (.os 1 0 [])].map (A.t none)) parts with | some xs => some (E.ag xs) | none => none := z3G zBQ fr parts
@[simp] theorem ty55 : z1M Try.prog 55 = some ⟨.map 3 3, 1, 8, (some [(.sc (.map none))])⟩ := by kernel_rfl
@[simp] theorem mt55 : ziq Try.prog 55 = some ((some .i64), 3) := by kernel_rfl
@[simp] theorem zv55 : zp5 Try.prog 3 = some (.int .i64 0) := by kernel_rfl
@[simp] theorem ty63 : z1M Try.prog 63 = some ⟨.slice 5, 1, 24, (some [(.os 1 0 [])])⟩ := by kernel_rfl
@[simp] theorem ty77 : z1M Try.prog 77 = some ⟨.slice 25, 1, 24, (some [(.os 1 0 [])])⟩ := by kernel_rfl
noncomputable def zC9 : Array Field := match Try.prog.underlying 79 with | some (.struct fs) => fs | _ => #[]
@[simp] theorem ty79 : z1M Try.prog 79 = some ⟨.struct zC9, 3, 72, (some [(.os 1 0 []), (.os 1 0 []), (.os 1 0 [])])⟩ := by kernel_rfl
@[simp] theorem fi79_0 : z1J Try.prog 79 0 = some (0, 1, false) := by kernel_rfl
@[simp] theorem fi79_1 : z1J Try.prog 79 1 = some (1, 1, false) := by kernel_rfl
@[simp] theorem fi79_2 : z1J Try.prog 79 2 = some (2, 1, false) := by kernel_rfl
@[simp] theorem zBP : z9v Try.prog 79 = (some [(.os 1 0 []), (.os 1 0 []), (.os 1 0 [])]) := by kernel_rfl
@[simp] theorem bs79 (fr : Fr) (parts : List (Nat × Operand)) : z9b Try.prog fr 79 parts = match z7Q fr (z1J Try.prog 79) ([(.os 1 0 []), (.os 1 0 []), (.os 1 0 [])].map (A.t none)) parts with | some xs => some (E.ag xs) | none => none := z3G zBP fr parts
@[simp] theorem ty88 : z1M Try.prog 88 = some ⟨.map 9 4, 1, 8, (some [(.sc (.map none))])⟩ := by kernel_rfl
@[simp] theorem mt88 : ziq Try.prog 88 = some (none, 4) := by kernel_rfl
@[simp] theorem zv88 : zp5 Try.prog 4 = some (.bool false) := by kernel_rfl
@[simp] theorem ty92 : z1M Try.prog 92 = some ⟨.int .u64, 1, 8, (some [(.sc (.int .u64 0))])⟩ := by kernel_rfl
@[simp] theorem ty97 : z1M Try.prog 97 = some ⟨.map 3 4, 1, 8, (some [(.sc (.map none))])⟩ := by kernel_rfl
@[simp] theorem mt97 : ziq Try.prog 97 = some ((some .i64), 4) := by kernel_rfl
@[simp] theorem zv97 : zp5 Try.prog 4 = some (.bool false) := by kernel_rfl
@[simp] theorem ty111 : z1M Try.prog 111 = some ⟨.int .u32, 1, 4, (some [(.sc (.int .u32 0))])⟩ := by kernel_rfl
@[simp] theorem ty113 : z1M Try.prog 113 = some ⟨.int .u64, 1, 8, (some [(.sc (.int .u64 0))])⟩ := by kernel_rfl
def zjb : SchT := .nil
def zjc : SchT := .op 16 2 zjb
def zjd : SchT := .op 15 0 zjc
def zje : SchT := .op 14 2 zjd
def zjf : SchT := .op 13 0 zje
def zjg : SchT := .op 12 2 zjf
def zdH : SchT := .op 10 1 zjg
def zdI : SchT := .op 7 2 zdH
def zjh : SchT := .op 11 0 zdH
def zji : SchT := .op 4 1 zdI
def za8 : SchT := .op 11 3 zdI
def zjj : SchT := .op 9 1 zjh
def z7x : SchT := .op 3 2 za8
def za9 : SchT := .op 11 3 zji
def zaa : SchT := .op 6 1 za8
def zab : SchT := .alt (.op 7 2 zjj) (.op 9 1 za8)
def zac : SchT := .op 0 1 z7x
def zad : SchT := .alt (.op 3 2 za9) (.op 4 1 z7x)
def zae : SchT := .alt (.op 3 2 zaa) (.op 6 1 z7x)
def zaf : SchT := .alt (.op 3 2 zab) (.op 9 1 z7x)
def zdJ : SchT := .alt (.op 4 1 zaa) (.op 6 1 za9)
def zdK : SchT := .alt (.op 4 1 zab) (.op 9 1 za9)
def zdL : SchT := .alt (.op 6 1 zab) (.op 9 1 zaa)
def zdM : SchT := .alt (.op 0 1 zad) (.op 4 1 zac)
def zdN : SchT := .alt (.op 0 1 zae) (.op 6 1 zac)
def zdO : SchT := .alt (.op 0 1 zaf) (.op 9 1 zac)
def zdP : SchT := .alt (.op 3 2 zdJ) (.alt (.op 4 1 zae) (.op 6 1 zad))
def zdQ : SchT := .alt (.op 3 2 zdK) (.alt (.op 4 1 zaf) (.op 9 1 zad))
def zdR : SchT := .alt (.op 3 2 zdL) (.alt (.op 6 1 zaf) (.op 9 1 zae))
def znz : SchT := .alt (.op 4 1 zdL) (.alt (.op 6 1 zdK) (.op 9 1 zdJ))
def znA : SchT := .alt (.op 0 1 zdP) (.alt (.op 4 1 zdN) (.op 6 1 zdM))
def znB : SchT := .alt (.op 0 1 zdQ) (.alt (.op 4 1 zdO) (.op 9 1 zdM))
def znC : SchT := .alt (.op 0 1 zdR) (.alt (.op 6 1 zdO) (.op 9 1 zdN))
def znD : SchT := .alt (.op 3 2 znz) (.alt (.op 4 1 zdR) (.alt (.op 6 1 zdQ) (.op 9 1 zdP)))
def znE : SchT := .alt (.op 0 1 znD) (.alt (.op 4 1 znC) (.alt (.op 6 1 znB) (.op 9 1 znA)))
def znF : SchT := .op 8 3 znE
def znG : SchT := .op 5 3 znF
def znH : SchT := .op 2 0 znG
def znI : SchT := .op 1 0 znH
def ziY : SchT := .nil
def ziZ : SchT := .op 19 2 ziY
def zj0 : SchT := .op 18 0 ziZ
def zj1 : SchT := .op 17 2 zj0
def zdn : SchT := .op 15 2 zj1
def zdo : SchT := .op 14 1 zdn
def zj2 : SchT := .op 16 3 zdn
def zj3 : SchT := .op 9 1 zj2
def zdp : SchT := .op 13 2 zdo
def zj4 : SchT := .op 16 3 zdo
def zj5 : SchT := .alt (.op 9 1 zj4) (.op 14 1 zj3)
def zj6 : SchT := .op 10 1 zdp
def z9O : SchT := .op 16 3 zdp
def z6g : SchT := .op 7 2 z9O
def z9P : SchT := .alt (.op 9 1 z9O) (.op 13 2 zj5)
def z9Q : SchT := .op 16 3 zj6
def z9R : SchT := .op 12 1 z9O
def z7o : SchT := .op 1 1 z6g
def z6h : SchT := .op 6 1 z6g
def z7p : SchT := .alt (.op 7 2 z9P) (.op 9 1 z6g)
def z7q : SchT := .alt (.op 7 2 z9Q) (.op 10 1 z6g)
def z7r : SchT := .alt (.op 7 2 z9R) (.op 12 1 z6g)
def zdq : SchT := .alt (.op 9 1 z9Q) (.op 10 1 z9P)
def zdr : SchT := .alt (.op 9 1 z9R) (.op 12 1 z9P)
def zds : SchT := .alt (.op 10 1 z9R) (.op 12 1 z9Q)
def z7s : SchT := .alt (.op 1 1 z6h) (.op 6 1 z7o)
def z9S : SchT := .alt (.op 1 1 z7p) (.op 9 1 z7o)
def z9T : SchT := .alt (.op 1 1 z7q) (.op 10 1 z7o)
def z9U : SchT := .alt (.op 1 1 z7r) (.op 12 1 z7o)
def z7t : SchT := .op 5 2 z6h
def z7u : SchT := .alt (.op 6 1 z7p) (.op 9 1 z6h)
def z7v : SchT := .alt (.op 6 1 z7q) (.op 10 1 z6h)
def z7w : SchT := .alt (.op 6 1 z7r) (.op 12 1 z6h)
def z9V : SchT := .alt (.op 7 2 zdq) (.alt (.op 9 1 z7q) (.op 10 1 z7p))
def z9W : SchT := .alt (.op 7 2 zdr) (.alt (.op 9 1 z7r) (.op 12 1 z7p))
def z9X : SchT := .alt (.op 7 2 zds) (.alt (.op 10 1 z7r) (.op 12 1 z7q))
def zj7 : SchT := .alt (.op 9 1 zds) (.alt (.op 10 1 zdr) (.op 12 1 zdq))
def z9Y : SchT := .alt (.op 1 1 z7t) (.op 5 2 z7s)
def z9Z : SchT := .alt (.op 1 1 z7u) (.alt (.op 6 1 z9S) (.op 9 1 z7s))
def za0 : SchT := .alt (.op 1 1 z7v) (.alt (.op 6 1 z9T) (.op 10 1 z7s))
def za1 : SchT := .alt (.op 1 1 z7w) (.alt (.op 6 1 z9U) (.op 12 1 z7s))
def zdt : SchT := .alt (.op 1 1 z9V) (.alt (.op 9 1 z9T) (.op 10 1 z9S))
def zdu : SchT := .alt (.op 1 1 z9W) (.alt (.op 9 1 z9U) (.op 12 1 z9S))
def zdv : SchT := .alt (.op 1 1 z9X) (.alt (.op 10 1 z9U) (.op 12 1 z9T))
def za2 : SchT := .alt (.op 5 2 z7u) (.op 9 1 z7t)
def za3 : SchT := .alt (.op 5 2 z7v) (.op 10 1 z7t)
def za4 : SchT := .alt (.op 5 2 z7w) (.op 12 1 z7t)
def za5 : SchT := .alt (.op 6 1 z9V) (.alt (.op 9 1 z7v) (.op 10 1 z7u))
def za6 : SchT := .alt (.op 6 1 z9W) (.alt (.op 9 1 z7w) (.op 12 1 z7u))
def za7 : SchT := .alt (.op 6 1 z9X) (.alt (.op 10 1 z7w) (.op 12 1 z7v))
def zdw : SchT := .alt (.op 7 2 zj7) (.alt (.op 9 1 z9X) (.alt (.op 10 1 z9W) (.op 12 1 z9V)))
def zdx : SchT := .alt (.op 1 1 za2) (.alt (.op 5 2 z9Z) (.op 9 1 z9Y))
def zdy : SchT := .alt (.op 1 1 za3) (.alt (.op 5 2 za0) (.op 10 1 z9Y))
def zdz : SchT := .alt (.op 1 1 za4) (.alt (.op 5 2 za1) (.op 12 1 z9Y))
def zdA : SchT := .alt (.op 1 1 za5) (.alt (.op 6 1 zdt) (.alt (.op 9 1 za0) (.op 10 1 z9Z)))
def zdB : SchT := .alt (.op 1 1 za6) (.alt (.op 6 1 zdu) (.alt (.op 9 1 za1) (.op 12 1 z9Z)))
def zdC : SchT := .alt (.op 1 1 za7) (.alt (.op 6 1 zdv) (.alt (.op 10 1 za1) (.op 12 1 za0)))
def zj8 : SchT := .alt (.op 1 1 zdw) (.alt (.op 9 1 zdv) (.alt (.op 10 1 zdu) (.op 12 1 zdt)))
def zdD : SchT := .alt (.op 5 2 za5) (.alt (.op 9 1 za3) (.op 10 1 za2))
def zdE : SchT := .alt (.op 5 2 za6) (.alt (.op 9 1 za4) (.op 12 1 za2))
def zdF : SchT := .alt (.op 5 2 za7) (.alt (.op 10 1 za4) (.op 12 1 za3))
def zdG : SchT := .alt (.op 6 1 zdw) (.alt (.op 9 1 za7) (.alt (.op 10 1 za6) (.op 12 1 za5)))
def zj9 : SchT := .alt (.op 1 1 zdD) (.alt (.op 5 2 zdA) (.alt (.op 9 1 zdy) (.op 10 1 zdx)))
def zja : SchT := .alt (.op 1 1 zdE) (.alt (.op 5 2 zdB) (.alt (.op 9 1 zdz) (.op 12 1 zdx)))
def znp : SchT := .alt (.op 1 1 zdF) (.alt (.op 5 2 zdC) (.alt (.op 10 1 zdz) (.op 12 1 zdy)))
def znq : SchT := .alt (.op 1 1 zdG) (.alt (.op 6 1 zj8) (.alt (.op 9 1 zdC) (.alt (.op 10 1 zdB) (.op 12 1 zdA))))
def znr : SchT := .alt (.op 5 2 zdG) (.alt (.op 9 1 zdF) (.alt (.op 10 1 zdE) (.op 12 1 zdD)))
def zns : SchT := .alt (.op 1 1 znr) (.alt (.op 5 2 znq) (.alt (.op 9 1 znp) (.alt (.op 10 1 zja) (.op 12 1 zj9))))
def znt : SchT := .op 11 3 zns
def znu : SchT := .op 8 3 znt
def znv : SchT := .op 4 0 znu
def znw : SchT := .op 3 0 znv
def znx : SchT := .op 2 0 znw
def zny : SchT := .op 0 3 znx
def cf5 : Cfg := { wio := fun f i => (f == 20 && (i == 0)) || (f == 7 && (i == 0)) || (f == 8 && (i == 0)) || (f == 18 && (i == 0)) || (f == 13 && (i == 0)) || (f == 999999 && (i == 0)), live := fun r => if r = 23 then some [10, 13, 113, 114] else none, dr := fun r => if r = 17 then some [(0, 0), (1, 0), (2, 0), (3, 0), (4, 1), (5, 0), (6, 0), (7, 2)] else if r = 19 then some [(0, 0), (1, 0), (2, 0), (3, 0), (4, 0), (5, 1), (6, 1), (7, 2), (8, 0), (9, 2)] else if r = 29 then some [(0, 0), (1, 0), (2, 0), (3, 0), (4, 0), (5, 0), (6, 0), (7, 0), (8, 0), (9, 0), (10, 1), (11, 0), (12, 2)] else if r = 33 then some [(0, 0), (1, 0), (3, 0), (4, 0), (2, 1), (5, 1), (6, 0), (7, 0), (8, 1), (9, 0), (10, 0)] else none, wr := fun r => if r = 19 then [17] else [], fz := fun r => if r = 3 then some [10] else none, dt := fun r => if r = 11 then some (znI) else if r = 21 then some (zny) else none }
@[simp] theorem wio5 : cf5.wio = fun f i => (f == 20 && (i == 0)) || (f == 7 && (i == 0)) || (f == 8 && (i == 0)) || (f == 18 && (i == 0)) || (f == 13 && (i == 0)) || (f == 999999 && (i == 0)) := rfl
@[simp] theorem live5 : cf5.live = fun r => if r = 23 then some [10, 13, 113, 114] else none := rfl
@[simp] theorem wr5 : cf5.wr = fun r => if r = 19 then [17] else [] := rfl
def cf6 : Cfg := { wio := fun f i => (f == 999999 && (i == 0)), live := fun r => none, dr := fun r => none }
@[simp] theorem wio6 : cf6.wio = fun f i => (f == 999999 && (i == 0)) := rfl
@[simp] theorem live6 : cf6.live = fun r => none := rfl
@[simp] theorem wr6 : cf6.wr = fun _ => [] := rfl
def cf7 : Cfg := { wio := fun f i => (f == 20 && (i == 0)) || (f == 23 && (i == 0)) || (f == 13 && (i == 0)) || (f == 21 && (i == 0)) || (f == 22 && (i == 0)) || (f == 999999 && (i == 0)), live := fun r => none, dr := fun r => none, fz := fun r => if r = 999998 then some [] else none }
@[simp] theorem wio7 : cf7.wio = fun f i => (f == 20 && (i == 0)) || (f == 23 && (i == 0)) || (f == 13 && (i == 0)) || (f == 21 && (i == 0)) || (f == 22 && (i == 0)) || (f == 999999 && (i == 0)) := rfl
@[simp] theorem live7 : cf7.live = fun r => none := rfl
@[simp] theorem wr7 : cf7.wr = fun _ => [] := rfl
def cf8 : Cfg := { wio := fun f i => (f == 20 && (i == 0)) || (f == 999999 && (i == 0)), live := fun r => none, dr := fun r => none }
@[simp] theorem wio8 : cf8.wio = fun f i => (f == 20 && (i == 0)) || (f == 999999 && (i == 0)) := rfl
@[simp] theorem live8 : cf8.live = fun r => none := rfl
@[simp] theorem wr8 : cf8.wr = fun _ => [] := rfl
def cf9 : Cfg := { wio := fun f i => (f == 999999 && (i == 0)), live := fun r => if r = 6 then some [1, 4, 6, 29, 30, 31] else if r = 13 then some [1, 4, 6, 10, 11, 48, 49, 50] else none, dr := fun r => none, fz := fun r => if r = 11 then some [6] else if r = 999998 then some [] else none, dt := fun r => if r = 15 then some (.op 0 0 (.op 1 0 (.op 2 0 (.op 3 0 (.op 4 0 (.op 5 0 (.op 6 0 (.alt (.op 7 1 (.op 8 0 (.op 9 0 (.op 10 3 (.op 11 1 (.op 12 2 (.op 13 0 .nil))))))) (.op 11 1 (.op 7 1 (.op 8 0 (.op 9 0 (.op 10 3 (.op 12 2 (.op 13 0 .nil))))))))))))))) else none }
@[simp] theorem wio9 : cf9.wio = fun f i => (f == 999999 && (i == 0)) := rfl
@[simp] theorem live9 : cf9.live = fun r => if r = 6 then some [1, 4, 6, 29, 30, 31] else if r = 13 then some [1, 4, 6, 10, 11, 48, 49, 50] else none := rfl
@[simp] theorem wr9 : cf9.wr = fun _ => [] := rfl
def zhE : SchT := .nil
def zhF : SchT := .op 13 2 zhE
def zhG : SchT := .op 12 0 zhF
def zhH : SchT := .op 11 2 zhG
def zcq : SchT := .op 9 2 zhH
def zhI : SchT := .op 8 1 zcq
def zcr : SchT := .op 10 3 zcq
def z8E : SchT := .op 4 2 zcr
def zcs : SchT := .op 6 1 zcr
def zct : SchT := .op 10 3 zhI
def zcu : SchT := .op 3 1 z8E
def zcv : SchT := .alt (.op 4 2 zcs) (.op 6 1 z8E)
def zcw : SchT := .alt (.op 4 2 zct) (.op 8 1 z8E)
def zkr : SchT := .alt (.op 6 1 zct) (.op 8 1 zcs)
def zks : SchT := .alt (.op 3 1 zcv) (.op 6 1 zcu)
def zkt : SchT := .alt (.op 3 1 zcw) (.op 8 1 zcu)
def zku : SchT := .alt (.op 4 2 zkr) (.alt (.op 6 1 zcw) (.op 8 1 zcv))
def zkv : SchT := .alt (.op 3 1 zku) (.alt (.op 6 1 zkt) (.op 8 1 zks))
def zkw : SchT := .op 7 3 zkv
def zkx : SchT := .op 5 3 zkw
def zky : SchT := .op 2 0 zkx
def zkz : SchT := .op 1 0 zky
def zkA : SchT := .op 0 0 zkz
def cf10 : Cfg := { wio := fun f i => (f == 999999 && (i == 0)), live := fun r => if r = 6 then some [1, 4, 6, 40, 41, 42] else if r = 12 then some [1, 4, 6, 9, 52, 53, 54] else if r = 17 then some [1, 4, 6, 9, 11, 13, 52, 53, 54, 71, 72, 73] else if r = 22 then some [1, 4, 6, 9, 11, 13, 52, 53, 54, 89, 90, 91] else if r = 25 then some [1, 4, 6, 9, 11, 13, 16, 17, 18, 52, 53, 54, 89, 90, 91] else if r = 35 then some [1, 4, 6, 9, 11, 13, 16, 17, 18, 20, 21, 23, 52, 53, 54, 89, 90, 91, 152, 153, 154] else if r = 40 then some [1, 4, 6, 9, 11, 13, 16, 17, 18, 20, 21, 23, 52, 53, 54, 89, 90, 91, 167, 168, 169] else if r = 44 then some [1, 4, 6, 9, 11, 13, 16, 17, 18, 20, 21, 23, 27, 28, 52, 53, 54, 89, 90, 91, 167, 168, 169, 174, 175] else none, dr := fun r => if r = 19 then some [(0, 0), (1, 0), (2, 0), (3, 0), (4, 0), (5, 0), (6, 0), (7, 1), (8, 2), (9, 0), (10, 2)] else if r = 29 then some [(0, 0), (1, 0), (2, 0), (3, 0), (4, 0), (5, 0), (6, 0), (7, 0), (11, 0), (12, 0), (13, 0), (14, 0), (15, 0), (8, 1), (9, 0), (10, 0), (16, 0), (17, 0)] else if r = 46 then some [(0, 0), (1, 0), (2, 0), (3, 0), (4, 0), (5, 0), (6, 0), (7, 0), (8, 0), (9, 0), (10, 0), (11, 0), (12, 0)] else none, fz := fun r => if r = 4 then some [4] else if r = 999998 then some [] else none, dt := fun r => if r = 51 then some (zkA) else none }
@[simp] theorem wio10 : cf10.wio = fun f i => (f == 999999 && (i == 0)) := rfl
@[simp] theorem live10 : cf10.live = fun r => if r = 6 then some [1, 4, 6, 40, 41, 42] else if r = 12 then some [1, 4, 6, 9, 52, 53, 54] else if r = 17 then some [1, 4, 6, 9, 11, 13, 52, 53, 54, 71, 72, 73] else if r = 22 then some [1, 4, 6, 9, 11, 13, 52, 53, 54, 89, 90, 91] else if r = 25 then some [1, 4, 6, 9, 11, 13, 16, 17, 18, 52, 53, 54, 89, 90, 91] else if r = 35 then some [1, 4, 6, 9, 11, 13, 16, 17, 18, 20, 21, 23, 52, 53, 54, 89, 90, 91, 152, 153, 154] else if r = 40 then some [1, 4, 6, 9, 11, 13, 16, 17, 18, 20, 21, 23, 52, 53, 54, 89, 90, 91, 167, 168, 169] else if r = 44 then some [1, 4, 6, 9, 11, 13, 16, 17, 18, 20, 21, 23, 27, 28, 52, 53, 54, 89, 90, 91, 167, 168, 169, 174, 175] else none := rfl
@[simp] theorem wr10 : cf10.wr = fun _ => [] := rfl
def cf11 : Cfg := { wio := fun f i => (f == 999999 && (i == 0)), live := fun r => if r = 4 then some [0, 1, 17, 18] else if r = 10 then some [0, 1, 6, 7, 17, 18, 62, 63] else if r = 16 then some [0, 1, 6, 7, 17, 18, 80, 81] else if r = 21 then some [0, 1, 6, 7, 9, 17, 18, 80, 81, 102, 103] else none, dr := fun r => if r = 12 then some [(0, 0), (1, 0), (2, 0), (3, 0), (4, 0), (5, 0), (6, 0), (7, 0), (8, 0), (9, 0), (10, 0)] else if r = 18 then some [(0, 0), (1, 0), (2, 0), (3, 0), (4, 0), (5, 0), (6, 0), (7, 0), (8, 0), (9, 0), (10, 0), (11, 0), (12, 0)] else if r = 23 then some [(0, 0), (1, 0), (2, 0), (3, 0), (4, 0), (5, 0), (6, 0), (7, 0), (8, 0), (9, 0), (10, 0), (11, 0), (12, 0), (13, 0), (14, 0), (15, 0), (16, 0)] else none, dt := fun r => if r = 6 then some (.op 0 0 (.op 1 0 (.op 2 0 (.op 3 0 (.op 4 3 (.op 5 3 (.op 6 3 (.op 7 3 (.alt (.op 8 1 (.op 9 1 (.op 10 2 (.op 11 2 .nil)))) (.op 9 1 (.op 8 1 (.op 10 2 (.op 11 2 .nil))))))))))))) else none }
@[simp] theorem wio11 : cf11.wio = fun f i => (f == 999999 && (i == 0)) := rfl
@[simp] theorem live11 : cf11.live = fun r => if r = 4 then some [0, 1, 17, 18] else if r = 10 then some [0, 1, 6, 7, 17, 18, 62, 63] else if r = 16 then some [0, 1, 6, 7, 17, 18, 80, 81] else if r = 21 then some [0, 1, 6, 7, 9, 17, 18, 80, 81, 102, 103] else none := rfl
@[simp] theorem wr11 : cf11.wr = fun _ => [] := rfl
def cf12 : Cfg := { wio := fun f i => (f == 999999 && (i == 0)), live := fun r => none, dr := fun r => none }
@[simp] theorem wio12 : cf12.wio = fun f i => (f == 999999 && (i == 0)) := rfl
@[simp] theorem live12 : cf12.live = fun r => none := rfl
@[simp] theorem wr12 : cf12.wr = fun _ => [] := rfl
def cf13 : Cfg := { wio := fun f i => (f == 23 && (i == 0)) || (f == 999999 && (i == 0)), live := fun r => if r = 3 then some [6, 7, 17, 18] else if r = 6 then some [6, 7, 8, 17, 18, 25, 26, 27] else none, dr := fun r => none, fz := fun r => if r = 999998 then some [] else none }
@[simp] theorem wio13 : cf13.wio = fun f i => (f == 23 && (i == 0)) || (f == 999999 && (i == 0)) := rfl
@[simp] theorem live13 : cf13.live = fun r => if r = 3 then some [6, 7, 17, 18] else if r = 6 then some [6, 7, 8, 17, 18, 25, 26, 27] else none := rfl
@[simp] theorem wr13 : cf13.wr = fun _ => [] := rfl
def cf14 : Cfg := { wio := fun f i => (f == 999999 && (i == 0)), live := fun r => none, dr := fun r => none }
@[simp] theorem wio14 : cf14.wio = fun f i => (f == 999999 && (i == 0)) := rfl
@[simp] theorem live14 : cf14.live = fun r => none := rfl
@[simp] theorem wr14 : cf14.wr = fun _ => [] := rfl
def cf15 : Cfg := { wio := fun f i => (f == 999999 && (i == 0)), live := fun r => none, dr := fun r => none }
@[simp] theorem wio15 : cf15.wio = fun f i => (f == 999999 && (i == 0)) := rfl
@[simp] theorem live15 : cf15.live = fun r => none := rfl
@[simp] theorem wr15 : cf15.wr = fun _ => [] := rfl
def cf16 : Cfg := { wio := fun f i => (f == 999999 && (i == 0)), live := fun r => if r = 7 then some [2, 3, 5, 59, 60, 61] else if r = 13 then some [2, 3, 71, 72, 73] else if r = 21 then some [2, 3, 8, 10, 71, 72, 73, 94, 95, 96] else none, dr := fun r => if r = 18 then some [(0, 0), (1, 0), (2, 0), (4, 0), (5, 0), (3, 1), (6, 0)] else if r = 23 then some [(0, 0), (1, 0), (3, 0), (4, 0), (5, 0), (6, 0), (7, 0), (8, 0), (9, 0), (10, 0), (11, 0), (12, 0), (13, 0), (14, 0), (2, 1), (15, 0)] else none }
@[simp] theorem wio16 : cf16.wio = fun f i => (f == 999999 && (i == 0)) := rfl
@[simp] theorem live16 : cf16.live = fun r => if r = 7 then some [2, 3, 5, 59, 60, 61] else if r = 13 then some [2, 3, 71, 72, 73] else if r = 21 then some [2, 3, 8, 10, 71, 72, 73, 94, 95, 96] else none := rfl
@[simp] theorem wr16 : cf16.wr = fun _ => [] := rfl
def cf17 : Cfg := { wio := fun f i => (f == 999999 && (i == 0)), live := fun r => if r = 3 then some [3, 6, 7, 8] else none, dr := fun r => none }
@[simp] theorem wio17 : cf17.wio = fun f i => (f == 999999 && (i == 0)) := rfl
@[simp] theorem live17 : cf17.live = fun r => if r = 3 then some [3, 6, 7, 8] else none := rfl
@[simp] theorem wr17 : cf17.wr = fun _ => [] := rfl
def cf18 : Cfg := { wio := fun f i => (f == 20 && (i == 0)) || (f == 999999 && (i == 0)), live := fun r => if r = 3 then some [0, 1, 7, 8] else none, dr := fun r => none }
@[simp] theorem wio18 : cf18.wio = fun f i => (f == 20 && (i == 0)) || (f == 999999 && (i == 0)) := rfl
@[simp] theorem live18 : cf18.live = fun r => if r = 3 then some [0, 1, 7, 8] else none := rfl
@[simp] theorem wr18 : cf18.wr = fun _ => [] := rfl
def cf19 : Cfg := { wio := fun f i => (f == 999999 && (i == 0)), live := fun r => if r = 4 then some [2, 3, 43, 44, 45] else if r = 10 then some [2, 3, 55, 56, 57] else if r = 15 then some [2, 3, 7, 8, 55, 56, 57, 99, 100, 101] else none, dr := fun r => if r = 12 then some [(0, 0), (1, 0), (2, 0), (3, 1), (4, 0), (5, 0), (6, 0), (7, 0), (8, 0), (9, 0), (10, 0), (11, 0), (12, 0), (13, 0), (14, 0), (15, 0), (16, 0), (17, 0), (18, 0), (19, 0), (20, 0), (21, 0), (22, 0), (23, 1), (24, 0), (25, 0), (26, 0), (27, 0), (28, 0), (29, 0), (30, 0), (32, 0), (33, 0), (31, 1), (34, 0), (35, 0)] else if r = 17 then some [(0, 0), (1, 0), (2, 0), (4, 0), (5, 0), (6, 0), (7, 0), (8, 0), (9, 0), (10, 0), (11, 0), (12, 0), (13, 0), (14, 0), (15, 0), (3, 1), (16, 0)] else none }
@[simp] theorem wio19 : cf19.wio = fun f i => (f == 999999 && (i == 0)) := rfl
@[simp] theorem live19 : cf19.live = fun r => if r = 4 then some [2, 3, 43, 44, 45] else if r = 10 then some [2, 3, 55, 56, 57] else if r = 15 then some [2, 3, 7, 8, 55, 56, 57, 99, 100, 101] else none := rfl
@[simp] theorem wr19 : cf19.wr = fun _ => [] := rfl
def cf20 : Cfg := { wio := fun f i => (f == 999999 && (i == 0)), live := fun r => none, dr := fun r => if r = 1 then some [(0, 0), (1, 0), (2, 0), (3, 0), (4, 0), (5, 0), (6, 0), (7, 0), (8, 0), (9, 0)] else if r = 4 then some [(0, 0), (1, 0), (2, 0), (3, 0), (4, 0), (5, 0), (6, 0), (7, 0), (8, 0), (9, 0), (10, 0), (11, 0), (12, 1), (13, 0)] else none }
@[simp] theorem wio20 : cf20.wio = fun f i => (f == 999999 && (i == 0)) := rfl
@[simp] theorem live20 : cf20.live = fun r => none := rfl
@[simp] theorem wr20 : cf20.wr = fun _ => [] := rfl
def zk8 : SchT := .nil
def zk9 : SchT := .op 16 2 zk8
def zka : SchT := .op 15 0 zk9
def zkb : SchT := .op 14 2 zka
def zeA : SchT := .op 12 2 zkb
def zeB : SchT := .op 11 1 zeA
def zeC : SchT := .op 13 3 zeA
def z7y : SchT := .op 6 2 zeC
def zeD : SchT := .op 8 2 zeC
def zkc : SchT := .op 10 1 zeB
def zeE : SchT := .op 13 3 zeB
def zag : SchT := .op 1 2 z7y
def z7z : SchT := .op 5 1 z7y
def zah : SchT := .alt (.op 6 2 zeD) (.op 8 2 z7y)
def z7A : SchT := .alt (.op 6 2 zeE) (.op 11 1 z7y)
def zeF : SchT := .alt (.op 8 2 zeE) (.op 11 1 zeD)
def zeG : SchT := .op 13 3 zkc
def zai : SchT := .alt (.op 1 2 z7z) (.op 5 1 zag)
def zeH : SchT := .alt (.op 1 2 zah) (.op 8 2 zag)
def zaj : SchT := .alt (.op 1 2 z7A) (.op 11 1 zag)
def zkd : SchT := .op 4 0 z7z
def zak : SchT := .alt (.op 5 1 zah) (.op 8 2 z7z)
def z7B : SchT := .alt (.op 5 1 z7A) (.op 11 1 z7z)
def zal : SchT := .alt (.op 6 2 zeF) (.alt (.op 8 2 z7A) (.op 11 1 zah))
def zam : SchT := .alt (.op 6 2 zeG) (.op 10 1 z7A)
def zke : SchT := .alt (.op 8 2 zeG) (.op 10 1 zeF)
def zkf : SchT := .op 4 3 zai
def zeI : SchT := .alt (.op 1 2 zak) (.alt (.op 5 1 zeH) (.op 8 2 zai))
def zan : SchT := .alt (.op 1 2 z7B) (.alt (.op 5 1 zaj) (.op 11 1 zai))
def zeJ : SchT := .alt (.op 1 2 zal) (.alt (.op 8 2 zaj) (.op 11 1 zeH))
def zeK : SchT := .alt (.op 1 2 zam) (.op 10 1 zaj)
def zao : SchT := .op 3 1 zkd
def zkg : SchT := .op 4 3 zak
def zkh : SchT := .op 4 0 z7B
def zap : SchT := .alt (.op 5 1 zal) (.alt (.op 8 2 z7B) (.op 11 1 zak))
def zaq : SchT := .alt (.op 5 1 zam) (.op 10 1 z7B)
def zeL : SchT := .alt (.op 6 2 zke) (.alt (.op 8 2 zam) (.op 10 1 zal))
def zeM : SchT := .alt (.op 1 2 zao) (.op 3 1 zkf)
def zki : SchT := .op 4 3 zeI
def zkj : SchT := .op 4 3 zan
def zeN : SchT := .alt (.op 1 2 zap) (.alt (.op 5 1 zeJ) (.alt (.op 8 2 zan) (.op 11 1 zeI)))
def zeO : SchT := .alt (.op 1 2 zaq) (.alt (.op 5 1 zeK) (.op 10 1 zan))
def zkk : SchT := .alt (.op 1 2 zeL) (.alt (.op 8 2 zeK) (.op 10 1 zeJ))
def zeP : SchT := .alt (.op 3 1 zkg) (.op 8 2 zao)
def zar : SchT := .alt (.op 3 1 zkh) (.op 11 1 zao)
def zkl : SchT := .op 4 3 zap
def zkm : SchT := .op 4 0 zaq
def zeQ : SchT := .alt (.op 5 1 zeL) (.alt (.op 8 2 zaq) (.op 10 1 zap))
def zkn : SchT := .alt (.op 1 2 zeP) (.alt (.op 3 1 zki) (.op 8 2 zeM))
def zeR : SchT := .alt (.op 1 2 zar) (.alt (.op 3 1 zkj) (.op 11 1 zeM))
def zko : SchT := .op 4 3 zeN
def zkp : SchT := .op 4 3 zeO
def zkq : SchT := .alt (.op 1 2 zeQ) (.alt (.op 5 1 zkk) (.alt (.op 8 2 zeO) (.op 10 1 zeN)))
def zeS : SchT := .alt (.op 3 1 zkl) (.alt (.op 8 2 zar) (.op 11 1 zeP))
def zeT : SchT := .alt (.op 3 1 zkm) (.op 10 1 zar)
def znJ : SchT := .op 4 3 zeQ
def znK : SchT := .alt (.op 1 2 zeS) (.alt (.op 3 1 zko) (.alt (.op 8 2 zeR) (.op 11 1 zkn)))
def znL : SchT := .alt (.op 1 2 zeT) (.alt (.op 3 1 zkp) (.op 10 1 zeR))
def znM : SchT := .op 4 3 zkq
def znN : SchT := .alt (.op 3 1 znJ) (.alt (.op 8 2 zeT) (.op 10 1 zeS))
def znO : SchT := .alt (.op 1 2 znN) (.alt (.op 3 1 znM) (.alt (.op 8 2 znL) (.op 10 1 znK)))
def znP : SchT := .op 9 3 znO
def znQ : SchT := .op 7 3 znP
def znR : SchT := .op 2 3 znQ
def znS : SchT := .op 0 3 znR
def cf21 : Cfg := { wio := fun f i => (f == 20 && (i == 0)) || (f == 999999 && (i == 0)), live := fun r => if r = 5 then some [0, 1, 6, 7, 8, 9] else if r = 9 then some [0, 1, 6, 7, 8, 10] else if r = 13 then some [0, 1, 6, 7, 8, 10, 11, 12] else if r = 17 then some [0, 1, 6, 7, 8, 10, 11, 13] else none, dr := fun r => if r = 20 then some [(0, 0), (1, 0), (2, 0), (3, 0), (4, 0), (5, 0), (6, 0), (7, 0), (8, 0), (9, 0), (10, 0), (11, 2)] else if r = 21 then some [(1, 0), (2, 0), (3, 0), (5, 3), (6, 3), (7, 3), (8, 3), (0, 1), (4, 2), (9, 2), (10, 0)] else none, wr := fun r => if r = 7 then [0] else [], dt := fun r => if r = 7 then some (znS) else none }
@[simp] theorem wio21 : cf21.wio = fun f i => (f == 20 && (i == 0)) || (f == 999999 && (i == 0)) := rfl
@[simp] theorem live21 : cf21.live = fun r => if r = 5 then some [0, 1, 6, 7, 8, 9] else if r = 9 then some [0, 1, 6, 7, 8, 10] else if r = 13 then some [0, 1, 6, 7, 8, 10, 11, 12] else if r = 17 then some [0, 1, 6, 7, 8, 10, 11, 13] else none := rfl
@[simp] theorem wr21 : cf21.wr = fun r => if r = 7 then [0] else [] := rfl
def cf22 : Cfg := { wio := fun f i => (f == 20 && (i == 0)) || (f == 999999 && (i == 0)), live := fun r => if r = 4 then some [0, 1, 4, 5, 6, 22, 23, 24] else if r = 9 then some [0, 1, 4, 5, 6, 8, 9, 10, 22, 23, 24] else if r = 13 then some [0, 1, 4, 5, 6, 8, 9, 10, 11, 12, 22, 23, 24] else if r = 15 then some [0, 1, 4, 5, 6, 8, 9, 10, 11, 12, 22, 23, 24, 50, 51, 52] else none, dr := fun r => if r = 6 then some [(0, 0), (1, 0), (2, 0), (3, 1), (4, 0), (5, 1), (6, 2), (7, 0), (8, 2)] else none, wr := fun r => if r = 6 then [0] else [] }
@[simp] theorem wio22 : cf22.wio = fun f i => (f == 20 && (i == 0)) || (f == 999999 && (i == 0)) := rfl
@[simp] theorem live22 : cf22.live = fun r => if r = 4 then some [0, 1, 4, 5, 6, 22, 23, 24] else if r = 9 then some [0, 1, 4, 5, 6, 8, 9, 10, 22, 23, 24] else if r = 13 then some [0, 1, 4, 5, 6, 8, 9, 10, 11, 12, 22, 23, 24] else if r = 15 then some [0, 1, 4, 5, 6, 8, 9, 10, 11, 12, 22, 23, 24, 50, 51, 52] else none := rfl
@[simp] theorem wr22 : cf22.wr = fun r => if r = 6 then [0] else [] := rfl
def cf23 : Cfg := { wio := fun f i => (f == 20 && (i == 0)) || (f == 999999 && (i == 0)), live := fun r => if r = 5 then some [0, 1, 6, 7, 8, 9] else if r = 10 then some [0, 1, 6, 7, 8, 9, 10, 11] else none, dr := fun r => if r = 7 then some [(0, 0), (1, 0), (2, 0), (3, 1), (4, 0), (5, 1), (6, 2), (7, 0), (8, 2)] else none, wr := fun r => if r = 7 then [0] else [] }
@[simp] theorem wio23 : cf23.wio = fun f i => (f == 20 && (i == 0)) || (f == 999999 && (i == 0)) := rfl
@[simp] theorem live23 : cf23.live = fun r => if r = 5 then some [0, 1, 6, 7, 8, 9] else if r = 10 then some [0, 1, 6, 7, 8, 9, 10, 11] else none := rfl
@[simp] theorem wr23 : cf23.wr = fun r => if r = 7 then [0] else [] := rfl
def zhf : SchT := .nil
def zc3 : SchT := .op 13 2 zhf
def z6j : SchT := .op 11 0 zc3
def zhg : SchT := .op 12 1 zc3
def z6k : SchT := .op 4 1 z6j
def z6l : SchT := .op 6 1 z6j
def z6m : SchT := .op 8 1 z6j
def z6n : SchT := .op 10 1 z6j
def z6o : SchT := .op 11 0 zhg
def z8q : SchT := .alt (.op 4 1 z6l) (.op 6 1 z6k)
def z8r : SchT := .alt (.op 4 1 z6m) (.op 8 1 z6k)
def z8s : SchT := .alt (.op 4 1 z6n) (.op 10 1 z6k)
def z8t : SchT := .alt (.op 4 1 z6o) (.op 12 1 z6k)
def z8u : SchT := .alt (.op 6 1 z6m) (.op 8 1 z6l)
def z8v : SchT := .alt (.op 6 1 z6n) (.op 10 1 z6l)
def z8w : SchT := .alt (.op 6 1 z6o) (.op 12 1 z6l)
def z8x : SchT := .alt (.op 8 1 z6n) (.op 10 1 z6m)
def z8y : SchT := .alt (.op 8 1 z6o) (.op 12 1 z6m)
def z8z : SchT := .alt (.op 10 1 z6o) (.op 12 1 z6n)
def zc4 : SchT := .alt (.op 4 1 z8u) (.alt (.op 6 1 z8r) (.op 8 1 z8q))
def zc5 : SchT := .alt (.op 4 1 z8v) (.alt (.op 6 1 z8s) (.op 10 1 z8q))
def zc6 : SchT := .alt (.op 4 1 z8w) (.alt (.op 6 1 z8t) (.op 12 1 z8q))
def zc7 : SchT := .alt (.op 4 1 z8x) (.alt (.op 8 1 z8s) (.op 10 1 z8r))
def zc8 : SchT := .alt (.op 4 1 z8y) (.alt (.op 8 1 z8t) (.op 12 1 z8r))
def zc9 : SchT := .alt (.op 4 1 z8z) (.alt (.op 10 1 z8t) (.op 12 1 z8s))
def zca : SchT := .alt (.op 6 1 z8x) (.alt (.op 8 1 z8v) (.op 10 1 z8u))
def zcb : SchT := .alt (.op 6 1 z8y) (.alt (.op 8 1 z8w) (.op 12 1 z8u))
def zcc : SchT := .alt (.op 6 1 z8z) (.alt (.op 10 1 z8w) (.op 12 1 z8v))
def zcd : SchT := .alt (.op 8 1 z8z) (.alt (.op 10 1 z8y) (.op 12 1 z8x))
def zhh : SchT := .alt (.op 4 1 zca) (.alt (.op 6 1 zc7) (.alt (.op 8 1 zc5) (.op 10 1 zc4)))
def zhi : SchT := .alt (.op 4 1 zcb) (.alt (.op 6 1 zc8) (.alt (.op 8 1 zc6) (.op 12 1 zc4)))
def zhj : SchT := .alt (.op 4 1 zcc) (.alt (.op 6 1 zc9) (.alt (.op 10 1 zc6) (.op 12 1 zc5)))
def zjY : SchT := .alt (.op 4 1 zcd) (.alt (.op 8 1 zc9) (.alt (.op 10 1 zc8) (.op 12 1 zc7)))
def zjZ : SchT := .alt (.op 6 1 zcd) (.alt (.op 8 1 zcc) (.alt (.op 10 1 zcb) (.op 12 1 zca)))
def zk0 : SchT := .alt (.op 4 1 zjZ) (.alt (.op 6 1 zjY) (.alt (.op 8 1 zhj) (.alt (.op 10 1 zhi) (.op 12 1 zhh))))
def zk1 : SchT := .op 9 0 zk0
def zk2 : SchT := .op 7 0 zk1
def zk3 : SchT := .op 5 0 zk2
def zk4 : SchT := .op 3 0 zk3
def zk5 : SchT := .op 2 0 zk4
def zk6 : SchT := .op 1 0 zk5
def zk7 : SchT := .op 0 0 zk6
def cf24 : Cfg := { wio := fun f i => (f == 999999 && (i == 0)), live := fun r => if r = 12 then some [2, 5, 7, 8, 9, 10, 53, 54] else if r = 19 then some [2, 5, 7, 8, 10, 85, 86, 87] else if r = 23 then some [2, 5, 7, 8, 10, 14, 17, 85, 86, 87, 99, 100] else none, dr := fun r => if r = 14 then some [(0, 0), (1, 0), (2, 0), (3, 0), (4, 0), (5, 1), (6, 0), (7, 2)] else if r = 16 then some [(0, 0), (1, 0), (2, 0), (3, 0), (4, 0), (5, 0), (6, 0), (7, 0), (8, 0), (9, 0), (10, 0), (11, 0), (12, 0), (13, 0), (14, 2)] else if r = 26 then some [(0, 0), (1, 0), (2, 0), (3, 0), (4, 0), (5, 0), (6, 0), (7, 0), (8, 2)] else none, fz := fun r => if r = 8 then some [5] else if r = 10 then some [8] else if r = 999998 then some [] else none, dt := fun r => if r = 10 then some (zk7) else none }
@[simp] theorem wio24 : cf24.wio = fun f i => (f == 999999 && (i == 0)) := rfl
@[simp] theorem live24 : cf24.live = fun r => if r = 12 then some [2, 5, 7, 8, 9, 10, 53, 54] else if r = 19 then some [2, 5, 7, 8, 10, 85, 86, 87] else if r = 23 then some [2, 5, 7, 8, 10, 14, 17, 85, 86, 87, 99, 100] else none := rfl
@[simp] theorem wr24 : cf24.wr = fun _ => [] := rfl
def cf25 : Cfg := { wio := fun f i => (f == 52 && (i == 0)) || (f == 999999 && (i == 0)), live := fun r => if r = 3 then some [1, 4, 11, 12, 13] else if r = 11 then some [1, 4, 7, 36, 37, 38] else none, dr := fun r => if r = 13 then some [(0, 0), (1, 0), (2, 0), (3, 0), (4, 0), (5, 0), (6, 0), (7, 0)] else if r = 17 then some [(0, 0), (1, 0), (2, 0), (3, 0)] else none, fz := fun r => if r = 16 then some [1, 4] else if r = 999998 then some [] else none, dt := fun r => if r = 7 then some (.op 1 3 (.op 2 0 (.op 3 0 (.op 4 0 (.op 5 0 (.op 6 0 (.alt (.op 0 1 (.op 7 1 (.op 8 2 (.op 9 0 (.op 10 2 .nil))))) (.op 7 1 (.alt (.op 0 1 (.op 8 2 (.op 9 0 (.op 10 2 .nil)))) (.op 8 2 (.op 0 1 (.op 9 0 (.op 10 2 .nil))))))))))))) else none }
@[simp] theorem wio25 : cf25.wio = fun f i => (f == 52 && (i == 0)) || (f == 999999 && (i == 0)) := rfl
@[simp] theorem live25 : cf25.live = fun r => if r = 3 then some [1, 4, 11, 12, 13] else if r = 11 then some [1, 4, 7, 36, 37, 38] else none := rfl
@[simp] theorem wr25 : cf25.wr = fun _ => [] := rfl
def cf26 : Cfg := { wio := fun f i => (f == 999999 && (i == 0)), live := fun r => if r = 4 then some [2, 3, 4, 5, 8, 10, 11, 35, 36, 37] else if r = 10 then some [2, 4, 5, 8, 10, 11, 14, 53, 54, 55] else if r = 13 then some [2, 4, 5, 8, 10, 11, 14, 16, 53, 54, 55, 60, 61] else none, dr := fun r => if r = 6 then some [(0, 0), (1, 0), (2, 0), (3, 0), (4, 0), (5, 0), (6, 0), (7, 1), (8, 2), (9, 0), (10, 2)] else if r = 16 then some [(0, 0), (1, 0), (2, 0), (4, 0), (5, 0), (6, 0), (7, 0), (8, 0), (3, 1), (9, 1), (10, 0), (11, 0)] else if r = 17 then some [(0, 0), (1, 0), (2, 0), (3, 0), (4, 0), (5, 0), (6, 0), (7, 0), (8, 0), (9, 0), (10, 0)] else if r = 18 then some [(0, 0), (1, 0), (2, 0), (3, 0), (4, 0), (5, 0), (6, 0), (7, 0), (8, 0), (9, 0), (10, 0), (11, 0), (12, 0), (13, 0)] else if r = 19 then some [(0, 0), (1, 0), (3, 0), (4, 0), (2, 1), (5, 1), (6, 0)] else none, fz := fun r => if r = 999998 then some [] else none }
@[simp] theorem wio26 : cf26.wio = fun f i => (f == 999999 && (i == 0)) := rfl
@[simp] theorem live26 : cf26.live = fun r => if r = 4 then some [2, 3, 4, 5, 8, 10, 11, 35, 36, 37] else if r = 10 then some [2, 4, 5, 8, 10, 11, 14, 53, 54, 55] else if r = 13 then some [2, 4, 5, 8, 10, 11, 14, 16, 53, 54, 55, 60, 61] else none := rfl
@[simp] theorem wr26 : cf26.wr = fun _ => [] := rfl
def zh1 : SchT := .nil
def zh2 : SchT := .op 15 2 zh1
def zbK : SchT := .op 14 0 zh2
def zh3 : SchT := .op 7 1 zbK
def zbL : SchT := .op 13 2 zbK
def zh4 : SchT := .alt (.op 7 1 zbL) (.op 13 2 zh3)
def zbM : SchT := .op 12 0 zbL
def zbN : SchT := .op 5 1 zbM
def zbO : SchT := .op 12 0 zh4
def z8k : SchT := .op 11 2 zbM
def zh5 : SchT := .alt (.op 5 1 zbO) (.op 7 1 zbN)
def zbP : SchT := .alt (.op 5 1 z8k) (.op 11 2 zbN)
def zbQ : SchT := .alt (.op 7 1 z8k) (.op 11 2 zbO)
def zbR : SchT := .op 10 0 z8k
def z8l : SchT := .op 3 1 zbR
def zh6 : SchT := .alt (.op 5 1 zbQ) (.alt (.op 7 1 zbP) (.op 11 2 zh5))
def zbS : SchT := .op 10 0 zbP
def zbT : SchT := .op 10 0 zbQ
def z6i : SchT := .op 9 2 zbR
def zbU : SchT := .alt (.op 3 1 zbS) (.op 5 1 z8l)
def zbV : SchT := .alt (.op 3 1 zbT) (.op 7 1 z8l)
def z8m : SchT := .alt (.op 3 1 z6i) (.op 9 2 z8l)
def zbW : SchT := .op 10 0 zh6
def z8n : SchT := .alt (.op 5 1 z6i) (.op 9 2 zbS)
def z8o : SchT := .alt (.op 7 1 z6i) (.op 9 2 zbT)
def zh7 : SchT := .op 8 0 z6i
def z8p : SchT := .op 1 1 zh7
def zh8 : SchT := .alt (.op 3 1 zbW) (.alt (.op 5 1 zbV) (.op 7 1 zbU))
def zbX : SchT := .alt (.op 3 1 z8n) (.alt (.op 5 1 z8m) (.op 9 2 zbU))
def zbY : SchT := .alt (.op 3 1 z8o) (.alt (.op 7 1 z8m) (.op 9 2 zbV))
def zh9 : SchT := .op 8 0 z8m
def zbZ : SchT := .alt (.op 5 1 z8o) (.alt (.op 7 1 z8n) (.op 9 2 zbW))
def zha : SchT := .op 8 0 z8n
def zhb : SchT := .op 8 0 z8o
def zc0 : SchT := .alt (.op 1 1 zh9) (.op 3 1 z8p)
def zc1 : SchT := .alt (.op 1 1 zha) (.op 5 1 z8p)
def zc2 : SchT := .alt (.op 1 1 zhb) (.op 7 1 z8p)
def zhc : SchT := .alt (.op 3 1 zbZ) (.alt (.op 5 1 zbY) (.alt (.op 7 1 zbX) (.op 9 2 zh8)))
def zhd : SchT := .op 8 0 zbX
def zhe : SchT := .op 8 0 zbY
def zjO : SchT := .op 8 0 zbZ
def zjP : SchT := .alt (.op 1 1 zhd) (.alt (.op 3 1 zc1) (.op 5 1 zc0))
def zjQ : SchT := .alt (.op 1 1 zhe) (.alt (.op 3 1 zc2) (.op 7 1 zc0))
def zjR : SchT := .alt (.op 1 1 zjO) (.alt (.op 5 1 zc2) (.op 7 1 zc1))
def zjS : SchT := .op 8 0 zhc
def zjT : SchT := .alt (.op 1 1 zjS) (.alt (.op 3 1 zjR) (.alt (.op 5 1 zjQ) (.op 7 1 zjP)))
def zjU : SchT := .op 6 3 zjT
def zjV : SchT := .op 4 3 zjU
def zjW : SchT := .op 2 3 zjV
def zjX : SchT := .op 0 0 zjW
def zgU : SchT := .nil
def zgV : SchT := .op 12 2 zgU
def zbE : SchT := .op 11 0 zgV
def zgW : SchT := .op 1 2 zbE
def z8i : SchT := .op 10 2 zbE
def zbF : SchT := .alt (.op 1 2 z8i) (.op 10 2 zgW)
def z8j : SchT := .op 7 2 z8i
def zbG : SchT := .op 9 1 z8i
def zbH : SchT := .alt (.op 1 2 z8j) (.op 7 2 zbF)
def zgX : SchT := .alt (.op 1 2 zbG) (.op 9 1 zbF)
def zgY : SchT := .op 6 0 z8j
def zbI : SchT := .alt (.op 7 2 zbG) (.op 9 1 z8j)
def zgZ : SchT := .op 6 3 zbH
def zh0 : SchT := .alt (.op 1 2 zbI) (.alt (.op 7 2 zgX) (.op 9 1 zbH))
def zbJ : SchT := .op 4 2 zgY
def zjE : SchT := .op 6 0 zbI
def zjF : SchT := .alt (.op 1 2 zbJ) (.op 4 2 zgZ)
def zjG : SchT := .op 6 3 zh0
def zjH : SchT := .alt (.op 4 2 zjE) (.op 9 1 zbJ)
def zjI : SchT := .alt (.op 1 2 zjH) (.alt (.op 4 2 zjG) (.op 9 1 zjF))
def zjJ : SchT := .op 8 3 zjI
def zjK : SchT := .op 5 3 zjJ
def zjL : SchT := .op 3 3 zjK
def zjM : SchT := .op 2 3 zjL
def zjN : SchT := .op 0 3 zjM
def cf27 : Cfg := { wio := fun f i => (f == 999999 && (i == 0)), live := fun r => if r = 10 then some [1, 2, 5, 6, 7, 57, 58, 59] else if r = 16 then some [1, 2, 5, 6, 10, 71, 72] else if r = 21 then some [1, 2, 5, 6, 10, 82, 83, 84] else if r = 25 then some [1, 2, 5, 6, 10, 12, 82, 83, 84, 95, 96, 97] else if r = 28 then some [1, 2, 5, 6, 10, 12, 17, 82, 83, 84, 95, 96, 97, 102, 103, 104] else if r = 37 then some [1, 2, 5, 6, 10, 20, 126, 127] else if r = 41 then some [1, 2, 5, 6, 10, 20, 21, 22, 126, 127] else if r = 49 then some [1, 2, 5, 10, 23] else if r = 52 then some [1, 2, 5, 10, 23, 181, 182] else if r = 55 then some [1, 2, 5, 10, 23, 24, 181, 182, 187, 188] else if r = 63 then some [1, 2, 5, 244, 245] else if r = 67 then some [1, 2, 5, 26, 244, 245, 256, 257, 258] else if r = 72 then some [1, 2, 5, 26, 27, 28, 29, 244, 245, 256, 257, 258, 278, 279, 280] else if r = 81 then some [1, 2, 5, 333, 334] else if r = 84 then some [1, 2, 5, 32, 33, 333, 334] else if r = 88 then some [1, 2, 5, 32, 33, 35, 333, 334, 360, 361, 362] else if r = 95 then some [1, 2, 5, 32, 33, 35, 333, 334, 393, 394, 395] else none, dr := fun r => if r = 57 then some [(0, 0), (1, 0), (2, 0), (3, 0), (4, 0), (5, 1), (6, 0), (7, 0), (8, 0), (9, 0), (10, 0), (11, 0), (12, 0), (13, 0), (14, 0), (15, 0), (16, 0), (17, 0), (18, 0), (19, 0), (20, 0), (21, 0), (22, 0), (23, 0), (24, 0), (25, 0), (26, 0), (27, 0), (28, 0), (29, 0), (30, 0), (31, 0), (32, 0), (33, 0), (34, 0), (35, 0), (36, 0), (37, 0), (38, 0)] else if r = 58 then some [(0, 0), (1, 0), (2, 0), (3, 0), (4, 0), (5, 0), (6, 0), (7, 0), (8, 0), (9, 0), (10, 2)] else if r = 84 then some [(0, 0), (1, 0), (2, 0), (3, 0), (4, 0), (5, 0), (6, 0), (7, 0), (8, 0), (9, 0), (10, 0)] else if r = 86 then some [(0, 0), (1, 0), (2, 0), (3, 0), (4, 0), (5, 0), (6, 1), (7, 0), (8, 0), (9, 0), (10, 0), (11, 0)] else if r = 91 then some [(0, 0), (1, 0), (2, 0), (3, 0), (4, 0), (5, 0), (6, 0), (7, 0), (8, 2)] else if r = 93 then some [(0, 0), (1, 0), (2, 0), (3, 0), (4, 0), (5, 0), (6, 1), (7, 0), (8, 0), (9, 0), (10, 0), (11, 0)] else if r = 98 then some [(0, 0), (1, 0), (2, 0), (3, 0), (4, 0), (5, 0), (6, 0), (7, 0), (8, 2)] else none, dt := fun r => if r = 47 then some (zjX) else if r = 77 then some (zjN) else none }
@[simp] theorem wio27 : cf27.wio = fun f i => (f == 999999 && (i == 0)) := rfl
@[simp] theorem live27 : cf27.live = fun r => if r = 10 then some [1, 2, 5, 6, 7, 57, 58, 59] else if r = 16 then some [1, 2, 5, 6, 10, 71, 72] else if r = 21 then some [1, 2, 5, 6, 10, 82, 83, 84] else if r = 25 then some [1, 2, 5, 6, 10, 12, 82, 83, 84, 95, 96, 97] else if r = 28 then some [1, 2, 5, 6, 10, 12, 17, 82, 83, 84, 95, 96, 97, 102, 103, 104] else if r = 37 then some [1, 2, 5, 6, 10, 20, 126, 127] else if r = 41 then some [1, 2, 5, 6, 10, 20, 21, 22, 126, 127] else if r = 49 then some [1, 2, 5, 10, 23] else if r = 52 then some [1, 2, 5, 10, 23, 181, 182] else if r = 55 then some [1, 2, 5, 10, 23, 24, 181, 182, 187, 188] else if r = 63 then some [1, 2, 5, 244, 245] else if r = 67 then some [1, 2, 5, 26, 244, 245, 256, 257, 258] else if r = 72 then some [1, 2, 5, 26, 27, 28, 29, 244, 245, 256, 257, 258, 278, 279, 280] else if r = 81 then some [1, 2, 5, 333, 334] else if r = 84 then some [1, 2, 5, 32, 33, 333, 334] else if r = 88 then some [1, 2, 5, 32, 33, 35, 333, 334, 360, 361, 362] else if r = 95 then some [1, 2, 5, 32, 33, 35, 333, 334, 393, 394, 395] else none := rfl
@[simp] theorem wr27 : cf27.wr = fun _ => [] := rfl
def zgL : SchT := .nil
def zgM : SchT := .op 13 0 zgL
def zgN : SchT := .op 12 0 zgM
def zbA : SchT := .op 11 2 zgN
def zbB : SchT := .op 3 2 zbA
def zbC : SchT := .op 10 1 zbA
def zgO : SchT := .op 2 1 zbB
def zbD : SchT := .alt (.op 3 2 zbC) (.op 10 1 zbB)
def zgP : SchT := .op 9 0 zbC
def zgQ : SchT := .alt (.op 2 1 zbD) (.op 10 1 zgO)
def zgR : SchT := .op 9 3 zbD
def zgS : SchT := .op 8 0 zgP
def zgT : SchT := .op 9 3 zgQ
def zju : SchT := .op 8 3 zgR
def zjv : SchT := .op 6 1 zgS
def zjw : SchT := .op 8 3 zgT
def zjx : SchT := .alt (.op 3 2 zjv) (.op 6 1 zju)
def zjy : SchT := .alt (.op 2 1 zjx) (.op 6 1 zjw)
def zjz : SchT := .op 7 3 zjy
def zjA : SchT := .op 5 3 zjz
def zjB : SchT := .op 4 3 zjA
def zjC : SchT := .op 1 0 zjB
def zjD : SchT := .op 0 0 zjC
def cf28 : Cfg := { wio := fun f i => (f == 999999 && (i == 0)), live := fun r => if r = 3 then some [1, 3, 4, 13, 14, 15] else if r = 7 then some [1, 3, 4, 5, 6, 7, 13, 14, 15, 20, 21, 22] else if r = 15 then some [3, 4, 57, 58] else if r = 18 then some [3, 4, 11, 57, 58] else none, dr := fun r => if r = 18 then some [(0, 0), (1, 0), (2, 0), (3, 0), (4, 0), (5, 0), (6, 0), (7, 0), (8, 0), (9, 0), (10, 0), (11, 0), (12, 0), (13, 0), (14, 0), (15, 0), (16, 0), (17, 0), (18, 0), (19, 0), (20, 0), (21, 0), (22, 0), (23, 0), (24, 0), (25, 0), (26, 0), (27, 0), (28, 0), (29, 0), (30, 0), (31, 0), (32, 0), (33, 0), (34, 0), (35, 0), (36, 0), (37, 0)] else if r = 20 then some [(0, 0), (1, 0), (2, 3), (3, 3), (4, 3), (5, 3), (6, 3), (7, 3), (8, 3), (9, 3), (10, 0), (11, 0), (12, 0), (13, 0), (14, 0), (15, 0), (16, 0), (17, 0), (18, 0), (19, 0), (20, 0), (21, 0), (22, 0), (23, 0), (24, 0), (25, 0), (26, 0), (27, 0), (28, 0), (29, 2), (30, 0), (31, 2), (32, 0), (33, 2), (34, 0), (35, 2)] else none, dt := fun r => if r = 12 then some (zjD) else none }
@[simp] theorem wio28 : cf28.wio = fun f i => (f == 999999 && (i == 0)) := rfl
@[simp] theorem live28 : cf28.live = fun r => if r = 3 then some [1, 3, 4, 13, 14, 15] else if r = 7 then some [1, 3, 4, 5, 6, 7, 13, 14, 15, 20, 21, 22] else if r = 15 then some [3, 4, 57, 58] else if r = 18 then some [3, 4, 11, 57, 58] else none := rfl
@[simp] theorem wr28 : cf28.wr = fun _ => [] := rfl
def cf29 : Cfg := { wio := fun f i => (f == 999999 && (i == 0)), live := fun r => if r = 2 then some [1, 2, 5] else none, dr := fun r => none }
@[simp] theorem wio29 : cf29.wio = fun f i => (f == 999999 && (i == 0)) := rfl
@[simp] theorem live29 : cf29.live = fun r => if r = 2 then some [1, 2, 5] else none := rfl
@[simp] theorem wr29 : cf29.wr = fun _ => [] := rfl
def cf30 : Cfg := { wio := fun f i => (f == 999999 && (i == 0)), live := fun r => if r = 3 then some [1, 2, 3, 7, 11, 12] else none, dr := fun r => none }
@[simp] theorem wio30 : cf30.wio = fun f i => (f == 999999 && (i == 0)) := rfl
@[simp] theorem live30 : cf30.live = fun r => if r = 3 then some [1, 2, 3, 7, 11, 12] else none := rfl
@[simp] theorem wr30 : cf30.wr = fun _ => [] := rfl
def cf31 : Cfg := { wio := fun f i => (f == 999999 && (i == 0)), live := fun r => if r = 3 then some [1, 2, 3, 8, 15, 16, 17] else if r = 7 then some [1, 2, 3, 8, 11, 12, 15, 16, 17, 25, 26, 27] else none, dr := fun r => none }
@[simp] theorem wio31 : cf31.wio = fun f i => (f == 999999 && (i == 0)) := rfl
@[simp] theorem live31 : cf31.live = fun r => if r = 3 then some [1, 2, 3, 8, 15, 16, 17] else if r = 7 then some [1, 2, 3, 8, 11, 12, 15, 16, 17, 25, 26, 27] else none := rfl
@[simp] theorem wr31 : cf31.wr = fun _ => [] := rfl
def cf32 : Cfg := { wio := fun f i => (f == 999999 && (i == 0)), live := fun r => if r = 4 then some [0, 1, 12, 13] else none, dr := fun r => if r = 6 then some [(0, 0), (1, 0), (2, 0), (3, 0), (4, 0), (5, 0), (6, 0), (7, 0), (8, 0)] else none }
@[simp] theorem wio32 : cf32.wio = fun f i => (f == 999999 && (i == 0)) := rfl
@[simp] theorem live32 : cf32.live = fun r => if r = 4 then some [0, 1, 12, 13] else none := rfl
@[simp] theorem wr32 : cf32.wr = fun _ => [] := rfl
def cf33 : Cfg := { wio := fun f i => (f == 999999 && (i == 0)), live := fun r => if r = 9 then some [1, 3, 38, 39, 40] else if r = 14 then some [1, 3, 38, 39, 40, 49, 50, 51] else none, dr := fun r => none }
@[simp] theorem wio33 : cf33.wio = fun f i => (f == 999999 && (i == 0)) := rfl
@[simp] theorem live33 : cf33.live = fun r => if r = 9 then some [1, 3, 38, 39, 40] else if r = 14 then some [1, 3, 38, 39, 40, 49, 50, 51] else none := rfl
@[simp] theorem wr33 : cf33.wr = fun _ => [] := rfl
def cf34 : Cfg := { wio := fun f i => (f == 999999 && (i == 0)), live := fun r => none, dr := fun r => none }
@[simp] theorem wio34 : cf34.wio = fun f i => (f == 999999 && (i == 0)) := rfl
@[simp] theorem live34 : cf34.live = fun r => none := rfl
@[simp] theorem wr34 : cf34.wr = fun _ => [] := rfl
def cf35 : Cfg := { wio := fun f i => (f == 999999 && (i == 0)), live := fun r => if r = 2 then some [1, 10, 11, 12] else if r = 8 then some [1, 7, 10, 11, 12, 22, 23, 24] else none, dr := fun r => none }
@[simp] theorem wio35 : cf35.wio = fun f i => (f == 999999 && (i == 0)) := rfl
@[simp] theorem live35 : cf35.live = fun r => if r = 2 then some [1, 10, 11, 12] else if r = 8 then some [1, 7, 10, 11, 12, 22, 23, 24] else none := rfl
@[simp] theorem wr35 : cf35.wr = fun _ => [] := rfl
def cf36 : Cfg := { wio := fun f i => (f == 999999 && (i == 0)), live := fun r => if r = 4 then some [0, 1, 18, 19] else none, dr := fun r => none }
@[simp] theorem wio36 : cf36.wio = fun f i => (f == 999999 && (i == 0)) := rfl
@[simp] theorem live36 : cf36.live = fun r => if r = 4 then some [0, 1, 18, 19] else none := rfl
@[simp] theorem wr36 : cf36.wr = fun _ => [] := rfl
def cf37 : Cfg := { wio := fun f i => (f == 999999 && (i == 0)), live := fun r => if r = 3 then some [1, 2, 5, 15, 16] else if r = 8 then some [1, 2, 5, 25, 26] else if r = 11 then some [1, 2, 5, 7, 25, 26, 29, 30, 31] else none, dr := fun r => if r = 13 then some [(0, 0), (1, 0), (2, 0), (3, 0), (4, 0), (5, 0), (6, 0), (7, 0), (8, 0), (9, 0), (10, 0), (11, 0), (12, 0), (13, 0), (14, 2)] else none }
@[simp] theorem wio37 : cf37.wio = fun f i => (f == 999999 && (i == 0)) := rfl
@[simp] theorem live37 : cf37.live = fun r => if r = 3 then some [1, 2, 5, 15, 16] else if r = 8 then some [1, 2, 5, 25, 26] else if r = 11 then some [1, 2, 5, 7, 25, 26, 29, 30, 31] else none := rfl
@[simp] theorem wr37 : cf37.wr = fun _ => [] := rfl
def cf38 : Cfg := { wio := fun f i => (f == 999999 && (i == 0)), live := fun r => if r = 3 then some [1, 5, 8, 9, 10] else none, dr := fun r => none }
@[simp] theorem wio38 : cf38.wio = fun f i => (f == 999999 && (i == 0)) := rfl
@[simp] theorem live38 : cf38.live = fun r => if r = 3 then some [1, 5, 8, 9, 10] else none := rfl
@[simp] theorem wr38 : cf38.wr = fun _ => [] := rfl
def cf39 : Cfg := { wio := fun f i => (f == 999999 && (i == 0)), live := fun r => none, dr := fun r => none }
@[simp] theorem wio39 : cf39.wio = fun f i => (f == 999999 && (i == 0)) := rfl
@[simp] theorem live39 : cf39.live = fun r => none := rfl
@[simp] theorem wr39 : cf39.wr = fun _ => [] := rfl
def cf40 : Cfg := { wio := fun f i => (f == 999999 && (i == 0)), live := fun r => none, dr := fun r => none }
@[simp] theorem wio40 : cf40.wio = fun f i => (f == 999999 && (i == 0)) := rfl
@[simp] theorem live40 : cf40.live = fun r => none := rfl
@[simp] theorem wr40 : cf40.wr = fun _ => [] := rfl
def cf41 : Cfg := { wio := fun f i => (f == 999999 && (i == 0)), live := fun r => if r = 4 then some [0, 1, 5] else none, dr := fun r => none }
@[simp] theorem wio41 : cf41.wio = fun f i => (f == 999999 && (i == 0)) := rfl
@[simp] theorem live41 : cf41.live = fun r => if r = 4 then some [0, 1, 5] else none := rfl
@[simp] theorem wr41 : cf41.wr = fun _ => [] := rfl
def cf42 : Cfg := { wio := fun f i => (f == 999999 && (i == 0)), live := fun r => none, dr := fun r => none }
@[simp] theorem wio42 : cf42.wio = fun f i => (f == 999999 && (i == 0)) := rfl
@[simp] theorem live42 : cf42.live = fun r => none := rfl
@[simp] theorem wr42 : cf42.wr = fun _ => [] := rfl
def cf43 : Cfg := { wio := fun f i => (f == 999999 && (i == 0)), live := fun r => if r = 2 then some [1, 2, 3, 7] else none, dr := fun r => if r = 4 then some [(0, 0), (1, 0), (2, 0), (3, 0), (4, 0), (5, 0), (6, 0), (7, 1), (8, 0)] else none }
@[simp] theorem wio43 : cf43.wio = fun f i => (f == 999999 && (i == 0)) := rfl
@[simp] theorem live43 : cf43.live = fun r => if r = 2 then some [1, 2, 3, 7] else none := rfl
@[simp] theorem wr43 : cf43.wr = fun _ => [] := rfl
def cf44 : Cfg := { wio := fun f i => (f == 999999 && (i == 0)), live := fun r => if r = 3 then some [0, 1, 5, 6] else if r = 6 then some [0, 1, 5, 6, 7] else none, dr := fun r => if r = 8 then some [(0, 0), (1, 0), (2, 0), (3, 0), (4, 0), (5, 0), (6, 0), (7, 0), (8, 1), (9, 0), (10, 0), (11, 1), (12, 2), (13, 0)] else none }
@[simp] theorem wio44 : cf44.wio = fun f i => (f == 999999 && (i == 0)) := rfl
@[simp] theorem live44 : cf44.live = fun r => if r = 3 then some [0, 1, 5, 6] else if r = 6 then some [0, 1, 5, 6, 7] else none := rfl
@[simp] theorem wr44 : cf44.wr = fun _ => [] := rfl
def cf45 : Cfg := { wio := fun f i => (f == 999999 && (i == 0)), live := fun r => none, dr := fun r => none }
@[simp] theorem wio45 : cf45.wio = fun f i => (f == 999999 && (i == 0)) := rfl
@[simp] theorem live45 : cf45.live = fun r => none := rfl
@[simp] theorem wr45 : cf45.wr = fun _ => [] := rfl
def cf46 : Cfg := { wio := fun f i => (f == 68 && (i == 0)) || (f == 999999 && (i == 0)), live := fun r => if r = 3 then some [3, 18, 19] else none, dr := fun r => if r = 1 then some [(0, 0), (1, 0), (2, 0), (3, 0), (4, 0), (5, 0), (6, 1), (7, 0), (8, 0), (9, 0), (10, 0), (11, 0)] else none }
@[simp] theorem wio46 : cf46.wio = fun f i => (f == 68 && (i == 0)) || (f == 999999 && (i == 0)) := rfl
@[simp] theorem live46 : cf46.live = fun r => if r = 3 then some [3, 18, 19] else none := rfl
@[simp] theorem wr46 : cf46.wr = fun _ => [] := rfl
def cf47 : Cfg := { wio := fun f i => (f == 999999 && (i == 0)), live := fun r => if r = 3 then some [1, 2, 4, 5, 24, 25, 26] else if r = 9 then some [1, 2, 4, 5, 8, 44, 45, 46] else if r = 13 then some [1, 2, 4, 5, 8, 9, 10, 44, 45, 46, 59, 60] else if r = 20 then some [1, 4, 8, 87, 88] else if r = 24 then some [1, 4, 8, 12, 13, 87, 88, 97, 98, 99] else if r = 27 then some [1, 4, 8, 12, 13, 15, 16, 87, 88, 97, 98, 99, 104, 105, 106] else none, dr := fun r => if r = 11 then some [(0, 0), (1, 0), (2, 0), (3, 0), (4, 0), (5, 1), (6, 0), (7, 2)] else if r = 15 then some [(0, 0), (1, 0), (2, 0), (3, 0), (4, 0), (5, 0), (6, 0), (7, 0), (8, 0), (9, 0), (10, 1), (11, 0), (12, 0), (13, 0), (14, 2)] else if r = 17 then some [(0, 0), (1, 0), (2, 0), (3, 0), (4, 0), (5, 1), (6, 0), (7, 2)] else none, dt := fun r => if r = 7 then some (.op 0 0 (.op 1 0 (.op 2 0 (.op 4 0 (.op 5 0 (.alt (.op 3 1 (.alt (.op 6 1 (.op 7 0 (.op 8 1 (.op 9 2 .nil)))) (.op 8 1 (.op 6 1 (.op 7 0 (.op 9 2 .nil)))))) (.alt (.op 6 1 (.alt (.op 3 1 (.op 7 0 (.op 8 1 (.op 9 2 .nil)))) (.op 8 1 (.op 3 1 (.op 7 0 (.op 9 2 .nil)))))) (.op 8 1 (.alt (.op 3 1 (.op 6 1 (.op 7 0 (.op 9 2 .nil)))) (.op 6 1 (.op 3 1 (.op 7 0 (.op 9 2 .nil))))))))))))) else none }
@[simp] theorem wio47 : cf47.wio = fun f i => (f == 999999 && (i == 0)) := rfl
@[simp] theorem live47 : cf47.live = fun r => if r = 3 then some [1, 2, 4, 5, 24, 25, 26] else if r = 9 then some [1, 2, 4, 5, 8, 44, 45, 46] else if r = 13 then some [1, 2, 4, 5, 8, 9, 10, 44, 45, 46, 59, 60] else if r = 20 then some [1, 4, 8, 87, 88] else if r = 24 then some [1, 4, 8, 12, 13, 87, 88, 97, 98, 99] else if r = 27 then some [1, 4, 8, 12, 13, 15, 16, 87, 88, 97, 98, 99, 104, 105, 106] else none := rfl
@[simp] theorem wr47 : cf47.wr = fun _ => [] := rfl
def cf48 : Cfg := { wio := fun f i => (f == 999999 && (i == 0)), live := fun r => if r = 4 then some [1, 4, 5, 15, 16] else if r = 8 then some [1, 4, 5, 6, 15, 16, 24, 25, 26] else none, dr := fun r => none }
@[simp] theorem wio48 : cf48.wio = fun f i => (f == 999999 && (i == 0)) := rfl
@[simp] theorem live48 : cf48.live = fun r => if r = 4 then some [1, 4, 5, 15, 16] else if r = 8 then some [1, 4, 5, 6, 15, 16, 24, 25, 26] else none := rfl
@[simp] theorem wr48 : cf48.wr = fun _ => [] := rfl
def cf49 : Cfg := { wio := fun f i => (f == 52 && (i == 0)) || (f == 999999 && (i == 0)), live := fun r => if r = 4 then some [1, 2, 5, 6, 23, 24] else if r = 8 then some [1, 2, 5, 6, 7, 23, 24, 33, 34] else if r = 17 then some [1, 2, 9, 60, 61, 62] else if r = 21 then some [1, 2, 9, 11, 60, 61, 62, 75, 76] else none, dr := fun r => if r = 23 then some [(0, 0), (1, 0), (2, 0), (3, 0), (4, 0), (5, 0), (6, 0), (7, 0), (8, 0), (9, 0), (10, 0), (11, 0), (12, 0), (13, 0), (14, 0), (15, 0), (16, 0), (17, 0), (18, 0)] else if r = 24 then some [(0, 0), (1, 0), (2, 0), (3, 0), (4, 0), (5, 0), (6, 0), (7, 0), (8, 0), (9, 0), (10, 0), (11, 0), (12, 0), (13, 2)] else none, fz := fun r => if r = 14 then some [5] else none }
@[simp] theorem wio49 : cf49.wio = fun f i => (f == 52 && (i == 0)) || (f == 999999 && (i == 0)) := rfl
@[simp] theorem live49 : cf49.live = fun r => if r = 4 then some [1, 2, 5, 6, 23, 24] else if r = 8 then some [1, 2, 5, 6, 7, 23, 24, 33, 34] else if r = 17 then some [1, 2, 9, 60, 61, 62] else if r = 21 then some [1, 2, 9, 11, 60, 61, 62, 75, 76] else none := rfl
@[simp] theorem wr49 : cf49.wr = fun _ => [] := rfl
def cf50 : Cfg := { wio := fun f i => (f == 999999 && (i == 0)), live := fun r => if r = 5 then some [1, 2, 5, 21, 22, 23] else if r = 12 then some [2, 5, 8, 45, 46, 47] else if r = 15 then some [2, 5, 8, 10, 45, 46, 47, 51, 52, 53] else none, dr := fun r => if r = 17 then some [(0, 0), (1, 0), (2, 0), (3, 0), (4, 0), (5, 0), (6, 0), (7, 0), (8, 0), (9, 0), (10, 0), (11, 0), (12, 0), (13, 0), (14, 1), (15, 0)] else none }
@[simp] theorem wio50 : cf50.wio = fun f i => (f == 999999 && (i == 0)) := rfl
@[simp] theorem live50 : cf50.live = fun r => if r = 5 then some [1, 2, 5, 21, 22, 23] else if r = 12 then some [2, 5, 8, 45, 46, 47] else if r = 15 then some [2, 5, 8, 10, 45, 46, 47, 51, 52, 53] else none := rfl
@[simp] theorem wr50 : cf50.wr = fun _ => [] := rfl
def cf51 : Cfg := { wio := fun f i => (f == 999999 && (i == 0)), live := fun r => if r = 6 then some [2, 6, 7, 8, 9] else if r = 9 then some [2, 6, 7, 8, 9, 38, 39, 40] else none, dr := fun r => if r = 8 then some [(0, 0), (1, 0), (2, 0), (3, 0), (4, 0), (5, 0), (6, 0), (7, 0), (8, 0), (9, 0)] else if r = 13 then some [(0, 0), (1, 0), (2, 0), (3, 0), (4, 0), (5, 0), (6, 0), (7, 0), (8, 0), (9, 0), (10, 0), (11, 0), (12, 1), (13, 0), (14, 0), (15, 0), (16, 2)] else none }
@[simp] theorem wio51 : cf51.wio = fun f i => (f == 999999 && (i == 0)) := rfl
@[simp] theorem live51 : cf51.live = fun r => if r = 6 then some [2, 6, 7, 8, 9] else if r = 9 then some [2, 6, 7, 8, 9, 38, 39, 40] else none := rfl
@[simp] theorem wr51 : cf51.wr = fun _ => [] := rfl
def cf52 : Cfg := { wio := fun f i => (f == 75 && (i == 0)) || (f == 999999 && (i == 0)), live := fun r => none, dr := fun r => none }
@[simp] theorem wio52 : cf52.wio = fun f i => (f == 75 && (i == 0)) || (f == 999999 && (i == 0)) := rfl
@[simp] theorem live52 : cf52.live = fun r => none := rfl
@[simp] theorem wr52 : cf52.wr = fun _ => [] := rfl
def cf53 : Cfg := { wio := fun f i => (f == 999999 && (i == 0)), live := fun r => none, dr := fun r => if r = 1 then some [(0, 0), (1, 0), (2, 0), (3, 0), (4, 0), (5, 0), (6, 0), (7, 0), (8, 0), (9, 0), (10, 0), (11, 0), (12, 0), (13, 0), (14, 0), (15, 0), (16, 0), (17, 0), (18, 0), (19, 0), (20, 1), (21, 0)] else none }
@[simp] theorem wio53 : cf53.wio = fun f i => (f == 999999 && (i == 0)) := rfl
@[simp] theorem live53 : cf53.live = fun r => none := rfl
@[simp] theorem wr53 : cf53.wr = fun _ => [] := rfl
def cf54 : Cfg := { wio := fun f i => (f == 999999 && (i == 0)), live := fun r => none, dr := fun r => none }
@[simp] theorem wio54 : cf54.wio = fun f i => (f == 999999 && (i == 0)) := rfl
@[simp] theorem live54 : cf54.live = fun r => none := rfl
@[simp] theorem wr54 : cf54.wr = fun _ => [] := rfl
def cf55 : Cfg := { wio := fun f i => (f == 999999 && (i == 0)), live := fun r => if r = 3 then some [0, 1, 5, 14, 15, 16] else if r = 9 then some [0, 5, 8, 28, 29, 30] else none, dr := fun r => none }
@[simp] theorem wio55 : cf55.wio = fun f i => (f == 999999 && (i == 0)) := rfl
@[simp] theorem live55 : cf55.live = fun r => if r = 3 then some [0, 1, 5, 14, 15, 16] else if r = 9 then some [0, 5, 8, 28, 29, 30] else none := rfl
@[simp] theorem wr55 : cf55.wr = fun _ => [] := rfl
def cf56 : Cfg := { wio := fun f i => (f == 999999 && (i == 0)), live := fun r => if r = 2 then some [5, 6, 7] else none, dr := fun r => none }
@[simp] theorem wio56 : cf56.wio = fun f i => (f == 999999 && (i == 0)) := rfl
@[simp] theorem live56 : cf56.live = fun r => if r = 2 then some [5, 6, 7] else none := rfl
@[simp] theorem wr56 : cf56.wr = fun _ => [] := rfl
def cf57 : Cfg := { wio := fun f i => (f == 999999 && (i == 0)), live := fun r => if r = 3 then some [3, 10, 11, 12] else none, dr := fun r => none }
@[simp] theorem wio57 : cf57.wio = fun f i => (f == 999999 && (i == 0)) := rfl
@[simp] theorem live57 : cf57.live = fun r => if r = 3 then some [3, 10, 11, 12] else none := rfl
@[simp] theorem wr57 : cf57.wr = fun _ => [] := rfl
def cf58 : Cfg := { wio := fun f i => (f == 999999 && (i == 0)), live := fun r => if r = 3 then some [3, 22, 23] else if r = 8 then some [3, 6, 7, 22, 23, 29, 30, 31] else if r = 17 then some [10, 53, 54] else if r = 20 then some [10, 12, 53, 54] else none, dr := fun r => if r = 1 then some [(0, 0), (1, 0), (2, 1), (3, 1), (4, 0), (5, 0), (6, 0), (7, 0), (8, 0)] else if r = 20 then some [(0, 0), (1, 0), (2, 0), (3, 0), (4, 0), (5, 0), (6, 0), (7, 0), (8, 0), (9, 0), (10, 0), (11, 0), (12, 1), (13, 0)] else if r = 22 then some [(0, 0), (1, 0), (2, 3), (3, 3), (4, 3), (5, 0), (6, 0), (7, 0), (8, 0), (9, 0), (10, 0), (11, 0), (12, 0), (13, 0), (14, 0), (15, 2), (16, 0), (17, 2)] else none }
@[simp] theorem wio58 : cf58.wio = fun f i => (f == 999999 && (i == 0)) := rfl
@[simp] theorem live58 : cf58.live = fun r => if r = 3 then some [3, 22, 23] else if r = 8 then some [3, 6, 7, 22, 23, 29, 30, 31] else if r = 17 then some [10, 53, 54] else if r = 20 then some [10, 12, 53, 54] else none := rfl
@[simp] theorem wr58 : cf58.wr = fun _ => [] := rfl
def zgx : SchT := .nil
def zgy : SchT := .op 18 0 zgx
def zgz : SchT := .op 17 0 zgy
def zbw : SchT := .op 16 2 zgz
def zbx : SchT := .op 3 1 zbw
def zby : SchT := .op 15 1 zbw
def zgA : SchT := .op 2 1 zbx
def zbz : SchT := .alt (.op 3 1 zby) (.op 15 1 zbx)
def zgB : SchT := .op 14 0 zby
def zgC : SchT := .alt (.op 2 1 zbz) (.op 15 1 zgA)
def zgD : SchT := .op 14 0 zbz
def zgE : SchT := .op 13 0 zgB
def zgF : SchT := .op 14 0 zgC
def zgG : SchT := .op 13 0 zgD
def zgH : SchT := .op 12 1 zgE
def zgI : SchT := .op 13 0 zgF
def zgJ : SchT := .alt (.op 3 1 zgH) (.op 12 1 zgG)
def zgK : SchT := .alt (.op 2 1 zgJ) (.op 12 1 zgI)
def zjk : SchT := .op 11 0 zgK
def zjl : SchT := .op 10 0 zjk
def zjm : SchT := .op 9 0 zjl
def zjn : SchT := .op 8 0 zjm
def zjo : SchT := .op 7 0 zjn
def zjp : SchT := .op 6 0 zjo
def zjq : SchT := .op 5 0 zjp
def zjr : SchT := .op 4 0 zjq
def zjs : SchT := .op 1 0 zjr
def zjt : SchT := .op 0 0 zjs
def cf59 : Cfg := { wio := fun f i => (f == 999999 && (i == 0)), live := fun r => if r = 4 then some [2, 6, 7, 8, 9] else if r = 7 then some [2, 6, 7, 8, 9, 10] else none, dr := fun r => if r = 9 then some [(0, 0), (1, 0), (2, 0), (3, 0), (4, 0), (5, 0), (6, 1), (7, 0)] else none, wr := fun r => if r = 12 then [6, 46] else [], dt := fun r => if r = 12 then some (zjt) else none }
@[simp] theorem wio59 : cf59.wio = fun f i => (f == 999999 && (i == 0)) := rfl
@[simp] theorem live59 : cf59.live = fun r => if r = 4 then some [2, 6, 7, 8, 9] else if r = 7 then some [2, 6, 7, 8, 9, 10] else none := rfl
@[simp] theorem wr59 : cf59.wr = fun r => if r = 12 then [6, 46] else [] := rfl
def cf60 : Cfg := { wio := fun f i => (f == 999999 && (i == 0)), live := fun r => if r = 7 then some [3, 4, 5, 17, 18, 19] else none, dr := fun r => none }
@[simp] theorem wio60 : cf60.wio = fun f i => (f == 999999 && (i == 0)) := rfl
@[simp] theorem live60 : cf60.live = fun r => if r = 7 then some [3, 4, 5, 17, 18, 19] else none := rfl
@[simp] theorem wr60 : cf60.wr = fun _ => [] := rfl
def cf61 : Cfg := { wio := fun f i => (f == 999999 && (i == 0)), live := fun r => if r = 2 then some [0, 3] else none, dr := fun r => none }
@[simp] theorem wio61 : cf61.wio = fun f i => (f == 999999 && (i == 0)) := rfl
@[simp] theorem live61 : cf61.live = fun r => if r = 2 then some [0, 3] else none := rfl
@[simp] theorem wr61 : cf61.wr = fun _ => [] := rfl
def cf62 : Cfg := { wio := fun f i => (f == 999999 && (i == 0)), live := fun r => if r = 9 then some [1, 3, 38, 39, 40] else if r = 14 then some [1, 3, 38, 39, 40, 49, 50, 51] else none, dr := fun r => none }
@[simp] theorem wio62 : cf62.wio = fun f i => (f == 999999 && (i == 0)) := rfl
@[simp] theorem live62 : cf62.live = fun r => if r = 9 then some [1, 3, 38, 39, 40] else if r = 14 then some [1, 3, 38, 39, 40, 49, 50, 51] else none := rfl
@[simp] theorem wr62 : cf62.wr = fun _ => [] := rfl
def cf63 : Cfg := { wio := fun f i => (f == 999999 && (i == 0)), live := fun r => none, dr := fun r => none }
@[simp] theorem wio63 : cf63.wio = fun f i => (f == 999999 && (i == 0)) := rfl
@[simp] theorem live63 : cf63.live = fun r => none := rfl
@[simp] theorem wr63 : cf63.wr = fun _ => [] := rfl
def cf64 : Cfg := { wio := fun f i => (f == 999999 && (i == 0)), live := fun r => if r = 4 then some [0, 13, 14, 15] else none, dr := fun r => none }
@[simp] theorem wio64 : cf64.wio = fun f i => (f == 999999 && (i == 0)) := rfl
@[simp] theorem live64 : cf64.live = fun r => if r = 4 then some [0, 13, 14, 15] else none := rfl
@[simp] theorem wr64 : cf64.wr = fun _ => [] := rfl
def cf65 : Cfg := { wio := fun f i => (f == 999999 && (i == 0)), live := fun r => none, dr := fun r => none }
@[simp] theorem wio65 : cf65.wio = fun f i => (f == 999999 && (i == 0)) := rfl
@[simp] theorem live65 : cf65.live = fun r => none := rfl
@[simp] theorem wr65 : cf65.wr = fun _ => [] := rfl
def cf66 : Cfg := { wio := fun f i => (f == 999999 && (i == 0)), live := fun r => if r = 5 then some [2, 6, 7, 8, 9] else if r = 8 then some [2, 6, 7, 8, 9, 30, 31] else none, dr := fun r => if r = 10 then some [(0, 0), (1, 0), (2, 0), (3, 0), (4, 0), (5, 0), (6, 1), (7, 0)] else if r = 14 then some [(0, 0), (1, 0), (2, 0), (3, 0), (4, 0), (5, 0), (6, 0), (7, 0), (8, 1), (9, 0), (10, 0), (11, 1), (12, 2), (13, 0)] else none }
@[simp] theorem wio66 : cf66.wio = fun f i => (f == 999999 && (i == 0)) := rfl
@[simp] theorem live66 : cf66.live = fun r => if r = 5 then some [2, 6, 7, 8, 9] else if r = 8 then some [2, 6, 7, 8, 9, 30, 31] else none := rfl
@[simp] theorem wr66 : cf66.wr = fun _ => [] := rfl
def cf67 : Cfg := { wio := fun f i => (f == 999999 && (i == 0)), live := fun r => none, dr := fun r => none }
@[simp] theorem wio67 : cf67.wio = fun f i => (f == 999999 && (i == 0)) := rfl
@[simp] theorem live67 : cf67.live = fun r => none := rfl
@[simp] theorem wr67 : cf67.wr = fun _ => [] := rfl
def cf69 : Cfg := { wio := fun f i => (f == 999999 && (i == 0)), live := fun r => none, dr := fun r => none }
@[simp] theorem wio69 : cf69.wio = fun f i => (f == 999999 && (i == 0)) := rfl
@[simp] theorem live69 : cf69.live = fun r => none := rfl
@[simp] theorem wr69 : cf69.wr = fun _ => [] := rfl
def cf70 : Cfg := { wio := fun f i => (f == 999999 && (i == 0)), live := fun r => if r = 3 then some [3, 6, 7, 8] else none, dr := fun r => none }
@[simp] theorem wio70 : cf70.wio = fun f i => (f == 999999 && (i == 0)) := rfl
@[simp] theorem live70 : cf70.live = fun r => if r = 3 then some [3, 6, 7, 8] else none := rfl
@[simp] theorem wr70 : cf70.wr = fun _ => [] := rfl
def cf71 : Cfg := { wio := fun f i => (f == 999999 && (i == 0)), live := fun r => none, dr := fun r => none }
@[simp] theorem wio71 : cf71.wio = fun f i => (f == 999999 && (i == 0)) := rfl
@[simp] theorem live71 : cf71.live = fun r => none := rfl
@[simp] theorem wr71 : cf71.wr = fun _ => [] := rfl
def cf72 : Cfg := { wio := fun f i => (f == 999999 && (i == 0)), live := fun r => if r = 3 then some [1, 2, 7, 11, 12, 13] else none, dr := fun r => none }
@[simp] theorem wio72 : cf72.wio = fun f i => (f == 999999 && (i == 0)) := rfl
@[simp] theorem live72 : cf72.live = fun r => if r = 3 then some [1, 2, 7, 11, 12, 13] else none := rfl
@[simp] theorem wr72 : cf72.wr = fun _ => [] := rfl
def cf73 : Cfg := { wio := fun f i => (f == 999999 && (i == 0)), live := fun r => none, dr := fun r => none }
@[simp] theorem wio73 : cf73.wio = fun f i => (f == 999999 && (i == 0)) := rfl
@[simp] theorem live73 : cf73.live = fun r => none := rfl
@[simp] theorem wr73 : cf73.wr = fun _ => [] := rfl
def cf74 : Cfg := { wio := fun f i => (f == 999999 && (i == 0)), live := fun r => none, dr := fun r => if r = 1 then some [(0, 0), (1, 0), (2, 0), (3, 0), (4, 0), (5, 0), (6, 0), (7, 0), (8, 1), (9, 0)] else none }
@[simp] theorem wio74 : cf74.wio = fun f i => (f == 999999 && (i == 0)) := rfl
@[simp] theorem live74 : cf74.live = fun r => none := rfl
@[simp] theorem wr74 : cf74.wr = fun _ => [] := rfl
def cf75 : Cfg := { wio := fun f i => (f == 84 && (i == 0)) || (f == 85 && (i == 0)) || (f == 999999 && (i == 0)), live := fun r => if r = 2 then some [0, 1, 2, 6, 7, 8] else if r = 7 then some [0, 1, 2, 6] else if r = 9 then some [0, 1, 2, 6, 7, 8] else none, dr := fun r => none }
@[simp] theorem wio75 : cf75.wio = fun f i => (f == 84 && (i == 0)) || (f == 85 && (i == 0)) || (f == 999999 && (i == 0)) := rfl
@[simp] theorem live75 : cf75.live = fun r => if r = 2 then some [0, 1, 2, 6, 7, 8] else if r = 7 then some [0, 1, 2, 6] else if r = 9 then some [0, 1, 2, 6, 7, 8] else none := rfl
@[simp] theorem wr75 : cf75.wr = fun _ => [] := rfl
def cf76 : Cfg := { wio := fun f i => (f == 999999 && (i == 0)), live := fun r => none, dr := fun r => none }
@[simp] theorem wio76 : cf76.wio = fun f i => (f == 999999 && (i == 0)) := rfl
@[simp] theorem live76 : cf76.live = fun r => none := rfl
@[simp] theorem wr76 : cf76.wr = fun _ => [] := rfl
def cf77 : Cfg := { wio := fun f i => (f == 999999 && (i == 0)), live := fun r => none, dr := fun r => none }
@[simp] theorem wio77 : cf77.wio = fun f i => (f == 999999 && (i == 0)) := rfl
@[simp] theorem live77 : cf77.live = fun r => none := rfl
@[simp] theorem wr77 : cf77.wr = fun _ => [] := rfl
def cf78 : Cfg := { wio := fun f i => (f == 999999 && (i == 0)), live := fun r => if r = 3 then some [3, 6, 7, 8] else none, dr := fun r => none }
@[simp] theorem wio78 : cf78.wio = fun f i => (f == 999999 && (i == 0)) := rfl
@[simp] theorem live78 : cf78.live = fun r => if r = 3 then some [3, 6, 7, 8] else none := rfl
@[simp] theorem wr78 : cf78.wr = fun _ => [] := rfl
def cf79 : Cfg := { wio := fun f i => (f == 999999 && (i == 0)), live := fun r => if r = 3 then some [1, 5, 10, 11, 12] else none, dr := fun r => none }
@[simp] theorem wio79 : cf79.wio = fun f i => (f == 999999 && (i == 0)) := rfl
@[simp] theorem live79 : cf79.live = fun r => if r = 3 then some [1, 5, 10, 11, 12] else none := rfl
@[simp] theorem wr79 : cf79.wr = fun _ => [] := rfl
def cf80 : Cfg := { wio := fun f i => (f == 999999 && (i == 0)), live := fun r => if r = 2 then some [0, 1, 7, 8] else none, dr := fun r => none }
@[simp] theorem wio80 : cf80.wio = fun f i => (f == 999999 && (i == 0)) := rfl
@[simp] theorem live80 : cf80.live = fun r => if r = 2 then some [0, 1, 7, 8] else none := rfl
@[simp] theorem wr80 : cf80.wr = fun _ => [] := rfl
def cf83 : Cfg := { wio := fun f i => (f == 999999 && (i == 0)), live := fun r => none, dr := fun r => none }
@[simp] theorem wio83 : cf83.wio = fun f i => (f == 999999 && (i == 0)) := rfl
@[simp] theorem live83 : cf83.live = fun r => none := rfl
@[simp] theorem wr83 : cf83.wr = fun _ => [] := rfl
def cf84 : Cfg := { wio := fun f i => (f == 999999 && (i == 0)), live := fun r => if r = 1 then some [0, 1, 2, 3, 8] else if r = 4 then some [0, 1, 2, 3, 8, 9] else none, dr := fun r => if r = 4 then some [(0, 0), (1, 0), (2, 0), (3, 0), (4, 0), (5, 0), (6, 0), (7, 0), (8, 0), (9, 0), (10, 0), (11, 0), (12, 0), (13, 0), (14, 1), (15, 0), (16, 0)] else if r = 6 then some [(0, 0), (1, 0), (2, 3), (3, 3), (4, 3), (5, 0), (6, 0), (7, 0), (8, 0), (9, 0), (10, 0), (11, 0), (12, 0), (13, 0), (14, 0), (15, 2), (16, 0), (17, 2)] else none }
@[simp] theorem wio84 : cf84.wio = fun f i => (f == 999999 && (i == 0)) := rfl
@[simp] theorem live84 : cf84.live = fun r => if r = 1 then some [0, 1, 2, 3, 8] else if r = 4 then some [0, 1, 2, 3, 8, 9] else none := rfl
@[simp] theorem wr84 : cf84.wr = fun _ => [] := rfl
def cf85 : Cfg := { wio := fun f i => (f == 97 && (i == 0)) || (f == 85 && (i == 0)) || (f == 999999 && (i == 0)), live := fun r => if r = 3 then some [0, 1, 4, 10, 11] else if r = 9 then some [0, 10, 13] else if r = 15 then some [0, 2, 4, 14, 15] else if r = 21 then some [0, 14, 17] else if r = 33 then some [0, 1, 2, 3, 4, 18, 19, 20, 21, 22] else none, dr := fun r => if r = 5 then some [(0, 0), (1, 0), (2, 0), (3, 0), (4, 0), (5, 0), (6, 0), (7, 0), (8, 0), (9, 1), (10, 0)] else if r = 11 then some [(0, 0), (1, 0), (2, 3), (3, 3), (4, 3), (5, 0), (6, 0), (7, 0), (8, 0), (9, 0), (10, 0), (11, 0), (12, 0), (13, 0), (14, 0), (15, 2), (16, 0), (17, 2)] else if r = 17 then some [(0, 0), (1, 0), (2, 0), (3, 0), (4, 0), (5, 0), (6, 0), (7, 0), (8, 0), (9, 1), (10, 0), (11, 0)] else if r = 23 then some [(0, 0), (1, 0), (2, 3), (3, 3), (4, 3), (5, 0), (6, 0), (7, 0), (8, 0), (9, 0), (10, 0), (11, 0), (12, 0), (13, 0), (14, 0), (15, 2), (16, 0), (17, 2)] else if r = 35 then some [(0, 0), (1, 0), (2, 0), (3, 0), (4, 0), (5, 0), (6, 0), (7, 0), (8, 0), (9, 0), (10, 0), (11, 1), (12, 0), (13, 0)] else none }
@[simp] theorem wio85 : cf85.wio = fun f i => (f == 97 && (i == 0)) || (f == 85 && (i == 0)) || (f == 999999 && (i == 0)) := rfl
@[simp] theorem live85 : cf85.live = fun r => if r = 3 then some [0, 1, 4, 10, 11] else if r = 9 then some [0, 10, 13] else if r = 15 then some [0, 2, 4, 14, 15] else if r = 21 then some [0, 14, 17] else if r = 33 then some [0, 1, 2, 3, 4, 18, 19, 20, 21, 22] else none := rfl
@[simp] theorem wr85 : cf85.wr = fun _ => [] := rfl
def cf95 : Cfg := { wio := fun f i => (f == 999999 && (i == 0)), live := fun r => none, dr := fun r => if r = 1 then some [(0, 0), (1, 0), (2, 0), (3, 0), (4, 0), (5, 0), (6, 0), (7, 0), (8, 0), (9, 0), (10, 0), (11, 0), (12, 0), (13, 0), (14, 0), (15, 0), (16, 0), (17, 0), (18, 0)] else none }
@[simp] theorem wio95 : cf95.wio = fun f i => (f == 999999 && (i == 0)) := rfl
@[simp] theorem live95 : cf95.live = fun r => none := rfl
@[simp] theorem wr95 : cf95.wr = fun _ => [] := rfl
def cf96 : Cfg := { wio := fun f i => (f == 999999 && (i == 0)), live := fun r => none, dr := fun r => none }
@[simp] theorem wio96 : cf96.wio = fun f i => (f == 999999 && (i == 0)) := rfl
@[simp] theorem live96 : cf96.live = fun r => none := rfl
@[simp] theorem wr96 : cf96.wr = fun _ => [] := rfl
def cf97 : Cfg := { wio := fun f i => (f == 103 && (i == 0)) || (f == 999999 && (i == 0)), live := fun r => if r = 2 then some [0, 2, 4, 10, 11] else none, dr := fun r => none }
@[simp] theorem wio97 : cf97.wio = fun f i => (f == 103 && (i == 0)) || (f == 999999 && (i == 0)) := rfl
@[simp] theorem live97 : cf97.live = fun r => if r = 2 then some [0, 2, 4, 10, 11] else none := rfl
@[simp] theorem wr97 : cf97.wr = fun _ => [] := rfl
def cf103 : Cfg := { wio := fun f i => (f == 999999 && (i == 0)), live := fun r => if r = 1 then some [0, 1, 2, 3, 10] else none, dr := fun r => if r = 3 then some [(0, 0), (1, 0), (2, 0), (3, 0), (4, 3), (5, 3), (6, 3), (7, 3), (8, 0), (9, 0), (10, 0), (11, 0), (12, 0), (13, 0), (14, 0), (15, 0), (16, 0), (17, 0), (18, 0), (19, 0), (20, 0), (21, 2), (22, 0), (23, 2)] else none }
@[simp] theorem wio103 : cf103.wio = fun f i => (f == 999999 && (i == 0)) := rfl
@[simp] theorem live103 : cf103.live = fun r => if r = 1 then some [0, 1, 2, 3, 10] else none := rfl
@[simp] theorem wr103 : cf103.wr = fun _ => [] := rfl
def z1i (f : FuncId) : Option Cfg :=
  if f = 5 then some cf5 else
  if f = 6 then some cf6 else
  if f = 7 then some cf7 else
  if f = 8 then some cf8 else
  if f = 9 then some cf9 else
  if f = 10 then some cf10 else
  if f = 11 then some cf11 else
  if f = 12 then some cf12 else
  if f = 13 then some cf13 else
  if f = 14 then some cf14 else
  if f = 15 then some cf15 else
  if f = 16 then some cf16 else
  if f = 17 then some cf17 else
  if f = 18 then some cf18 else
  if f = 19 then some cf19 else
  if f = 20 then some cf20 else
  if f = 21 then some cf21 else
  if f = 22 then some cf22 else
  if f = 23 then some cf23 else
  if f = 24 then some cf24 else
  if f = 25 then some cf25 else
  if f = 26 then some cf26 else
  if f = 27 then some cf27 else
  if f = 28 then some cf28 else
  if f = 29 then some cf29 else
  if f = 30 then some cf30 else
  if f = 31 then some cf31 else
  if f = 32 then some cf32 else
  if f = 33 then some cf33 else
  if f = 34 then some cf34 else
  if f = 35 then some cf35 else
  if f = 36 then some cf36 else
  if f = 37 then some cf37 else
  if f = 38 then some cf38 else
  if f = 39 then some cf39 else
  if f = 40 then some cf40 else
  if f = 41 then some cf41 else
  if f = 42 then some cf42 else
  if f = 43 then some cf43 else
  if f = 44 then some cf44 else
  if f = 45 then some cf45 else
  if f = 46 then some cf46 else
  if f = 47 then some cf47 else
  if f = 48 then some cf48 else
  if f = 49 then some cf49 else
  if f = 50 then some cf50 else
  if f = 51 then some cf51 else
  if f = 52 then some cf52 else
  if f = 53 then some cf53 else
  if f = 54 then some cf54 else
  if f = 55 then some cf55 else
  if f = 56 then some cf56 else
  if f = 57 then some cf57 else
  if f = 58 then some cf58 else
  if f = 59 then some cf59 else
  if f = 60 then some cf60 else
  if f = 61 then some cf61 else
  if f = 62 then some cf62 else
  if f = 63 then some cf63 else
  if f = 64 then some cf64 else
  if f = 65 then some cf65 else
  if f = 66 then some cf66 else
  if f = 67 then some cf67 else
  if f = 69 then some cf69 else
  if f = 70 then some cf70 else
  if f = 71 then some cf71 else
  if f = 72 then some cf72 else
  if f = 73 then some cf73 else
  if f = 74 then some cf74 else
  if f = 75 then some cf75 else
  if f = 76 then some cf76 else
  if f = 77 then some cf77 else
  if f = 78 then some cf78 else
  if f = 79 then some cf79 else
  if f = 80 then some cf80 else
  if f = 83 then some cf83 else
  if f = 84 then some cf84 else
  if f = 85 then some cf85 else
  if f = 95 then some cf95 else
  if f = 96 then some cf96 else
  if f = 97 then some cf97 else
  if f = 103 then some cf103 else none
theorem zCZ : z1i 5 = some cf5 := rfl
theorem zCY : z1i 6 = some cf6 := rfl
theorem zCX : z1i 7 = some cf7 := rfl
theorem zCW : z1i 8 = some cf8 := rfl
theorem zBh : z1i 10 = some cf10 := rfl
theorem zBg : z1i 13 = some cf13 := rfl
theorem zBf : z1i 14 = some cf14 := rfl
theorem zBe : z1i 15 = some cf15 := rfl
theorem zBd : z1i 16 = some cf16 := rfl
theorem zBc : z1i 17 = some cf17 := rfl
theorem zBb : z1i 18 = some cf18 := rfl
theorem zBa : z1i 19 = some cf19 := rfl
theorem zB9 : z1i 20 = some cf20 := rfl
theorem zB8 : z1i 21 = some cf21 := rfl
theorem zB7 : z1i 22 = some cf22 := rfl
theorem zB6 : z1i 23 = some cf23 := rfl
theorem zB5 : z1i 27 = some cf27 := rfl
theorem zB4 : z1i 28 = some cf28 := rfl
theorem zB3 : z1i 29 = some cf29 := rfl
theorem zB2 : z1i 30 = some cf30 := rfl
theorem zB1 : z1i 31 = some cf31 := rfl
theorem zB0 : z1i 33 = some cf33 := rfl
theorem zAZ : z1i 34 = some cf34 := rfl
theorem zAY : z1i 35 = some cf35 := rfl
theorem zAX : z1i 36 = some cf36 := rfl
theorem zAW : z1i 37 = some cf37 := rfl
theorem zAV : z1i 38 = some cf38 := rfl
theorem zAU : z1i 39 = some cf39 := rfl
theorem zAT : z1i 40 = some cf40 := rfl
theorem zAS : z1i 41 = some cf41 := rfl
theorem zAR : z1i 42 = some cf42 := rfl
theorem zAQ : z1i 43 = some cf43 := rfl
theorem zAP : z1i 44 = some cf44 := rfl
theorem zAO : z1i 54 = some cf54 := rfl
theorem zAN : z1i 58 = some cf58 := rfl
theorem zAM : z1i 59 = some cf59 := rfl
theorem zAL : z1i 60 = some cf60 := rfl
theorem zAK : z1i 61 = some cf61 := rfl
theorem zAJ : z1i 62 = some cf62 := rfl
theorem zAI : z1i 63 = some cf63 := rfl
theorem zAH : z1i 64 = some cf64 := rfl
theorem zAG : z1i 65 = some cf65 := rfl
theorem zAF : z1i 76 = some cf76 := rfl
theorem zAE : z1i 77 = some cf77 := rfl
theorem zAD : z1i 78 = some cf78 := rfl
theorem zAC : z1i 79 = some cf79 := rfl
theorem fn5 : Try.prog.funcs[5]? = some Try.f5 := by kernel_rfl
theorem fn6 : Try.prog.funcs[6]? = some Try.f6 := by kernel_rfl
theorem fn7 : Try.prog.funcs[7]? = some Try.f7 := by kernel_rfl
theorem fn8 : Try.prog.funcs[8]? = some Try.f8 := by kernel_rfl
theorem zBx : Try.prog.funcs[10]? = some Try.f10 := by kernel_rfl
theorem zCP : Try.prog.funcs[13]? = some Try.f13 := by kernel_rfl
theorem zCO : Try.prog.funcs[14]? = some Try.f14 := by kernel_rfl
theorem zCN : Try.prog.funcs[15]? = some Try.f15 := by kernel_rfl
theorem zCM : Try.prog.funcs[16]? = some Try.f16 := by kernel_rfl
theorem zCL : Try.prog.funcs[17]? = some Try.f17 := by kernel_rfl
theorem zCK : Try.prog.funcs[18]? = some Try.f18 := by kernel_rfl
theorem zCJ : Try.prog.funcs[19]? = some Try.f19 := by kernel_rfl
theorem zCI : Try.prog.funcs[20]? = some Try.f20 := by kernel_rfl
theorem zBw : Try.prog.funcs[21]? = some Try.f21 := by kernel_rfl
theorem zCH : Try.prog.funcs[22]? = some Try.f22 := by kernel_rfl
theorem zCG : Try.prog.funcs[23]? = some Try.f23 := by kernel_rfl
theorem zCF : Try.prog.funcs[24]? = some Try.f24 := by kernel_rfl
theorem zBv : Try.prog.funcs[27]? = some Try.f27 := by kernel_rfl
theorem zBu : Try.prog.funcs[28]? = some Try.f28 := by kernel_rfl
theorem zCE : Try.prog.funcs[29]? = some Try.f29 := by kernel_rfl
theorem zCD : Try.prog.funcs[30]? = some Try.f30 := by kernel_rfl
theorem zCC : Try.prog.funcs[31]? = some Try.f31 := by kernel_rfl
theorem zCB : Try.prog.funcs[33]? = some Try.f33 := by kernel_rfl
theorem zCA : Try.prog.funcs[34]? = some Try.f34 := by kernel_rfl
theorem zCz : Try.prog.funcs[35]? = some Try.f35 := by kernel_rfl
theorem zCy : Try.prog.funcs[36]? = some Try.f36 := by kernel_rfl
theorem zCx : Try.prog.funcs[37]? = some Try.f37 := by kernel_rfl
theorem zCw : Try.prog.funcs[38]? = some Try.f38 := by kernel_rfl
theorem zCv : Try.prog.funcs[39]? = some Try.f39 := by kernel_rfl
theorem zCu : Try.prog.funcs[40]? = some Try.f40 := by kernel_rfl
theorem zCt : Try.prog.funcs[41]? = some Try.f41 := by kernel_rfl
theorem zCs : Try.prog.funcs[42]? = some Try.f42 := by kernel_rfl
theorem zCr : Try.prog.funcs[43]? = some Try.f43 := by kernel_rfl
theorem zCq : Try.prog.funcs[44]? = some Try.f44 := by kernel_rfl
theorem zCp : Try.prog.funcs[54]? = some Try.f54 := by kernel_rfl
theorem zCo : Try.prog.funcs[58]? = some Try.f58 := by kernel_rfl
theorem zBt : Try.prog.funcs[59]? = some Try.f59 := by kernel_rfl
theorem zCn : Try.prog.funcs[60]? = some Try.f60 := by kernel_rfl
theorem zCm : Try.prog.funcs[61]? = some Try.f61 := by kernel_rfl
theorem zCl : Try.prog.funcs[62]? = some Try.f62 := by kernel_rfl
theorem zCk : Try.prog.funcs[63]? = some Try.f63 := by kernel_rfl
theorem zCj : Try.prog.funcs[64]? = some Try.f64 := by kernel_rfl
theorem zCi : Try.prog.funcs[65]? = some Try.f65 := by kernel_rfl
theorem zCh : Try.prog.funcs[76]? = some Try.f76 := by kernel_rfl
theorem zCg : Try.prog.funcs[77]? = some Try.f77 := by kernel_rfl
theorem zCf : Try.prog.funcs[78]? = some Try.f78 := by kernel_rfl
theorem zCe : Try.prog.funcs[79]? = some Try.f79 := by kernel_rfl
noncomputable def cd5 : Code := match Try.f5.body with | some c => c | none => .skip
theorem bd5 : Try.f5.body = some cd5 := by kernel_rfl
noncomputable def cd6 : Code := match Try.f6.body with | some c => c | none => .skip
theorem bd6 : Try.f6.body = some cd6 := by kernel_rfl
noncomputable def cd7 : Code := match Try.f7.body with | some c => c | none => .skip
theorem bd7 : Try.f7.body = some cd7 := by kernel_rfl
noncomputable def cd8 : Code := match Try.f8.body with | some c => c | none => .skip
theorem bd8 : Try.f8.body = some cd8 := by kernel_rfl
noncomputable def zBD : Code := match Try.f10.body with | some c => c | none => .skip
theorem zBJ : Try.f10.body = some zBD := by kernel_rfl
noncomputable def zDB : Code := match Try.f13.body with | some c => c | none => .skip
theorem zEe : Try.f13.body = some zDB := by kernel_rfl
noncomputable def zDA : Code := match Try.f14.body with | some c => c | none => .skip
theorem zEd : Try.f14.body = some zDA := by kernel_rfl
noncomputable def zDz : Code := match Try.f15.body with | some c => c | none => .skip
theorem zEc : Try.f15.body = some zDz := by kernel_rfl
noncomputable def zDy : Code := match Try.f16.body with | some c => c | none => .skip
theorem zEb : Try.f16.body = some zDy := by kernel_rfl
noncomputable def zDx : Code := match Try.f17.body with | some c => c | none => .skip
theorem zEa : Try.f17.body = some zDx := by kernel_rfl
noncomputable def zDw : Code := match Try.f18.body with | some c => c | none => .skip
theorem zE9 : Try.f18.body = some zDw := by kernel_rfl
noncomputable def zDv : Code := match Try.f19.body with | some c => c | none => .skip
theorem zE8 : Try.f19.body = some zDv := by kernel_rfl
noncomputable def zDu : Code := match Try.f20.body with | some c => c | none => .skip
theorem zE7 : Try.f20.body = some zDu := by kernel_rfl
noncomputable def zBC : Code := match Try.f21.body with | some c => c | none => .skip
theorem zBI : Try.f21.body = some zBC := by kernel_rfl
noncomputable def zDt : Code := match Try.f22.body with | some c => c | none => .skip
theorem zE6 : Try.f22.body = some zDt := by kernel_rfl
noncomputable def zDs : Code := match Try.f23.body with | some c => c | none => .skip
theorem zE5 : Try.f23.body = some zDs := by kernel_rfl
noncomputable def zBB : Code := match Try.f24.body with | some c => c | none => .skip
theorem zE4 : Try.f24.body = some zBB := by kernel_rfl
noncomputable def zBi : Code := match Try.f27.body with | some c => c | none => .skip
theorem zBH : Try.f27.body = some zBi := by kernel_rfl
noncomputable def zBA : Code := match Try.f28.body with | some c => c | none => .skip
theorem zBG : Try.f28.body = some zBA := by kernel_rfl
noncomputable def zDr : Code := match Try.f29.body with | some c => c | none => .skip
theorem zE3 : Try.f29.body = some zDr := by kernel_rfl
noncomputable def zDq : Code := match Try.f30.body with | some c => c | none => .skip
theorem zE2 : Try.f30.body = some zDq := by kernel_rfl
noncomputable def zDp : Code := match Try.f31.body with | some c => c | none => .skip
theorem zE1 : Try.f31.body = some zDp := by kernel_rfl
noncomputable def zDo : Code := match Try.f33.body with | some c => c | none => .skip
theorem zE0 : Try.f33.body = some zDo := by kernel_rfl
noncomputable def zDn : Code := match Try.f34.body with | some c => c | none => .skip
theorem zDZ : Try.f34.body = some zDn := by kernel_rfl
noncomputable def zDm : Code := match Try.f35.body with | some c => c | none => .skip
theorem zDY : Try.f35.body = some zDm := by kernel_rfl
noncomputable def zDl : Code := match Try.f36.body with | some c => c | none => .skip
theorem zDX : Try.f36.body = some zDl := by kernel_rfl
noncomputable def zDk : Code := match Try.f37.body with | some c => c | none => .skip
theorem zDW : Try.f37.body = some zDk := by kernel_rfl
noncomputable def zDj : Code := match Try.f38.body with | some c => c | none => .skip
theorem zDV : Try.f38.body = some zDj := by kernel_rfl
noncomputable def zDi : Code := match Try.f39.body with | some c => c | none => .skip
theorem zDU : Try.f39.body = some zDi := by kernel_rfl
noncomputable def zDh : Code := match Try.f40.body with | some c => c | none => .skip
theorem zDT : Try.f40.body = some zDh := by kernel_rfl
noncomputable def zDg : Code := match Try.f41.body with | some c => c | none => .skip
theorem zDS : Try.f41.body = some zDg := by kernel_rfl
noncomputable def zDf : Code := match Try.f42.body with | some c => c | none => .skip
theorem zDR : Try.f42.body = some zDf := by kernel_rfl
noncomputable def zDe : Code := match Try.f43.body with | some c => c | none => .skip
theorem zDQ : Try.f43.body = some zDe := by kernel_rfl
noncomputable def zDd : Code := match Try.f44.body with | some c => c | none => .skip
theorem zDP : Try.f44.body = some zDd := by kernel_rfl
noncomputable def zDc : Code := match Try.f54.body with | some c => c | none => .skip
theorem zDO : Try.f54.body = some zDc := by kernel_rfl
noncomputable def zDb : Code := match Try.f58.body with | some c => c | none => .skip
theorem zDN : Try.f58.body = some zDb := by kernel_rfl
noncomputable def zBz : Code := match Try.f59.body with | some c => c | none => .skip
theorem zBF : Try.f59.body = some zBz := by kernel_rfl
noncomputable def zDa : Code := match Try.f60.body with | some c => c | none => .skip
theorem zDM : Try.f60.body = some zDa := by kernel_rfl
noncomputable def zD9 : Code := match Try.f61.body with | some c => c | none => .skip
theorem zDL : Try.f61.body = some zD9 := by kernel_rfl
noncomputable def zD8 : Code := match Try.f62.body with | some c => c | none => .skip
theorem zDK : Try.f62.body = some zD8 := by kernel_rfl
noncomputable def zD7 : Code := match Try.f63.body with | some c => c | none => .skip
theorem zDJ : Try.f63.body = some zD7 := by kernel_rfl
noncomputable def zD6 : Code := match Try.f64.body with | some c => c | none => .skip
theorem zDI : Try.f64.body = some zD6 := by kernel_rfl
noncomputable def zD5 : Code := match Try.f65.body with | some c => c | none => .skip
theorem zDH : Try.f65.body = some zD5 := by kernel_rfl
noncomputable def zD4 : Code := match Try.f76.body with | some c => c | none => .skip
theorem zDG : Try.f76.body = some zD4 := by kernel_rfl
noncomputable def zD3 : Code := match Try.f77.body with | some c => c | none => .skip
theorem zDF : Try.f77.body = some zD3 := by kernel_rfl
noncomputable def zD2 : Code := match Try.f78.body with | some c => c | none => .skip
theorem zDE : Try.f78.body = some zD2 := by kernel_rfl
noncomputable def zD1 : Code := match Try.f79.body with | some c => c | none => .skip
theorem zDD : Try.f79.body = some zD1 := by kernel_rfl
def xt : z0o := xtC
noncomputable def L : z0o := Lim Try.prog xt z1i
theorem zlC {f : FuncId} {c : Cfg} {fn : Func} {args : List T} {o : T × List T} (hc : z1i f = some c) (hfn : Try.prog.funcs[f]? = some fn) (h : ziU Try.prog L c LFm fn args = some o) : L f args = some o := ztl hc hfn h
end Go.Proofs.Ytodliknibbafeaa
end
section
namespace Go.Proofs.Ytodliknibbafeaa
open Go
theorem z7i {f : FuncId} {cf : Cfg} {fn : Func} {c : Code} {args : List T} {r : T} {outs : List T} (hc : z1i f = some cf) (hfn : Try.prog.funcs[f]? = some fn) (hb : fn.body = some c) (ha : args.length ≤ fn.ntmps ∧ (args.filter z4P).length ≤ 1 := by exact ⟨of_decide_eq_true rfl, of_decide_eq_true rfl⟩) (hz : cf.fz 999998 = none := by rfl) (g : wpC Try.prog L cf LFm c (z4L fn.ntmps args) (zwW Try.prog fn args r outs) := by simp only [z4L, z3M, z3F, z5T, z4P]; exact zrR) : L f args = some (r, outs) := zlC hc hfn (zcC hb ha g hz)
theorem zyr {f : FuncId} {cf : Cfg} {fn : Func} {c : Code} {args : List T} {r : T} {outs : List T} (hc : z1i f = some cf) (hfn : Try.prog.funcs[f]? = some fn) (hb : fn.body = some c) (ha : args.length ≤ fn.ntmps ∧ (args.filter z4P).length ≤ 1 := by exact ⟨of_decide_eq_true rfl, of_decide_eq_true rfl⟩) (hz : (cf.fz 999998).isSome = true := by rfl) (g : wpC Try.prog L cf LFm c (z4L fn.ntmps args) (zwV Try.prog fn args r outs) := by simp only [z4L, z3M, z3F, z5T, z4P]; exact zrR) : L f args = some (r, outs) := zlC hc hfn (zo0 hb ha hz g)
end Go.Proofs.Ytodliknibbafeaa
end
section
namespace Go.Proofs.Ytodliknibbafeaa
open Go.RowKit
def Cells (w : World) (ga : Option Addr) (n : Nat) (F : Nat → Value) : Prop := ∀ j, j < n → ∃ g o, ga = some ⟨g, o, none⟩ ∧ w.cell? ⟨g, o + j, none⟩ = some (F j)
theorem zcM {w w' : World} (hb : Below w.heap.size w w') {a : Addr} {v : Value} (h : w.cell? a = some v) : w'.cell? a = some v := by
  rw [hb.cell (World.block_lt_of_cell? w a h)]; exact h
theorem Cells.below {w w' : World} {ga : Option Addr} {n : Nat} {F : Nat → Value} (h : Cells w ga n F) (hb : Below w.heap.size w w') : Cells w' ga n F := fun j hj => by
  obtain ⟨g, o, e, hc⟩ := h j hj
  exact ⟨g, o, e, zcM hb hc⟩
theorem Cells.mono {w : World} {ga : Option Addr} {n m : Nat} {F : Nat → Value} (h : Cells w ga n F) (hm : m ≤ n) : Cells w ga m F := fun j hj => h j (by omega)
theorem Cells.congr {w : World} {ga : Option Addr} {n : Nat} {F G : Nat → Value} (h : Cells w ga n F) (e : ∀ j, j < n → F j = G j) : Cells w ga n G := fun j hj => by
  obtain ⟨g, o, e1, hc⟩ := h j hj
  exact ⟨g, o, e1, by rw [hc, e j hj]⟩
def IntsAt (w : World) (v : Value) (xs : List Int) : Prop :=
  ∃ ga cap, v = .slice ga xs.length cap ∧ xs.length ≤ cap ∧ cap ≤ maxLen ∧ Cells w ga xs.length (fun j => .int .i64 (xs.getD j 0))
theorem IntsAt.below {w w' : World} {v : Value} {xs : List Int} (h : IntsAt w v xs) (hb : Below w.heap.size w w') : IntsAt w' v xs := by
  obtain ⟨ga, cap, e, h1, h2, h3⟩ := h
  exact ⟨ga, cap, e, h1, h2, h3.below hb⟩
def RowsAt (w : World) (v : Value) (rows : List (List Int)) : Prop :=
  ∃ ga cap, ∃ F : Nat → Value, v = .slice ga rows.length cap ∧ rows.length ≤ cap ∧ cap ≤ maxLen ∧ Cells w ga rows.length F ∧ ∀ j, j < rows.length → IntsAt w (F j) (rows.getD j [])
theorem RowsAt.below {w w' : World} {v : Value} {rows : List (List Int)} (h : RowsAt w v rows) (hb : Below w.heap.size w w') : RowsAt w' v rows := by
  obtain ⟨ga, cap, F, e, h1, h2, h3, h4⟩ := h
  exact ⟨ga, cap, F, e, h1, h2, h3.below hb, fun j hj => (h4 j hj).below hb⟩
structure CRow where
  pre : List Int
  maps : List (List Int)
deriving Inhabited
structure Casc where
  letters : Int
  sizes : List Int
  rows : List CRow
deriving Inhabited
def CRowsAt (w : World) (v : Value) (rows : List CRow) : Prop :=
  ∃ ga cap, ∃ F G : Nat → Value, v = .slice ga rows.length cap ∧ rows.length ≤ cap ∧ cap ≤ maxLen ∧ ∀ j, (h : j < rows.length) → ∃ g o, ga = some ⟨g, o, none⟩ ∧ w.cell? ⟨g, o + j * 2, none⟩ = some (F j) ∧ w.cell? ⟨g, o + j * 2 + 1, none⟩ = some (G j) ∧ IntsAt w (F j) rows[j].pre ∧ RowsAt w (G j) rows[j].maps
theorem CRowsAt.below {w w' : World} {v : Value} {rows : List CRow} (h : CRowsAt w v rows) (hb : Below w.heap.size w w') : CRowsAt w' v rows := by
  obtain ⟨ga, cap, F, G, e, h1, h2, h3⟩ := h
  refine ⟨ga, cap, F, G, e, h1, h2, fun j hj => ?_⟩
  obtain ⟨g, o, e1, c1, c2, i1, i2⟩ := h3 j hj
  exact ⟨g, o, e1, zcM hb c1, zcM hb c2, i1.below hb, i2.below hb⟩
def CascAt (w : World) (v : Value) (c : Casc) : Prop :=
  ∃ s r, v = .agg #[.int .i64 c.letters, s, r] ∧ IntsAt w s c.sizes ∧ CRowsAt w r c.rows
theorem CascAt.below {w w' : World} {v : Value} {c : Casc} (h : CascAt w v c) (hb : Below w.heap.size w w') : CascAt w' v c := by
  obtain ⟨s, r, e, h1, h2⟩ := h
  exact ⟨s, r, e, h1.below hb, h2.below hb⟩
end Go.Proofs.Ytodliknibbafeaa
end
section
namespace Go.Proofs.Ytodliknibbafeaa
open Go
noncomputable section
set_option maxRecDepth 100000
set_option maxHeartbeats 6000000
def z3D (a0 : Int) (a1 : Int) : Option (Int) :=
  if a1 < 1 then
    some 0
  else
    chk (¬ a1 = 0) <|
    if (Int.tmod a0 a1) < 0 then
      some (IntKind.i64.wrap ((Int.tmod a0 a1) + a1))
    else
      some (Int.tmod a0 a1)
instance made_Mod_ok {a0 : Int} {a1 : Int} : Ok (z3D a0 a1) (fun r => L 15 [.sc (.int .i64 a0), .sc (.int .i64 a1)] = some (.sc (.int .i64 r), [.dead, .dead])) := ⟨fun r h => by have h := z6H h; unfold z3D at h; exact z7i zBe zCN zEc⟩
def z0D (a0 : Tape) (a1 : Int) : Option (Int × Tape) :=
  if (a0.l.length : Int) ≤ a0.at_ then
    some (0, a0)
  else
    (atI a0.l (IntKind.i64.wrap ((IntKind.i64.wrap (a0.at_ + 1)) - 1))).bind fun v3 =>
    (z3D v3 a1).bind fun v4 =>
    some (v4, (⟨a0.l, IntKind.i64.wrap (a0.at_ + 1)⟩ : Tape))
instance made_Tape_Next_ok {a0 : Tape} {a1 : Int} : Ok (z0D a0 a1) (fun r => L 20 [.vr [.sl a0.l.length (a0.l.map fun x0 => .sc (.int .i64 x0)), .sc (.int .i64 a0.at_)], .sc (.int .i64 a1)] = some (.sc (.int .i64 r.1), [.vr [.sl r.2.l.length (r.2.l.map fun x0 => .sc (.int .i64 x0)), .sc (.int .i64 r.2.at_)], .dead])) := ⟨fun r h => by have h := z6H h; unfold z0D at h; exact z7i zB9 zCI zE7⟩
def zaM (a0 : List Int) : Option (Tape) :=
  if 80 < (a0.length : Int) then
    (z4H a0 0 80).bind fun v2 =>
    some (⟨v2, 0⟩ : Tape)
  else
    some (⟨a0, 0⟩ : Tape)
instance made_New_ok {a0 : List Int} : Ok (zaM a0) (fun r => L 6 [.sl a0.length (a0.map fun x0 => .sc (.int .i64 x0))] = some (.vr [.sl r.l.length (r.l.map fun x0 => .sc (.int .i64 x0)), .sc (.int .i64 r.at_)], [.dead])) := ⟨fun r h => by have h := z6H h; unfold zaM at h; exact z7i zCY fn6 bd6⟩
abbrev z2K (a1 : Int) : Int × List Int × Int × List Int → Option ((Int × List Int × Int × List Int) ⊕ (ByteArray × Tape))
  | (w11, w12, w13, w14) =>
  if 0 < w11 then
    (z0D (⟨w12, w13⟩ : Tape) a1).bind fun v16 =>
    chk (z0T 1 (w14.length + 1)) <|
    z0q (IntKind.i64.wrap (w11 - 1), v16.2.l, v16.2.at_, w14 ++ [IntKind.u8.wrap (IntKind.i64.wrap (97 + v16.1))])
  else
    z0v <|
    some (z9F w14, (⟨w12, w13⟩ : Tape))
instance {a1 : Int} : Hd (z2K a1) := ⟨fun (w11, w12, w13, w14) => ([(8, xI w11)], [(0, .vr [.sl w12.length (w12.map fun x0 => .sc (.int .i64 x0)), .sc (.int .i64 w13)]), (7, .os 1 w14.length (w14.map fun x0 => .sc (.int .u8 x0)))])⟩
def z2o (a0 : Tape) (a1 : Int) (a2 : Int) : Option (ByteArray × Tape) :=
  (z0D a0 (IntKind.i64.wrap (a2 + 1))).bind fun v9 =>
  z0y (z2K a1) LFm (v9.1, v9.2.l, v9.2.at_, [])
instance made_Tape_Word_ok {a0 : Tape} {a1 : Int} {a2 : Int} : Ok (z2o a0 a1 a2) (fun r => L 18 [.vr [.sl a0.l.length (a0.l.map fun x0 => .sc (.int .i64 x0)), .sc (.int .i64 a0.at_)], .sc (.int .i64 a1), .sc (.int .i64 a2)] = some (.sc (.string r.1), [.vr [.sl r.2.l.length (r.2.l.map fun x0 => .sc (.int .i64 x0)), .sc (.int .i64 r.2.at_)], .dead, .dead])) := ⟨fun r h => by have h := z6H h; unfold z2o at h; exact z7i zBb zCK zE9⟩
def z2f (a0 : Tape) : Option (Int × Tape) :=
  (z0D a0 8).bind fun v2 =>
  some (IntKind.i64.wrap (2 - (zyu .i64 v2.1 7)), v2.2)
instance made_Tape_Letters_ok {a0 : Tape} : Ok (z2f a0) (fun r => L 8 [.vr [.sl a0.l.length (a0.l.map fun x0 => .sc (.int .i64 x0)), .sc (.int .i64 a0.at_)]] = some (.sc (.int .i64 r.1), [.vr [.sl r.2.l.length (r.2.l.map fun x0 => .sc (.int .i64 x0)), .sc (.int .i64 r.2.at_)]])) := ⟨fun r h => by have h := z6H h; unfold z2f at h; exact z7i zCW fn8 bd8⟩
abbrev z2L (a1 : Int) (v32 : Int × Tape) (w42 : Int) (w45 : List Bool) (w46 : List (List Int)) (v55 : Int × Tape) : Int × List Int × Int × List Int → Option ((Int × List Int × Int × List Int) ⊕ ((Int × List Int × Int × List Bool × List (List Int)) ⊕ (DFA × Tape)))
  | (w57, w58, w59, w60) =>
  if w57 < a1 then
    (z0D (⟨w58, w59⟩ : Tape) (IntKind.i64.wrap (1 + v32.1))).bind fun v62 =>
    chk (z0T 8 (w60.length + 1)) <|
    z0q (IntKind.i64.wrap (w57 + 1), v62.2.l, v62.2.at_, w60 ++ [v62.1])
  else
    z0v <|
    chk (z0T 24 (w46.length + 1)) <|
    z0q (IntKind.i64.wrap (w42 + 1), w58, w59, w45 ++ [decide (v55.1 = 1)], w46 ++ [w60])
instance {a1 : Int} {v32 : Int × Tape} {w42 : Int} {w45 : List Bool} {w46 : List (List Int)} {v55 : Int × Tape} : Hd (z2L a1 v32 w42 w45 w46 v55) := ⟨fun (w57, w58, w59, w60) => ([(11, xI w57)], [(0, .vr [.sl w58.length (w58.map fun x0 => .sc (.int .i64 x0)), .sc (.int .i64 w59)]), (10, .os 1 w60.length (w60.map fun x0 => .sc (.int .i64 x0)))])⟩
abbrev z3k (a1 : Int) (v32 : Int × Tape) (v33 : Int × Tape) : Int × List Int × Int × List Bool × List (List Int) → Option ((Int × List Int × Int × List Bool × List (List Int)) ⊕ (DFA × Tape))
  | (w42, w43, w44, w45, w46) =>
  if w42 < (IntKind.i64.wrap (1 + v32.1)) then
    (z0D (⟨w43, w44⟩ : Tape) 2).bind fun v55 =>
    chk (z0T 1 (w45.length + 1)) <|
    z0y (z2L a1 v32 w42 w45 w46 v55) LFm (0, v55.2.l, v55.2.at_, [])
  else
    z0v <|
    some ((⟨a1, v33.1, w45, w46⟩ : DFA), (⟨w43, w44⟩ : Tape))
instance {a1 : Int} {v32 : Int × Tape} {v33 : Int × Tape} : Hd (z3k a1 v32 v33) := ⟨fun (w42, w43, w44, w45, w46) => ([(9, xI w42)], [(0, .vr [.sl w43.length (w43.map fun x0 => .sc (.int .i64 x0)), .sc (.int .i64 w44)]), (7, .vr [.sc (.int .i64 a1), .sc (.int .i64 v33.1), .os 1 w45.length (w45.map fun x0 => .sc (.bool x0)), .os 1 w46.length (w46.map fun x0 => .os 1 x0.length (x0.map fun x1 => .sc (.int .i64 x1)))])])⟩
def z2M (a0 : Tape) (a1 : Int) (a2 : Int) : Option (DFA × Tape) :=
  (z0D a0 a2).bind fun v32 =>
  (z0D v32.2 (IntKind.i64.wrap (1 + v32.1))).bind fun v33 =>
  z0y (z3k a1 v32 v33) LFm (0, v33.2.l, v33.2.at_, [], [])
instance made_Tape_Dfa_ok {a0 : Tape} {a1 : Int} {a2 : Int} : Ok (z2M a0 a1 a2) (fun r => L 23 [.vr [.sl a0.l.length (a0.l.map fun x0 => .sc (.int .i64 x0)), .sc (.int .i64 a0.at_)], .sc (.int .i64 a1), .sc (.int .i64 a2)] = some (.agg [.sc (.int .i64 r.1.letters), .sc (.int .i64 r.1.start), .os 1 r.1.final.length (r.1.final.map fun x0 => .sc (.bool x0)), .os 1 r.1.next.length (r.1.next.map fun x0 => .os 1 x0.length (x0.map fun x1 => .sc (.int .i64 x1)))], [.vr [.sl r.2.l.length (r.2.l.map fun x0 => .sc (.int .i64 x0)), .sc (.int .i64 r.2.at_)], .dead, .dead])) := ⟨fun r h => by have h := z6H h; unfold z2M at h; exact z7i zB6 zCG zE5⟩
abbrev z1X (w61 : Int) (v77 : List Int) (v46 : DFA × Tape) : Int × List (List Int) → Option ((Int × List (List Int)) ⊕ ((Int × List (List Int)) ⊕ (DFA × Tape)))
  | (w81, w82) =>
  (atI w82 w61).bind fun v87 =>
  if w81 < (v77.length : Int) then
    (atI v87 w81).bind fun v88 =>
    z0q (IntKind.i64.wrap (w81 + 1), (w82.set w61.toNat (v87.set w81.toNat (if w61 < v88 then v88 else w61))))
  else
    z0v <|
    z0q (IntKind.i64.wrap (w61 + 1), w82)
instance {w61 : Int} {v77 : List Int} {v46 : DFA × Tape} : Hd (z1X w61 v77 v46) := ⟨fun (w81, w82) => ([(27, xI w81)], [(7, .vr [.sc (.int .i64 v46.1.letters), .sc (.int .i64 v46.1.start), .os 1 v46.1.final.length (v46.1.final.map fun x0 => .sc (.bool x0)), .os 1 w82.length (w82.map fun x0 => .os 1 x0.length (x0.map fun x1 => .sc (.int .i64 x1)))])])⟩
abbrev z1Y (v46 : DFA × Tape) : Int × List (List Int) → Option ((Int × List (List Int)) ⊕ (DFA × Tape))
  | (w61, w62) =>
  if w61 < (v46.1.next.length : Int) then
    (atI w62 w61).bind fun v77 =>
    z0y (z1X w61 v77 v46) LFm (0, w62)
  else
    z0v <|
    some ((⟨v46.1.letters, 0, v46.1.final, w62⟩ : DFA), v46.2)
instance {v46 : DFA × Tape} : Hd (z1Y v46) := ⟨fun (w61, w62) => ([(18, xI w61)], [(7, .vr [.sc (.int .i64 v46.1.letters), .sc (.int .i64 v46.1.start), .os 1 v46.1.final.length (v46.1.final.map fun x0 => .sc (.bool x0)), .os 1 w62.length (w62.map fun x0 => .os 1 x0.length (x0.map fun x1 => .sc (.int .i64 x1)))])])⟩
def z2e (a0 : Tape) (a1 : Int) (a2 : Int) : Option (DFA × Tape) :=
  (z2M a0 a1 a2).bind fun v46 =>
  z0y (z1Y v46) LFm (0, v46.1.next)
instance made_Tape_Ordered_ok {a0 : Tape} {a1 : Int} {a2 : Int} : Ok (z2e a0 a1 a2) (fun r => L 13 [.vr [.sl a0.l.length (a0.l.map fun x0 => .sc (.int .i64 x0)), .sc (.int .i64 a0.at_)], .sc (.int .i64 a1), .sc (.int .i64 a2)] = some (.agg [.sc (.int .i64 r.1.letters), .sc (.int .i64 r.1.start), .sl r.1.final.length (r.1.final.map fun x0 => .sc (.bool x0)), .sl r.1.next.length (r.1.next.map fun x0 => .sl x0.length (x0.map fun x1 => .sc (.int .i64 x1)))], [.vr [.sl r.2.l.length (r.2.l.map fun x0 => .sc (.int .i64 x0)), .sc (.int .i64 r.2.at_)], .dead, .dead])) := ⟨fun r h => by have h := z6H h; unfold z2e at h; exact zyr zBg zCP zEe⟩
def z1n (v90 : Int × Tape) (w125 : Int) : Int × List Int × Int × List (List Int) × List Int → Option ((Int × List Int × Int × List (List Int) × List Int) ⊕ ((Int × List Int × Int × List (List Int)) ⊕ (DFA × Tape)))
  | (w162, w163, w164, w165, w166) =>
  if w162 < (IntKind.i64.wrap (1 + v90.1)) then
    (z0D (⟨w163, w164⟩ : Tape) (w166.length : Int)).bind fun v173 =>
    (atI w165 w162).bind fun v174 =>
    (atI w166 v173.1).bind fun v175 =>
    (atI v174 w125).bind fun v176 =>
    (z4H w166 0 v173.1).bind fun v177 =>
    (z4H w166 (IntKind.i64.wrap (v173.1 + 1)) (w166.length : Int)).bind fun v178 =>
    chk (z0T 8 (v177.length)) <|
    chk (z0T 8 (v177.length + v178.length)) <|
    z0q (IntKind.i64.wrap (w162 + 1), v173.2.l, v173.2.at_, (w165.set w162.toNat (v174.set w125.toNat v175)), v177 ++ v178)
  else
    z0v <|
    z0q (IntKind.i64.wrap (w125 + 1), w163, w164, w165)
def z1l (a1 : Int) (v90 : Int × Tape) (v91 : Int × Tape) (w96 : List Bool) (w125 : Int) : Int × List Int × Int × List (List Int) × List Int → Fr
  | (w162, w163, w164, w165, w166) => ⟨90, [(0, .one (.a 0 [] (0))), (1, .one (.t none (.sc (.int .i64 a1)))), (6, .one (.a 6 [] (0))), (7, .one (.a 7 [] (0))), (8, .one (.t none (.sc (.int .i64 (IntKind.i64.wrap (1 + v90.1)))))), (10, .one (.t none (.sc (.int .i64 w125)))), (11, .one (.h 11 [])), (13, .one (.t none (.sc (.int .i64 w162)))), (1090, .one (.a 0 [] (0)))], [(0, .vr [.sl w163.length (w163.map fun x0 => .sc (.int .i64 x0)), .sc (.int .i64 w164)]), (6, .vr [.sc (.int .i64 0), .sc (.int .i64 0), .os 1 0 [], .os 1 0 []]), (7, .vr [.sc (.int .i64 a1), .sc (.int .i64 v91.1), .os 1 w96.length (w96.map fun x0 => .sc (.bool x0)), .os 1 w165.length (w165.map fun x0 => .os 1 x0.length (x0.map fun x1 => .sc (.int .i64 x1)))]), (11, .os 1 w166.length (w166.map fun x0 => .sc (.int .i64 x0)))]⟩
def z1o (v90 : Int × Tape) (w125 : Int) (w126 : List Int) (w127 : Int) (w128 : List (List Int)) : Int × List Int → Option ((Int × List Int) ⊕ ((Int × List Int × Int × List (List Int)) ⊕ (DFA × Tape)))
  | (w154, w155) =>
  if w154 < (IntKind.i64.wrap (1 + v90.1)) then
    chk (z0T 8 (w155.length + 1)) <|
    z0q (IntKind.i64.wrap (w154 + 1), w155 ++ [w154])
  else
    z0v <|
    z0y (z1n v90 w125) LFm (0, w126, w127, w128, w155)
def z1m (a1 : Int) (v90 : Int × Tape) (v91 : Int × Tape) (w96 : List Bool) (w125 : Int) (w126 : List Int) (w127 : Int) (w128 : List (List Int)) : Int × List Int → Fr
  | (w154, w155) => ⟨90, [(0, .one (.a 0 [] (0))), (1, .one (.t none (.sc (.int .i64 a1)))), (6, .one (.a 6 [] (0))), (7, .one (.a 7 [] (0))), (8, .one (.t none (.sc (.int .i64 (IntKind.i64.wrap (1 + v90.1)))))), (10, .one (.t none (.sc (.int .i64 w125)))), (11, .one (.h 11 [])), (12, .one (.t none (.sc (.int .i64 w154)))), (1090, .one (.a 0 [] (0)))], [(0, .vr [.sl w126.length (w126.map fun x0 => .sc (.int .i64 x0)), .sc (.int .i64 w127)]), (6, .vr [.sc (.int .i64 0), .sc (.int .i64 0), .os 1 0 [], .os 1 0 []]), (7, .vr [.sc (.int .i64 a1), .sc (.int .i64 v91.1), .os 1 w96.length (w96.map fun x0 => .sc (.bool x0)), .os 1 w128.length (w128.map fun x0 => .os 1 x0.length (x0.map fun x1 => .sc (.int .i64 x1)))]), (11, .os 1 w155.length (w155.map fun x0 => .sc (.int .i64 x0)))]⟩
def z1t (a1 : Int) (v90 : Int × Tape) (v91 : Int × Tape) (w96 : List Bool) : Int × List Int × Int × List (List Int) → Option ((Int × List Int × Int × List (List Int)) ⊕ (DFA × Tape))
  | (w125, w126, w127, w128) =>
  if w125 < a1 then
    z0y (z1o v90 w125 w126 w127 w128) LFm (0, [])
  else
    z0v <|
    some ((⟨a1, v91.1, w96, w128⟩ : DFA), (⟨w126, w127⟩ : Tape))
def z1r (a1 : Int) (v90 : Int × Tape) (v91 : Int × Tape) (w96 : List Bool) : Int × List Int × Int × List (List Int) → Fr
  | (w125, w126, w127, w128) => ⟨90, [(0, .one (.a 0 [] (0))), (1, .one (.t none (.sc (.int .i64 a1)))), (6, .one (.a 6 [] (0))), (7, .one (.a 7 [] (0))), (8, .one (.t none (.sc (.int .i64 (IntKind.i64.wrap (1 + v90.1)))))), (10, .one (.t none (.sc (.int .i64 w125)))), (1090, .one (.a 0 [] (0)))], [(0, .vr [.sl w126.length (w126.map fun x0 => .sc (.int .i64 x0)), .sc (.int .i64 w127)]), (6, .vr [.sc (.int .i64 0), .sc (.int .i64 0), .os 1 0 [], .os 1 0 []]), (7, .vr [.sc (.int .i64 a1), .sc (.int .i64 v91.1), .os 1 w96.length (w96.map fun x0 => .sc (.bool x0)), .os 1 w128.length (w128.map fun x0 => .os 1 x0.length (x0.map fun x1 => .sc (.int .i64 x1)))])]⟩
def z1u (a1 : Int) (v90 : Int × Tape) (v91 : Int × Tape) : Int × List Int × Int × List Bool × List (List Int) → Option ((Int × List Int × Int × List Bool × List (List Int)) ⊕ (DFA × Tape))
  | (w93, w94, w95, w96, w97) =>
  if w93 < (IntKind.i64.wrap (1 + v90.1)) then
    (z0D (⟨w94, w95⟩ : Tape) 2).bind fun v99 =>
    chk (z0T 1 (w96.length + 1)) <|
    chk (z1V 8 a1) <|
    chk (z0T 24 (w97.length + 1)) <|
    z0q (IntKind.i64.wrap (w93 + 1), v99.2.l, v99.2.at_, w96 ++ [decide (v99.1 = 1)], w97 ++ [List.replicate a1.toNat (0 : Int)])
  else
    z0v <|
    z0y (z1t a1 v90 v91 w96) LFm (0, w94, w95, w97)
def z1s (a1 : Int) (v90 : Int × Tape) (v91 : Int × Tape) : Int × List Int × Int × List Bool × List (List Int) → Fr
  | (w93, w94, w95, w96, w97) => ⟨90, [(0, .one (.a 0 [] (0))), (1, .one (.t none (.sc (.int .i64 a1)))), (6, .one (.a 6 [] (0))), (7, .one (.a 7 [] (0))), (8, .one (.t none (.sc (.int .i64 (IntKind.i64.wrap (1 + v90.1)))))), (9, .one (.t none (.sc (.int .i64 w93)))), (1090, .one (.a 0 [] (0)))], [(0, .vr [.sl w94.length (w94.map fun x0 => .sc (.int .i64 x0)), .sc (.int .i64 w95)]), (6, .vr [.sc (.int .i64 0), .sc (.int .i64 0), .os 1 0 [], .os 1 0 []]), (7, .vr [.sc (.int .i64 a1), .sc (.int .i64 v91.1), .os 1 w96.length (w96.map fun x0 => .sc (.bool x0)), .os 1 w97.length (w97.map fun x0 => .os 1 x0.length (x0.map fun x1 => .sc (.int .i64 x1)))])]⟩
def z1p (a0 : Tape) (a1 : Int) (a2 : Int) : Option (DFA × Tape) :=
  (z0D a0 a2).bind fun v90 =>
  (z0D v90.2 (IntKind.i64.wrap (1 + v90.1))).bind fun v91 =>
  z0y (z1u a1 v90 v91) LFm (0, v91.2.l, v91.2.at_, [], [])
instance made_Tape_Permutations_ok {a0 : Tape} {a1 : Int} {a2 : Int} : Ok (z1p a0 a1 a2) (fun r => L 21 [.vr [.sl a0.l.length (a0.l.map fun x0 => .sc (.int .i64 x0)), .sc (.int .i64 a0.at_)], .sc (.int .i64 a1), .sc (.int .i64 a2)] = some (.agg [.sc (.int .i64 r.1.letters), .sc (.int .i64 r.1.start), .os 1 r.1.final.length (r.1.final.map fun x0 => .sc (.bool x0)), .os 1 r.1.next.length (r.1.next.map fun x0 => .os 1 x0.length (x0.map fun x1 => .sc (.int .i64 x1)))], [.vr [.sl r.2.l.length (r.2.l.map fun x0 => .sc (.int .i64 x0)), .sc (.int .i64 r.2.at_)], .dead, .dead])) := ⟨fun r h0 => by
  simp only [z1p] at h0
  refine zlC zB8 zBw (zcC zBI ⟨of_decide_eq_true rfl, of_decide_eq_true rfl⟩ ?_)
  simp only [z4L, z3M, z3F, z5T, z4P]
  refine zq rfl (zr rfl rfl rfl (by simp; rfl) ?_)
  refine z0a (zq rfl (zr rfl rfl rfl (by simp; rfl) ?_))
  refine z0a (zq rfl ?_)
  obtain ⟨v90, f115, h1⟩ := z0i h0
  have f115k := Ok.ok _ f115
  try simp at f115k
  refine zr rfl rfl rfl (by simp [f115k]; rfl) ?_
  refine z0a (zq rfl ?_)
  obtain ⟨v91, f116, h2⟩ := z0i h1
  have f116k := Ok.ok _ f116
  try simp at f116k
  refine zr rfl rfl rfl (by simp [f116k]; rfl) ?_
  refine z0a (zq rfl (zq rfl (zr rfl rfl rfl (by simp; rfl) ?_)))
  refine z0a (zb rfl (z0R h2 (z1s a1 v90 v91) rfl rfl (by simp [z1s]) fun s o1 h3 hr1 => ?_))
  obtain ⟨w93, w94, w95, w96, w97⟩ := s
  simp only [z1u] at h3
  simp only [z1s]
  refine zq rfl (zq rfl (zr rfl rfl rfl (by simp; rfl) ?_))
  refine z0a ?_
  by_cases c125 : w93 < (IntKind.i64.wrap (1 + v90.1))
  ·rw [if_pos c125] at h3
   refine z1c rfl (by simp [c125]) (z0G rfl (z0a (zq rfl (zb rfl ?_))))
   obtain ⟨v99, f126, h4⟩ := z0i h3
   have f126k := Ok.ok _ f126
   try simp at f126k
   obtain ⟨f127, h5⟩ := zBj h4
   obtain ⟨f128, h6⟩ := zxl h5
   obtain ⟨f129, h7⟩ := z7m h6
   refine zaC rfl rfl rfl rfl ?_
   refine zhJ [(0, 0, 3, 1), (1, 2, 3, 2), (2, 7, 3, 3), (3, 9, 3, 4), (4, 1, 2, 5), (4, 3, 1, 6), (4, 8, 2, 7), (4, 10, 1, 8), (5, 3, 1, 9), (5, 8, 2, 10), (5, 10, 1, 11), (6, 4, 3, 12), (7, 1, 2, 10), (7, 3, 1, 13), (7, 10, 1, 15), (8, 1, 2, 11), (8, 3, 1, 14), (8, 8, 2, 15), (8, 11, 1, 16), (9, 4, 3, 17), (10, 3, 1, 18), (10, 10, 1, 20), (11, 3, 1, 19), (11, 8, 2, 20), (11, 11, 1, 21), (12, 1, 2, 17), (12, 5, 1, 22), (12, 8, 2, 23), (12, 10, 1, 24), (13, 4, 3, 23), (14, 4, 3, 24), (15, 1, 2, 20), (15, 3, 1, 25), (15, 11, 1, 27), (16, 1, 2, 21), (16, 3, 1, 26), (16, 8, 2, 27), (17, 5, 1, 28), (17, 8, 2, 29), (17, 10, 1, 30), (18, 4, 0, 29), (19, 4, 3, 30), (20, 3, 1, 31), (20, 11, 1, 33), (21, 3, 1, 32), (21, 8, 2, 33), (22, 1, 2, 28), (22, 8, 2, 34), (22, 10, 1, 35), (23, 1, 2, 29), (23, 5, 1, 34), (23, 10, 1, 36), (24, 1, 2, 30), (24, 5, 1, 35), (24, 8, 2, 36), (24, 11, 1, 37), (25, 4, 3, 36), (26, 4, 3, 37), (27, 1, 2, 33), (27, 3, 1, 38), (28, 6, 2, 39), (28, 8, 2, 40), (28, 10, 1, 41), (29, 5, 1, 40), (29, 10, 1, 42), (30, 5, 1, 41), (30, 8, 2, 42), (30, 11, 1, 43), (31, 4, 0, 42), (32, 4, 3, 43), (33, 3, 1, 44), (34, 1, 2, 40), (34, 10, 1, 45), (35, 1, 2, 41), (35, 8, 2, 45), (35, 11, 1, 46), (36, 1, 2, 42), (36, 5, 1, 45), (36, 11, 1, 47), (37, 1, 2, 43), (37, 5, 1, 46), (37, 8, 2, 47), (38, 4, 3, 47), (39, 8, 2, 48), (39, 10, 1, 49), (40, 6, 2, 48), (40, 10, 1, 50), (41, 6, 2, 49), (41, 8, 2, 50), (41, 11, 1, 51), (42, 5, 1, 50), (42, 11, 1, 52), (43, 5, 1, 51), (43, 8, 2, 52), (44, 4, 0, 52), (45, 1, 2, 50), (45, 11, 1, 53), (46, 1, 2, 51), (46, 8, 2, 53), (47, 1, 2, 52), (47, 5, 1, 53), (48, 13, 3, 55), (49, 8, 2, 54), (49, 11, 1, 56), (50, 6, 2, 54), (50, 11, 1, 57), (51, 6, 2, 56), (51, 8, 2, 57), (52, 5, 1, 57), (53, 1, 2, 57), (54, 13, 3, 59), (55, 10, 1, 59), (56, 8, 2, 58), (57, 6, 2, 58), (58, 13, 3, 60), (59, 11, 1, 60), (60, 12, 2, 61), (61, 14, 2, 62), (62, 15, 0, 63), (63, 16, 2, 64)] 64 (by kernel_rfl) ?_
   refine z0e rfl rfl rfl rfl (by simp [z0b, z0c, f126k, f127, f128, f129]; rfl) ?_
   refine z0e rfl rfl rfl rfl (by simp [z0b, z0c, f126k, f127, f128, f129]; rfl) ?_
   refine z0e rfl rfl rfl rfl (by simp [z0b, z0c, f126k, f127, f128, f129]; rfl) ?_
   refine z0e rfl rfl rfl rfl (by simp [z0b, z0c, f126k, f127, f128, f129]; rfl) ?_
   refine z0e rfl rfl rfl rfl (by simp [z0b, z0c, f126k, f127, f128, f129]; rfl) ?_
   refine z0e rfl rfl rfl rfl (by simp [z0b, z0c, f126k, f127, f128, f129]; rfl) ?_
   refine z0e rfl rfl rfl rfl (by simp [z0b, z0c, f126k, f127, f128, f129]; rfl) ?_
   refine z0e rfl rfl rfl rfl (by simp [z0b, z0c, f126k, f127, f128, f129]; rfl) ?_
   refine z0e rfl rfl rfl rfl (by simp [z0b, z0c, f126k, f127, f128, f129]; rfl) ?_
   refine z0e rfl rfl rfl rfl (by simp [z0b, z0c, f126k, f127, f128, f129]; rfl) ?_
   refine z0e rfl rfl rfl rfl (by simp [z0b, z0c, f126k, f127, f128, f129]; rfl) ?_
   refine z0e rfl rfl rfl rfl (by simp [z0b, z0c, f126k, f127, f128, f129]; rfl) ?_
   refine z0f rfl rfl rfl rfl (by simp [z0b, z0c, f126k, f127, f128, f129]) ?_
   refine z0e rfl rfl rfl rfl (by simp [z0b, z0c, f126k, f127, f128, f129]; rfl) ?_
   refine z0e rfl rfl rfl rfl (by simp [z0b, z0c, f126k, f127, f128, f129]; rfl) ?_
   refine z0f rfl rfl rfl rfl (by simp [z0b, z0c, f126k, f127, f128, f129]) ?_
   refine z0e rfl rfl rfl rfl (by simp [z0b, z0c, f126k, f127, f128, f129]; rfl) ?_
   refine z0f rfl rfl rfl rfl (by simp [z0b, z0c, f126k, f127, f128, f129]) ?_
   refine z0e rfl rfl rfl rfl (by simp [z0b, z0c, f126k, f127, f128, f129]; rfl) ?_
   refine z0e rfl rfl rfl rfl (by simp [z0b, z0c, f126k, f127, f128, f129]; rfl) ?_
   refine z0e rfl rfl rfl rfl (by simp [z0b, z0c, f126k, f127, f128, f129]; rfl) ?_
   refine z0e rfl rfl rfl rfl (by simp [z0b, z0c, f126k, f127, f128, f129]; rfl) ?_
   refine z0e rfl rfl rfl rfl (by simp [z0b, z0c, f126k, f127, f128, f129]; rfl) ?_
   refine z0f rfl rfl rfl rfl (by simp [z0b, z0c, f126k, f127, f128, f129]) ?_
   refine z0e rfl rfl rfl rfl (by simp [z0b, z0c, f126k, f127, f128, f129]; rfl) ?_
   refine z0f rfl rfl rfl rfl (by simp [z0b, z0c, f126k, f127, f128, f129]) ?_
   refine z0e rfl rfl rfl rfl (by simp [z0b, z0c, f126k, f127, f128, f129]; rfl) ?_
   refine z0e rfl rfl rfl rfl (by simp [z0b, z0c, f126k, f127, f128, f129]; rfl) ?_
   refine z0e rfl rfl rfl rfl (by simp [z0b, z0c, f126k, f127, f128, f129]; rfl) ?_
   refine z0f rfl rfl rfl rfl (by simp [z0b, z0c, f126k, f127, f128, f129]) ?_
   refine z0f rfl rfl rfl rfl (by simp [z0b, z0c, f126k, f127, f128, f129]) ?_
   refine z0f rfl rfl rfl rfl (by simp [z0b, z0c, f126k, f127, f128, f129]) ?_
   refine z0e rfl rfl rfl rfl (by simp [z0b, z0c, f126k, f127, f128, f129]; rfl) ?_
   refine z0e rfl rfl rfl rfl (by simp [z0b, z0c, f126k, f127, f128, f129]; rfl) ?_
   refine z0f rfl rfl rfl rfl (by simp [z0b, z0c, f126k, f127, f128, f129]) ?_
   refine z0e rfl rfl rfl rfl (by simp [z0b, z0c, f126k, f127, f128, f129]; rfl) ?_
   refine z0f rfl rfl rfl rfl (by simp [z0b, z0c, f126k, f127, f128, f129]) ?_
   refine z0e rfl rfl rfl rfl (by simp [z0b, z0c, f126k, f127, f128, f129]; rfl) ?_
   refine z0e rfl rfl rfl rfl (by simp [z0b, z0c, f126k, f127, f128, f129]; rfl) ?_
   refine z0e rfl rfl rfl rfl (by simp [z0b, z0c, f126k, f127, f128, f129]; rfl) ?_
   refine z0f rfl rfl rfl rfl (by simp [z0b, z0c, f126k, f127, f128, f129]) ?_
   refine z0f rfl rfl rfl rfl (by simp [z0b, z0c, f126k, f127, f128, f129]) ?_
   refine z0e rfl rfl rfl rfl (by simp [z0b, z0c, f126k, f127, f128, f129]; rfl) ?_
   refine z0e rfl rfl rfl rfl (by simp [z0b, z0c, f126k, f127, f128, f129]; rfl) ?_
   refine z0e rfl rfl rfl rfl (by simp [z0b, z0c, f126k, f127, f128, f129]; rfl) ?_
   refine z0f rfl rfl rfl rfl (by simp [z0b, z0c, f126k, f127, f128, f129]) ?_
   refine z0f rfl rfl rfl rfl (by simp [z0b, z0c, f126k, f127, f128, f129]) ?_
   refine z0e rfl rfl rfl rfl (by simp [z0b, z0c, f126k, f127, f128, f129]; rfl) ?_
   refine z0e rfl rfl rfl rfl (by simp [z0b, z0c, f126k, f127, f128, f129]; rfl) ?_
   refine z0f rfl rfl rfl rfl (by simp [z0b, z0c, f126k, f127, f128, f129]) ?_
   refine z0f rfl rfl rfl rfl (by simp [z0b, z0c, f126k, f127, f128, f129]) ?_
   refine z0e rfl rfl rfl rfl (by simp [z0b, z0c, f126k, f127, f128, f129]; rfl) ?_
   refine z0f rfl rfl rfl rfl (by simp [z0b, z0c, f126k, f127, f128, f129]) ?_
   refine z0f rfl rfl rfl rfl (by simp [z0b, z0c, f126k, f127, f128, f129]) ?_
   refine z0f rfl rfl rfl rfl (by simp [z0b, z0c, f126k, f127, f128, f129]) ?_
   refine z0e rfl rfl rfl rfl (by simp [z0b, z0c, f126k, f127, f128, f129]; rfl) ?_
   refine z0f rfl rfl rfl rfl (by simp [z0b, z0c, f126k, f127, f128, f129]) ?_
   refine z0f rfl rfl rfl rfl (by simp [z0b, z0c, f126k, f127, f128, f129]) ?_
   refine z0f rfl rfl rfl rfl (by simp [z0b, z0c, f126k, f127, f128, f129]) ?_
   refine z0e rfl rfl rfl rfl (by simp [z0b, z0c, f126k, f127, f128, f129]; rfl) ?_
   refine z0e rfl rfl rfl rfl (by simp [z0b, z0c, f126k, f127, f128, f129]; rfl) ?_
   refine z0e rfl rfl rfl rfl (by simp [z0b, z0c, f126k, f127, f128, f129]; rfl) ?_
   refine z0e rfl rfl rfl rfl (by simp [z0b, z0c, f126k, f127, f128, f129]; rfl) ?_
   refine z0f rfl rfl rfl rfl (by simp [z0b, z0c, f126k, f127, f128, f129]) ?_
   refine z0e rfl rfl rfl rfl (by simp [z0b, z0c, f126k, f127, f128, f129]; rfl) ?_
   refine z0f rfl rfl rfl rfl (by simp [z0b, z0c, f126k, f127, f128, f129]) ?_
   refine z0f rfl rfl rfl rfl (by simp [z0b, z0c, f126k, f127, f128, f129]) ?_
   refine z0e rfl rfl rfl rfl (by simp [z0b, z0c, f126k, f127, f128, f129]; rfl) ?_
   refine z0f rfl rfl rfl rfl (by simp [z0b, z0c, f126k, f127, f128, f129]) ?_
   refine z0f rfl rfl rfl rfl (by simp [z0b, z0c, f126k, f127, f128, f129]) ?_
   refine z0e rfl rfl rfl rfl (by simp [z0b, z0c, f126k, f127, f128, f129]; rfl) ?_
   refine z0f rfl rfl rfl rfl (by simp [z0b, z0c, f126k, f127, f128, f129]) ?_
   refine z0e rfl rfl rfl rfl (by simp [z0b, z0c, f126k, f127, f128, f129]; rfl) ?_
   refine z0f rfl rfl rfl rfl (by simp [z0b, z0c, f126k, f127, f128, f129]) ?_
   refine z0f rfl rfl rfl rfl (by simp [z0b, z0c, f126k, f127, f128, f129]) ?_
   refine z0e rfl rfl rfl rfl (by simp [z0b, z0c, f126k, f127, f128, f129]; rfl) ?_
   refine z0f rfl rfl rfl rfl (by simp [z0b, z0c, f126k, f127, f128, f129]) ?_
   refine z0f rfl rfl rfl rfl (by simp [z0b, z0c, f126k, f127, f128, f129]) ?_
   refine z0e rfl rfl rfl rfl (by simp [z0b, z0c, f126k, f127, f128, f129]; rfl) ?_
   refine z0f rfl rfl rfl rfl (by simp [z0b, z0c, f126k, f127, f128, f129]) ?_
   refine z0f rfl rfl rfl rfl (by simp [z0b, z0c, f126k, f127, f128, f129]) ?_
   refine z0f rfl rfl rfl rfl (by simp [z0b, z0c, f126k, f127, f128, f129]) ?_
   refine z0f rfl rfl rfl rfl (by simp [z0b, z0c, f126k, f127, f128, f129]) ?_
   refine z0e rfl rfl rfl rfl (by simp [z0b, z0c, f126k, f127, f128, f129]; rfl) ?_
   refine z0e rfl rfl rfl rfl (by simp [z0b, z0c, f126k, f127, f128, f129]; rfl) ?_
   refine z0f rfl rfl rfl rfl (by simp [z0b, z0c, f126k, f127, f128, f129]) ?_
   refine z0e rfl rfl rfl rfl (by simp [z0b, z0c, f126k, f127, f128, f129]; rfl) ?_
   refine z0f rfl rfl rfl rfl (by simp [z0b, z0c, f126k, f127, f128, f129]) ?_
   refine z0f rfl rfl rfl rfl (by simp [z0b, z0c, f126k, f127, f128, f129]) ?_
   refine z0e rfl rfl rfl rfl (by simp [z0b, z0c, f126k, f127, f128, f129]; rfl) ?_
   refine z0f rfl rfl rfl rfl (by simp [z0b, z0c, f126k, f127, f128, f129]) ?_
   refine z0e rfl rfl rfl rfl (by simp [z0b, z0c, f126k, f127, f128, f129]; rfl) ?_
   refine z0f rfl rfl rfl rfl (by simp [z0b, z0c, f126k, f127, f128, f129]) ?_
   refine z0f rfl rfl rfl rfl (by simp [z0b, z0c, f126k, f127, f128, f129]) ?_
   refine z0f rfl rfl rfl rfl (by simp [z0b, z0c, f126k, f127, f128, f129]) ?_
   refine z0f rfl rfl rfl rfl (by simp [z0b, z0c, f126k, f127, f128, f129]) ?_
   refine z0e rfl rfl rfl rfl (by simp [z0b, z0c, f126k, f127, f128, f129]; rfl) ?_
   refine z0f rfl rfl rfl rfl (by simp [z0b, z0c, f126k, f127, f128, f129]) ?_
   refine z0f rfl rfl rfl rfl (by simp [z0b, z0c, f126k, f127, f128, f129]) ?_
   refine z0f rfl rfl rfl rfl (by simp [z0b, z0c, f126k, f127, f128, f129]) ?_
   refine z0f rfl rfl rfl rfl (by simp [z0b, z0c, f126k, f127, f128, f129]) ?_
   refine z0e rfl rfl rfl rfl (by simp [z0b, z0c, f126k, f127, f128, f129]; rfl) ?_
   refine z0e rfl rfl rfl rfl (by simp [z0b, z0c, f126k, f127, f128, f129]; rfl) ?_
   refine z0e rfl rfl rfl rfl (by simp [z0b, z0c, f126k, f127, f128, f129]; rfl) ?_
   refine z0f rfl rfl rfl rfl (by simp [z0b, z0c, f126k, f127, f128, f129]) ?_
   refine z0e rfl rfl rfl rfl (by simp [z0b, z0c, f126k, f127, f128, f129]; rfl) ?_
   refine z0f rfl rfl rfl rfl (by simp [z0b, z0c, f126k, f127, f128, f129]) ?_
   refine z0f rfl rfl rfl rfl (by simp [z0b, z0c, f126k, f127, f128, f129]) ?_
   refine z0f rfl rfl rfl rfl (by simp [z0b, z0c, f126k, f127, f128, f129]) ?_
   refine z0f rfl rfl rfl rfl (by simp [z0b, z0c, f126k, f127, f128, f129]) ?_
   refine z0e rfl rfl rfl rfl (by simp [z0b, z0c, f126k, f127, f128, f129]; rfl) ?_
   refine z0f rfl rfl rfl rfl (by simp [z0b, z0c, f126k, f127, f128, f129]) ?_
   refine z0e rfl rfl rfl rfl (by simp [z0b, z0c, f126k, f127, f128, f129]; rfl) ?_
   refine z0f rfl rfl rfl rfl (by simp [z0b, z0c, f126k, f127, f128, f129]) ?_
   refine z0e rfl rfl rfl rfl (by simp [z0b, z0c, f126k, f127, f128, f129]; rfl) ?_
   refine z0f rfl rfl rfl rfl (by simp [z0b, z0c, f126k, f127, f128, f129]) ?_
   refine z0e rfl rfl rfl rfl (by simp [z0b, z0c, f126k, f127, f128, f129]; rfl) ?_
   refine z0e rfl rfl rfl rfl (by simp [z0b, z0c, f126k, f127, f128, f129]; rfl) ?_
   refine z0e rfl rfl rfl rfl (by simp [z0b, z0c, f126k, f127, f128, f129]; rfl) ?_
   refine z0e rfl rfl rfl rfl (by simp [z0b, z0c, f126k, f127, f128, f129]; rfl) ?_
   refine zi3 rfl ?_
   refine zas rfl (by simp [f126k, f127, f128, f129]; rfl) ?_
   refine z0m (z0a (zr rfl rfl rfl (by simp; rfl) ?_))
   have ho := z0h h7
   refine z0n ho ?_
   simp [z1s]
  ·rw [if_neg c125] at h3
   refine z0V rfl (by simp [c125]) (z0Z rfl (z0H ?_))
   obtain ⟨rr1, h4, ho1⟩ := z0w h3
   have hs1 := hr1 _ ho1
   subst hs1
   refine z0C ho1 (z0l rfl (z0a (zq rfl (zq rfl (zr rfl rfl rfl (by simp; rfl) ?_)))))
   refine z0a (zb rfl (z0R h4 (z1r a1 v90 v91 w96) rfl rfl (by simp [z1r]) fun s o2 h5 hr2 => ?_))
   obtain ⟨w125, w126, w127, w128⟩ := s
   simp only [z1t] at h5
   simp only [z1r]
   refine zq rfl (zq rfl (zr rfl rfl rfl (by simp; rfl) ?_))
   refine z0a ?_
   by_cases c196 : w125 < a1
   ·rw [if_pos c196] at h5
    refine z1c rfl (by simp [c196]) (z0G rfl (z0a (zq rfl (zb rfl (zq rfl (zr rfl rfl rfl (by simp; rfl) ?_))))))
    refine z0a (zq rfl (zq rfl (zr rfl rfl rfl (by simp; rfl) ?_)))
    refine z0a (zb rfl (z0R h5 (z1m a1 v90 v91 w96 w125 w126 w127 w128) rfl rfl (by simp [z1m]) fun s o3 h6 hr3 => ?_))
    obtain ⟨w154, w155⟩ := s
    simp only [z1o] at h6
    simp only [z1m]
    refine zq rfl (zq rfl (zr rfl rfl rfl (by simp; rfl) ?_))
    refine z0a ?_
    by_cases c200 : w154 < (IntKind.i64.wrap (1 + v90.1))
    ·rw [if_pos c200] at h6
     refine z1c rfl (by simp [c200]) (z0G rfl (z0a (zq rfl (zb rfl ?_))))
     obtain ⟨f201, h7⟩ := z7m h6
     refine zr rfl rfl rfl (by simp [f201]; rfl) ?_
     refine z0m (z0a (zr rfl rfl rfl (by simp; rfl) ?_))
     have ho := z0h h7
     refine z0n ho ?_
     simp [z1m]
    ·rw [if_neg c200] at h6
     refine z0V rfl (by simp [c200]) (z0Z rfl (z0H ?_))
     obtain ⟨rr3, h7, ho3⟩ := z0w h6
     have hs3 := hr3 _ ho3
     subst hs3
     refine z0C ho3 (z0l rfl (z0a (zq rfl (zr rfl rfl rfl (by simp; rfl) ?_))))
     refine z0a (zb rfl (z0R h7 (z1l a1 v90 v91 w96 w125) rfl rfl (by simp [z1l]) fun s o4 h8 hr4 => ?_))
     obtain ⟨w162, w163, w164, w165, w166⟩ := s
     simp only [z1n] at h8
     simp only [z1l]
     refine zq rfl (zq rfl (zr rfl rfl rfl (by simp; rfl) ?_))
     refine z0a ?_
     by_cases c220 : w162 < (IntKind.i64.wrap (1 + v90.1))
     ·rw [if_pos c220] at h8
      refine z1c rfl (by simp [c220]) (z0G rfl (z0a (zq rfl (zb rfl (zq rfl ?_)))))
      obtain ⟨v173, f221, h9⟩ := z0i h8
      have f221k := Ok.ok _ f221
      try simp at f221k
      refine zr rfl rfl rfl (by simp [f221k]; rfl) ?_
      refine z0a (zq rfl ?_)
      obtain ⟨v174, f222, h10⟩ := z0U h9
      obtain ⟨v175, f223, h11⟩ := z0U h10
      obtain ⟨v176, f224, h12⟩ := z0U h11
      refine z0I rfl rfl rfl rfl ?_; repeat' ((first | refine z0r rfl rfl fun Q' hQ => ?_ | refine z0k rfl fun Q' hQ => ?_); simp [f222, f223, f224]; refine hQ.out _ ?_; clear hQ; clear Q')
      refine z0a ?_
      obtain ⟨v177, f225, h13⟩ := z0i h12
      obtain ⟨f225a, f225b, f225c, -⟩ := z2F f225
      obtain ⟨f225d, f225g⟩ := zaF f225a f225b
      have f225e := zcF (g := fun x : Int => (.sc (.int .i64 x) : T)) f225
      try simp at f225e
      have f225f := zcE f225
      try simp only [Int.reduceToNat, Int.toNat_natCast, Nat.sub_zero] at f225f
      obtain ⟨v178, f226, h14⟩ := z0i h13
      obtain ⟨f226a, f226b, f226c, -⟩ := z2F f226
      obtain ⟨f226d, f226g⟩ := zaF f226a f226b
      have f226e := zcF (g := fun x : Int => (.sc (.int .i64 x) : T)) f226
      try simp at f226e
      have f226f := zcE f226
      try simp only [Int.reduceToNat, Int.toNat_natCast, Nat.sub_zero] at f226f
      obtain ⟨f227, h15⟩ := z7m h14
      obtain ⟨f228, h16⟩ := z7m h15
      refine z0I rfl rfl rfl rfl ?_; repeat' ((first | refine z0r rfl rfl fun Q' hQ => ?_ | refine z0k rfl fun Q' hQ => ?_); simp [f222, f225a, f225b, f225c, f225d, f225g, f225e, f225f, f226a, f226b, f226c, f226d, f226g, f226e, f226f, f227, f228]; refine hQ.out _ ?_; clear hQ; clear Q')
      refine z0m (z0a (zr rfl rfl rfl (by simp [f222]; rfl) ?_))
      have ho := z0h h16
      refine z0n ho ?_
      simp [z1l]
     ·rw [if_neg c220] at h8
      refine z0V rfl (by simp [c220]) (z0Z rfl (z0H ?_))
      obtain ⟨rr4, h9, ho4⟩ := z0w h8
      have hs4 := hr4 _ ho4
      subst hs4
      refine z0C ho4 (z0l rfl (z0m (z0a (zr rfl rfl rfl (by simp; rfl) ?_))))
      have ho := z0h h9
      refine z0n ho ?_
      simp [z1r]
   ·rw [if_neg c196] at h5
    refine z0V rfl (by simp [c196]) (z0Z rfl (z0H ?_))
    obtain ⟨rr2, h6, ho2⟩ := z0w h5
    have hs2 := hr2 _ ho2
    subst hs2
    refine z0C ho2 (z0l rfl (z0a (zq rfl (zr rfl rfl rfl (by simp; rfl) ?_))))
    refine z0a (z3m rfl ?_)
    cases h6
    simp⟩
abbrev zaK (a0 : Int) (a1 : Int) (w31 : Int) : Int × List ByteArray → Option ((Int × List ByteArray) ⊕ ((Int × List ByteArray) ⊕ List ByteArray))
  | (w43, w44) =>
  if w43 < a0 then
    (atI w44 w31).bind fun v47 =>
    if (v47.size : Int) < a1 then
      chk (z7l v47 ⟨#[UInt8.ofNat (IntKind.u8.wrap (IntKind.i64.wrap (97 + w43))).toNat]⟩) <|
      chk (z0T 16 (w44.length + 1)) <|
      z0q (IntKind.i64.wrap (w43 + 1), w44 ++ [v47 ++ ⟨#[UInt8.ofNat (IntKind.u8.wrap (IntKind.i64.wrap (97 + w43))).toNat]⟩])
    else
      z0v <|
      z0q (IntKind.i64.wrap (w31 + 1), w44)
  else
    z0v <|
    z0q (IntKind.i64.wrap (w31 + 1), w44)
instance {a0 : Int} {a1 : Int} {w31 : Int} : Hd (zaK a0 a1 w31) := ⟨fun (w43, w44) => ([(7, xI w43)], [(5, .os 1 w44.length (w44.map fun x0 => .sc (.string x0)))])⟩
abbrev zaL (a0 : Int) (a1 : Int) : Int × List ByteArray → Option ((Int × List ByteArray) ⊕ List ByteArray)
  | (w31, w32) =>
  if w31 < (w32.length : Int) then
    z0y (zaK a0 a1 w31) LFm (0, w32)
  else
    z0v <|
    some w32
instance {a0 : Int} {a1 : Int} : Hd (zaL a0 a1) := ⟨fun (w31, w32) => ([(6, xI w31)], [(5, .os 1 w32.length (w32.map fun x0 => .sc (.string x0)))])⟩
def z3U (a0 : Int) (a1 : Int) : Option (List ByteArray) :=
  z0y (zaL a0 a1) LFm (0, [ByteArray.empty])
instance made_Words_ok {a0 : Int} {a1 : Int} : Ok (z3U a0 a1) (fun r => L 44 [.sc (.int .i64 a0), .sc (.int .i64 a1)] = some (.os 1 r.length (r.map fun x0 => .sc (.string x0)), [.dead, .dead])) := ⟨fun r h => by have h := z6H h; unfold z3U at h; exact z7i zAP zCq zDP⟩
abbrev z3J (v201 : List ByteArray) (w385 : ByteArray) : Int × Int → Option ((Int × Int) ⊕ ((ByteArray × Int) ⊕ ((Int × List Int) ⊕ ((Int × List Int × Int × List Bool × List (List Int)) ⊕ (DFA × Tape)))))
  | (w394, w395) =>
  if w395 < (v201.length : Int) then
    (atI v201 w395).bind fun v397 =>
    if v397 = w385 then
      z0q (w395, IntKind.i64.wrap (w395 + 1))
    else
      z0q (w394, IntKind.i64.wrap (w395 + 1))
  else
    z0v <|
    (zo4 w385 1 (w385.size : Int)).bind fun v398 =>
    z0q (v398, w394)
instance {v201 : List ByteArray} {w385 : ByteArray} : Hd (z3J v201 w385) := ⟨fun (w394, w395) => ([(12, xI w394), (52, xI w395)], [])⟩
abbrev z1L (v201 : List ByteArray) (w357 : Int) (w358 : List Int) : ByteArray × Int → Option ((ByteArray × Int) ⊕ ((Int × List Int) ⊕ ((Int × List Int × Int × List Bool × List (List Int)) ⊕ (DFA × Tape))))
  | (w385, w386) =>
  if w386 = (-1) then
    z0y (z3J v201 w385) LFm (w386, 0)
  else
    z0v <|
    chk (z0T 8 (w358.length + 1)) <|
    z0q (IntKind.i64.wrap (w357 + 1), w358 ++ [w386])
instance {v201 : List ByteArray} {w357 : Int} {w358 : List Int} : Hd (z1L v201 w357 w358) := ⟨fun (w385, w386) => ([(11, xS w385), (12, xI w386)], [])⟩
abbrev z1v (a1 : Int) (v201 : List ByteArray) (w266 : Int) (w269 : List Bool) (w270 : List (List Int)) (v335 : ByteArray) (v336 : Int × Tape) : Int × List Int → Option ((Int × List Int) ⊕ ((Int × List Int × Int × List Bool × List (List Int)) ⊕ (DFA × Tape)))
  | (w357, w358) =>
  if w357 < a1 then
    chk (z7l v335 ⟨#[UInt8.ofNat (IntKind.u8.wrap (IntKind.i64.wrap (97 + w357))).toNat]⟩) <|
    z0y (z1L v201 w357 w358) LFm (v335 ++ ⟨#[UInt8.ofNat (IntKind.u8.wrap (IntKind.i64.wrap (97 + w357))).toNat]⟩, (-1))
  else
    z0v <|
    chk (z0T 24 (w270.length + 1)) <|
    z0q (IntKind.i64.wrap (w266 + 1), v336.2.l, v336.2.at_, w269 ++ [decide (v336.1 = 1)], w270 ++ [w358])
instance {a1 : Int} {v201 : List ByteArray} {w266 : Int} {w269 : List Bool} {w270 : List (List Int)} {v335 : ByteArray} {v336 : Int × Tape} : Hd (z1v a1 v201 w266 w269 w270 v335 v336) := ⟨fun (w357, w358) => ([(10, xI w357)], [(9, .os 1 w358.length (w358.map fun x0 => .sc (.int .i64 x0)))])⟩
abbrev z1Q (a1 : Int) (v201 : List ByteArray) : Int × List Int × Int × List Bool × List (List Int) → Option ((Int × List Int × Int × List Bool × List (List Int)) ⊕ (DFA × Tape))
  | (w266, w267, w268, w269, w270) =>
  if w266 < (v201.length : Int) then
    (atI v201 w266).bind fun v335 =>
    (z0D (⟨w267, w268⟩ : Tape) 2).bind fun v336 =>
    chk (z0T 1 (w269.length + 1)) <|
    z0y (z1v a1 v201 w266 w269 w270 v335 v336) LFm (0, [])
  else
    z0v <|
    some ((⟨a1, 0, w269, w270⟩ : DFA), (⟨w267, w268⟩ : Tape))
instance {a1 : Int} {v201 : List ByteArray} : Hd (z1Q a1 v201) := ⟨fun (w266, w267, w268, w269, w270) => ([(24, xI w266)], [(0, .vr [.sl w267.length (w267.map fun x0 => .sc (.int .i64 x0)), .sc (.int .i64 w268)]), (5, .vr [.sc (.int .i64 a1), .sc (.int .i64 0), .os 1 w269.length (w269.map fun x0 => .sc (.bool x0)), .os 1 w270.length (w270.map fun x0 => .os 1 x0.length (x0.map fun x1 => .sc (.int .i64 x1)))])])⟩
def z1R (a0 : Tape) (a1 : Int) : Option (DFA × Tape) :=
  (z0D a0 2).bind fun v200 =>
  (z3U a1 (IntKind.i64.wrap (1 + v200.1))).bind fun v201 =>
  z0y (z1Q a1 v201) LFm (0, v200.2.l, v200.2.at_, [], [])
instance made_Tape_Definite_ok {a0 : Tape} {a1 : Int} : Ok (z1R a0 a1) (fun r => L 22 [.vr [.sl a0.l.length (a0.l.map fun x0 => .sc (.int .i64 x0)), .sc (.int .i64 a0.at_)], .sc (.int .i64 a1)] = some (.agg [.sc (.int .i64 r.1.letters), .sc (.int .i64 r.1.start), .os 1 r.1.final.length (r.1.final.map fun x0 => .sc (.bool x0)), .os 1 r.1.next.length (r.1.next.map fun x0 => .os 1 x0.length (x0.map fun x1 => .sc (.int .i64 x1)))], [.vr [.sl r.2.l.length (r.2.l.map fun x0 => .sc (.int .i64 x0)), .sc (.int .i64 r.2.at_)], .dead])) := ⟨fun r h => by have h := z6H h; unfold z1R at h; exact z7i zB7 zCH zE6⟩
def z2N (a0 : Tape) (a1 : Int) (a2 : Int) : Option (DFA × Tape) :=
  (z0D a0 6).bind fun v6 =>
  if v6.1 = 1 then
    (z2e v6.2 a1 a2).bind fun v7 =>
    some (v7.1, v7.2)
  else
    if v6.1 = 2 then
      (z1p v6.2 a1 (if 4 < a2 then 4 else a2)).bind fun v8 =>
      some (v8.1, v8.2)
    else
      if v6.1 = 3 then
        (z1R v6.2 a1).bind fun v9 =>
        some (v9.1, v9.2)
      else
        (z2M v6.2 a1 a2).bind fun v10 =>
        some (v10.1, v10.2)
instance made_Tape_Any_ok {a0 : Tape} {a1 : Int} {a2 : Int} : Ok (z2N a0 a1 a2) (fun r => L 7 [.vr [.sl a0.l.length (a0.l.map fun x0 => .sc (.int .i64 x0)), .sc (.int .i64 a0.at_)], .sc (.int .i64 a1), .sc (.int .i64 a2)] = some (.agg [.sc (.int .i64 r.1.letters), .sc (.int .i64 r.1.start), .sl r.1.final.length (r.1.final.map fun x0 => .sc (.bool x0)), .sl r.1.next.length (r.1.next.map fun x0 => .sl x0.length (x0.map fun x1 => .sc (.int .i64 x1)))], [.vr [.sl r.2.l.length (r.2.l.map fun x0 => .sc (.int .i64 x0)), .sc (.int .i64 r.2.at_)], .dead, .dead])) := ⟨fun r h => by have h := z6H h; unfold z2N at h; exact zyr zCX fn7 bd7⟩
end
end Go.Proofs.Ytodliknibbafeaa
end
section
namespace Go.Proofs.Ytodliknibbafeaa
open Go
structure TapeOk (t : Tape) : Prop where
  a0 : 0 ≤ t.at_
  a1 : t.at_ ≤ t.l.length
  a2 : t.l.length ≤ 80
theorem z3V (x n : Int) (h1 : 1 ≤ n) (h2 : n < 4611686018427387904) : ∃ v, z3D x n = some v ∧ 0 ≤ v ∧ v < n := by
  have hx : x.tmod n < n := Int.tmod_lt_of_pos _ (by omega)
  have hy : -n < x.tmod n := Int.lt_tmod_of_pos x (by omega)
  unfold z3D
  rw [if_neg (by omega), z0B _ (by omega)]
  split
  · rw [z2U (by omega) (by omega)]; exact ⟨_, rfl, by omega, by omega⟩
  · exact ⟨_, rfl, by omega, by omega⟩
theorem z3C {t : Tape} (ht : TapeOk t) (n : Int) (h1 : 1 ≤ n) (h2 : n < 4611686018427387904) : ∃ v t', z0D t n = some (v, t') ∧ 0 ≤ v ∧ v < n ∧ TapeOk t' := by
  obtain ⟨a0, a1, a2⟩ := ht
  unfold z0D
  split
  · exact ⟨_, _, rfl, by omega, by omega, a0, a1, a2⟩
  · rename_i hlt
    rw [z2U (x := t.at_ + 1) (by omega) (by omega), z2U (by omega) (by omega)]
    obtain ⟨k, hk⟩ := Int.eq_ofNat_of_zero_le a0
    have e : t.at_ + 1 - 1 = (k : Int) := by omega
    rw [e, z0L (by omega)]
    obtain ⟨v, hv, h3, h4⟩ := z3V t.l[k] n h1 h2
    simp only [Option.bind_some, hv]
    exact ⟨_, _, rfl, h3, h4, by simp only; omega, by simp only; omega, a2⟩
theorem zy2 (l : List Int) : ∃ t, zaM l = some t ∧ TapeOk t := by
  unfold zaM
  split
  · rename_i h
    have := zkQ (xs := l) (k := 80) (by omega)
    simp only [Int.cast_ofNat_Int] at this
    rw [this]
    exact ⟨_, rfl, by simp, by simp, by simp only [List.length_take]; omega⟩
  · exact ⟨_, rfl, by simp, by simp, by simp; omega⟩
def zoi (m : Int) (w : ByteArray) : Prop := ∀ k, ∀ h : k < w.size, 97 ≤ (w[k].toNat : Int) ∧ (w[k].toNat : Int) < 97 + m
theorem z7T (l : List Int) : (z9F l).size = l.length := by simp [z9F, ByteArray.size]
theorem znf (l : List Int) (k : Nat) (h : k < (z9F l).size) : (z9F l)[k] = UInt8.ofNat (l[k]'(by rw [z7T] at h; exact h)).toNat := by
  simp [z9F, ByteArray.getElem_eq_getElem_data]
theorem zw0 {t : Tape} (ht : TapeOk t) (m most : Int) (hm : 1 ≤ m ∧ m ≤ 26) (hk : 0 ≤ most ∧ most < 1000) : ∃ w t', z2o t m most = some (w, t') ∧ zoi m w ∧ (w.size : Int) ≤ most ∧ TapeOk t' := by
  unfold z2o
  rw [z2U (by omega) (by omega)]
  obtain ⟨n, t1, e1, n0, n1, ht1⟩ := z3C ht (most + 1) (by omega) (by omega)
  simp only [e1, Option.bind_some]
  refine Exists.elim (z1q (b := z2K m) (fun s => 0 ≤ s.1 ∧ s.1 + s.2.2.2.length = n ∧ TapeOk ⟨s.2.1, s.2.2.1⟩ ∧ ∀ x ∈ s.2.2.2, 97 ≤ x ∧ x < 97 + m) (fun s => s.1.toNat) (fun r => zoi m r.1 ∧ (r.1.size : Int) ≤ most ∧ TapeOk r.2) ?_ LFm (n, t1.l, t1.at_, []) ⟨n0, by simp, ht1, by simp⟩ (by simp only [LFm]; omega)) fun r h => ⟨r.1, r.2, h⟩
  rintro ⟨q, l, a, b⟩ ⟨i1, i2, i3, i4⟩
  simp only at i1 i2 i3 i4 ⊢
  simp only [z2K]
  by_cases hq : 0 < q
  · left
    obtain ⟨v, t2, e2, v0, v1, ht2⟩ := z3C i3 m (by omega) (by omega)
    rw [if_pos hq, e2]
    simp only [Option.bind_some]
    rw [z0B _ (by unfold z0T; omega), z2U (x := q - 1) (by omega) (by omega), z2U (x := 97 + v) (by omega) (by omega), zvW (by omega) (by omega)]
    refine ⟨_, rfl, ⟨by simp only; omega, by simp only [List.length_append, List.length_singleton]; omega, ht2, ?_⟩, by simp only; omega⟩
    intro x hx
    rcases List.mem_append.1 hx with h | h
    · exact i4 x h
    · have : x = 97 + v := by simpa using h
      omega
  · right
    rw [if_neg hq]
    refine ⟨_, rfl, fun k hk => ?_, by rw [z7T]; omega, i3⟩
    rw [znf]
    have := i4 _ (List.getElem_mem (by rw [z7T] at hk; exact hk))
    generalize b[k]'_ = z at this
    simp only [UInt8.toNat_ofNat']
    omega
end Go.Proofs.Ytodliknibbafeaa
end
section
namespace Go.Proofs.Ytodliknibbafeaa
open Go
def z6G (m n : Nat) (r : List Int) : Prop := r.length = m ∧ ∀ x ∈ r, 0 ≤ x ∧ x < n
structure DfaOk (d : DFA) (m n : Nat) : Prop where
  lt : d.letters = m
  m1 : 1 ≤ m
  m6 : m ≤ 6
  n1 : 1 ≤ n
  fin : d.final.length = n
  nl : d.next.length = n
  s0 : 0 ≤ d.start
  s1 : d.start < n
  row : ∀ r ∈ d.next, z6G m n r
theorem ziu {σ τ ρ : Type} {b : σ → Option (σ ⊕ (τ ⊕ ρ))} (I : σ → Prop) (m : σ → Nat) (Post : τ → Prop) {s : σ} (hI : I s) (hm : m s < LFm)
    (step : ∀ s, I s → (∃ s', b s = some (.inl s') ∧ I s' ∧ m s' < m s) ∨ (∃ r, b s = some (.inr (.inl r)) ∧ Post r)) : ∃ r, z0y b LFm s = some (.inl r) ∧ Post r := by
  obtain ⟨r, h1, r', h2, h3⟩ := z1q I m (fun r => ∃ t, r = .inl t ∧ Post t) (fun s hs => (step s hs).imp id fun ⟨r, h, hp⟩ => ⟨_, h, r, rfl, hp⟩) LFm s hI hm
  exact ⟨r', by rw [h1, h2], h3⟩
theorem zaI {α : Type} {l : List α} {x y : α} : y ∈ l ++ [x] ↔ y ∈ l ∨ y = x := by simp
theorem zvQ {t : Tape} (ht : TapeOk t) (m most : Nat) (hm : 1 ≤ m ∧ m ≤ 6) (hk : 1 ≤ most ∧ most ≤ 1000) : ∃ d t' n, z2M t m most = some (d, t') ∧ DfaOk d m n ∧ n ≤ most ∧ TapeOk t' := by
  unfold z2M
  obtain ⟨v, t1, e1, v0, v1, ht1⟩ := z3C ht (most : Int) (by omega) (by omega)
  simp only [e1, Option.bind_some]
  obtain ⟨k, rfl⟩ := Int.eq_ofNat_of_zero_le v0
  have hw : IntKind.i64.wrap (1 + (k : Int)) = ((k + 1 : Nat) : Int) := by rw [z2U (by omega) (by omega)]; omega
  rw [hw]
  obtain ⟨s, t2, e2, s0, s1, ht2⟩ := z3C ht1 ((k + 1 : Nat) : Int) (by omega) (by omega)
  simp only [e2, Option.bind_some]
  refine Exists.elim (z1q (b := z3k m ((k : Int), t1) (s, t2)) (fun z => 0 ≤ z.1 ∧ z.1 ≤ (k + 1 : Nat) ∧ TapeOk ⟨z.2.1, z.2.2.1⟩ ∧ (z.2.2.2.1.length : Int) = z.1 ∧ (z.2.2.2.2.length : Int) = z.1 ∧ ∀ r ∈ z.2.2.2.2, z6G m (k + 1) r) (fun z => k + 2 - z.1.toNat)
    (fun r => DfaOk r.1 m (k + 1) ∧ TapeOk r.2) ?_ LFm (0, t2.l, t2.at_, [], []) ⟨by simp, by simp; omega, ht2, by simp, by simp, by simp⟩ (by simp only [LFm]; omega)) fun r h => ⟨r.1, r.2, k + 1, h.1, h.2.1, by omega, h.2.2⟩
  rintro ⟨i, tl, ta, fs, rs⟩ ⟨i0, i1, i2, i3, i4, i5⟩
  simp only at i0 i1 i2 i3 i4 i5 ⊢
  simp only [z3k, hw]
  by_cases hi : i < ((k + 1 : Nat) : Int)
  · left
    rw [if_pos hi]
    obtain ⟨u, t3, e3, u0, u1, ht3⟩ := z3C i2 2 (by omega) (by omega)
    simp only [e3, Option.bind_some]
    rw [z0B _ (by unfold z0T; omega)]
    refine Exists.elim (ziu (b := z2L m ((k : Int), t1) i fs rs (u, t3)) (fun z => 0 ≤ z.1 ∧ z.1 ≤ m ∧ TapeOk ⟨z.2.1, z.2.2.1⟩ ∧ (z.2.2.2.length : Int) = z.1 ∧ ∀ x ∈ z.2.2.2, 0 ≤ x ∧ x < (k + 1 : Nat)) (fun z => m + 1 - z.1.toNat)
      (fun z => z.1 = i + 1 ∧ TapeOk ⟨z.2.1, z.2.2.1⟩ ∧ (z.2.2.2.1.length : Int) = i + 1 ∧ (z.2.2.2.2.length : Int) = i + 1 ∧ ∀ r ∈ z.2.2.2.2, z6G m (k + 1) r) (s := (0, t3.l, t3.at_, [])) ⟨by simp, by simp, ht3, by simp, by simp⟩ (by simp only [LFm]; omega) ?_) fun r h => ⟨_, h.1, ⟨by have := h.2.1; omega, by have := h.2.1; omega, h.2.2.1, by have := h.2.1; have := h.2.2.2.1; omega, by have := h.2.1; have := h.2.2.2.2.1; omega, h.2.2.2.2.2⟩, by have := h.2.1; omega⟩
    rintro ⟨j, ul, ua, row⟩ ⟨j0, j1, j2, j3, j4⟩
    simp only at j0 j1 j2 j3 j4 ⊢
    simp only [z2L, hw]
    by_cases hj : j < (m : Int)
    · left
      rw [if_pos hj]
      obtain ⟨x, t4, e4, x0, x1, ht4⟩ := z3C j2 ((k + 1 : Nat) : Int) (by omega) (by omega)
      simp only [e4, Option.bind_some]
      rw [z0B _ (by unfold z0T; omega), z2U (by omega) (by omega)]
      refine ⟨_, rfl, ⟨by simp only; omega, by simp only; omega, ht4, by simp only [List.length_append, List.length_singleton]; omega, fun y hy => ?_⟩, by simp only; omega⟩
      rcases zaI.1 hy with h | rfl
      · exact j4 y h
      · exact ⟨x0, x1⟩
    · right
      rw [if_neg hj, z0B _ (by unfold z0T; omega), z2U (by omega) (by omega)]
      refine ⟨_, rfl, by simp only, j2, by simp only [List.length_append, List.length_singleton]; omega, by simp only [List.length_append, List.length_singleton]; omega, fun y hy => ?_⟩
      rcases zaI.1 hy with h | rfl
      · exact i5 y h
      · exact ⟨by omega, j4⟩
  · right
    rw [if_neg hi]
    exact ⟨_, rfl, ⟨rfl, hm.1, hm.2, by omega, by simp only; omega, by simp only; omega, s0, s1, i5⟩, i2⟩
theorem zr9 {t : Tape} (ht : TapeOk t) : ∃ m t', z2f t = some (((m : Nat) : Int), t') ∧ 1 ≤ m ∧ m ≤ 2 ∧ TapeOk t' := by
  unfold z2f
  obtain ⟨v, t1, e1, v0, v1, ht1⟩ := z3C ht 8 (by omega) (by omega)
  simp only [e1, Option.bind_some]
  obtain ⟨k, rfl⟩ := Int.eq_ofNat_of_zero_le v0
  have : zyu .i64 (k : Int) 7 = ((k / 7 : Nat) : Int) := by
    unfold zyu
    rw [show ((k : Int).tdiv 7) = ((k / 7 : Nat) : Int) by rfl, z2U (by omega) (by omega)]
  rw [this, z2U (by omega) (by omega)]
  exact ⟨2 - k / 7, t1, by congr 2; omega, by omega, by omega, ht1⟩
end Go.Proofs.Ytodliknibbafeaa
end
section
namespace Go.Proofs.Ytodliknibbafeaa
open Go
set_option maxRecDepth 100000
theorem zo1 {m n : Nat} {rs : List (List Int)} (h : ∀ r ∈ rs, z6G m n r) {r' : List Int} (hr : z6G m n r') (i : Nat) : ∀ r ∈ rs.set i r', z6G m n r := fun r hm => by
  rcases List.mem_or_eq_of_mem_set hm with h' | rfl
  · exact h r h'
  · exact hr
theorem zsU {m n : Nat} {r : List Int} (h : z6G m n r) {x : Int} (hx : 0 ≤ x ∧ x < n) (j : Nat) : z6G m n (r.set j x) := ⟨by simp [h.1], fun y hy => by
  rcases List.mem_or_eq_of_mem_set hy with h' | rfl
  · exact h.2 y h'
  · exact hx⟩
theorem zsW {m n : Nat} {rs : List (List Int)} (h : ∀ r ∈ rs, z6G m n r) {k : Nat} (hk : k < rs.length) : z6G m n rs[k] := h _ (List.getElem_mem hk)
theorem zr4 {t : Tape} (ht : TapeOk t) (m most : Nat) (hm : 1 ≤ m ∧ m ≤ 6) (hk : 1 ≤ most ∧ most ≤ 1000) : ∃ d t' n, z2e t m most = some (d, t') ∧ DfaOk d m n ∧ n ≤ most ∧ TapeOk t' := by
  unfold z2e
  obtain ⟨d, t1, n, e1, hd, hn, ht1⟩ := zvQ ht m most hm hk
  simp only [e1, Option.bind_some]
  refine Exists.elim (z1q (b := z1Y (d, t1)) (fun z => 0 ≤ z.1 ∧ z.1 ≤ n ∧ z.2.length = n ∧ ∀ r ∈ z.2, z6G m n r) (fun z => n + 1 - z.1.toNat) (fun r => DfaOk r.1 m n ∧ TapeOk r.2) ?_ LFm (0, d.next) ⟨by simp, by simp, hd.nl, hd.row⟩ (by simp only [LFm]; omega)) fun r h => ⟨r.1, r.2, n, h.1, h.2.1, hn, h.2.2⟩
  rintro ⟨i, rs⟩ ⟨i0, i1, i2, i3⟩
  simp only at i0 i1 i2 i3 ⊢
  simp only [z1Y, hd.nl]
  obtain ⟨i, rfl⟩ := Int.eq_ofNat_of_zero_le i0
  by_cases hi : (i : Int) < n
  · left
    rw [if_pos hi, z0L (by omega)]
    simp only [Option.bind_some]
    have hri := zsW i3 (show i < rs.length by omega)
    refine Exists.elim (ziu (b := z1X (i : Int) rs[i] _) (fun z => 0 ≤ z.1 ∧ z.1 ≤ m ∧ z.2.length = n ∧ ∀ r ∈ z.2, z6G m n r) (fun z => m + 1 - z.1.toNat) (fun z => z.1 = (i : Int) + 1 ∧ z.2.length = n ∧ ∀ r ∈ z.2, z6G m n r) (s := (0, rs)) ⟨by simp, by simp, i2, i3⟩ (by simp only [LFm]; omega) ?_) fun r h => ⟨_, h.1, ⟨by have := h.2.1; omega, by have := h.2.1; omega, h.2.2.1, h.2.2.2⟩, by have := h.2.1; omega⟩
    rintro ⟨j, us⟩ ⟨j0, j1, j2, j3⟩
    simp only at j0 j1 j2 j3 ⊢
    obtain ⟨j, rfl⟩ := Int.eq_ofNat_of_zero_le j0
    simp only [z1X, hri.1]
    rw [z0L (by omega)]
    simp only [Option.bind_some]
    have hui := zsW j3 (show i < us.length by omega)
    by_cases hj : (j : Int) < m
    · left
      rw [if_pos hj, z0L (by rw [hui.1]; omega), z2U (by omega) (by omega)]
      simp only [Option.bind_some]
      refine ⟨_, rfl, ⟨by simp only; omega, by simp only; omega, by simp only [List.length_set]; exact j2, zo1 j3 (zsU hui ?_ _) _⟩, by simp only; omega⟩
      have := hui.2 _ (List.getElem_mem (show j < us[i].length by rw [hui.1]; omega))
      split <;> omega
    · right
      rw [if_neg hj, z2U (by omega) (by omega)]
      exact ⟨_, rfl, rfl, j2, j3⟩
  · right
    rw [if_neg hi]
    exact ⟨_, rfl, ⟨hd.lt, hd.m1, hd.m6, hd.n1, hd.fin, by simp only; omega, by simp, by simp only; have := hd.n1; omega, i3⟩, ht1⟩
theorem zuK (m n : Nat) (hn : 1 ≤ n) : z6G m n (List.replicate m 0) := ⟨by simp, fun x hx => by rw [(List.mem_replicate.1 hx).2]; omega⟩
theorem zwo {xs : List Int} {k : Nat} (h : k < xs.length) : z4H xs 0 (k : Int) = some (xs.take k) := zkQ (by omega)
theorem zwn {xs : List Int} {k : Nat} (h : k < xs.length) : z4H xs ((k : Int) + 1) (xs.length : Int) = some (xs.drop (k + 1)) := by
  have := zmJ (xs := xs) (k := k + 1) (by omega)
  rwa [show ((k + 1 : Nat) : Int) = (k : Int) + 1 by omega] at this
theorem zuQ {t : Tape} (ht : TapeOk t) (m most : Nat) (hm : 1 ≤ m ∧ m ≤ 6) (hk : 1 ≤ most ∧ most ≤ 1000) : ∃ d t' n, z1p t m most = some (d, t') ∧ DfaOk d m n ∧ n ≤ most ∧ TapeOk t' := by
  unfold z1p
  obtain ⟨v, t1, e1, v0, v1, ht1⟩ := z3C ht (most : Int) (by omega) (by omega)
  simp only [e1, Option.bind_some]
  obtain ⟨k, rfl⟩ := Int.eq_ofNat_of_zero_le v0
  have hw : IntKind.i64.wrap (1 + (k : Int)) = ((k + 1 : Nat) : Int) := by rw [z2U (by omega) (by omega)]; omega
  rw [hw]
  obtain ⟨s, t2, e2, s0, s1, ht2⟩ := z3C ht1 ((k + 1 : Nat) : Int) (by omega) (by omega)
  simp only [e2, Option.bind_some]
  refine Exists.elim (z1q (b := z1u m ((k : Int), t1) (s, t2)) (fun z => 0 ≤ z.1 ∧ z.1 ≤ (k + 1 : Nat) ∧ TapeOk ⟨z.2.1, z.2.2.1⟩ ∧ (z.2.2.2.1.length : Int) = z.1 ∧ (z.2.2.2.2.length : Int) = z.1 ∧ ∀ r ∈ z.2.2.2.2, z6G m (k + 1) r) (fun z => k + 2 - z.1.toNat)
    (fun r => DfaOk r.1 m (k + 1) ∧ TapeOk r.2) ?_ LFm (0, t2.l, t2.at_, [], []) ⟨by simp, by simp; omega, ht2, by simp, by simp, by simp⟩ (by simp only [LFm]; omega)) fun r h => ⟨r.1, r.2, k + 1, h.1, h.2.1, by omega, h.2.2⟩
  rintro ⟨i, tl, ta, fs, rs⟩ ⟨i0, i1, i2, i3, i4, i5⟩
  simp only at i0 i1 i2 i3 i4 i5 ⊢
  simp only [z1u, hw]
  by_cases hi : i < ((k + 1 : Nat) : Int)
  · left
    rw [if_pos hi]
    obtain ⟨u, t3, e3, u0, u1, ht3⟩ := z3C i2 2 (by omega) (by omega)
    simp only [e3, Option.bind_some]
    rw [z0B _ (by unfold z0T; omega), z0B _ (by unfold z1V; omega), z0B _ (by unfold z0T; omega), z2U (by omega) (by omega)]
    refine ⟨_, rfl, ⟨by simp only; omega, by simp only; omega, ht3, by simp only [List.length_append, List.length_singleton]; omega, by simp only [List.length_append, List.length_singleton]; omega, fun y hy => ?_⟩, by simp only; omega⟩
    rcases zaI.1 hy with h | rfl
    · exact i5 y h
    · exact zuK m (k + 1) (by omega)
  · right
    rw [if_neg hi]
    refine Exists.elim (z1q (b := z1t m ((k : Int), t1) (s, t2) fs) (fun z => 0 ≤ z.1 ∧ z.1 ≤ m ∧ TapeOk ⟨z.2.1, z.2.2.1⟩ ∧ z.2.2.2.length = k + 1 ∧ ∀ r ∈ z.2.2.2, z6G m (k + 1) r) (fun z => m + 1 - z.1.toNat)
      (fun r => DfaOk r.1 m (k + 1) ∧ TapeOk r.2) ?_ LFm (0, tl, ta, rs) ⟨by simp, by simp, i2, by simp only; omega, i5⟩ (by simp only [LFm]; omega)) fun r h => ⟨r, by rw [h.1]; rfl, h.2⟩
    rintro ⟨a, ul, ua, us⟩ ⟨a0, a1, a2, a3, a4⟩
    simp only at a0 a1 a2 a3 a4 ⊢
    obtain ⟨a, rfl⟩ := Int.eq_ofNat_of_zero_le a0
    simp only [z1t]
    by_cases ha : (a : Int) < m
    · left
      rw [if_pos ha]
      refine Exists.elim (ziu (b := z1o ((k : Int), t1) (a : Int) ul ua us) (fun z => 0 ≤ z.1 ∧ z.1 ≤ (k + 1 : Nat) ∧ (z.2.length : Int) = z.1 ∧ ∀ x ∈ z.2, 0 ≤ x ∧ x < (k + 1 : Nat)) (fun z => k + 2 - z.1.toNat)
        (fun z => z.1 = (a : Int) + 1 ∧ TapeOk ⟨z.2.1, z.2.2.1⟩ ∧ z.2.2.2.length = k + 1 ∧ ∀ r ∈ z.2.2.2, z6G m (k + 1) r) (s := (0, [])) ⟨by simp, by simp; omega, by simp, by simp⟩ (by simp only [LFm]; omega) ?_) fun r h => ⟨_, h.1, ⟨by have := h.2.1; omega, by have := h.2.1; omega, h.2.2.1, h.2.2.2.1, h.2.2.2.2⟩, by have := h.2.1; omega⟩
      rintro ⟨q, left⟩ ⟨q0, q1, q2, q3⟩
      simp only at q0 q1 q2 q3 ⊢
      simp only [z1o, hw]
      by_cases hq : q < ((k + 1 : Nat) : Int)
      · left
        rw [if_pos hq, z0B _ (by unfold z0T; omega), z2U (by omega) (by omega)]
        refine ⟨_, rfl, ⟨by simp only; omega, by simp only; omega, by simp only [List.length_append, List.length_singleton]; omega, fun y hy => ?_⟩, by simp only; omega⟩
        rcases zaI.1 hy with h | rfl
        · exact q3 y h
        · omega
      · right
        rw [if_neg hq]
        refine Exists.elim (ziu (b := z1n ((k : Int), t1) (a : Int)) (fun z => 0 ≤ z.1 ∧ z.1 ≤ (k + 1 : Nat) ∧ TapeOk ⟨z.2.1, z.2.2.1⟩ ∧ z.2.2.2.1.length = k + 1 ∧ (∀ r ∈ z.2.2.2.1, z6G m (k + 1) r) ∧ (z.2.2.2.2.length : Int) = (k + 1 : Nat) - z.1 ∧ ∀ x ∈ z.2.2.2.2, 0 ≤ x ∧ x < (k + 1 : Nat)) (fun z => k + 2 - z.1.toNat)
          (fun z => z.1 = (a : Int) + 1 ∧ TapeOk ⟨z.2.1, z.2.2.1⟩ ∧ z.2.2.2.length = k + 1 ∧ ∀ r ∈ z.2.2.2, z6G m (k + 1) r) (s := (0, ul, ua, us, left)) ⟨by simp, by simp; omega, a2, a3, a4, by simp only; omega, q3⟩ (by simp only [LFm]; omega) ?_) fun r h => ⟨r, by rw [h.1]; rfl, h.2⟩
        rintro ⟨p, xl, xa, xs, lf⟩ ⟨p0, p1, p2, p3, p4, p5, p6⟩
        simp only at p0 p1 p2 p3 p4 p5 p6 ⊢
        obtain ⟨p, rfl⟩ := Int.eq_ofNat_of_zero_le p0
        simp only [z1n, hw]
        by_cases hp : (p : Int) < ((k + 1 : Nat) : Int)
        · left
          rw [if_pos hp]
          obtain ⟨x, t4, e4, x0, x1, ht4⟩ := z3C p2 (lf.length : Int) (by omega) (by omega)
          obtain ⟨x, rfl⟩ := Int.eq_ofNat_of_zero_le x0
          have hrp := zsW p4 (show p < xs.length by omega)
          have hlx : x < lf.length := by omega
          simp only [e4, Option.bind_some]
          rw [z0L (show p < xs.length by omega)]
          simp only [Option.bind_some]
          rw [z0L hlx]
          simp only [Option.bind_some]
          rw [z0L (show a < xs[p].length by rw [hrp.1]; omega), z2U (x := (x : Int) + 1) (by omega) (by omega), zwo hlx]
          simp only [Option.bind_some]
          rw [zwn hlx]
          simp only [Option.bind_some]
          rw [z0B _ (by unfold z0T; simp only [List.length_take]; omega), z0B _ (by unfold z0T; simp only [List.length_take, List.length_drop]; omega), z2U (by omega) (by omega)]
          refine ⟨_, rfl, ⟨by simp only; omega, by simp only; omega, ht4, by simp only [List.length_set]; exact p3, zo1 p4 (zsU hrp (p6 _ (List.getElem_mem hlx)) _) _, by simp only [List.length_append, List.length_take, List.length_drop]; omega, fun y hy => ?_⟩, by simp only; omega⟩
          rcases List.mem_append.1 hy with h | h
          · exact p6 y (List.mem_of_mem_take h)
          · exact p6 y (List.mem_of_mem_drop h)
        · right
          rw [if_neg hp, z2U (by omega) (by omega)]
          exact ⟨_, rfl, rfl, p2, p3, p4⟩
    · right
      rw [if_neg ha]
      exact ⟨_, rfl, ⟨rfl, hm.1, hm.2, by omega, by simp only; omega, a3, s0, s1, a4⟩, a2⟩
end Go.Proofs.Ytodliknibbafeaa
end
section
namespace Go.Proofs.Ytodliknibbafeaa
open Go
noncomputable section
set_option maxRecDepth 100000
set_option maxHeartbeats 6000000
def z1D (a0 : Int) : Option (Bool) :=
  if 1 ≤ a0 then
    some (decide (a0 ≤ 6))
  else
    some false
instance ref01_MayLetters_ok {a0 : Int} : Ok (z1D a0) (fun r => L 14 [.sc (.int .i64 a0)] = some (.sc (.bool r), [.dead])) := ⟨fun r h => by have h := z6H h; unfold z1D at h; exact z7i zBf zCO zEd⟩
abbrev z5Q (a0 : DFA) (w24 : Int) (v30 : List Int) : Int → Option (Int ⊕ (Int ⊕ Int))
  | w32 =>
  if w32 < (v30.length : Int) then
    (atI v30 w32).bind fun v34 =>
    if v34 < 0 then
      z0v <|
      z0v <|
      some 4
    else
      if (a0.final.length : Int) ≤ v34 then
        z0v <|
        z0v <|
        some 4
      else
        z0q (IntKind.i64.wrap (w32 + 1))
  else
    z0v <|
    z0q (IntKind.i64.wrap (w24 + 1))
instance {a0 : DFA} {w24 : Int} {v30 : List Int} : Hd (z5Q a0 w24 v30) := ⟨fun w32 => ([(51, xI w32)], [])⟩
abbrev z3R (a0 : DFA) : Int → Option (Int ⊕ Int)
  | w24 =>
  if w24 < (a0.next.length : Int) then
    (atI a0.next w24).bind fun v30 =>
    if (v30.length : Int) = a0.letters then
      z0y (z5Q a0 w24 v30) LFm 0
    else
      z0v <|
      some 4
  else
    z0v <|
    some 0
instance {a0 : DFA} : Hd (z3R a0) := ⟨fun w24 => ([(40, xI w24)], [])⟩
def z3d (a0 : DFA) : Option (Int) :=
  (z1D a0.letters).bind fun v18 =>
  if v18 = true then
    if 512 < (a0.final.length : Int) then
      some 3
    else
      if (a0.final.length : Int) = 0 then
        some 4
      else
        if (a0.next.length : Int) = (a0.final.length : Int) then
          if a0.start < 0 then
            some 4
          else
            if (a0.final.length : Int) ≤ a0.start then
              some 4
            else
              z0y (z3R a0) LFm 0
        else
          some 4
  else
    some 1
instance ref07_Validate_ok {a0 : DFA} : Ok (z3d a0) (fun r => L 62 [.agg [.sc (.int .i64 a0.letters), .sc (.int .i64 a0.start), .sl a0.final.length (a0.final.map fun x0 => .sc (.bool x0)), .sl a0.next.length (a0.next.map fun x0 => .sl x0.length (x0.map fun x1 => .sc (.int .i64 x1)))]] = some (.sc (.int .i64 r), [.dead])) := ⟨fun r h => by have h := z6H h; unfold z3d at h; exact z7i zAJ zCl zDK⟩
abbrev z3l (a0 : DFA) (w22 : Int) (v28 : List Int) : Int → Option (Int ⊕ (Int ⊕ Int))
  | w30 =>
  if w30 < (v28.length : Int) then
    (atI v28 w30).bind fun v32 =>
    if v32 < 0 then
      z0v <|
      z0v <|
      some 4
    else
      if (a0.final.length : Int) ≤ v32 then
        z0v <|
        z0v <|
        some 4
      else
        z0q (IntKind.i64.wrap (w30 + 1))
  else
    z0v <|
    z0q (IntKind.i64.wrap (w22 + 1))
instance {a0 : DFA} {w22 : Int} {v28 : List Int} : Hd (z3l a0 w22 v28) := ⟨fun w30 => ([(51, xI w30)], [])⟩
abbrev z2h (a0 : DFA) : Int → Option (Int ⊕ Int)
  | w22 =>
  if w22 < (a0.next.length : Int) then
    (atI a0.next w22).bind fun v28 =>
    if (v28.length : Int) = a0.letters then
      z0y (z3l a0 w22 v28) LFm 0
    else
      z0v <|
      some 4
  else
    z0v <|
    some 0
instance {a0 : DFA} : Hd (z2h a0) := ⟨fun w22 => ([(40, xI w22)], [])⟩
def z4M (a0 : DFA) : Option (Int) :=
  if a0.letters < 1 then
    some 1
  else
    if 6 < a0.letters then
      some 1
    else
      if 512 < (a0.final.length : Int) then
        some 3
      else
        if (a0.next.length : Int) = (a0.final.length : Int) then
          if a0.start < 0 then
            some 4
          else
            if (a0.final.length : Int) ≤ a0.start then
              some 4
            else
              z0y (z2h a0) LFm 0
        else
          some 4
instance dfa_Validate_ok {a0 : DFA} : Ok (z4M a0) (fun r => L 33 [.agg [.sc (.int .i64 a0.letters), .sc (.int .i64 a0.start), .sl a0.final.length (a0.final.map fun x0 => .sc (.bool x0)), .sl a0.next.length (a0.next.map fun x0 => .sl x0.length (x0.map fun x1 => .sc (.int .i64 x1)))]] = some (.sc (.int .i64 r), [.dead])) := ⟨fun r h => by have h := z6H h; unfold z4M at h; exact z7i zB0 zCB zE0⟩
def z6t (a0 : DFA) : Option (Int) :=
  (z3d a0).bind fun v2 =>
  if v2 = 0 then
    if 12 < (a0.final.length : Int) then
      some 3
    else
      some 0
  else
    some v2
instance ref24_May_ok {a0 : DFA} : Ok (z6t a0) (fun r => L 39 [.agg [.sc (.int .i64 a0.letters), .sc (.int .i64 a0.start), .sl a0.final.length (a0.final.map fun x0 => .sc (.bool x0)), .sl a0.next.length (a0.next.map fun x0 => .sl x0.length (x0.map fun x1 => .sc (.int .i64 x1)))]] = some (.sc (.int .i64 r), [.dead])) := ⟨fun r h => by have h := z6H h; unfold z6t at h; exact z7i zAU zCv zDU⟩
abbrev z4h (a0 : ByteArray) (a1 : Int) : Int → Option (Int ⊕ Bool)
  | w12 =>
  if w12 < (a0.size : Int) then
    (ziP a0 w12).bind fun v15 =>
    if v15 < 97 then
      z0v <|
      some false
    else
      if a1 ≤ (IntKind.i64.wrap (IntKind.u8.wrap (v15 - 97))) then
        z0v <|
        some false
      else
        z0q (IntKind.i64.wrap (w12 + 1))
  else
    z0v <|
    some true
instance {a0 : ByteArray} {a1 : Int} : Hd (z4h a0 a1) := ⟨fun w12 => ([(5, xI w12)], [])⟩
def z2E (a0 : ByteArray) (a1 : Int) : Option (Bool) :=
  (z1D a1).bind fun v9 =>
  if v9 = true then
    if 2048 < (a0.size : Int) then
      some false
    else
      z0y (z4h a0 a1) LFm 0
  else
    some false
instance ref01_Valid_ok {a0 : ByteArray} {a1 : Int} : Ok (z2E a0 a1) (fun r => L 41 [.sc (.string a0), .sc (.int .i64 a1)] = some (.sc (.bool r), [.dead, .dead])) := ⟨fun r h => by have h := z6H h; unfold z2E at h; exact z7i zAS zCt zDS⟩
abbrev z9L (a0 : ByteArray) (a1 : Int) : Int → Option (Int ⊕ Bool)
  | w10 =>
  if w10 < (a0.size : Int) then
    (ziP a0 w10).bind fun v13 =>
    if v13 < 97 then
      z0v <|
      some false
    else
      if a1 ≤ (IntKind.i64.wrap (IntKind.u8.wrap (v13 - 97))) then
        z0v <|
        some false
      else
        z0q (IntKind.i64.wrap (w10 + 1))
  else
    z0v <|
    some true
instance {a0 : ByteArray} {a1 : Int} : Hd (z9L a0 a1) := ⟨fun w10 => ([(19, xI w10)], [])⟩
def z6d (a0 : ByteArray) (a1 : Int) : Option (Bool) :=
  if a1 < 1 then
    some false
  else
    if 6 < a1 then
      some false
    else
      if 2048 < (a0.size : Int) then
        some false
      else
        z0y (z9L a0 a1) LFm 0
instance word_Valid_ok {a0 : ByteArray} {a1 : Int} : Ok (z6d a0 a1) (fun r => L 36 [.sc (.string a0), .sc (.int .i64 a1)] = some (.sc (.bool r), [.dead, .dead])) := ⟨fun r h => by have h := z6H h; unfold z6d at h; exact z7i zAX zCy zDX⟩
def z6u (a0 : DFA) : Option (Int) :=
  chk (¬ (IntKind.u64.wrap (a0.final.length : Int)) < 0) <|
  some (IntKind.i64.wrap ((zuE .i64 1 (IntKind.u64.wrap (a0.final.length : Int))) - 1))
instance ref24_All_ok {a0 : DFA} : Ok (z6u a0) (fun r => L 63 [.agg [.sc (.int .i64 a0.letters), .sc (.int .i64 a0.start), .sl a0.final.length (a0.final.map fun x0 => .sc (.bool x0)), .sl a0.next.length (a0.next.map fun x0 => .sl x0.length (x0.map fun x1 => .sc (.int .i64 x1)))]] = some (.sc (.int .i64 r), [.dead])) := ⟨fun r h => by have h := z6H h; unfold z6u at h; exact z7i zAI zCk zDJ⟩
def z3Q (a0 : DFA) (a1 : Int) : Option (Bool) :=
  if 0 ≤ a1 then
    (z6u a0).bind fun v2 =>
    some (decide (a1 ≤ v2))
  else
    some false
instance ref24_IsSet_ok {a0 : DFA} {a1 : Int} : Ok (z3Q a0 a1) (fun r => L 40 [.agg [.sc (.int .i64 a0.letters), .sc (.int .i64 a0.start), .sl a0.final.length (a0.final.map fun x0 => .sc (.bool x0)), .sl a0.next.length (a0.next.map fun x0 => .sl x0.length (x0.map fun x1 => .sc (.int .i64 x1)))], .sc (.int .i64 a1)] = some (.sc (.bool r), [.dead, .dead])) := ⟨fun r h => by have h := z6H h; unfold z3Q at h; exact z7i zAT zCu zDT⟩
abbrev z3z (a0 : DFA) (a1 : Int) (a2 : Int) : Int × Int → Option ((Int × Int) ⊕ Int)
  | (w11, w12) =>
  if w12 < (a0.final.length : Int) then
    chk (¬ (IntKind.u64.wrap w12) < 0) <|
    if (zoY .i64 (zwb .i64 a1 (IntKind.u64.wrap w12)) 1) = 1 then
      (atI a0.next w12).bind fun v15 =>
      (atI v15 a2).bind fun v16 =>
      chk (¬ (IntKind.u64.wrap v16) < 0) <|
      z0q (orI .i64 w11 (zuE .i64 1 (IntKind.u64.wrap v16)), IntKind.i64.wrap (w12 + 1))
    else
      z0q (w11, IntKind.i64.wrap (w12 + 1))
  else
    z0v <|
    some w11
instance {a0 : DFA} {a1 : Int} {a2 : Int} : Hd (z3z a0 a1 a2) := ⟨fun (w11, w12) => ([(7, xI w11), (12, xI w12)], [])⟩
def z2C (a0 : DFA) (a1 : Int) (a2 : Int) : Option (Int) :=
  z0y (z3z a0 a1 a2) LFm (0, 0)
instance ref24_Letter_ok {a0 : DFA} {a1 : Int} {a2 : Int} : Ok (z2C a0 a1 a2) (fun r => L 30 [.agg [.sc (.int .i64 a0.letters), .sc (.int .i64 a0.start), .sl a0.final.length (a0.final.map fun x0 => .sc (.bool x0)), .sl a0.next.length (a0.next.map fun x0 => .sl x0.length (x0.map fun x1 => .sc (.int .i64 x1)))], .sc (.int .i64 a1), .sc (.int .i64 a2)] = some (.sc (.int .i64 r), [.dead, .dead, .dead])) := ⟨fun r h => by have h := z6H h; unfold z2C at h; exact z7i zB2 zCD zE2⟩
abbrev z4V (a0 : DFA) (a2 : ByteArray) : Int × Int → Option ((Int × Int) ⊕ Int)
  | (w11, w12) =>
  if w12 < (a2.size : Int) then
    (ziP a2 w12).bind fun v15 =>
    (z2C a0 w11 (IntKind.i64.wrap (IntKind.u8.wrap (v15 - 97)))).bind fun v16 =>
    z0q (v16, IntKind.i64.wrap (w12 + 1))
  else
    z0v <|
    some w11
instance {a0 : DFA} {a2 : ByteArray} : Hd (z4V a0 a2) := ⟨fun (w11, w12) => ([(1, xI w11), (7, xI w12)], [])⟩
def z3q (a0 : DFA) (a1 : Int) (a2 : ByteArray) : Option (Int) :=
  z0y (z4V a0 a2) LFm (a1, 0)
instance ref24_Word_ok {a0 : DFA} {a1 : Int} {a2 : ByteArray} : Ok (z3q a0 a1 a2) (fun r => L 43 [.agg [.sc (.int .i64 a0.letters), .sc (.int .i64 a0.start), .sl a0.final.length (a0.final.map fun x0 => .sc (.bool x0)), .sl a0.next.length (a0.next.map fun x0 => .sl x0.length (x0.map fun x1 => .sc (.int .i64 x1)))], .sc (.int .i64 a1), .sc (.string a2)] = some (.sc (.int .i64 r), [.dead, .dead, .dead])) := ⟨fun r h => by have h := z6H h; unfold z3q at h; exact z7i zAQ zCr zDQ⟩
def z3b (a0 : DFA) (w53 : Int) : Int × List Int × List ByteArray × (List (Int × Bool)) → Option ((Int × List Int × List ByteArray × (List (Int × Bool))) ⊕ ((Int × List Int × List ByteArray × (List (Int × Bool))) ⊕ (List Int × List ByteArray)))
  | (w73, w74, w75, w76) =>
  if w73 < a0.letters then
    (atI w74 w53).bind fun v80 =>
    (z2C a0 v80 w73).bind fun v81 =>
    if ((zaS v81 w76).getD false) = true then
      z0q (IntKind.i64.wrap (w73 + 1), w74, w75, w76)
    else
      (atI w75 w53).bind fun v82 =>
      chk (z0T 8 (w74.length + 1)) <|
      chk (z7l v82 ⟨#[UInt8.ofNat (IntKind.u8.wrap (IntKind.i64.wrap (97 + w73))).toNat]⟩) <|
      chk (z0T 16 (w75.length + 1)) <|
      z0q (IntKind.i64.wrap (w73 + 1), w74 ++ [v81], w75 ++ [v82 ++ ⟨#[UInt8.ofNat (IntKind.u8.wrap (IntKind.i64.wrap (97 + w73))).toNat]⟩], zf2 v81 true w76)
  else
    z0v <|
    z0q (IntKind.i64.wrap (w53 + 1), w74, w75, w76)
def z3a (a0 : DFA) (w53 : Int) : Int × List Int × List ByteArray × (List (Int × Bool)) → Fr
  | (w73, w74, w75, w76) => ⟨62, [(2, .one (.a 2 [] (0))), (6, .one (.h 6 [])), (7, .one (.h 7 [])), (8, .one (.h 8 [])), (9, .one (.t none (.sc (.int .i64 w53)))), (10, .one (.t none (.sc (.int .i64 w73))))], [(2, .vr [.sc (.int .i64 a0.letters), .sc (.int .i64 a0.start), .sl a0.final.length (a0.final.map fun x0 => .sc (.bool x0)), .sl a0.next.length (a0.next.map fun x0 => .sl x0.length (x0.map fun x1 => .sc (.int .i64 x1)))]), (6, .os 1 w74.length (w74.map fun x0 => .sc (.int .i64 x0))), (7, .os 1 w75.length (w75.map fun x0 => .sc (.string x0))), (8, .mp (some .i64) (w76.map fun x0 => (.int .i64 x0.1, .bool x0.2)))]⟩
def z5W (a0 : DFA) : Int × List Int × List ByteArray × (List (Int × Bool)) → Option ((Int × List Int × List ByteArray × (List (Int × Bool))) ⊕ (List Int × List ByteArray))
  | (w53, w54, w55, w56) =>
  if w53 < (w54.length : Int) then
    z0y (z3b a0 w53) LFm (0, w54, w55, w56)
  else
    z0v <|
    some (w54, w55)
def z4g (a0 : DFA) : Int × List Int × List ByteArray × (List (Int × Bool)) → Fr
  | (w53, w54, w55, w56) => ⟨62, [(2, .one (.a 2 [] (0))), (6, .one (.h 6 [])), (7, .one (.h 7 [])), (8, .one (.h 8 [])), (9, .one (.t none (.sc (.int .i64 w53))))], [(2, .vr [.sc (.int .i64 a0.letters), .sc (.int .i64 a0.start), .sl a0.final.length (a0.final.map fun x0 => .sc (.bool x0)), .sl a0.next.length (a0.next.map fun x0 => .sl x0.length (x0.map fun x1 => .sc (.int .i64 x1)))]), (6, .os 1 w54.length (w54.map fun x0 => .sc (.int .i64 x0))), (7, .os 1 w55.length (w55.map fun x0 => .sc (.string x0))), (8, .mp (some .i64) (w56.map fun x0 => (.int .i64 x0.1, .bool x0.2)))]⟩
def z2A (a0 : DFA) (a1 : Int) : Option (List Int × List ByteArray) :=
  z0y (z5W a0) LFm (0, [a1], [ByteArray.empty], zf2 a1 true ([] : List (Int × Bool)))
instance ref24_Reach_ok {a0 : DFA} {a1 : Int} : Ok (z2A a0 a1) (fun r => L 59 [.agg [.sc (.int .i64 a0.letters), .sc (.int .i64 a0.start), .sl a0.final.length (a0.final.map fun x0 => .sc (.bool x0)), .sl a0.next.length (a0.next.map fun x0 => .sl x0.length (x0.map fun x1 => .sc (.int .i64 x1)))], .sc (.int .i64 a1)] = some (.tup [.os 1 r.1.length (r.1.map fun x0 => .sc (.int .i64 x0)), .os 1 r.2.length (r.2.map fun x0 => .sc (.string x0))], [.dead, .dead])) := ⟨fun r h0 => by
  simp only [z2A] at h0
  refine zlC zAM zBt (zcC zBF ⟨of_decide_eq_true rfl, of_decide_eq_true rfl⟩ ?_)
  simp only [z4L, z3M, z3F, z5T, z4P]
  refine zq rfl (zr rfl rfl rfl (by simp; rfl) ?_)
  refine z0a (zq rfl (zr rfl rfl rfl (by simp; rfl) ?_))
  refine z0a (zq rfl (zr rfl rfl rfl (by simp; rfl) ?_))
  refine z0a (zq rfl (zq rfl (zr rfl rfl rfl (by simp; rfl) ?_)))
  refine z0a (zb rfl (z0R h0 (z4g a0) rfl rfl (by simp [z4g]) fun s o1 h1 hr1 => ?_))
  obtain ⟨w53, w54, w55, w56⟩ := s
  simp only [z5W] at h1
  simp only [z4g]
  refine zq rfl (zq rfl (zr rfl rfl rfl (by simp; rfl) ?_))
  refine z0a ?_
  by_cases c118 : w53 < (w54.length : Int)
  ·rw [if_pos c118] at h1
   refine z1c rfl (by simp [c118]) (z0G rfl (z0a (zq rfl (zb rfl (zq rfl (zr rfl rfl rfl (by simp; rfl) ?_))))))
   refine z0a (zb rfl (z0R h1 (z3a a0 w53) rfl rfl (by simp [z3a]) fun s o2 h2 hr2 => ?_))
   obtain ⟨w73, w74, w75, w76⟩ := s
   simp only [z3b] at h2
   simp only [z3a]
   refine zq rfl (zq rfl (zr rfl rfl rfl (by simp; rfl) ?_))
   refine z0a ?_
   by_cases c135 : w73 < a0.letters
   ·rw [if_pos c135] at h2
    refine z1c rfl (by simp [c135]) (z0G rfl (z0a (zq rfl (zb rfl (zq rfl ?_)))))
    obtain ⟨v80, f136, h3⟩ := z0U h2
    obtain ⟨v81, f137, h4⟩ := z0i h3
    have f137k := Ok.ok _ f137
    try simp at f137k
    refine z0I rfl rfl rfl rfl ?_; repeat' ((first | refine z0r rfl rfl fun Q' hQ => ?_ | refine z0k rfl fun Q' hQ => ?_); simp [f136, f137k]; refine hQ.out _ ?_; clear hQ; clear Q')
    refine z0a (zq rfl (zr rfl rfl rfl (by simp; rfl) ?_))
    refine z0a ?_
    by_cases c138 : ((zaS v81 w76).getD false) = true
    ·rw [if_pos c138] at h4
     refine z0V rfl (by simp [c138]) (z0G rfl (z0m (z0a (zr rfl rfl rfl (by simp; rfl) ?_))))
     have ho := z0h h4
     refine z0n ho ?_
     simp [z3a, c138]
    ·rw [if_neg c138] at h4
     refine z1c rfl (by simp [c138]) (zq rfl (zr rfl rfl rfl (by simp; rfl) ?_))
     refine z0a ?_
     obtain ⟨v82, f139, h5⟩ := z0U h4
     obtain ⟨f140, h6⟩ := z7m h5
     obtain ⟨f141, h7⟩ := z2Q h6
     obtain ⟨f142, h8⟩ := z7m h7
     refine zaC rfl rfl rfl rfl ?_
     refine z0E rfl rfl (by simp [z0b, z0c, f139, f140, f141, f142]; rfl) ?_
     refine z0E rfl rfl (by simp [z0b, z0c, f139, f140, f141, f142]; rfl) ?_
     refine z0E rfl rfl (by simp [z0b, z0c, f139, f140, f141, f142]; rfl) ?_
     refine z0E rfl rfl (by simp [z0b, z0c, f139, f140, f141, f142]; rfl) ?_
     refine z0E rfl rfl (by simp [z0b, z0c, f139, f140, f141, f142]; rfl) ?_
     refine z0E rfl rfl (by simp [z0b, z0c, f139, f140, f141, f142]; rfl) ?_
     refine z0E rfl rfl (by simp [z0b, z0c, f139, f140, f141, f142]; rfl) ?_
     refine z0E rfl rfl (by simp [z0b, z0c, f139, f140, f141, f142]; rfl) ?_
     refine z0E rfl rfl (by simp [z0b, z0c, f139, f140, f141, f142]; rfl) ?_
     refine z0E rfl rfl (by simp [z0b, z0c, f139, f140, f141, f142]; rfl) ?_
     refine z5k ?_
     refine z0E rfl rfl (by simp [z0b, z0c, f139, f140, f141, f142]; rfl) ?_
     refine z5k ?_
     refine z0E rfl rfl (by simp [z0b, z0c, f139, f140, f141, f142]; rfl) ?_
     refine z0E rfl rfl (by simp [z0b, z0c, f139, f140, f141, f142]; rfl) ?_
     refine z0E rfl rfl (by simp [z0b, z0c, f139, f140, f141, f142]; rfl) ?_
     refine z0E rfl rfl (by simp [z0b, z0c, f139, f140, f141, f142]; rfl) ?_
     refine z0E rfl rfl (by simp [z0b, z0c, f139, f140, f141, f142]; rfl) ?_
     refine z0E rfl rfl (by simp [z0b, z0c, f139, f140, f141, f142]; rfl) ?_
     refine z0E rfl rfl (by simp [z0b, z0c, f139, f140, f141, f142]; rfl) ?_
     refine z0E rfl rfl (by simp [z0b, z0c, f139, f140, f141, f142]; rfl) ?_
     refine z6p ?_
     refine ⟨?_, ?_⟩
     ·refine z0E rfl rfl (by simp [z0b, z0c, f139, f140, f141, f142]; rfl) ?_
      refine z0E rfl rfl (by simp [z0b, z0c, f139, f140, f141, f142]; rfl) ?_
      refine z0E rfl rfl (by simp [z0b, z0c, f139, f140, f141, f142]; rfl) ?_
      refine z5k ?_
      refine z0E rfl rfl (by simp [z0b, z0c, f139, f140, f141, f142]; rfl) ?_
      refine z0E rfl rfl (by simp [z0b, z0c, f139, f140, f141, f142]; rfl) ?_
      refine z0E rfl rfl (by simp [z0b, z0c, f139, f140, f141, f142]; rfl) ?_
      refine z0E rfl rfl (by simp [z0b, z0c, f139, f140, f141, f142]; rfl) ?_
      refine z0E rfl rfl (by simp [z0b, z0c, f139, f140, f141, f142]; rfl) ?_
      refine z6p ?_
      refine ⟨?_, ?_⟩
      ·refine z0E rfl rfl (by simp [z0b, z0c, f139, f140, f141, f142]; rfl) ?_
       refine z0E rfl rfl (by simp [z0b, z0c, f139, f140, f141, f142]; rfl) ?_
       refine z0E rfl rfl (by simp [z0b, z0c, f139, f140, f141, f142]; rfl) ?_
       refine z0E rfl rfl (by simp [z0b, z0c, f139, f140, f141, f142]; rfl) ?_
       refine z0E rfl rfl (by simp [z0b, z0c, f139, f140, f141, f142]; rfl) ?_
       refine z6p ?_
       simp [z5r, f139, f140, f141, f142]
      simp [z5r, f139, f140, f141, f142]
     refine ⟨?_, ?_⟩
     ·refine z0E rfl rfl (by simp [z0b, z0c, f139, f140, f141, f142]; rfl) ?_
      refine z0E rfl rfl (by simp [z0b, z0c, f139, f140, f141, f142]; rfl) ?_
      refine z0E rfl rfl (by simp [z0b, z0c, f139, f140, f141, f142]; rfl) ?_
      refine z5k ?_
      refine z0E rfl rfl (by simp [z0b, z0c, f139, f140, f141, f142]; rfl) ?_
      refine z5k ?_
      refine z0E rfl rfl (by simp [z0b, z0c, f139, f140, f141, f142]; rfl) ?_
      refine z0E rfl rfl (by simp [z0b, z0c, f139, f140, f141, f142]; rfl) ?_
      refine z0E rfl rfl (by simp [z0b, z0c, f139, f140, f141, f142]; rfl) ?_
      refine z0E rfl rfl (by simp [z0b, z0c, f139, f140, f141, f142]; rfl) ?_
      refine z0E rfl rfl (by simp [z0b, z0c, f139, f140, f141, f142]; rfl) ?_
      refine z6p ?_
      refine ⟨?_, ?_⟩
      ·refine z0E rfl rfl (by simp [z0b, z0c, f139, f140, f141, f142]; rfl) ?_
       refine z0E rfl rfl (by simp [z0b, z0c, f139, f140, f141, f142]; rfl) ?_
       refine z0E rfl rfl (by simp [z0b, z0c, f139, f140, f141, f142]; rfl) ?_
       refine z0E rfl rfl (by simp [z0b, z0c, f139, f140, f141, f142]; rfl) ?_
       refine z0E rfl rfl (by simp [z0b, z0c, f139, f140, f141, f142]; rfl) ?_
       refine z6p ?_
       simp [z5r, f139, f140, f141, f142]
      refine ⟨?_, ?_⟩
      ·refine z0E rfl rfl (by simp [z0b, z0c, f139, f140, f141, f142]; rfl) ?_
       refine z0E rfl rfl (by simp [z0b, z0c, f139, f140, f141, f142]; rfl) ?_
       refine z0E rfl rfl (by simp [z0b, z0c, f139, f140, f141, f142]; rfl) ?_
       refine z0E rfl rfl (by simp [z0b, z0c, f139, f140, f141, f142]; rfl) ?_
       refine z0E rfl rfl (by simp [z0b, z0c, f139, f140, f141, f142]; rfl) ?_
       refine z0E rfl rfl (by simp [z0b, z0c, f139, f140, f141, f142]; rfl) ?_
       refine z6p ?_
       simp [z5r, f139, f140, f141, f142]
      simp [z5r, f139, f140, f141, f142]
     refine zas rfl (by simp [f139, f140, f141, f142]; rfl) ?_
     refine z0m (z0a (zr rfl rfl rfl (by simp; rfl) ?_))
     have ho := z0h h8
     refine z0n ho ?_
     simp [z3a, c138]
   ·rw [if_neg c135] at h2
    refine z0V rfl (by simp [c135]) (z0Z rfl (z0H ?_))
    obtain ⟨rr2, h3, ho2⟩ := z0w h2
    have hs2 := hr2 _ ho2
    subst hs2
    refine z0C ho2 (z0l rfl (z0m (z0a (zr rfl rfl rfl (by simp; rfl) ?_))))
    have ho := z0h h3
    refine z0n ho ?_
    simp [z4g]
  ·rw [if_neg c118] at h1
   refine z0V rfl (by simp [c118]) (z0Z rfl (z0H ?_))
   obtain ⟨rr1, h2, ho1⟩ := z0w h1
   have hs1 := hr1 _ ho1
   subst hs1
   refine z0C ho1 (z0l rfl (z0a (zq rfl (zr rfl rfl rfl (by simp; rfl) ?_))))
   refine z0a (z3m rfl ?_)
   cases h2
   simp⟩
abbrev zaz : Int × Int → Option ((Int × Int) ⊕ Int)
  | (w3, w4) =>
  if 0 < w3 then
    chk (¬ 1 < 0) <|
    z0q (zwb .i64 w3 1, IntKind.i64.wrap (w4 + (zoY .i64 w3 1)))
  else
    z0v <|
    some w4
instance : Hd (zaz) := ⟨fun (w3, w4) => ([(0, xI w3), (3, xI w4)], [])⟩
def z2J (a0 : Int) : Option (Int) :=
  z0y (zaz) LFm (a0, 0)
instance ref24_Size_ok {a0 : Int} : Ok (z2J a0) (fun r => L 61 [.sc (.int .i64 a0)] = some (.sc (.int .i64 r), [.dead])) := ⟨fun r h => by have h := z6H h; unfold z2J at h; exact z7i zAK zCm zDL⟩
end
end Go.Proofs.Ytodliknibbafeaa
end
section
namespace Go.Proofs.Ytodliknibbafeaa
open Go
set_option maxRecDepth 100000
theorem zib {a : Nat} (h : a < 2 ^ 62) : IntKind.i64.wrap (a : Int) = (a : Int) := z2U (by omega) (by omega)
theorem zb2 {a b : Nat} (ha : a < 2 ^ 62) (hb : b < 2 ^ 62) : zoY .i64 (a : Int) (b : Int) = ((a &&& b : Nat) : Int) := by
  unfold zoY
  have e : (BitVec.ofInt IntKind.i64.bits (a : Int) &&& BitVec.ofInt IntKind.i64.bits (b : Int)).toNat = a &&& b := by
    show (BitVec.ofInt 64 (a : Int) &&& BitVec.ofInt 64 (b : Int)).toNat = _
    rw [BitVec.toNat_and, BitVec.toNat_ofInt, BitVec.toNat_ofInt]
    have h1 : ((a : Int) % ((2 ^ 64 : Nat) : Int)).toNat = a := by omega
    have h2 : ((b : Int) % ((2 ^ 64 : Nat) : Int)).toNat = b := by omega
    rw [h1, h2]
  rw [e]
  exact zib (Nat.lt_of_le_of_lt Nat.and_le_left ha)
theorem zws {a b k : Nat} (ha : a < 2 ^ k) (hb : b < 2 ^ k) : a ||| b < 2 ^ k := Nat.or_lt_two_pow ha hb
theorem zt9 {a b : Nat} (ha : a < 2 ^ 62) (hb : b < 2 ^ 62) : orI .i64 (a : Int) (b : Int) = ((a ||| b : Nat) : Int) := by
  unfold orI
  have e : (BitVec.ofInt IntKind.i64.bits (a : Int) ||| BitVec.ofInt IntKind.i64.bits (b : Int)).toNat = a ||| b := by
    show (BitVec.ofInt 64 (a : Int) ||| BitVec.ofInt 64 (b : Int)).toNat = _
    rw [BitVec.toNat_or, BitVec.toNat_ofInt, BitVec.toNat_ofInt]
    have h1 : ((a : Int) % ((2 ^ 64 : Nat) : Int)).toNat = a := by omega
    have h2 : ((b : Int) % ((2 ^ 64 : Nat) : Int)).toNat = b := by omega
    rw [h1, h2]
  rw [e]
  exact zib (zws ha hb)
theorem zuD {a q : Nat} (hq : q ≤ 64) : zwb .i64 (a : Int) (q : Int) = ((a >>> q : Nat) : Int) := by
  unfold zwb
  have e : min ((q : Int).toNat) IntKind.i64.bits = q := by
    show min ((q : Int).toNat) 64 = q
    omega
  rw [e, Nat.shiftRight_eq_div_pow, Int.fdiv_eq_ediv_of_nonneg _ (by exact Int.pow_nonneg (by omega))]
  simp
theorem z8G {q : Nat} (hq : q ≤ 61) : zuE .i64 1 (q : Int) = ((2 ^ q : Nat) : Int) := by
  rw [zsF]
  have e : min ((q : Int).toNat) IntKind.i64.bits = q := by
    show min ((q : Int).toNat) 64 = q
    omega
  rw [e, Int.one_mul]
  have : ((2 : Int) ^ q) = ((2 ^ q : Nat) : Int) := by simp
  rw [this]
  exact zib (Nat.pow_lt_pow_right (by omega) (by omega))
theorem zng {a q : Nat} (ha : a < 2 ^ 62) (hq : q ≤ 64) : (zoY .i64 (zwb .i64 (a : Int) (q : Int)) 1 = 1) ↔ a.testBit q = true := by
  rw [zuD hq, show (1 : Int) = ((1 : Nat) : Int) from rfl, zb2 (by rw [Nat.shiftRight_eq_div_pow]; exact Nat.lt_of_le_of_lt (Nat.div_le_self _ _) ha) (by decide), Nat.testBit]
  have : (1 &&& a >>> q) = (a >>> q) &&& 1 := Nat.and_comm ..
  rw [this]
  have h2 := Nat.and_one_is_mod (a >>> q)
  rw [h2]
  simp only [bne_iff_ne, ne_eq]
  omega
theorem zp7 {q : Nat} (h : q < 2 ^ 62) : IntKind.u64.wrap (q : Int) = (q : Int) := by rw [IntKind.wrap_u64]; omega
def zo9 (rows : List (List Int)) (s a : Nat) : Nat → Nat
  | 0 => 0
  | q + 1 => if s.testBit q = true then zo9 rows s a q ||| 2 ^ ((rows.getD q []).getD a 0).toNat else zo9 rows s a q
def mvN (d : DFA) (s a : Nat) : Nat := zo9 d.next s a d.next.length
theorem zf6 {d : DFA} {m n : Nat} (hd : DfaOk d m n) {q a : Nat} (hq : q < n) (ha : a < m) : ∃ h1 : q < d.next.length, ∃ h2 : a < d.next[q].length, (d.next.getD q []).getD a 0 = d.next[q][a] ∧ 0 ≤ d.next[q][a] ∧ d.next[q][a] < n := by
  have h1 : q < d.next.length := by rw [hd.nl]; exact hq
  have hr := hd.row _ (List.getElem_mem h1)
  have h2 : a < d.next[q].length := by rw [hr.1]; exact ha
  exact ⟨h1, h2, by simp [List.getD, h1, h2], hr.2 _ (List.getElem_mem h2)⟩
theorem zo8 {d : DFA} {m n : Nat} (hd : DfaOk d m n) {s a : Nat} (ha : a < m) (p : Nat) : ∀ q, q ≤ n → ((zo9 d.next s a q).testBit p = true ↔ ∃ i, i < q ∧ s.testBit i = true ∧ ((d.next.getD i []).getD a 0).toNat = p)
  | 0, _ => by simp [zo9]
  | q + 1, hq => by
    have ih := zo8 hd (s := s) ha p q (by omega)
    unfold zo9
    by_cases hb : s.testBit q = true
    · rw [if_pos hb, Nat.testBit_or, Bool.or_eq_true, ih, Nat.testBit_two_pow]
      constructor
      · rintro (⟨i, h1, h2, h3⟩ | h)
        · exact ⟨i, by omega, h2, h3⟩
        · exact ⟨q, by omega, hb, by simpa using h⟩
      · rintro ⟨i, h1, h2, h3⟩
        by_cases e : i = q
        · subst e; right; simpa using h3
        · left; exact ⟨i, by omega, h2, h3⟩
    · rw [if_neg hb, ih]
      constructor
      · rintro ⟨i, h1, h2, h3⟩; exact ⟨i, by omega, h2, h3⟩
      · rintro ⟨i, h1, h2, h3⟩
        by_cases e : i = q
        · subst e; exact absurd h2 hb
        · exact ⟨i, by omega, h2, h3⟩
theorem zin {d : DFA} {m n : Nat} (hd : DfaOk d m n) {s a : Nat} (ha : a < m) : ∀ q, q ≤ n → zo9 d.next s a q < 2 ^ n
  | 0, _ => Nat.two_pow_pos n
  | q + 1, hq => by
    have ih := zin hd (s := s) ha q (by omega)
    unfold zo9
    split
    · obtain ⟨h1, h2, e, h3, h4⟩ := zf6 hd (q := q) (by omega) ha
      refine zws ih (Nat.pow_lt_pow_right (by omega) ?_)
      rw [e]; omega
    · exact ih
theorem z6X {d : DFA} {m n : Nat} (hd : DfaOk d m n) {s a : Nat} (ha : a < m) (p : Nat) : (mvN d s a).testBit p = true ↔ ∃ i, i < n ∧ s.testBit i = true ∧ ((d.next.getD i []).getD a 0).toNat = p := by
  unfold mvN; rw [hd.nl]; exact zo8 hd ha p n (Nat.le_refl _)
theorem zkW {d : DFA} {m n : Nat} (hd : DfaOk d m n) {s a : Nat} (ha : a < m) : mvN d s a < 2 ^ n := by
  unfold mvN; rw [hd.nl]; exact zin hd ha n (Nat.le_refl _)
theorem zuP {n : Nat} (h : n ≤ 12) : 2 ^ n ≤ 4096 := Nat.pow_le_pow_right (n := 2) (by omega) h
theorem zfO {d : DFA} {m n : Nat} (hd : DfaOk d m n) (hn : n ≤ 12) {s a : Nat} (hs : s < 2 ^ n) (ha : a < m) : z2C d (s : Int) (a : Int) = some ((mvN d s a : Nat) : Int) := by
  have h12 := zuP hn
  unfold z2C mvN
  refine z0N (s := ((0 : Int), (0 : Int))) n (fun q => (((zo9 d.next s a q : Nat) : Int), (q : Int))) rfl (by simp only [LFm]; omega) (fun q hq => ?_) ?_
  · have hlt := zin hd (s := s) ha q (by omega)
    obtain ⟨h1, h2, e, h3, h4⟩ := zf6 hd (q := q) hq ha
    simp only [z3z]
    rw [if_pos (by rw [hd.fin]; omega), zp7 (by omega), z0B _ (by omega), z1b (by omega)]
    by_cases hb : s.testBit q = true
    · rw [if_pos ((zng (by omega) (by omega)).2 hb), z0L h1]
      simp only [Option.bind_some]
      rw [z0L h2]
      simp only [Option.bind_some]
      obtain ⟨v, hv⟩ := Int.eq_ofNat_of_zero_le h3
      rw [hv, zp7 (by omega), z0B _ (by omega), z8G (by omega), zt9 (by omega) (Nat.pow_lt_pow_right (by omega) (by omega))]
      simp only [zo9]
      rw [if_pos hb, e, hv, Int.toNat_natCast]
    · rw [if_neg (fun h => hb ((zng (by omega) (by omega)).1 h))]
      simp only [zo9]
      rw [if_neg hb]
  · simp only [z3z]
    rw [if_neg (by rw [hd.fin]; omega), hd.nl]
end Go.Proofs.Ytodliknibbafeaa
end
section
namespace Go.Proofs.Ytodliknibbafeaa
open Go
set_option maxRecDepth 100000
def zxi (d : DFA) (r : List Int) : Bool := decide ((r.length : Int) = d.letters) && r.all fun x => decide (0 ≤ x ∧ x < (d.final.length : Int))
def z7E (d : DFA) : Bool := decide (d.next.length = d.final.length) && decide (0 ≤ d.start ∧ d.start < (d.final.length : Int)) && d.next.all (zxi d)
def zvw (d : DFA) : Int := if d.letters < 1 ∨ 6 < d.letters then 1 else if 512 < d.final.length then 3 else if z7E d = true then 0 else 4
def zyk (d : DFA) : Prop := d.final.length < 2 ^ 61 ∧ d.next.length < 2 ^ 61 ∧ ∀ r ∈ d.next, r.length < 2 ^ 61
theorem zno {d : DFA} (hc : zyk d) : z0y (z2h d) LFm 0 = some (if d.next.all (zxi d) = true then 0 else 4) := by
  rw [z6w (l := d.next) ([] : List Int) (zxi d) (A := some 4) (B := some 0) (by have := hc.2.1; omega) (fun k hk => ?_) ?_]
  · split <;> rfl
  · simp only [z2h]
    rw [if_neg (by omega)]
  · simp only [z2h]
    have hkl := hc.2.1
    have hrl := hc.2.2 _ (List.getElem_mem hk)
    rw [if_pos (by omega), z0L hk]
    simp only [Option.bind_some, List.getD, List.getElem?_eq_getElem hk, Option.getD_some]
    by_cases hl : (d.next[k].length : Int) = d.letters
    · rw [if_pos hl]
      rw [z6w (l := d.next[k]) (0 : Int) (fun x => decide (0 ≤ x ∧ x < (d.final.length : Int))) (A := z0v (some 4)) (B := z0q ((k + 1 : Nat) : Int)) (by omega) (fun j hj => ?_) ?_]
      · simp only [zxi, hl, decide_true, Bool.true_and]
      · simp only [z3l]
        rw [if_neg (by omega), z1b (by omega)]
      · simp only [z3l]
        rw [if_pos (by omega), z0L hj]
        simp only [Option.bind_some, List.getD, List.getElem?_eq_getElem hj, Option.getD_some]
        by_cases h1 : d.next[k][j] < 0
        · rw [if_pos h1, if_neg (by simp; omega)]
        · rw [if_neg h1]
          by_cases h2 : (d.final.length : Int) ≤ d.next[k][j]
          · rw [if_pos h2, if_neg (by simp; omega)]
          · rw [if_neg h2, if_pos (by simp; omega), z1b (by omega)]
    · rw [if_neg hl]
      rw [if_neg (by simp [zxi, hl])]
theorem ztV {d : DFA} (hc : zyk d) : z4M d = some (zvw d) := by
  unfold z4M zvw
  by_cases h1 : d.letters < 1
  · rw [if_pos h1, if_pos (.inl h1)]
  rw [if_neg h1]
  by_cases h2 : 6 < d.letters
  · rw [if_pos h2, if_pos (.inr h2)]
  have hno : ¬ (d.letters < 1 ∨ 6 < d.letters) := by omega
  rw [if_neg h2, if_neg hno]
  by_cases h3 : 512 < (d.final.length : Int)
  · have h3' : 512 < d.final.length := by omega
    rw [if_pos h3, if_pos h3']
  have h3' : ¬ 512 < d.final.length := by omega
  rw [if_neg h3, if_neg h3']
  by_cases h4 : (d.next.length : Int) = (d.final.length : Int)
  · rw [if_pos h4]
    by_cases h5 : d.start < 0
    · rw [if_pos h5, if_neg (by simp [z7E]; omega)]
    rw [if_neg h5]
    by_cases h6 : (d.final.length : Int) ≤ d.start
    · rw [if_pos h6, if_neg (by simp [z7E]; omega)]
    rw [if_neg h6, zno hc]
    congr 1
    have e1 : decide (d.next.length = d.final.length) = true := by simp; omega
    have e2 : decide (0 ≤ d.start ∧ d.start < (d.final.length : Int)) = true := by simp; omega
    simp only [z7E, e1, e2, Bool.true_and]
  · rw [if_neg h4, if_neg (by simp [z7E]; omega)]
theorem zx7 (d : DFA) : z3R d = z2h d := rfl
theorem zt0 {d : DFA} (hc : zyk d) : z3d d = some (zvw d) := by
  unfold z3d z1D zvw
  by_cases h1 : 1 ≤ d.letters
  · rw [if_pos h1]
    simp only [Option.bind_some]
    by_cases h2 : 6 < d.letters
    · have hno : d.letters < 1 ∨ 6 < d.letters := .inr h2
      rw [if_neg (by simp; omega), if_pos hno]
    · have hno : ¬ (d.letters < 1 ∨ 6 < d.letters) := by omega
      rw [if_pos (by simp; omega), if_neg hno]
      by_cases h3 : 512 < (d.final.length : Int)
      · have h3' : 512 < d.final.length := by omega
        rw [if_pos h3, if_pos h3']
      have h3' : ¬ 512 < d.final.length := by omega
      rw [if_neg h3, if_neg h3']
      by_cases h0 : (d.final.length : Int) = 0
      · rw [if_pos h0, if_neg (by simp [z7E]; omega)]
      rw [if_neg h0]
      by_cases h4 : (d.next.length : Int) = (d.final.length : Int)
      · rw [if_pos h4]
        by_cases h5 : d.start < 0
        · rw [if_pos h5, if_neg (by simp [z7E]; omega)]
        rw [if_neg h5]
        by_cases h6 : (d.final.length : Int) ≤ d.start
        · rw [if_pos h6, if_neg (by simp [z7E]; omega)]
        rw [if_neg h6, zx7, zno hc]
        congr 1
        have e1 : decide (d.next.length = d.final.length) = true := by simp; omega
        have e2 : decide (0 ≤ d.start ∧ d.start < (d.final.length : Int)) = true := by simp; omega
        simp only [z7E, e1, e2, Bool.true_and]
      · rw [if_neg h4, if_neg (by simp [z7E]; omega)]
  · rw [if_neg h1]
    simp only [Option.bind_some]
    have hno : d.letters < 1 ∨ 6 < d.letters := by omega
    rw [if_pos hno]
    rfl
def zyx (d : DFA) : Int := if zvw d = 0 then (if 12 < d.final.length then 3 else 0) else zvw d
theorem zvT {d : DFA} (hc : zyk d) : z6t d = some (zyx d) := by
  unfold z6t zyx
  rw [zt0 hc]
  simp only [Option.bind_some]
  split
  · split
    · rw [if_pos (by omega)]
    · rw [if_neg (by omega)]
  · rfl
theorem zvv {d : DFA} {m n : Nat} (hd : DfaOk d m n) (hn : n ≤ 512) : zvw d = 0 := by
  have h1 := hd.lt
  have h2 := hd.m1
  have h3 := hd.m6
  have hf := hd.fin
  have hl := hd.nl
  unfold zvw
  rw [if_neg (by omega), if_neg (by omega), if_pos]
  have e1 : decide (d.next.length = d.final.length) = true := by simp; omega
  have e2 : decide (0 ≤ d.start ∧ d.start < (d.final.length : Int)) = true := by have := hd.s0; have := hd.s1; simp; omega
  simp only [z7E, e1, e2, Bool.true_and, List.all_eq_true]
  intro r hr
  obtain ⟨a, b⟩ := hd.row r hr
  have e3 : decide ((r.length : Int) = d.letters) = true := by simp; omega
  simp only [zxi, e3, Bool.true_and, List.all_eq_true, decide_eq_true_eq]
  intro x hx
  have := b x hx
  omega
theorem zvI {d : DFA} {m n : Nat} (hd : DfaOk d m n) (hn : n ≤ 12) : zyx d = 0 := by
  have hf := hd.fin
  unfold zyx
  rw [zvv hd (by omega), if_pos rfl, if_neg (by omega)]
theorem ztW {d : DFA} {m n : Nat} (hd : DfaOk d m n) (hn : n ≤ 12) : zyk d := ⟨by rw [hd.fin]; omega, by rw [hd.nl]; omega, fun r hr => by have := (hd.row r hr).1; have := hd.m6; omega⟩
theorem zfQ (w : ByteArray) (m : Int) : z6d w m = z2E w m := by
  unfold z6d z2E z1D
  by_cases h1 : m < 1
  · rw [if_pos h1, if_neg (by omega)]; rfl
  rw [if_neg h1]
  have h1' : 1 ≤ m := by omega
  by_cases h2 : 6 < m
  · rw [if_pos h2, if_pos h1']
    simp only [Option.bind_some]
    rw [if_neg (by simp; omega)]
  rw [if_neg h2, if_pos h1']
  simp only [Option.bind_some]
  rw [if_pos (show decide (m ≤ 6) = true by simp; omega)]
  all_goals rfl
def z5Z (m : Int) (c : UInt8) : Bool := decide (97 ≤ c.toNat) && decide ((c.toNat : Int) < 97 + m)
theorem zg1 {k : Nat} (h : 97 ≤ k) (h2 : k < 256) : IntKind.i64.wrap (IntKind.u8.wrap ((k : Int) - 97)) = ((k - 97 : Nat) : Int) := by
  rw [zvW (by omega) (by omega), z2U (by omega) (by omega)]; omega
theorem zfE {w : ByteArray} {k : Nat} (h : k < w.size) : w[k] = w.data.toList.getD k 0 := by
  have h' : k < w.data.toList.length := by rw [Array.length_toList]; exact h
  rw [List.getD, List.getElem?_eq_getElem h', Option.getD_some, Array.getElem_toList]
  rfl
theorem zvr {w : ByteArray} {m : Int} (hm : 1 ≤ m ∧ m ≤ 6) : z2E w m = some (decide (w.size ≤ 2048) && w.data.toList.all (z5Z m)) := by
  unfold z2E z1D
  rw [if_pos hm.1]
  simp only [Option.bind_some]
  rw [if_pos (show decide (m ≤ 6) = true by simp; omega)]
  by_cases h : 2048 < (w.size : Int)
  · rw [if_pos h, show decide (w.size ≤ 2048) = false by simp; omega]; rfl
  rw [if_neg h, show decide (w.size ≤ 2048) = true by simp; omega, Bool.true_and]
  have hl : w.data.toList.length = w.size := by rw [Array.length_toList]; rfl
  rw [z4J (s := (0 : Int)) w.size (fun k => (k : Int)) (fun k => !z5Z m (w.data.toList.getD k 0)) (fun _ => some false) (x := some true) rfl (by simp only [LFm]; omega)]
  · rw [z7c]
    simp only [Bool.not_not]
    rw [← hl, zf9]
    cases w.data.toList.all (z5Z m) <;> rfl
  · intro k hk
    have hb : w[k].toNat < 256 := w[k].toNat_lt
    simp only [z4h]
    rw [if_pos (by omega), zfF hk]
    simp only [Option.bind_some]
    rw [← zfE hk]
    by_cases h1 : (w[k].toNat : Int) < 97
    · have : z5Z m w[k] = false := by simp only [z5Z, Bool.and_eq_false_iff, decide_eq_false_iff_not]; omega
      simp only [h1, this, Bool.not_false, if_true]
    · rw [if_neg h1, zg1 (by omega) hb]
      by_cases h2 : m ≤ ((w[k].toNat - 97 : Nat) : Int)
      · have : z5Z m w[k] = false := by simp only [z5Z, Bool.and_eq_false_iff, decide_eq_false_iff_not]; omega
        simp only [h2, this, Bool.not_false, if_true]
      · have : z5Z m w[k] = true := by simp only [z5Z, Bool.and_eq_true, decide_eq_true_eq]; omega
        rw [if_neg h2, this, if_neg (by simp), z1b (by omega)]
  · simp only [z4h]
    rw [if_neg (by omega)]
def z7j (m : Nat) (w : ByteArray) : Prop := w.size ≤ 2048 ∧ ∀ c ∈ w.data.toList, 97 ≤ c.toNat ∧ c.toNat < 97 + m
instance (m : Nat) (w : ByteArray) : Decidable (z7j m w) := by unfold z7j; exact inferInstance
theorem zi9 {w : ByteArray} {m : Nat} (hm : 1 ≤ m ∧ m ≤ 6) : z2E w (m : Int) = some (decide (z7j m w)) := by
  rw [zvr (by omega)]
  congr 1
  rw [Bool.eq_iff_iff, decide_eq_true_iff]
  unfold z7j
  simp only [Bool.and_eq_true, decide_eq_true_eq, List.all_eq_true, z5Z]
  constructor
  · rintro ⟨a, b⟩; exact ⟨a, fun c hc => by have := b c hc; omega⟩
  · rintro ⟨a, b⟩; exact ⟨a, fun c hc => by have := b c hc; omega⟩
theorem zvU {d : DFA} {m n : Nat} (hd : DfaOk d m n) (hn : n ≤ 12) : z6u d = some (((2 ^ n - 1 : Nat) : Int)) := by
  have h12 := zuP hn
  have hp := Nat.two_pow_pos n
  unfold z6u
  rw [hd.fin, zp7 (by omega), z0B _ (by omega), z8G (by omega), z2U (by omega) (by omega)]
  congr 1
  omega
theorem zp3 {d : DFA} {m n : Nat} (hd : DfaOk d m n) (hn : n ≤ 12) (s : Int) : z3Q d s = some (decide (0 ≤ s ∧ s < ((2 ^ n : Nat) : Int))) := by
  have hp := Nat.two_pow_pos n
  unfold z3Q
  by_cases h : 0 ≤ s
  · rw [if_pos h, zvU hd hn]
    simp only [Option.bind_some]
    congr 1
    rw [Bool.eq_iff_iff]; simp only [decide_eq_true_eq]; omega
  · rw [if_neg h]
    congr 1
    symm
    simp only [decide_eq_false_iff_not]; omega
def z2T (d : DFA) : Nat → List UInt8 → Nat
  | s, [] => s
  | s, c :: w => z2T d (mvN d s (c.toNat - 97)) w
theorem z5m (d : DFA) : ∀ (s : Nat) (u v : List UInt8), z2T d s (u ++ v) = z2T d (z2T d s u) v
  | s, [], v => rfl
  | s, c :: u, v => by simp only [List.cons_append, z2T, z5m]
theorem zf5 {d : DFA} {m n : Nat} (hd : DfaOk d m n) : ∀ {w : List UInt8} {s : Nat}, s < 2 ^ n → (∀ c ∈ w, 97 ≤ c.toNat ∧ c.toNat < 97 + m) → z2T d s w < 2 ^ n
  | [], s, hs, _ => hs
  | c :: w, s, hs, hw => by
    have hc := hw c (List.mem_cons_self ..)
    exact zf5 (w := w) (s := mvN d s (c.toNat - 97)) hd (zkW hd (by omega)) fun c' hc' => hw c' (List.mem_cons_of_mem _ hc')
theorem zkC {α : Type} {l : List α} {k : Nat} (h : k < l.length) : l.take (k + 1) = l.take k ++ [l[k]] := by rw [List.take_succ_eq_append_getElem h]
theorem znk {d : DFA} {m n : Nat} (hd : DfaOk d m n) (hn : n ≤ 12) {s : Nat} (hs : s < 2 ^ n) {w : ByteArray} (hw : z7j m w) : z3q d (s : Int) w = some ((z2T d s w.data.toList : Nat) : Int) := by
  have hl : w.data.toList.length = w.size := by rw [Array.length_toList]; rfl
  have h48 := hw.1
  unfold z3q
  refine z0N (s := ((s : Int), (0 : Int))) w.size (fun k => (((z2T d s (w.data.toList.take k) : Nat) : Int), (k : Int))) rfl (by simp only [LFm]; omega) (fun k hk => ?_) ?_
  · have hk' : k < w.data.toList.length := by omega
    have hc := hw.2 _ (List.getElem_mem hk')
    have hb : w[k] = w.data.toList[k] := by rw [zfE hk, List.getD, List.getElem?_eq_getElem hk', Option.getD_some]
    have h256 : w[k].toNat < 256 := w[k].toNat_lt
    simp only [z4V]
    rw [if_pos (by omega), zfF hk]
    simp only [Option.bind_some]
    rw [hb] at *
    rw [zg1 hc.1 h256, zfO hd hn (zf5 hd hs fun c hc => hw.2 c (List.mem_of_mem_take hc)) (by omega)]
    simp only [Option.bind_some]
    rw [z1b (by omega), zkC hk', z5m]
    rfl
  · simp only [z4V]
    rw [if_neg (by omega), ← hl, List.take_length]
end Go.Proofs.Ytodliknibbafeaa
end
section
namespace Go.Proofs.Ytodliknibbafeaa
open Go
set_option maxRecDepth 100000
def zwE (a : Nat) : ByteArray := ⟨#[UInt8.ofNat (97 + a)]⟩
abbrev RS := List Nat × List ByteArray
def zmD (d : DFA) (i a : Nat) (st : RS) : RS := if mvN d (st.1.getD i 0) a ∈ st.1 then st else (st.1 ++ [mvN d (st.1.getD i 0) a], st.2 ++ [st.2.getD i ByteArray.empty ++ zwE a])
def zcZ (d : DFA) (i : Nat) (st : RS) : Nat → RS
  | 0 => st
  | a + 1 => zmD d i a (zcZ d i st a)
def zaB (d : DFA) (m s : Nat) : Nat → RS
  | 0 => ([s], [ByteArray.empty])
  | k + 1 => if k < (zaB d m s k).1.length then zcZ d k (zaB d m s k) m else zaB d m s k
structure RInv (d : DFA) (m n s : Nat) (st : RS) : Prop where
  nd : st.1.Nodup
  lt : ∀ x ∈ st.1, x < 2 ^ n
  len : st.2.length = st.1.length
  f0 : st.1[0]? = some s
  w0 : st.2[0]? = some ByteArray.empty
  ok : ∀ i, i < st.1.length → (st.2.getD i ByteArray.empty).size ≤ i ∧ (∀ c ∈ (st.2.getD i ByteArray.empty).data.toList, 97 ≤ c.toNat ∧ c.toNat < 97 + m) ∧ z2T d s (st.2.getD i ByteArray.empty).data.toList = st.1.getD i 0
theorem z7b {α : Type} {l r : List α} {i : Nat} (d : α) (h : i < l.length) : (l ++ r).getD i d = l.getD i d := by
  rw [List.getD, List.getD, List.getElem?_append_left h]
theorem zaT {α : Type} {l : List α} {x d : α} {i : Nat} (h : i = l.length) : (l ++ [x]).getD i d = x := by
  subst h; simp [List.getD]
theorem z0x {l : List Nat} {i : Nat} (h : i < l.length) : l.getD i 0 ∈ l := by
  rw [List.getD, List.getElem?_eq_getElem h]; exact List.getElem_mem h
theorem z7L {α : Type} : ∀ {l r : List α}, l.Nodup → (∀ x ∈ l, x ∈ r) → l.length ≤ r.length
  | [], r, _, _ => by simp
  | x :: l, r, hn, hs => by
    obtain ⟨a, b, rfl⟩ := List.append_of_mem (hs x (List.mem_cons_self ..))
    have hn' := List.nodup_cons.1 hn
    have := z7L (r := a ++ b) hn'.2 fun y hy => by
      have h1 := hs y (List.mem_cons_of_mem _ hy)
      have hne : y ≠ x := fun e => hn'.1 (e ▸ hy)
      rcases List.mem_append.1 h1 with h | h
      · exact List.mem_append.2 (.inl h)
      · rcases List.mem_cons.1 h with h | h
        · exact absurd h hne
        · exact List.mem_append.2 (.inr h)
    simp only [List.length_cons, List.length_append] at *
    omega
theorem z0Q {l : List Nat} {N : Nat} (hn : l.Nodup) (hl : ∀ x ∈ l, x < N) : l.length ≤ N := by
  have := z7L hn (r := List.range N) fun x hx => List.mem_range.2 (hl x hx)
  simpa using this
theorem zfi (a : Nat) : (zwE a).data.toList = [UInt8.ofNat (97 + a)] := rfl
theorem ziO (u v : ByteArray) : (u ++ v).data.toList = u.data.toList ++ v.data.toList := by simp
theorem zdk (u v : ByteArray) : (u ++ v).size = u.size + v.size := by simp
theorem z7K (a : Nat) : (zwE a).size = 1 := rfl
theorem ziw {a : Nat} (h : a < 26) : (UInt8.ofNat (97 + a)).toNat = 97 + a := by simp [UInt8.toNat_ofNat']; omega
theorem zuB {d : DFA} {m n s : Nat} (hd : DfaOk d m n) {st : RS} (h : RInv d m n s st) {i a : Nat} (hi : i < st.1.length) (ha : a < m) :
    RInv d m n s (zmD d i a st) ∧ mvN d (st.1.getD i 0) a ∈ (zmD d i a st).1 ∧ ∃ S W, (zmD d i a st).1 = st.1 ++ S ∧ (zmD d i a st).2 = st.2 ++ W := by
  have hm6 := hd.m6
  unfold zmD
  split
  · rename_i hm
    exact ⟨h, hm, [], [], by simp, by simp⟩
  · rename_i hm
    obtain ⟨o1, o2, o3⟩ := h.ok i hi
    refine ⟨⟨?_, ?_, by simp [h.len], ?_, ?_, ?_⟩, by simp, _, _, rfl, rfl⟩
    · refine List.nodup_append.2 ⟨h.nd, by simp, fun x hx y hy => ?_⟩
      obtain rfl : y = _ := by simpa using hy
      exact fun e => hm (e ▸ hx)
    · intro x hx
      rcases List.mem_append.1 hx with hx | hx
      · exact h.lt x hx
      · obtain rfl : x = _ := by simpa using hx
        exact zkW hd ha
    · rw [List.getElem?_append_left (by omega)]; exact h.f0
    · rw [List.getElem?_append_left (by rw [h.len]; omega)]; exact h.w0
    · intro j hj
      simp only [List.length_append, List.length_singleton] at hj
      by_cases e : j = st.1.length
      · rw [zaT e, zaT (by rw [h.len]; exact e), zdk, ziO, zfi, z7K, z5m, o3]
        refine ⟨by omega, fun c hc => ?_, ?_⟩
        · rcases List.mem_append.1 hc with hc | hc
          · exact o2 c hc
          · obtain rfl := List.mem_singleton.1 hc
            rw [ziw (by omega)]; omega
        · simp only [z2T]
          rw [ziw (by omega), Nat.add_sub_cancel_left]
      · rw [z7b _ (show j < st.2.length by rw [h.len]; omega), z7b _ (show j < st.1.length by omega)]
        exact h.ok j (by omega)
theorem zmZ {d : DFA} {m n s : Nat} (hd : DfaOk d m n) {st : RS} (h : RInv d m n s st) {i : Nat} (hi : i < st.1.length) : ∀ a, a ≤ m →
    RInv d m n s (zcZ d i st a) ∧ (∀ b, b < a → mvN d (st.1.getD i 0) b ∈ (zcZ d i st a).1) ∧ (∃ S W, (zcZ d i st a).1 = st.1 ++ S ∧ (zcZ d i st a).2 = st.2 ++ W)
  | 0, _ => ⟨h, fun b hb => by omega, [], [], by simp [zcZ], by simp [zcZ]⟩
  | a + 1, ha => by
    obtain ⟨h1, h2, S, W, h3, h4⟩ := zmZ hd h hi a (by omega)
    have hi' : i < (zcZ d i st a).1.length := by rw [h3, List.length_append]; omega
    obtain ⟨k1, k2, S', W', k3, k4⟩ := zuB hd h1 hi' (show a < m by omega)
    have e : (zcZ d i st a).1.getD i 0 = st.1.getD i 0 := by rw [h3, z7b _ hi]
    rw [e] at k2
    refine ⟨k1, fun b hb => ?_, S ++ S', W ++ W', by rw [zcZ, k3, h3, List.append_assoc], by rw [zcZ, k4, h4, List.append_assoc]⟩
    by_cases hb' : b = a
    · subst hb'; exact k2
    · rw [zcZ, k3]; exact List.mem_append.2 (.inl (h2 b (by omega)))
theorem zcA {d : DFA} {m n s : Nat} (hd : DfaOk d m n) (hs : s < 2 ^ n) : ∀ k, RInv d m n s (zaB d m s k) ∧ ∀ j, j < k → j < (zaB d m s k).1.length → ∀ a, a < m → mvN d ((zaB d m s k).1.getD j 0) a ∈ (zaB d m s k).1
  | 0 => ⟨⟨by simp [zaB], by simpa [zaB] using hs, rfl, rfl, rfl, fun i hi => by
      obtain rfl : i = 0 := by simpa [zaB] using hi
      exact ⟨Nat.le_refl _, fun c hc => by simp [zaB, List.getD] at hc, rfl⟩⟩, fun j hj => by omega⟩
  | k + 1 => by
    obtain ⟨h1, h2⟩ := zcA hd hs k
    unfold zaB
    split
    · rename_i hk
      obtain ⟨k1, k2, S, W, k3, k4⟩ := zmZ hd h1 hk m (Nat.le_refl _)
      refine ⟨k1, fun j hj hjl a ha => ?_⟩
      by_cases e : j = k
      · subst e
        have := k2 a ha
        rwa [show (zcZ d j (zaB d m s j) m).1.getD j 0 = (zaB d m s j).1.getD j 0 by rw [k3, z7b _ hk]]
      · have hj' : j < (zaB d m s k).1.length := by omega
        have := h2 j (by omega) hj' a ha
        rw [show (zcZ d k (zaB d m s k) m).1.getD j 0 = (zaB d m s k).1.getD j 0 by rw [k3, z7b _ hj'], k3]
        exact List.mem_append.2 (.inl this)
    · rename_i hk
      exact ⟨h1, fun j hj hjl a ha => h2 j (by omega) hjl a ha⟩
theorem zsO {d : DFA} {m n s : Nat} (hd : DfaOk d m n) (hs : s < 2 ^ n) (k : Nat) : (zaB d m s k).1.length ≤ 2 ^ n := z0Q (zcA hd hs k).1.nd (zcA hd hs k).1.lt
theorem znZ {d : DFA} {m s : Nat} {k : Nat} (h : ¬ k < (zaB d m s k).1.length) : ∀ j, k ≤ j → zaB d m s j = zaB d m s k
  | 0, hj => by
    obtain rfl : k = 0 := by omega
    rfl
  | j + 1, hj => by
    by_cases e : k = j + 1
    · rw [e]
    · have ih := znZ h j (by omega)
      rw [zaB, ih, if_neg (by omega)]
def z0Y (d : DFA) (m n s : Nat) : RS := zaB d m s (2 ^ n)
theorem zcV {d : DFA} {m n s : Nat} (hd : DfaOk d m n) (hs : s < 2 ^ n) {x a : Nat} (hx : x ∈ (z0Y d m n s).1) (ha : a < m) : mvN d x a ∈ (z0Y d m n s).1 := by
  obtain ⟨i, hi, rfl⟩ := List.getElem_of_mem hx
  have hl := zsO hd hs (2 ^ n)
  have := (zcA hd hs (2 ^ n)).2 i (by unfold z0Y at hi; omega) hi a ha
  have e : (zaB d m s (2 ^ n)).1.getD i 0 = (z0Y d m n s).1[i] := by
    show (z0Y d m n s).1.getD i 0 = _
    rw [List.getD, List.getElem?_eq_getElem hi, Option.getD_some]
  rw [e] at this
  exact this
theorem z3B {d : DFA} {m n s : Nat} (hd : DfaOk d m n) (hs : s < 2 ^ n) : RInv d m n s (z0Y d m n s) := (zcA hd hs _).1
def toI (l : List Nat) : List Int := l.map fun x => ((x : Nat) : Int)
theorem z0s (l : List Nat) : (toI l).length = l.length := by simp [toI]
theorem z5t (l : List Nat) (x : Nat) : toI (l ++ [x]) = toI l ++ [((x : Nat) : Int)] := by simp [toI]
theorem z1H {l : List Nat} {i : Nat} (h : i < l.length) : atI (toI l) (i : Int) = some ((l.getD i 0 : Nat) : Int) := by
  rw [z0L (by rw [z0s]; exact h)]
  simp [toI, List.getD, h]
theorem zmB {l : List ByteArray} {i : Nat} (h : i < l.length) : atI l (i : Int) = some (l.getD i ByteArray.empty) := by
  rw [z0L h, List.getD, List.getElem?_eq_getElem h, Option.getD_some]
def ztj (S : List Nat) : List (Int × Bool) := S.map fun x => (((x : Nat) : Int), true)
theorem zti (x : Nat) : ∀ S : List Nat, ((zaS ((x : Nat) : Int) (ztj S)).getD false) = decide (x ∈ S)
  | [] => rfl
  | y :: S => by
    have ih := zti x S
    simp only [ztj, List.map_cons, zaS]
    by_cases e : y = x
    · subst e; simp
    · rw [if_neg (by omega)]
      have : ¬ x = y := fun h => e h.symm
      simp only [List.mem_cons, this, false_or]
      exact ih
theorem map_set {x : Nat} : ∀ {S : List Nat}, x ∉ S → zf2 ((x : Nat) : Int) true (ztj S) = ztj (S ++ [x])
  | [], _ => rfl
  | y :: S, h => by
    have ih := map_set (x := x) (S := S) (fun hh => h (List.mem_cons_of_mem _ hh))
    have hne : y ≠ x := fun e => h (by simp [e])
    simp only [ztj, List.map_cons, zf2, List.cons_append]
    rw [if_neg (by omega)]
    congr 1
theorem zmT {a : Nat} (h : a < 26) : (⟨#[UInt8.ofNat (IntKind.u8.wrap (IntKind.i64.wrap (97 + (a : Int)))).toNat]⟩ : ByteArray) = zwE a := by
  rw [z2U (by omega) (by omega), zvW (by omega) (by omega)]
  have : (97 + (a : Int)).toNat = 97 + a := by omega
  rw [this]; rfl
theorem zmY {d : DFA} {m n s : Nat} (hd : DfaOk d m n) (hn : n ≤ 12) {st : RS} (h : RInv d m n s st) {i : Nat} (hi : i < st.1.length) :
    z0y (z3b d i) LFm (0, toI st.1, st.2, ztj st.1) = z0q (((i + 1 : Nat) : Int), toI (zcZ d i st m).1, (zcZ d i st m).2, ztj (zcZ d i st m).1) := by
  have h12 := zuP hn
  have hm6 := hd.m6
  have hl := z0Q h.nd h.lt
  refine z0N (s := ((0 : Int), toI st.1, st.2, ztj st.1)) m (fun a => ((a : Int), toI (zcZ d i st a).1, (zcZ d i st a).2, ztj (zcZ d i st a).1)) rfl (by simp only [LFm]; omega) (fun a ha => ?_) ?_
  · obtain ⟨k1, _, S, W, k3, k4⟩ := zmZ hd h hi a (by omega)
    have hl2 := z0Q k1.nd k1.lt
    have hi' : i < (zcZ d i st a).1.length := by rw [k3, List.length_append]; omega
    have hx : (zcZ d i st a).1.getD i 0 < 2 ^ n := k1.lt _ (z0x hi')
    obtain ⟨o1, _, _⟩ := k1.ok i hi'
    simp only [z3b]
    rw [if_pos (by rw [hd.lt]; omega), z1H hi']
    simp only [Option.bind_some]
    rw [zfO hd hn hx ha]
    simp only [Option.bind_some]
    rw [zti]
    simp only [decide_eq_true_eq]
    rw [z1b (by omega), zcZ]
    unfold zmD
    by_cases hm : mvN d ((zcZ d i st a).1.getD i 0) a ∈ (zcZ d i st a).1
    · rw [if_pos hm, if_pos hm]
    · rw [if_neg hm, if_neg hm, zmB (by rw [k1.len]; exact hi'), Option.bind_some]
      rw [z0B _ (by unfold z0T; rw [z0s]; omega), zmT (by omega), z0B _ (by unfold z7l; rw [z7K]; omega), z0B _ (by unfold z0T; rw [k1.len]; omega), map_set hm, z5t]
  · simp only [z3b]
    rw [if_neg (by rw [hd.lt]; omega), z1b (by omega)]
theorem zdm {d : DFA} {m n s : Nat} (hd : DfaOk d m n) (hn : n ≤ 12) (hs : s < 2 ^ n) : z2A d (s : Int) = some (toI (z0Y d m n s).1, (z0Y d m n s).2) := by
  have h12 := zuP hn
  have hp := Nat.two_pow_pos n
  unfold z2A
  refine zof (s := ((0 : Int), [(s : Int)], [ByteArray.empty], ztj [s])) (fun z => ∃ k : Nat, k ≤ 2 ^ n ∧ z = ((k : Int), toI (zaB d m s k).1, (zaB d m s k).2, ztj (zaB d m s k).1)) (fun z => 2 ^ n + 1 - z.1.toNat) ⟨0, by omega, rfl⟩ (by simp only [LFm]; omega) ?_
  rintro z ⟨k, hk, rfl⟩
  have hl := zsO hd hs k
  simp only [z5W]
  by_cases h : k < (zaB d m s k).1.length
  · left
    rw [if_pos (by rw [z0s]; omega), zmY hd hn (zcA hd hs k).1 h]
    refine ⟨_, rfl, ⟨k + 1, by omega, ?_⟩, by simp only; omega⟩
    rw [zaB, if_pos h]
  · right
    rw [if_neg (by rw [z0s]; omega)]
    unfold z0Y
    rw [znZ h _ hk]
end Go.Proofs.Ytodliknibbafeaa
end
section
namespace Go.Proofs.Ytodliknibbafeaa
open Go
set_option maxRecDepth 100000
def z5u (p r : Nat) : Prop := p &&& r = p
theorem z1j {p r : Nat} : z5u p r ↔ ∀ q, p.testBit q = true → r.testBit q = true := by
  unfold z5u
  constructor
  · intro h q hq
    have : (p &&& r).testBit q = true := by rw [h]; exact hq
    rw [Nat.testBit_and, Bool.and_eq_true] at this
    exact this.2
  · intro h
    apply Nat.eq_of_testBit_eq
    intro q
    rw [Nat.testBit_and]
    cases hp : p.testBit q with
    | false => rfl
    | true => rw [h q hp]; rfl
theorem zd8 (p : Nat) : z5u p p := Nat.and_self p
theorem zkE {p q r : Nat} (h1 : z5u p q) (h2 : z5u q r) : z5u p r := z1j.2 fun i hi => z1j.1 h2 i (z1j.1 h1 i hi)
theorem z7C {p q : Nat} (h1 : z5u p q) (h2 : z5u q p) : p = q := Nat.eq_of_testBit_eq fun i => by
  have a := z1j.1 h1 i
  have b := z1j.1 h2 i
  cases hp : p.testBit i <;> cases hq : q.testBit i <;> simp_all
theorem zwy {d : DFA} {m n : Nat} (hd : DfaOk d m n) {p r a : Nat} (ha : a < m) (h : z5u p r) : z5u (mvN d p a) (mvN d r a) := z1j.2 fun q hq => by
  obtain ⟨i, h1, h2, h3⟩ := (z6X hd ha q).1 hq
  exact (z6X hd ha q).2 ⟨i, h1, z1j.1 h i h2, h3⟩
theorem zij {d : DFA} {m n : Nat} (hd : DfaOk d m n) : ∀ {w : List UInt8} {p r : Nat}, (∀ c ∈ w, 97 ≤ c.toNat ∧ c.toNat < 97 + m) → z5u p r → z5u (z2T d p w) (z2T d r w)
  | [], p, r, _, h => h
  | c :: w, p, r, hw, h => zij (w := w) (p := mvN d p (c.toNat - 97)) (r := mvN d r (c.toNat - 97)) hd (fun c' hc' => hw c' (List.mem_cons_of_mem _ hc')) (zwy hd (by have := hw c (List.mem_cons_self ..); omega) h)
theorem zf7 {d : DFA} {m n s : Nat} (hd : DfaOk d m n) (hs : s < 2 ^ n) : ∀ {w : List UInt8} {x : Nat}, (∀ c ∈ w, 97 ≤ c.toNat ∧ c.toNat < 97 + m) → x ∈ (z0Y d m n s).1 → z2T d x w ∈ (z0Y d m n s).1
  | [], x, _, h => h
  | c :: w, x, hw, h => zf7 (w := w) (x := mvN d x (c.toNat - 97)) hd hs (fun c' hc' => hw c' (List.mem_cons_of_mem _ hc')) (zcV hd hs h (by have := hw c (List.mem_cons_self ..); omega))
theorem zhR {d : DFA} {m n s : Nat} (hd : DfaOk d m n) (hs : s < 2 ^ n) : s ∈ (z0Y d m n s).1 := by
  have := (z3B hd hs).f0
  exact List.mem_of_getElem? this
def zxr (d : DFA) (m : Nat) (p r : Nat) : Prop := ∃ w : List UInt8, (∀ c ∈ w, 97 ≤ c.toNat ∧ c.toNat < 97 + m) ∧ z5u p (z2T d r w)
theorem zu8 {d : DFA} {m n p r : Nat} (hd : DfaOk d m n) (hr : r < 2 ^ n) : zxr d m p r ↔ ∃ x ∈ (z0Y d m n r).1, z5u p x := by
  constructor
  · rintro ⟨w, h1, h2⟩
    exact ⟨_, zf7 hd hr h1 (zhR hd hr), h2⟩
  · rintro ⟨x, hx, hs⟩
    obtain ⟨i, hi, rfl⟩ := List.getElem_of_mem hx
    obtain ⟨_, o2, o3⟩ := (z3B hd hr).ok i hi
    refine ⟨_, o2, ?_⟩
    rw [o3, List.getD, List.getElem?_eq_getElem hi, Option.getD_some]
    exact hs
theorem zoT (d : DFA) (m p : Nat) : zxr d m p p := ⟨[], fun c hc => by simp at hc, zd8 p⟩
theorem zfJ {d : DFA} {m n p q r : Nat} (hd : DfaOk d m n) (h1 : zxr d m p q) (h2 : zxr d m q r) : zxr d m p r := by
  obtain ⟨u, u1, u2⟩ := h1
  obtain ⟨v, v1, v2⟩ := h2
  refine ⟨v ++ u, fun c hc => ?_, ?_⟩
  · rcases List.mem_append.1 hc with h | h
    · exact v1 c h
    · exact u1 c h
  · rw [z5m]
    exact zkE u2 (zij hd u1 v2)
end Go.Proofs.Ytodliknibbafeaa
end
section
namespace Go.Proofs.Ytodliknibbafeaa
open Go
noncomputable section
set_option maxRecDepth 100000
set_option maxHeartbeats 6000000
def cmp_isNaN_int (a0 : Int) : Option (Bool) :=
  some (!decide (a0 = a0))
instance cmp_isNaN_int_ok {a0 : Int} : Ok (cmp_isNaN_int a0) (fun r => L 76 [.sc (.int .i64 a0)] = some (.sc (.bool r), [.dead])) := ⟨fun r h => by have h := z6H h; unfold cmp_isNaN_int at h; exact z7i zAF zCh zDG⟩
def cmp_Compare_int (a0 : Int) (a1 : Int) : Option (Int) :=
  (cmp_isNaN_int a0).bind fun v3 =>
  (cmp_isNaN_int a1).bind fun v4 =>
  if v3 = true then
    if v4 = true then
      some 0
    else
      some (-1)
  else
    if v4 = true then
      some 1
    else
      if a0 < a1 then
        some (-1)
      else
        if a1 < a0 then
          some 1
        else
          some 0
instance cmp_Compare_int_ok {a0 : Int} {a1 : Int} : Ok (cmp_Compare_int a0 a1) (fun r => L 54 [.sc (.int .i64 a0), .sc (.int .i64 a1)] = some (.sc (.int .i64 r), [.dead, .dead])) := ⟨fun r h => by have h := z6H h; unfold cmp_Compare_int at h; exact z7i zAO zCp zDO⟩
end
end Go.Proofs.Ytodliknibbafeaa
end
section
namespace Go.Proofs.Ytodliknibbafeaa
open Go
theorem zuu {a0 : List Int} {r : List Int} (h : zuv a0 = some r) : L 68 [.os 1 a0.length (a0.map fun x0 => .sc (.int .i64 x0)), .sc (.func (.func 69) #[] #[])] = some (.tup [], [.os 1 r.length (r.map fun x0 => .sc (.int .i64 x0)), .dead]) := by
  refine ztn rfl ?_
  have e : (List.map (fun x0 => T.sc (Value.int IntKind.i64 x0)) a0) = a0.map fun x => .sc (.int .i64 x) := rfl
  simp only [xt, xtC, if_true, zvV, Array.isEmpty_empty, and_self, zlb, h, Option.map_some]
instance {a0 : List Int} : Ok (zuv a0) (fun r => L 68 [.os 1 a0.length (a0.map fun x0 => .sc (.int .i64 x0)), .sc (.func (.func 69) #[] #[])] = some (.tup [], [.os 1 r.length (r.map fun x0 => .sc (.int .i64 x0)), .dead])) := ⟨fun _ h => zuu h⟩
end Go.Proofs.Ytodliknibbafeaa
end
section
namespace Go.Proofs.Ytodliknibbafeaa
open Go
noncomputable section
set_option maxRecDepth 100000
set_option maxHeartbeats 6000000
end
end Go.Proofs.Ytodliknibbafeaa
end
section
namespace Go.Proofs.Ytodliknibbafeaa
open Go
set_option maxRecDepth 100000
theorem z9G (a b : Nat) : zub a b = true ↔ (szN b < szN a ∨ (szN a = szN b ∧ a ≤ b)) := by unfold zub; simp
theorem znh (a b : Nat) : zub a b = false ↔ ¬ (szN b < szN a ∨ (szN a = szN b ∧ a ≤ b)) := by rw [← z9G]; simp
def zwH (x : Nat) : List Nat → List Nat
  | [] => [x]
  | y :: l => if zub x y = true then x :: y :: l else y :: zwH x l
def zqS : List Nat → List Nat
  | [] => []
  | x :: l => zwH x (zqS l)
abbrev zlE (l : List Nat) : Prop := l.Pairwise fun a b => zub a b = true
theorem zfk (x : Nat) : ∀ l : List Nat, (zwH x l).Perm (x :: l)
  | [] => .refl _
  | y :: l => by
    unfold zwH
    split
    · exact .refl _
    · exact ((zfk x l).cons y).trans (.swap x y l)
theorem z8F : ∀ l : List Nat, (zqS l).Perm l
  | [] => .refl _
  | x :: l => (zfk x (zqS l)).trans ((z8F l).cons x)
theorem zfj (x : Nat) : ∀ l : List Nat, zlE l → zlE (zwH x l)
  | [], _ => by simp [zwH]
  | y :: l, h => by
    unfold zwH
    rw [zlE, List.pairwise_cons] at h
    split
    · rename_i hxy
      refine List.pairwise_cons.2 ⟨fun z hz => ?_, List.pairwise_cons.2 h⟩
      rcases List.mem_cons.1 hz with rfl | hz
      · exact hxy
      · have := h.1 z hz
        rw [z9G] at *
        omega
    · rename_i hxy
      refine List.pairwise_cons.2 ⟨fun z hz => ?_, zfj x l h.2⟩
      rcases List.mem_cons.1 ((zfk x l).mem_iff.1 hz) with rfl | hz
      · rw [z9G] at *
        omega
      · exact h.1 z hz
theorem z7D : ∀ l : List Nat, zlE (zqS l)
  | [] => by simp [zqS]
  | x :: l => zfj x _ (z7D l)
theorem zhN : ∀ {l1 l2 : List Nat}, l1.Perm l2 → zlE l1 → zlE l2 → l1 = l2
  | [], l2, h, _, _ => by rw [List.nil_perm] at h; exact h.symm
  | a :: l1, [], h, _, _ => by simp at h
  | a :: l1, b :: l2, h, h1, h2 => by
    have hab : a = b := by
      rcases List.mem_cons.1 (h.mem_iff.1 (List.mem_cons_self ..)) with e | ha
      · exact e
      · rcases List.mem_cons.1 (h.mem_iff.2 (List.mem_cons_self ..)) with e | hb
        · exact e.symm
        · have e1 := (List.pairwise_cons.1 h2).1 a ha
          have e2 := (List.pairwise_cons.1 h1).1 b hb
          rw [z9G] at e1 e2
          omega
    subst hab
    rw [zhN (List.perm_cons a |>.1 h) (List.pairwise_cons.1 h1).2 (List.pairwise_cons.1 h2).2]
def z7W (S : List Nat) : Nat → List Nat
  | 0 => S
  | q + 1 => if 2 ^ q ∈ z7W S q then z7W S q else z7W S q ++ [2 ^ q]
theorem z6F {S : List Nat} (hS : S.Nodup) : ∀ q, (z7W S q).Nodup ∧ (∀ x, x ∈ z7W S q ↔ x ∈ S ∨ ∃ i, i < q ∧ x = 2 ^ i) ∧ (z7W S q).length ≤ S.length + q
  | 0 => ⟨hS, fun x => by simp [z7W], by simp [z7W]⟩
  | q + 1 => by
    obtain ⟨h1, h2, h3⟩ := z6F hS q
    unfold z7W
    split
    · rename_i h
      refine ⟨h1, fun x => ?_, by omega⟩
      rw [h2]
      constructor
      · rintro (h | ⟨i, h, e⟩)
        · exact .inl h
        · exact .inr ⟨i, by omega, e⟩
      · rintro (h' | ⟨i, h', e⟩)
        · exact .inl h'
        · by_cases ei : i = q
          · subst ei; rw [e]; exact (h2 _).1 h
          · exact .inr ⟨i, by omega, e⟩
    · rename_i h
      refine ⟨List.nodup_append.2 ⟨h1, by simp, fun a ha b hb e => ?_⟩, fun x => ?_, by rw [List.length_append, List.length_singleton]; omega⟩
      · obtain rfl := List.mem_singleton.1 hb
        exact h (e ▸ ha)
      · rw [List.mem_append, h2, List.mem_singleton]
        constructor
        · rintro ((h' | ⟨i, h', e⟩) | e)
          · exact .inl h'
          · exact .inr ⟨i, by omega, e⟩
          · exact .inr ⟨q, by omega, e⟩
        · rintro (h' | ⟨i, h', e⟩)
          · exact .inl (.inl h')
          · by_cases ei : i = q
            · subst ei; exact .inr e
            · exact .inl (.inr ⟨i, by omega, e⟩)
def z2S (d : DFA) (m n : Nat) : List Nat := zqS (z7W (z0Y d m n (2 ^ n - 1)).1 n)
structure SetsP (d : DFA) (m n : Nat) (S : List Nat) : Prop where
  nd : S.Nodup
  lt : ∀ x ∈ S, x < 2 ^ n
  cl : ∀ x ∈ S, ∀ a, a < m → mvN d x a ∈ S
  one : ∀ q, q < n → 2 ^ q ∈ S
  srt : zlE S
theorem zy4 {d : DFA} {m n : Nat} (hd : DfaOk d m n) {q a : Nat} (hq : q < n) (ha : a < m) : ∃ p, p < n ∧ mvN d (2 ^ q) a = 2 ^ p := by
  obtain ⟨h1, h2, e, h3, h4⟩ := zf6 hd hq ha
  refine ⟨((d.next.getD q []).getD a 0).toNat, by rw [e]; omega, Nat.eq_of_testBit_eq fun i => ?_⟩
  rw [Bool.eq_iff_iff, z6X hd ha, Nat.testBit_two_pow, decide_eq_true_iff]
  constructor
  · rintro ⟨j, j1, j2, j3⟩
    rw [Nat.testBit_two_pow, decide_eq_true_iff] at j2
    subst j2; exact j3
  · intro h
    exact ⟨q, hq, by rw [Nat.testBit_two_pow]; simp, h⟩
theorem zcz {d : DFA} {m n : Nat} (hd : DfaOk d m n) : SetsP d m n (z2S d m n) := by
  have hp := Nat.two_pow_pos n
  have hf : 2 ^ n - 1 < 2 ^ n := by omega
  have hi := z3B hd hf
  obtain ⟨h1, h2, h3⟩ := z6F hi.nd n
  have hpm := z8F (z7W (z0Y d m n (2 ^ n - 1)).1 n)
  have hm : ∀ x, x ∈ z2S d m n ↔ x ∈ (z0Y d m n (2 ^ n - 1)).1 ∨ ∃ i, i < n ∧ x = 2 ^ i := fun x => hpm.mem_iff.trans (h2 x)
  refine ⟨hpm.nodup_iff.2 h1, fun x hx => ?_, fun x hx a ha => ?_, fun q hq => (hm _).2 (.inr ⟨q, hq, rfl⟩), z7D _⟩
  · rcases (hm x).1 hx with h | ⟨i, hi', rfl⟩
    · exact hi.lt x h
    · exact Nat.pow_lt_pow_right (by omega) hi'
  · rcases (hm x).1 hx with h | ⟨i, hi', rfl⟩
    · exact (hm _).2 (.inl (zcV hd hf h ha))
    · obtain ⟨p, hp1, hp2⟩ := zy4 hd hi' ha
      exact (hm _).2 (.inr ⟨p, hp1, hp2⟩)
end Go.Proofs.Ytodliknibbafeaa
end
section
namespace Go.Proofs.Ytodliknibbafeaa
open Go
set_option maxRecDepth 100000
def z1z {α : Type} (N : Nat) (f : Nat → α) (z : α) (k : Nat) : List α := (List.range N).map fun i => if i < k then f i else z
theorem ziJ {α : Type} (N : Nat) (f : Nat → α) (z : α) (k : Nat) : (z1z N f z k).length = N := by simp [z1z]
theorem zi1 {α : Type} (N : Nat) (f : Nat → α) (z : α) : z1z N f z 0 = List.replicate N z := by
  apply List.ext_getElem (by simp [z1z]); intro i h1 h2; simp [z1z]
theorem zi0 {α : Type} (N : Nat) (f : Nat → α) (z : α) : z1z N f z N = (List.range N).map f := by
  apply List.ext_getElem (by simp [z1z]); intro i h1 h2
  have : i < N := by simpa [z1z] using h1
  simp [z1z, this]
theorem zfz {α : Type} {N : Nat} {f : Nat → α} {z : α} {k i : Nat} (h : i < N) : atI (z1z N f z k) (i : Int) = some (if i < k then f i else z) := by
  rw [z0L (by rw [ziJ]; exact h)]; simp [z1z]
theorem z8M {α : Type} {N : Nat} {f : Nat → α} {z : α} {k : Nat} (h : k < N) : (z1z N f z k).set k (f k) = z1z N f z (k + 1) := by
  apply List.ext_getElem (by simp [z1z]); intro i h1 h2
  simp only [z1z, List.getElem_set, List.getElem_map, List.getElem_range]
  by_cases e : k = i
  · subst e; rw [if_pos rfl, if_pos (by omega)]
  · rw [if_neg e]
    by_cases e2 : i < k
    · rw [if_pos e2, if_pos (by omega)]
    · rw [if_neg e2, if_neg (by omega)]
theorem ztM {α : Type} {N : Nat} {f : Nat → α} {z : α} {k : Nat} (h : f k = z) : z1z N f z k = z1z N f z (k + 1) := by
  apply List.ext_getElem (by simp [z1z]); intro i h1 h2
  simp only [z1z, List.getElem_map, List.getElem_range]
  by_cases e : k = i
  · subst e; rw [if_neg (by omega), if_pos (by omega), h]
  · by_cases e2 : i < k
    · rw [if_pos e2, if_pos (by omega)]
    · rw [if_neg e2, if_neg (by omega)]
theorem z3e {α : Type} {N : Nat} {f : Nat → α} {i : Nat} (h : i < N) : atI ((List.range N).map f) (i : Int) = some (f i) := by
  rw [z0L (by simpa using h)]; simp
theorem zvB {α : Type} {l : List α} {i : Nat} {x : α} (h : i < l.length) : atI (l.set i x) (i : Int) = some x := by
  rw [z0L (by simpa using h)]; simp
theorem zsH {α : Type} (l : List α) (i : Nat) (x y : α) : (l.set i x).set i y = l.set i y := by simp
theorem ziD {S : List Nat} (hS : S.Nodup) {i : Nat} (h : i < S.length) : S.idxOf (S.getD i 0) = i := by
  rw [List.getD, List.getElem?_eq_getElem h, Option.getD_some]
  have hm : S[i] ∈ S := List.getElem_mem h
  have h1 := List.idxOf_lt_length_of_mem hm
  have h2 : S[S.idxOf S[i]] = S[i] := List.getElem_idxOf h1
  exact (List.getElem_inj hS).1 h2
theorem z3W {S : List Nat} {x : Nat} (h : x ∈ S) : S.getD (S.idxOf x) 0 = x := by
  have := List.idxOf_lt_length_of_mem h
  rw [List.getD, List.getElem?_eq_getElem this, Option.getD_some, List.getElem_idxOf]
theorem zd0 {S : List Nat} {x : Nat} (h : x ∈ S) : S.idxOf x < S.length := List.idxOf_lt_length_of_mem h
theorem z9D {S : List Nat} (hS : S.Nodup) {i j : Nat} (hi : i < S.length) (hj : j < S.length) (h : S.getD i 0 = S.getD j 0) : i = j := by
  rw [← ziD hS hi, h, ziD hS hj]
def zcS (st : RS) (x : Nat) : ByteArray := st.2.getD (st.1.idxOf x) ByteArray.empty
theorem zsR {d : DFA} {m n : Nat} {S : List Nat} (hS : SetsP d m n S) : ∀ {w : List UInt8} {s : Nat}, (∀ c ∈ w, 97 ≤ c.toNat ∧ c.toNat < 97 + m) → s ∈ S → z2T d s w ∈ S
  | [], s, _, h => h
  | c :: w, s, hw, h => zsR (w := w) (s := mvN d s (c.toNat - 97)) hS (fun c' hc' => hw c' (List.mem_cons_of_mem _ hc')) (hS.cl s h _ (by have := hw c (List.mem_cons_self ..); omega))
end Go.Proofs.Ytodliknibbafeaa
end
section
namespace Go.Proofs.Ytodliknibbafeaa
open Go
set_option maxRecDepth 100000
def z4O (d : DFA) (m n : Nat) (S : List Nat) (i j : Nat) : Bool := (z0Y d m n (S.getD j 0)).1.any fun x => decide (S.getD i 0 &&& x = S.getD i 0)
theorem z2u {d : DFA} {m n : Nat} (hd : DfaOk d m n) {S : List Nat} (hS : SetsP d m n S) {i j : Nat} (hj : j < S.length) : z4O d m n S i j = true ↔ zxr d m (S.getD i 0) (S.getD j 0) := by
  rw [zu8 hd (hS.lt _ (z0x hj))]
  unfold z4O z5u
  simp
end Go.Proofs.Ytodliknibbafeaa
end
section
namespace Go.Proofs.Ytodliknibbafeaa
open Go
set_option maxRecDepth 100000
structure SrtC where
  cmp : Int → Int → Option Int
  key : Int → Int
  ok : Int → Prop
  law : ∀ x y, ok x → ok y → y < x → ∃ c, cmp x y = some c ∧ (c < 0 ↔ key x < key y)
noncomputable section
end
end Go.Proofs.Ytodliknibbafeaa
end
section
namespace Go.Proofs.Ytodliknibbafeaa
open Go
set_option maxRecDepth 100000
theorem at0 {α : Type} (A : List α) (x : α) (B : List α) {i : Nat} (h : i = A.length) : atI (A ++ x :: B) (i : Int) = some x := by
  subst h
  rw [z0L (by simp)]; simp
theorem at1 {α : Type} (A : List α) (x y : α) (B : List α) {i : Nat} (h : i = A.length + 1) : atI (A ++ x :: y :: B) (i : Int) = some y := by
  have : A ++ x :: y :: B = (A ++ [x]) ++ y :: B := by simp
  rw [this]
  exact at0 _ _ _ (by simpa using h)
theorem zyv {α : Type} (A : List α) (x z : α) (B : List α) {i : Nat} (h : i = A.length) : (A ++ x :: B).set i z = A ++ z :: B := by
  subst h; simp
theorem zxK {α : Type} (A : List α) (x y z : α) (B : List α) {i : Nat} (h : i = A.length + 1) : (A ++ x :: y :: B).set i z = A ++ x :: z :: B := by
  have : A ++ x :: y :: B = (A ++ [x]) ++ y :: B := by simp
  rw [this, zyv _ _ _ _ (by simpa using h)]; simp
end Go.Proofs.Ytodliknibbafeaa
end
section
namespace Go.Proofs.Ytodliknibbafeaa
open Go
set_option maxRecDepth 100000
end Go.Proofs.Ytodliknibbafeaa
end
section
namespace Go.Proofs.Ytodliknibbafeaa
open Go
set_option maxRecDepth 100000
end Go.Proofs.Ytodliknibbafeaa
end
section
namespace Go.Proofs.Ytodliknibbafeaa
open Go
set_option maxRecDepth 100000
end Go.Proofs.Ytodliknibbafeaa
end
section
namespace Go.Proofs.Ytodliknibbafeaa
open Go
set_option maxRecDepth 100000
end Go.Proofs.Ytodliknibbafeaa
end
section
namespace Go.Proofs.Ytodliknibbafeaa
open Go
set_option maxRecDepth 100000
structure EqvN (N : Nat) (e : Nat → Nat → Bool) : Prop where
  refl : ∀ i, i < N → e i i = true
  symm : ∀ i j, i < N → j < N → e i j = true → e j i = true
  trans : ∀ i j k, i < N → j < N → k < N → e i j = true → e j k = true → e i k = true
def z1h (e : Nat → Nat → Bool) : Nat → List Nat
  | 0 => []
  | i + 1 => if (z1h e i).any (e i) = true then z1h e i else z1h e i ++ [i]
def zdj (e : Nat → Nat → Bool) (N i : Nat) : Nat := (z1h e N).findIdx (e i)
theorem zfo (e : Nat → Nat → Bool) {i : Nat} : ∀ j, i ≤ j → ∃ R, z1h e j = z1h e i ++ R
  | 0, h => by
    obtain rfl : i = 0 := by omega
    exact ⟨[], by simp⟩
  | j + 1, h => by
    by_cases e0 : i = j + 1
    · subst e0; exact ⟨[], by simp⟩
    · obtain ⟨R, hR⟩ := zfo e (i := i) j (by omega)
      rw [show z1h e (j + 1) = if (z1h e j).any (e j) = true then z1h e j else z1h e j ++ [j] from rfl]
      split
      · exact ⟨R, hR⟩
      · exact ⟨R ++ [j], by rw [hR, List.append_assoc]⟩
theorem zaV (e : Nat → Nat → Bool) : ∀ i, ∀ f ∈ z1h e i, f < i
  | 0, f, h => by simp [z1h] at h
  | i + 1, f, h => by
    unfold z1h at h
    split at h
    · have := zaV e i f h; omega
    · rcases List.mem_append.1 h with h | h
      · have := zaV e i f h; omega
      · have := List.mem_singleton.1 h; omega
theorem zfp (e : Nat → Nat → Bool) : ∀ i, (z1h e i).length ≤ i
  | 0 => by simp [z1h]
  | i + 1 => by
    have := zfp e i
    unfold z1h
    split
    · omega
    · rw [List.length_append, List.length_singleton]; omega
theorem zft {N : Nat} {e : Nat → Nat → Bool} (he : EqvN N e) : ∀ i, i ≤ N → (z1h e i).Pairwise fun f g => e f g = false ∧ e g f = false
  | 0, _ => by simp [z1h]
  | i + 1, hi => by
    have ih := zft he i (by omega)
    unfold z1h
    split
    · exact ih
    · rename_i h
      refine List.pairwise_append.2 ⟨ih, by simp, fun a ha b hb => ?_⟩
      obtain rfl := List.mem_singleton.1 hb
      have hlt := zaV e b a ha
      have h1 : e b a = false := by
        cases hh : e b a with
        | false => rfl
        | true => exact absurd (List.any_eq_true.2 ⟨a, ha, hh⟩) h
      refine ⟨?_, h1⟩
      cases hh : e a b with
      | false => rfl
      | true => rw [he.symm a b (by omega) (by omega) hh] at h1; cases h1
theorem ztK {N : Nat} {e : Nat → Nat → Bool} (he : EqvN N e) {i c c' : Nat} {l : List Nat} (hl : l.Pairwise fun f g => e f g = false ∧ e g f = false) (hlt : ∀ f ∈ l, f < N) (hi : i < N) (hc : c < l.length) (hc' : c' < l.length) (h : e i (l.getD c 0) = true) (h' : e i (l.getD c' 0) = true) : c = c' := by
  have m1 : l.getD c 0 < N := hlt _ (z0x hc)
  have m2 : l.getD c' 0 < N := hlt _ (z0x hc')
  have hcc := he.trans _ _ _ m1 hi m2 (he.symm _ _ hi m1 h) h'
  rcases Nat.lt_trichotomy c c' with hlt' | rfl | hlt'
  · have := (List.pairwise_iff_getElem.1 hl c c' hc hc' hlt').1
    rw [List.getD, List.getD, List.getElem?_eq_getElem hc, List.getElem?_eq_getElem hc', Option.getD_some, Option.getD_some, this] at hcc
    cases hcc
  · rfl
  · have := (List.pairwise_iff_getElem.1 hl c' c hc' hc hlt').2
    rw [List.getD, List.getD, List.getElem?_eq_getElem hc, List.getElem?_eq_getElem hc', Option.getD_some, Option.getD_some, this] at hcc
    cases hcc
theorem zyl {N : Nat} {e : Nat → Nat → Bool} (he : EqvN N e) {i : Nat} (hi : i < N) : (z1h e i).findIdx (e i) = zdj e N i := by
  unfold zdj
  obtain ⟨R, hR⟩ := zfo e (i := i + 1) N (by omega)
  rw [hR]
  by_cases h : (z1h e i).any (e i) = true
  · have : z1h e (i + 1) = z1h e i := by rw [z1h, if_pos h]
    rw [this, List.findIdx_append, if_pos]
    obtain ⟨x, hx, hp⟩ := List.any_eq_true.1 h
    exact List.findIdx_lt_length_of_exists ⟨x, hx, hp⟩
  · have e1 : z1h e (i + 1) = z1h e i ++ [i] := by rw [z1h, if_neg h]
    have e2 : (z1h e i).findIdx (e i) = (z1h e i).length := List.findIdx_eq_length.2 fun x hx => by
      cases hh : e i x with
      | false => rfl
      | true => exact absurd (List.any_eq_true.2 ⟨x, hx, hh⟩) h
    rw [e1, List.append_assoc, List.findIdx_append, if_neg (by rw [e2]; omega), List.singleton_append, List.findIdx_cons, he.refl i hi, e2]
    simp
theorem zfB {N : Nat} {e : Nat → Nat → Bool} (he : EqvN N e) {i : Nat} (hi : i < N) : zdj e N i < (z1h e N).length ∧ e i ((z1h e N).getD (zdj e N i) 0) = true := by
  have hex : ∃ x ∈ z1h e N, e i x = true := by
    obtain ⟨R, hR⟩ := zfo e (i := i + 1) N (by omega)
    by_cases h : (z1h e i).any (e i) = true
    · obtain ⟨x, hx, hp⟩ := List.any_eq_true.1 h
      refine ⟨x, ?_, hp⟩
      rw [hR, z1h, if_pos h]
      exact List.mem_append.2 (.inl hx)
    · refine ⟨i, ?_, he.refl i hi⟩
      rw [hR, z1h, if_neg h]; simp
  have hlt : zdj e N i < (z1h e N).length := List.findIdx_lt_length_of_exists hex
  refine ⟨hlt, ?_⟩
  rw [List.getD, List.getElem?_eq_getElem hlt, Option.getD_some]
  exact List.findIdx_getElem (w := hlt)
theorem zna {N : Nat} {e : Nat → Nat → Bool} (he : EqvN N e) {i j : Nat} (hi : i < N) (hj : j < N) : zdj e N i = zdj e N j ↔ e i j = true := by
  obtain ⟨a1, a2⟩ := zfB he hi
  obtain ⟨b1, b2⟩ := zfB he hj
  have hF := zaV e N
  have m1 := hF _ (z0x a1)
  constructor
  · intro h
    rw [← h] at b2
    exact he.trans _ _ _ hi m1 hj a2 (he.symm _ _ hj m1 b2)
  · intro h
    exact ztK he (zft he N (Nat.le_refl _)) hF hj a1 b1 (he.trans _ _ _ hj hi m1 (he.symm _ _ hi hj h) a2) b2
def z7e (d : DFA) (m n : Nat) (S : List Nat) (i j : Nat) : Bool := z4O d m n S i j && z4O d m n S j i
theorem zaX {d : DFA} {m n : Nat} (hd : DfaOk d m n) {S : List Nat} (hS : SetsP d m n S) : EqvN S.length (z7e d m n S) where
  refl i hi := by
    have := (z2u hd hS hi (i := i)).2 (zoT d m _)
    simp [z7e, this]
  symm i j hi hj h := by
    simp only [z7e, Bool.and_eq_true] at h ⊢
    exact ⟨h.2, h.1⟩
  trans i j k hi hj hk h1 h2 := by
    simp only [z7e, Bool.and_eq_true] at h1 h2 ⊢
    exact ⟨(z2u hd hS hk).2 (zfJ hd ((z2u hd hS hj).1 h1.1) ((z2u hd hS hk).1 h2.1)), (z2u hd hS hi).2 (zfJ hd ((z2u hd hS hj).1 h2.2) ((z2u hd hS hi).1 h1.2))⟩
def zxo (d : DFA) (m n : Nat) (S : List Nat) : List Int := (List.range S.length).map fun i => ((zdj (z7e d m n S) S.length i : Nat) : Int)
def zrs (d : DFA) (m n : Nat) (S : List Nat) : List Nat := z1h (z7e d m n S) S.length
end Go.Proofs.Ytodliknibbafeaa
end
section
namespace Go.Proofs.Ytodliknibbafeaa
open Go
set_option maxRecDepth 100000
def zff (g : Nat → Nat) : Nat → Nat
  | 0 => 0
  | k + 1 => max (zff g k) (g k)
theorem zob {g : Nat → Nat} {k j : Nat} (h : j < k) : g j ≤ zff g k := by
  induction k with
  | zero => omega
  | succ k ih =>
    simp only [zff]
    by_cases e : j = k
    · subst e; omega
    · have := ih (by omega); omega
theorem z9A {g : Nat → Nat} {k b : Nat} (h : ∀ j, j < k → g j ≤ b) : zff g k ≤ b := by
  induction k with
  | zero => simp [zff]
  | succ k ih =>
    have := ih fun j hj => h j (by omega)
    have := h k (by omega)
    simp only [zff]; omega
theorem zmO {g g' : Nat → Nat} {k : Nat} (h : ∀ j, j < k → g j = g' j) : zff g k = zff g' k := by
  induction k with
  | zero => rfl
  | succ k ih => simp only [zff]; rw [ih fun j hj => h j (by omega), h k (by omega)]
def z3v (p : Nat → Bool) : Nat → Nat
  | 0 => 0
  | k + 1 => z3v p k + (if p k = true then 1 else 0)
theorem ztX (p : Nat → Bool) (k : Nat) : z3v p k ≤ k := by
  induction k with
  | zero => simp [z3v]
  | succ k ih => simp only [z3v]; split <;> omega
theorem zoN {p q : Nat → Bool} {k : Nat} (h : ∀ j, j < k → p j = true → q j = true) : z3v p k ≤ z3v q k := by
  induction k with
  | zero => simp [z3v]
  | succ k ih =>
    have := ih fun j hj => h j (by omega)
    have := h k (by omega)
    simp only [z3v]
    by_cases h1 : p k = true
    · rw [if_pos h1, if_pos (this h1)]; omega
    · rw [if_neg h1]; split <;> omega
theorem zfA {p q : Nat → Bool} {k i : Nat} (h : ∀ j, j < k → p j = true → q j = true) (hi : i < k) (hp : p i = false) (hq : q i = true) : z3v p k < z3v q k := by
  induction k with
  | zero => omega
  | succ k ih =>
    simp only [z3v]
    by_cases e : i = k
    · subst e
      have := zoN (p := p) (q := q) (k := i) fun j hj => h j (by omega)
      rw [hp, hq]; simp; omega
    · have h1 := ih (fun j hj => h j (by omega)) (by omega)
      have := h k (by omega)
      by_cases h2 : p k = true
      · rw [if_pos h2, if_pos (this h2)]; omega
      · rw [if_neg h2]; split <;> omega
structure BelN (N : Nat) (b : Nat → Nat → Bool) : Prop where
  refl : ∀ i, i < N → b i i = true
  trans : ∀ i j k, i < N → j < N → k < N → b i j = true → b j k = true → b i k = true
def ztq (N : Nat) (b : Nat → Nat → Bool) (i : Nat) : Nat := z3v (fun j => b j i) N
def sbN (b : Nat → Nat → Bool) (j i : Nat) : Bool := b j i && !b i j
theorem ztp {N : Nat} {b : Nat → Nat → Bool} (hb : BelN N b) {i j : Nat} (hi : i < N) (hj : j < N) (h : sbN b j i = true) : ztq N b j < ztq N b i := by
  simp only [sbN, Bool.and_eq_true, Bool.not_eq_true'] at h
  exact zfA (fun k hk hkj => hb.trans k j i hk hj hi hkj h.1) hi h.2 (hb.refl i hi)
def zBm (N : Nat) (b : Nat → Nat → Bool) (z : Nat → Bool) (h : Nat → Nat) : Prop := ∀ i, i < N → h i = if z i = true then 0 else zff (fun j => if sbN b j i = true then h j + 1 else 0) N
def zwP (N : Nat) (b : Nat → Nat → Bool) (z : Nat → Bool) : Nat → Nat → Nat
  | 0, _ => 0
  | f + 1, i => if z i = true then 0 else zff (fun j => if sbN b j i = true then zwP N b z f j + 1 else 0) N
def ziE (N : Nat) (b : Nat → Nat → Bool) (z : Nat → Bool) (i : Nat) : Nat := zwP N b z N i
theorem zhY {N : Nat} {b : Nat → Nat → Bool} (hb : BelN N b) (z : Nat → Bool) : ∀ f i, i < N → ztq N b i ≤ f → ∀ g, ztq N b i ≤ g → zwP N b z f i = zwP N b z g i
  | 0, i, hi, hl, g, hg => by
    exfalso
    have := zfA (p := fun _ => false) (q := fun j => b j i) (k := N) (i := i) (fun j _ hf => by simp at hf) hi rfl (hb.refl i hi)
    unfold ztq at hl; omega
  | f + 1, i, hi, hl, 0, hg => by
    exfalso
    have := zfA (p := fun _ => false) (q := fun j => b j i) (k := N) (i := i) (fun j _ hf => by simp at hf) hi rfl (hb.refl i hi)
    unfold ztq at hg; omega
  | f + 1, i, hi, hl, g + 1, hg => by
    simp only [zwP]
    split
    · rfl
    · refine zmO fun j hj => ?_
      by_cases hs : sbN b j i = true
      · have := ztp hb hi hj hs
        rw [if_pos hs, if_pos hs, zhY hb z f j hj (by omega) g (by omega)]
      · rw [if_neg hs, if_neg hs]
theorem zlg {N : Nat} {b : Nat → Nat → Bool} (hb : BelN N b) (z : Nat → Bool) : zBm N b z (ziE N b z) := fun i hi => by
  have hl : ztq N b i ≤ N := ztX _ _
  unfold ziE
  rw [zhY hb z N i hi hl (N + 1) (by omega)]
  rfl
theorem ztC {N : Nat} {b : Nat → Nat → Bool} (hb : BelN N b) (z : Nat → Bool) {i : Nat} (hi : i < N) : ziE N b z i ≤ N := by
  have : ∀ L i, i < N → ztq N b i ≤ L → ziE N b z i ≤ L := by
    intro L
    induction L with
    | zero =>
      intro i hi hl
      exfalso
      have := zfA (p := fun _ => false) (q := fun j => b j i) (k := N) (i := i) (fun j _ hf => by simp at hf) hi rfl (hb.refl i hi)
      unfold ztq at hl; omega
    | succ L ih =>
      intro i hi hl
      rw [zlg hb z i hi]
      split
      · omega
      · refine z9A fun j hj => ?_
        by_cases hs : sbN b j i = true
        · have := ztp hb hi hj hs
          have := ih j hj (by omega)
          rw [if_pos hs]; omega
        · rw [if_neg hs]; omega
  exact this N i hi (ztX _ _)
theorem zu9 {d : DFA} {m n : Nat} (hd : DfaOk d m n) {S : List Nat} (hS : SetsP d m n S) : BelN S.length (z4O d m n S) where
  refl i hi := (z2u hd hS hi).2 (zoT d m _)
  trans i j k hi hj hk h1 h2 := (z2u hd hS hk).2 (zfJ hd ((z2u hd hS hj).1 h1) ((z2u hd hS hk).1 h2))
def z7n (S : List Nat) (i : Nat) : Bool := decide (szN (S.getD i 0) = 1)
def z9K (d : DFA) (m n : Nat) (S : List Nat) (i : Nat) : Nat := ziE S.length (z4O d m n S) (z7n S) i
def zyB (d : DFA) (m n : Nat) (S : List Nat) : List Int := (List.range S.length).map fun i => ((z9K d m n S i : Nat) : Int)
end Go.Proofs.Ytodliknibbafeaa
end
section
namespace Go.Proofs.Ytodliknibbafeaa
open Go
set_option maxRecDepth 100000
def ziA (S : List Nat) (i j : Nat) : Bool := !decide (j = i) && decide (S.getD j 0 &&& S.getD i 0 = S.getD j 0)
def ziB (S : List Nat) (i : Nat) : List Nat := (List.range S.length).filter (ziA S i)
def zkB (S : List Nat) (i j : Nat) : Bool := (ziB S i).all fun k => decide (k = j) || !decide (S.getD j 0 &&& S.getD k 0 = S.getD j 0)
def z8P (S : List Nat) (i : Nat) : List Nat := if szN (S.getD i 0) = 1 then [] else (ziB S i).filter (zkB S i)
theorem ztx {S : List Nat} {i j : Nat} (h : j ∈ ziB S i) : j < S.length := List.mem_range.1 (List.mem_filter.1 h).1
def z1W (d : DFA) (m n : Nat) (S : List Nat) (i : Nat) : Nat := (zrs d m n S).getD (zdj (z7e d m n S) S.length i) 0
def znn (d : DFA) (m n : Nat) (S : List Nat) (i : Nat) : ByteArray := zcS (z0Y d m n (S.getD (z1W d m n S i) 0)) (S.getD i 0)
def zni (d : DFA) (m n : Nat) (S : List Nat) (i : Nat) : ByteArray := zcS (z0Y d m n (S.getD i 0)) (S.getD (z1W d m n S i) 0)
def z4Q (d : DFA) (m n : Nat) (S : List Nat) : Imgs := ⟨toI S, zxo d m n S, zyB d m n S, (List.range S.length).map fun i => toI (z8P S i), (List.range S.length).map (znn d m n S), (List.range S.length).map (zni d m n S)⟩
theorem zwS {d : DFA} {m n : Nat} {S : List Nat} {c : Nat} (hc : c < (zrs d m n S).length) : (zrs d m n S).getD c 0 < S.length := zaV _ _ _ (z0x hc)
end Go.Proofs.Ytodliknibbafeaa
end
section
namespace Go.Proofs.Ytodliknibbafeaa
open Go
set_option maxRecDepth 100000
theorem z6r (s : Nat) : szN s = z3v (fun q => s.testBit q) 7 := by
  simp only [szN, z3v, List.range, List.range.loop, List.countP_cons, List.countP_nil]
  omega
theorem zBE {s : Nat} (h : s < 128) {q : Nat} (hq : s.testBit q = true) : q < 7 := by
  rcases Nat.lt_or_ge q 7 with h' | h'
  · exact h'
  · have : s.testBit q = false := Nat.testBit_lt_two_pow (Nat.lt_of_lt_of_le h (Nat.pow_le_pow_right (n := 2) (by omega) h'))
    rw [this] at hq; cases hq
theorem zmA {a b : Nat} (h : z5u a b) : szN a ≤ szN b := by
  rw [z6r, z6r]; exact zoN fun q _ hq => z1j.1 h q hq
theorem zw6 {a b : Nat} (hb : b < 128) (h : z5u a b) (hne : a ≠ b) : szN a < szN b := by
  have : ∃ q, b.testBit q = true ∧ a.testBit q = false := by
    refine Classical.byContradiction fun hn => hne (z7C h (z1j.2 fun q hq => ?_))
    cases ha : a.testBit q with
    | true => rfl
    | false => exact absurd ⟨q, hq, ha⟩ hn
  obtain ⟨q, h1, h2⟩ := this
  rw [z6r, z6r]
  exact zfA (fun q _ hq => z1j.1 h q hq) (zBE hb h1) h2 h1
theorem zw7 {a b : Nat} (hb : b < 128) (h : z5u a b) (he : szN b ≤ szN a) : a = b := by
  refine Classical.byContradiction fun hne => ?_
  have := zw6 hb h hne
  omega
theorem zsy {x p : Nat} (hx : x < 128) (hp : p < 7) : szN (x ||| 2 ^ p) ≤ szN x + 1 := by
  revert p; revert x; decide +kernel
theorem zyQ {x y : Nat} (hx : x < 128) (hy : y < 128) : szN (x ||| y) ≤ szN x + szN y := by
  rw [z6r, z6r, z6r]
  have : ∀ k, z3v (fun q => (x ||| y).testBit q) k ≤ z3v (fun q => x.testBit q) k + z3v (fun q => y.testBit q) k := by
    intro k
    induction k with
    | zero => simp [z3v]
    | succ k ih =>
      simp only [z3v, Nat.testBit_or]
      simp only [Nat.testBit_or] at ih
      have : ∀ a b : Bool, (if (a || b) = true then 1 else 0) ≤ (if a = true then 1 else 0) + (if b = true then 1 else 0) := by decide
      have := this (x.testBit k) (y.testBit k)
      omega
  exact this 7
theorem zz7 {d : DFA} {m n : Nat} (hd : DfaOk d m n) {x y a : Nat} (ha : a < m) : mvN d (x ||| y) a = mvN d x a ||| mvN d y a := by
  apply Nat.eq_of_testBit_eq
  intro p
  rw [Bool.eq_iff_iff, Nat.testBit_or, Bool.or_eq_true, z6X hd ha, z6X hd ha, z6X hd ha]
  constructor
  · rintro ⟨i, h1, h2, h3⟩
    rw [Nat.testBit_or, Bool.or_eq_true] at h2
    exact h2.imp (fun h => ⟨i, h1, h, h3⟩) fun h => ⟨i, h1, h, h3⟩
  · rintro (⟨i, h1, h2, h3⟩ | ⟨i, h1, h2, h3⟩)
    · exact ⟨i, h1, by rw [Nat.testBit_or, h2]; rfl, h3⟩
    · exact ⟨i, h1, by rw [Nat.testBit_or, h2, Bool.or_true], h3⟩
abbrev zwC (m : Nat) (w : List UInt8) : Prop := ∀ c ∈ w, 97 ≤ c.toNat ∧ c.toNat < 97 + m
theorem zmS {m : Nat} {c : UInt8} {w : List UInt8} (h : zwC m (c :: w)) : zwC m w ∧ c.toNat - 97 < m := ⟨fun c' hc' => h c' (List.mem_cons_of_mem _ hc'), by have := h c (List.mem_cons_self ..); omega⟩
theorem zsQ {d : DFA} {m n : Nat} (hd : DfaOk d m n) : ∀ {w : List UInt8} {x y : Nat}, zwC m w → z2T d (x ||| y) w = z2T d x w ||| z2T d y w
  | [], x, y, _ => rfl
  | c :: w, x, y, hw => by
    obtain ⟨h1, h2⟩ := zmS hw
    simp only [z2T]
    rw [zz7 hd h2, zsQ hd h1]
theorem zz6 {d : DFA} {m n : Nat} (hd : DfaOk d m n) (hn : n ≤ 7) {s a : Nat} (hs : s < 2 ^ n) (ha : a < m) : szN (mvN d s a) ≤ szN s := by
  have h128 : 2 ^ n ≤ 128 := Nat.pow_le_pow_right (n := 2) (by omega) hn
  have key : ∀ q, q ≤ n → szN (zo9 d.next s a q) ≤ z3v (fun q => s.testBit q) q := by
    intro q
    induction q with
    | zero => intro _; exact (by decide : szN 0 ≤ 0)
    | succ q ih =>
      intro hq
      have hlt := zin hd (s := s) ha q (by omega)
      obtain ⟨h1, h2, e, h3, h4⟩ := zf6 hd (q := q) (by omega) ha
      simp only [zo9, z3v]
      by_cases hb : s.testBit q = true
      · rw [if_pos hb, if_pos hb]
        have := zsy (x := zo9 d.next s a q) (p := ((d.next.getD q []).getD a 0).toNat) (by omega) (by rw [e]; omega)
        have := ih (by omega)
        omega
      · rw [if_neg hb, if_neg hb]
        have := ih (by omega)
        omega
  have h1 := key n (Nat.le_refl _)
  have h2 : z3v (fun q => s.testBit q) n ≤ szN s := by
    rw [z6r]
    have : ∀ j, z3v (fun q => s.testBit q) n ≤ z3v (fun q => s.testBit q) (n + j) := by
      intro j
      induction j with
      | zero => exact Nat.le_refl _
      | succ j ih => rw [← Nat.add_assoc]; simp only [z3v]; omega
    have := this (7 - n)
    rwa [show n + (7 - n) = 7 by omega] at this
  unfold mvN
  rw [hd.nl]
  omega
theorem zcB {d : DFA} {m n : Nat} (hd : DfaOk d m n) (hn : n ≤ 7) : ∀ {w : List UInt8} {s : Nat}, s < 2 ^ n → zwC m w → szN (z2T d s w) ≤ szN s
  | [], s, _, _ => Nat.le_refl _
  | c :: w, s, hs, hw => by
    obtain ⟨h1, h2⟩ := zmS hw
    simp only [z2T]
    exact Nat.le_trans (zcB hd hn (zkW hd h2) h1) (zz6 hd hn hs h2)
theorem zy3 {d : DFA} {m n : Nat} (hd : DfaOk d m n) {s a : Nat} (hs : s < 2 ^ n) (h0 : s ≠ 0) (ha : a < m) : mvN d s a ≠ 0 := by
  obtain ⟨q, hq⟩ : ∃ q, s.testBit q = true := Nat.exists_testBit_of_ne_zero h0
  have hqn : q < n := by
    rcases Nat.lt_or_ge q n with h' | h'
    · exact h'
    · have : s.testBit q = false := Nat.testBit_lt_two_pow (Nat.lt_of_lt_of_le hs (Nat.pow_le_pow_right (n := 2) (by omega) h'))
      rw [this] at hq; cases hq
  intro h
  have := (z6X hd ha (s := s) ((d.next.getD q []).getD a 0).toNat).2 ⟨q, hqn, hq, rfl⟩
  rw [h, Nat.zero_testBit] at this
  cases this
theorem zih {d : DFA} {m n : Nat} (hd : DfaOk d m n) {x : Nat} (hx : x ∈ z2S d m n) : x ≠ 0 := by
  have hp := Nat.two_pow_pos n
  have h2n : 2 ≤ 2 ^ n := by have := Nat.pow_le_pow_right (n := 2) (by omega) hd.n1; omega
  have hf : 2 ^ n - 1 < 2 ^ n := by omega
  have hi := z3B hd hf
  obtain ⟨_, h2, _⟩ := z6F hi.nd n
  have hpm := z8F (z7W (z0Y d m n (2 ^ n - 1)).1 n)
  rcases (h2 x).1 (hpm.mem_iff.1 hx) with h | ⟨i, _, rfl⟩
  · obtain ⟨i, hil, rfl⟩ := List.getElem_of_mem h
    obtain ⟨_, o2, o3⟩ := hi.ok i hil
    rw [List.getD, List.getD, List.getElem?_eq_getElem hil, Option.getD_some] at o3
    rw [← o3]
    have : ∀ {w : List UInt8} {s : Nat}, s < 2 ^ n → s ≠ 0 → zwC m w → z2T d s w ≠ 0 := by
      intro w
      induction w with
      | nil => intro s _ h0 _; exact h0
      | cons c w ih =>
        intro s hs h0 hw
        obtain ⟨q1, q2⟩ := zmS hw
        exact ih (zkW hd q2) (zy3 hd hs h0 q2) q1
    exact this hf (by omega) o2
  · exact Nat.ne_of_gt (Nat.two_pow_pos i)
theorem z6a {S : List Nat} {i j : Nat} : j ∈ ziB S i ↔ j < S.length ∧ j ≠ i ∧ z5u (S.getD j 0) (S.getD i 0) := by
  unfold ziB ziA z5u
  rw [List.mem_filter, List.mem_range]
  simp
theorem zif {S : List Nat} {i j : Nat} : zkB S i j = true ↔ ∀ k, k ∈ ziB S i → k ≠ j → ¬ z5u (S.getD j 0) (S.getD k 0) := by
  unfold zkB z5u
  rw [List.all_eq_true]
  constructor
  · intro h k hk hne hs
    have := h k hk
    simp only [Bool.or_eq_true, decide_eq_true_eq, Bool.not_eq_true', decide_eq_false_iff_not] at this
    exact this.elim hne fun hh => hh hs
  · intro h k hk
    simp only [Bool.or_eq_true, decide_eq_true_eq, Bool.not_eq_true', decide_eq_false_iff_not]
    by_cases e : k = j
    · exact .inl e
    · exact .inr (h k hk e)
theorem zie {S : List Nat} {i j : Nat} (hz : szN (S.getD i 0) ≠ 1) : j ∈ z8P S i ↔ j ∈ ziB S i ∧ zkB S i j = true := by
  unfold z8P
  rw [if_neg hz, List.mem_filter]
theorem zf1 {S : List Nat} {i j : Nat} (h : j ∈ z8P S i) : j ∈ ziB S i ∧ zkB S i j = true ∧ szN (S.getD i 0) ≠ 1 := by
  by_cases hz : szN (S.getD i 0) = 1
  · unfold z8P at h; rw [if_pos hz] at h; simp at h
  · exact ⟨((zie hz).1 h).1, ((zie hz).1 h).2, hz⟩
theorem zsu (S : List Nat) (i : Nat) : (z8P S i).Nodup := by
  unfold z8P
  split
  · simp
  · exact List.Pairwise.filter _ (List.Pairwise.filter _ List.nodup_range)
theorem zwJ {d : DFA} {m n : Nat} (hn : n ≤ 7) {S : List Nat} (hS : SetsP d m n S) {i : Nat} (hi : i < S.length) (hz : szN (S.getD i 0) ≠ 1) : ∀ f j, 8 - szN (S.getD j 0) ≤ f → j ∈ ziB S i → ∃ t, t ∈ z8P S i ∧ z5u (S.getD j 0) (S.getD t 0) := by
  have h128 : 2 ^ n ≤ 128 := Nat.pow_le_pow_right (n := 2) (by omega) hn
  have h8 : ∀ s, szN s ≤ 7 := fun s => by rw [z6r]; exact ztX _ _
  intro f
  induction f with
  | zero => intro j hf _; have := h8 (S.getD j 0); omega
  | succ f ih =>
    intro j hf hj
    by_cases hp : zkB S i j = true
    · exact ⟨j, (zie hz).2 ⟨hj, hp⟩, zd8 _⟩
    · have : ∃ k, k ∈ ziB S i ∧ k ≠ j ∧ z5u (S.getD j 0) (S.getD k 0) := by
        refine Classical.byContradiction fun hn' => hp (zif.2 fun k hk hne hs => hn' ⟨k, hk, hne, hs⟩)
      obtain ⟨k, hk, hne, hs⟩ := this
      have hkl := (z6a.1 hk).1
      have hjl := (z6a.1 hj).1
      have hlt := zw6 (a := S.getD j 0) (b := S.getD k 0) (by have := hS.lt _ (z0x hkl); omega) hs fun e => hne (z9D hS.nd hkl hjl e.symm)
      obtain ⟨t, h1, h2⟩ := ih k (by omega) hk
      exact ⟨t, h1, zkE hs h2⟩
theorem zsw {d : DFA} {m n : Nat} (hd : DfaOk d m n) (hn : n ≤ 7) {S : List Nat} (hS : SetsP d m n S) {i : Nat} (hi : i < S.length) (hz : szN (S.getD i 0) ≠ 1) {q : Nat} (hq : (S.getD i 0).testBit q = true) : ∃ t, t ∈ z8P S i ∧ (S.getD t 0).testBit q = true := by
  have h128 : 2 ^ n ≤ 128 := Nat.pow_le_pow_right (n := 2) (by omega) hn
  have hil := hS.lt _ (z0x hi)
  have hqn : q < n := by
    rcases Nat.lt_or_ge q n with h' | h'
    · exact h'
    · have : (S.getD i 0).testBit q = false := Nat.testBit_lt_two_pow (Nat.lt_of_lt_of_le hil (Nat.pow_le_pow_right (n := 2) (by omega) h'))
      rw [this] at hq; cases hq
  have h1 := hS.one q hqn
  have hg := z3W h1
  have hsz : szN (2 ^ q) = 1 := by
    have : ∀ q, q < 7 → szN (2 ^ q) = 1 := by decide +kernel
    exact this q (by omega)
  have hinn : S.idxOf (2 ^ q) ∈ ziB S i := z6a.2 ⟨zd0 h1, fun e => by rw [← e, hg] at hz; exact hz hsz, by
    rw [hg]
    refine z1j.2 fun p hp => ?_
    rw [Nat.testBit_two_pow, decide_eq_true_iff] at hp
    rw [← hp]; exact hq⟩
  obtain ⟨t, h2, h3⟩ := zwJ hn hS hi hz _ _ (Nat.le_refl _) hinn
  refine ⟨t, h2, z1j.1 h3 q ?_⟩
  rw [hg, Nat.testBit_two_pow]; simp
theorem zsv {d : DFA} {m n : Nat} (hn : n ≤ 7) {S : List Nat} (hS : SetsP d m n S) {i k : Nat} (hi : i < S.length) (h : k ∈ z8P S i) : i < k ∧ k < S.length ∧ z5u (S.getD k 0) (S.getD i 0) ∧ S.getD k 0 ≠ S.getD i 0 := by
  have h128 : 2 ^ n ≤ 128 := Nat.pow_le_pow_right (n := 2) (by omega) hn
  obtain ⟨h1, _, _⟩ := zf1 h
  obtain ⟨hk, hne, hs⟩ := z6a.1 h1
  have hx : S.getD k 0 ≠ S.getD i 0 := fun e => hne (z9D hS.nd hk hi e)
  refine ⟨?_, hk, hs, hx⟩
  have hlt := zw6 (by have := hS.lt _ (z0x hi); omega) hs hx
  rcases Nat.lt_trichotomy i k with h' | h' | h'
  · exact h'
  · exact absurd h'.symm hne
  · have := List.pairwise_iff_getElem.1 hS.srt k i hk hi h'
    rw [z9G] at this
    rw [List.getD, List.getD, List.getElem?_eq_getElem hk, List.getElem?_eq_getElem hi, Option.getD_some, Option.getD_some] at hlt
    omega
theorem zor {N : Nat} {b : Nat → Nat → Bool} (hb : BelN N b) {z : Nat → Bool} (hz : ∀ i k, i < N → k < N → z k = true → b i k = true → z i = true) {i k : Nat} (hi : i < N) (hk : k < N) (h : b i k = true) : ziE N b z i ≤ ziE N b z k := by
  rw [zlg hb z i hi]
  split
  · omega
  · rename_i hzi
    have hzk : ¬ z k = true := fun hh => hzi (hz i k hi hk hh h)
    rw [zlg hb z k hk, if_neg hzk]
    refine z9A fun j hj => ?_
    by_cases hs : sbN b j i = true
    · rw [if_pos hs]
      have hsk : sbN b j k = true := by
        simp only [sbN, Bool.and_eq_true, Bool.not_eq_true'] at hs ⊢
        refine ⟨hb.trans j i k hj hi hk hs.1 h, ?_⟩
        cases hkj : b k j with
        | false => rfl
        | true =>
          have := hb.trans i k j hi hk hj h hkj
          rw [this] at hs; cases hs.2
      have := zob (g := fun j => if sbN b j k = true then ziE N b z j + 1 else 0) hj
      simp only [hsk, if_true] at this
      exact this
    · rw [if_neg hs]; omega
theorem zu6 {d : DFA} {m n : Nat} (hd : DfaOk d m n) (hn : n ≤ 7) {i k : Nat} (hi : i < (z2S d m n).length) (hk : k < (z2S d m n).length) (hz : z7n (z2S d m n) k = true) (h : z4O d m n (z2S d m n) i k = true) : z7n (z2S d m n) i = true := by
  have hS := zcz hd
  have h128 : 2 ^ n ≤ 128 := Nat.pow_le_pow_right (n := 2) (by omega) hn
  obtain ⟨w, h1, h2⟩ := (z2u hd hS hk).1 h
  have hkl := hS.lt _ (z0x hk)
  simp only [z7n, decide_eq_true_eq] at hz ⊢
  have a1 := zmA h2
  have a2 := zcB hd hn hkl h1
  have h0 := zih hd (z0x hi)
  have : 1 ≤ szN ((z2S d m n).getD i 0) := by
    obtain ⟨q, hq⟩ := Nat.exists_testBit_of_ne_zero h0
    have hil := hS.lt _ (z0x hi)
    have := zfA (p := fun _ => false) (q := fun q => ((z2S d m n).getD i 0).testBit q) (k := 7) (i := q) (fun j _ hf => by simp at hf) (zBE (by omega) hq) rfl hq
    rw [z6r]; omega
  omega
end Go.Proofs.Ytodliknibbafeaa
end
section
namespace Go.Proofs.Ytodliknibbafeaa
open Go
set_option maxRecDepth 100000
theorem zux {A K : Nat} (h : z5u A K) : szN A + szN (K ^^^ A) = szN K := by
  rw [z6r, z6r, z6r]
  have hb := z1j.1 h
  have : ∀ k, z3v (fun q => A.testBit q) k + z3v (fun q => (K ^^^ A).testBit q) k = z3v (fun q => K.testBit q) k := by
    intro k
    induction k with
    | zero => simp [z3v]
    | succ k ih =>
      have h1 := hb k
      simp only [z3v]
      have h2 : (K ^^^ A).testBit k = (K.testBit k ^^ A.testBit k) := Nat.testBit_xor ..
      have h3 : ∀ a b c : Bool, (a = true → b = true) → c = (b ^^ a) → (if a = true then 1 else 0) + (if c = true then 1 else 0) = (if b = true then 1 else 0) := by decide
      have := h3 _ _ _ h1 h2
      omega
  exact this 7
theorem zvE {A K : Nat} (h : z5u A K) : A ||| (K ^^^ A) = K := by
  apply Nat.eq_of_testBit_eq
  intro q
  have h1 := z1j.1 h q
  rw [Nat.testBit_or, Nat.testBit_xor]
  revert h1
  cases A.testBit q <;> cases K.testBit q <;> simp
theorem zsA {A K : Nat} (h : z5u A K) : A ≤ K := by
  unfold z5u at h; rw [← h]; exact Nat.and_le_right
theorem zuA (A B : Nat) : z5u A (A ||| B) := z1j.2 fun q hq => by rw [Nat.testBit_or, hq]; rfl
theorem znW (A B : Nat) : z5u B (A ||| B) := z1j.2 fun q hq => by rw [Nat.testBit_or, hq, Bool.or_true]
theorem zkT {A B : Nat} (h : z5u A B) : A ||| B = B := z7C (z1j.2 fun q hq => by
  rw [Nat.testBit_or, Bool.or_eq_true] at hq
  exact hq.elim (z1j.1 h q) id) (znW A B)
theorem zxB {A B K : Nat} (h1 : z5u A K) (h2 : z5u B K) : z5u (A ||| B) K := z1j.2 fun q hq => by
  rw [Nat.testBit_or, Bool.or_eq_true] at hq
  exact hq.elim (z1j.1 h1 q) (z1j.1 h2 q)
structure Lead (d : DFA) (m n K I : Nat) (w : List UInt8) : Prop where
  hw : zwC m w
  hK : K < 2 ^ n
  hI : I < 2 ^ n
  run : z2T d K w = I
  sz : szN I = szN K
theorem zmU {d : DFA} {m n : Nat} (hd : DfaOk d m n) (hn : n ≤ 7) {K I : Nat} {w : List UInt8} (h : Lead d m n K I w) {A : Nat} (hA : z5u A K) : szN (z2T d A w) = szN A := by
  have h128 : 2 ^ n ≤ 128 := Nat.pow_le_pow_right (n := 2) (by omega) hn
  have hAK := zsA hA
  have hK := h.hK
  have hB : z5u (K ^^^ A) K := by
    have := zvE hA
    rw [← this]; rw [this]; rw [← this]
    exact (by rw [this]; exact (by
      refine z1j.2 fun q hq => ?_
      rw [Nat.testBit_xor] at hq
      have h1 := z1j.1 hA q
      revert hq h1
      cases A.testBit q <;> cases K.testBit q <;> simp))
  have hBl := zsA hB
  have e1 := zsQ hd (x := A) (y := K ^^^ A) h.hw
  rw [zvE hA, h.run] at e1
  have l1 := zf5 hd (s := A) (w := w) (by omega) h.hw
  have l2 := zf5 hd (s := K ^^^ A) (w := w) (by omega) h.hw
  have s1 := zyQ (x := z2T d A w) (y := z2T d (K ^^^ A) w) (by omega) (by omega)
  rw [← e1, h.sz] at s1
  have s2 := zcB hd hn (s := K ^^^ A) (by omega) h.hw
  have s3 := zcB hd hn (s := A) (by omega) h.hw
  have s4 := zux hA
  omega
theorem zix {d : DFA} {m n : Nat} (hd : DfaOk d m n) (hn : n ≤ 7) {K I : Nat} {w : List UInt8} (h : Lead d m n K I w) {A B : Nat} (hA : z5u A K) (hB : z5u B K) (hs : z5u (z2T d A w) (z2T d B w)) : z5u A B := by
  have h128 : 2 ^ n ≤ 128 := Nat.pow_le_pow_right (n := 2) (by omega) hn
  have hK := h.hK
  have hAB := zxB hA hB
  have hl := zsA hAB
  have e1 := zmU hd hn h hAB
  rw [zsQ hd h.hw, zkT hs, zmU hd hn h hB] at e1
  have := zw7 (a := B) (b := A ||| B) (by omega) (znW A B) (by omega)
  rw [this]
  exact zuA A B
theorem zoj {d : DFA} {m n : Nat} (hd : DfaOk d m n) (hn : n ≤ 7) {K I : Nat} {w : List UInt8} (h : Lead d m n K I w) {A B : Nat} (hA : z5u A K) (hB : z5u B K) (he : z2T d A w = z2T d B w) : A = B :=
  z7C (zix hd hn h hA hB (by rw [he]; exact zd8 _)) (zix hd hn h hB hA (by rw [he]; exact zd8 _))
theorem zuy {α β : Type} {l : List α} {r : List β} {f : α → β} (hl : (l.map f).Nodup) (hs : ∀ x ∈ l.map f, x ∈ r) (hle : r.length ≤ l.length) {u : β} (hu : u ∈ r) : u ∈ l.map f := by
  refine Classical.byContradiction fun hn => ?_
  have := z7L (l := u :: l.map f) (r := r) (List.nodup_cons.2 ⟨hn, hl⟩) fun x hx => by
    rcases List.mem_cons.1 hx with rfl | hx
    · exact hu
    · exact hs x hx
  rw [List.length_cons, List.length_map] at this
  omega
theorem zfd {α β : Type} {l : List α} {f : α → β} (hl : l.Nodup) (hf : ∀ x ∈ l, ∀ y ∈ l, f x = f y → x = y) : (l.map f).Nodup := by
  induction l with
  | nil => simp
  | cons a l ih =>
    rw [List.nodup_cons] at hl
    rw [List.map_cons, List.nodup_cons]
    refine ⟨fun h => ?_, ih hl.2 fun x hx y hy => hf x (List.mem_cons_of_mem _ hx) y (List.mem_cons_of_mem _ hy)⟩
    obtain ⟨x, hx, he⟩ := List.mem_map.1 h
    have := hf x (List.mem_cons_of_mem _ hx) a (List.mem_cons_self ..) he
    exact hl.1 (this ▸ hx)
section
variable {d : DFA} {m n : Nat} {S : List Nat} (hd : DfaOk d m n) (hn : n ≤ 7) (hS : SetsP d m n S)
include hd hn hS
theorem ztw {k i : Nat} (hk : k < S.length) (hi : i < S.length) {w : List UInt8} (h : Lead d m n (S.getD k 0) (S.getD i 0) w) :
    (∀ j ∈ ziB S k, S.idxOf (z2T d (S.getD j 0) w) ∈ ziB S i ∧ S.getD (S.idxOf (z2T d (S.getD j 0) w)) 0 = z2T d (S.getD j 0) w) ∧ ((ziB S k).map fun j => S.idxOf (z2T d (S.getD j 0) w)).Nodup := by
  have h128 : 2 ^ n ≤ 128 := Nat.pow_le_pow_right (n := 2) (by omega) hn
  have hmem : ∀ j, j < S.length → z2T d (S.getD j 0) w ∈ S := fun j hj => zsR hS h.hw (z0x hj)
  refine ⟨fun j hj => ?_, zfd (List.Pairwise.filter _ List.nodup_range) fun x hx y hy e => ?_⟩
  · obtain ⟨h1, h2, h3⟩ := z6a.1 hj
    have hg := z3W (hmem j h1)
    refine ⟨z6a.2 ⟨zd0 (hmem j h1), fun e => ?_, ?_⟩, hg⟩
    · rw [e] at hg
      have s1 := zmU hd hn h h3
      rw [← hg, h.sz] at s1
      have := zw7 (a := S.getD j 0) (b := S.getD k 0) (by have := h.hK; omega) h3 (by omega)
      exact h2 (z9D hS.nd h1 hk this)
    · rw [hg, ← h.run]
      exact zij hd h.hw h3
  · obtain ⟨h1, h2, h3⟩ := z6a.1 hx
    obtain ⟨k1, k2, k3⟩ := z6a.1 hy
    have e2 : z2T d (S.getD x 0) w = z2T d (S.getD y 0) w := by
      rw [← z3W (hmem x h1), ← z3W (hmem y k1)]
      exact congrArg (fun q => S.getD q 0) e
    exact z9D hS.nd h1 k1 (zoj hd hn h h3 k3 e2)
theorem zwK {k i : Nat} (hk : k < S.length) (hi : i < S.length) {w : List UInt8} (h : Lead d m n (S.getD k 0) (S.getD i 0) w) : (ziB S k).length ≤ (ziB S i).length := by
  obtain ⟨h1, h2⟩ := ztw hd hn hS hk hi h
  have := z7L h2 (r := ziB S i) fun x hx => by
    obtain ⟨j, hj, rfl⟩ := List.mem_map.1 hx
    exact (h1 j hj).1
  simpa using this
theorem zw5 {k i : Nat} (hk : k < S.length) (hi : i < S.length) {w v : List UInt8} (h : Lead d m n (S.getD k 0) (S.getD i 0) w) (h' : Lead d m n (S.getD i 0) (S.getD k 0) v) {t : Nat} (ht : t ∈ z8P S k) : S.idxOf (z2T d (S.getD t 0) w) ∈ z8P S i := by
  obtain ⟨h1, h2⟩ := ztw hd hn hS hk hi h
  obtain ⟨t1, t2, t3⟩ := zf1 ht
  have hz : szN (S.getD i 0) ≠ 1 := by rw [h.sz]; exact t3
  refine (zie hz).2 ⟨(h1 t t1).1, zif.2 fun u hu hne hs => ?_⟩
  have hsur := zuy (l := ziB S k) (r := ziB S i) h2 (fun x hx => by
    obtain ⟨j, hj, rfl⟩ := List.mem_map.1 hx
    exact (h1 j hj).1) (zwK hd hn hS hi hk h') hu
  obtain ⟨j, hj, rfl⟩ := List.mem_map.1 hsur
  rw [(h1 t t1).2, (h1 j hj).2] at hs
  have hsub := zix hd hn h (z6a.1 t1).2.2 (z6a.1 hj).2.2 hs
  exact zif.1 t2 j hj (fun e => hne (by rw [e])) hsub
theorem zdg {k i : Nat} (hk : k < S.length) (hi : i < S.length) (he : z7e d m n S i k = true) : szN (S.getD i 0) = szN (S.getD k 0) ∧ S.getD i 0 ∈ (z0Y d m n (S.getD k 0)).1 := by
  have h128 : 2 ^ n ≤ 128 := Nat.pow_le_pow_right (n := 2) (by omega) hn
  simp only [z7e, Bool.and_eq_true] at he
  obtain ⟨w, w1, w2⟩ := (z2u hd hS hk).1 he.1
  obtain ⟨v, v1, v2⟩ := (z2u hd hS hi).1 he.2
  have hkl := hS.lt _ (z0x hk)
  have hil := hS.lt _ (z0x hi)
  have a1 := zmA w2
  have a2 := zcB hd hn hkl w1
  have a3 := zmA v2
  have a4 := zcB hd hn hil v1
  refine ⟨by omega, ?_⟩
  have hrl := zf5 hd hkl w1
  have := zw7 (by omega) w2 (by omega)
  rw [this]
  exact zf7 hd hkl w1 (zhR hd hkl)
omit hn hS in
theorem ziW {s x : Nat} (hs : s < 2 ^ n) (hx : x ∈ (z0Y d m n s).1) : zwC m (zcS (z0Y d m n s) x).data.toList ∧ (zcS (z0Y d m n s) x).size ≤ 2 ^ n ∧ z2T d s (zcS (z0Y d m n s) x).data.toList = x := by
  have hi := z3B hd hs
  have hl := z0Q hi.nd hi.lt
  have hlt := zd0 hx
  obtain ⟨o1, o2, o3⟩ := hi.ok _ hlt
  unfold zcS
  exact ⟨o2, by omega, by rw [o3, z3W hx]⟩
end
end Go.Proofs.Ytodliknibbafeaa
end

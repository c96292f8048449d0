/- Proved here: a part of the proof of the law at hand, in one text: no condition. -/
import Derived.Test.YthalofddjlhcjaaDoorMCascadeText2
import Derived.Lib.ItoaLen
import Derived.Lib.Bytealg
import Derived.Test.YthalofddjlhcjaaDoorProg
import Derived.KernelRfl
import Derived.WalkKit
import Derived.Below
set_option linter.unusedVariables false
set_option linter.unusedSimpArgs false
section
/- Functions by value as plain definitions: loops, checks, and the engine's steps beside them. Over any program. -/
namespace Go.Proofs.YthalofddjlhcjaaDoor
set_option linter.unusedVariables false
set_option linter.unusedSimpArgs false

/-! Plain definitions. -/

/-- A loop: a round goes on, ends with an answer, or fails. -/
def loopG {σ ρ : Type} (b : σ → Option (σ ⊕ ρ)) : Nat → σ → Option ρ
  | 0, _ => none
  | n + 1, s => match b s with
    | none => none
    | some (.inl s') => loopG b n s'
    | some (.inr r) => some r
def nextG {σ ρ : Type} (s : σ) : Option (σ ⊕ ρ) := some (.inl s)
def exitG {σ ρ : Type} (x : Option ρ) : Option (σ ⊕ ρ) := x.map .inr
def chk {α : Type} (p : Prop) [Decidable p] (x : Option α) : Option α := if p then x else none
def atI {α : Type} (xs : List α) (i : Int) : Option α := if 0 ≤ i then xs[i.toNat]? else none
def byteI (s : ByteArray) (i : Int) : Option Int := if 0 ≤ i then (s[i.toNat]?).map fun b => (b.toNat : Int) else none
/-- A piece. -/
def pieceL {α : Type} (xs : List α) (l h : Int) : Option (List α) := if 0 ≤ l ∧ l ≤ h ∧ h ≤ xs.length then some ((xs.drop l.toNat).take (h.toNat - l.toNat)) else none
def pieceS (s : ByteArray) (l h : Int) : Option ByteArray := if 0 ≤ l ∧ l ≤ h ∧ h ≤ s.size then some (s.extract l.toNat h.toNat) else none
def capOk (bytes n : Nat) : Prop := n * bytes ≤ 140737488355328 ∧ n ≤ 4611686018427387904
instance (b n : Nat) : Decidable (capOk b n) := by unfold capOk; exact inferInstance
def makeOk (bytes l : Int) : Prop := 0 ≤ l ∧ l ≤ 140737488355328 ∧ bytes * l ≤ 140737488355328
instance (b n : Int) : Decidable (makeOk b n) := by unfold makeOk; exact inferInstance
def catOk (a b : ByteArray) : Prop := ((a.size : Int) + b.size) ≤ 9223372036854775807
instance (a b : ByteArray) : Decidable (catOk a b) := by unfold catOk; exact inferInstance
def bytesOf (l : List Int) : ByteArray := ⟨(l.map fun z => UInt8.ofNat z.toNat).toArray⟩
def intsOf (s : ByteArray) : List Int := s.data.toList.map fun b => (b.toNat : Int)
def getM {κ ν : Type} [DecidableEq κ] (k : κ) : List (κ × ν) → Option ν
  | [] => none
  | (a, v) :: r => if a = k then some v else getM k r
def setM {κ ν : Type} [DecidableEq κ] (k : κ) (v : ν) : List (κ × ν) → List (κ × ν)
  | [] => [(k, v)]
  | (a, u) :: r => if a = k then (k, v) :: r else (a, u) :: setM k v r
def andI (k : IntKind) (a b : Int) : Int := k.wrap (BitVec.ofInt k.bits a &&& BitVec.ofInt k.bits b).toNat
def orI (k : IntKind) (a b : Int) : Int := k.wrap (BitVec.ofInt k.bits a ||| BitVec.ofInt k.bits b).toNat
def xorI (k : IntKind) (a b : Int) : Int := k.wrap (BitVec.ofInt k.bits a ^^^ BitVec.ofInt k.bits b).toNat
def andNotI (k : IntKind) (a b : Int) : Int := k.wrap (BitVec.ofInt k.bits a &&& ~~~ BitVec.ofInt k.bits b).toNat
def shlI (k : IntKind) (a b : Int) : Int := k.wrap (a * 2 ^ (min b.toNat k.bits))
def shrI (k : IntKind) (a b : Int) : Int := a.fdiv (2 ^ (min b.toNat k.bits))
def quoI (k : IntKind) (a b : Int) : Int := k.wrap (a.tdiv b)
def strLt (a b : ByteArray) : Bool := Go.Op.bytesLess a.toList b.toList

theorem chk_some {α : Type} {p : Prop} [Decidable p] {x : Option α} {r : α} (h : chk p x = some r) : p ∧ x = some r := by
  unfold chk at h; split at h
  · exact ⟨by assumption, h⟩
  · cases h
theorem bnd_some {α β : Type} {x : Option α} {f : α → Option β} {r : β} (h : x.bind f = some r) : ∃ v, x = some v ∧ f v = some r := by
  cases x with
  | none => cases h
  | some v => exact ⟨v, rfl, h⟩
theorem exit_some {σ ρ : Type} {x : Option ρ} {o : σ ⊕ ρ} (h : exitG x = some o) : ∃ r, x = some r ∧ o = .inr r := by
  unfold exitG at h
  cases x with
  | none => cases h
  | some v => cases h; exact ⟨v, rfl, rfl⟩
theorem next_some {σ ρ : Type} {s : σ} {o : σ ⊕ ρ} (h : nextG s = some o) : o = .inl s := by cases h; rfl
theorem atI_some {α : Type} {xs : List α} {i : Int} {v : α} (h : atI xs i = some v) : 0 ≤ i ∧ i < xs.length ∧ i.toNat + 1 ≤ xs.length ∧ xs[i.toNat]? = some v ∧ ∀ hh : i.toNat < xs.length, xs[i.toNat]'hh = v := by
  unfold atI at h
  split at h
  · have := (List.getElem?_eq_some_iff.1 h).1
    exact ⟨by assumption, by omega, this, h, fun _ => (List.getElem?_eq_some_iff.1 h).2⟩
  · cases h
theorem byteI_some {s : ByteArray} {i v : Int} (h : byteI s i = some v) : 0 ≤ i ∧ i < s.size ∧ ∃ b, s[i.toNat]? = some b ∧ v = (b.toNat : Int) ∧ ∀ hh : i.toNat < s.size, ((s[i.toNat]'hh).toNat : Int) = v := by
  unfold byteI at h
  split at h
  · simp only [Option.map_eq_some_iff] at h
    obtain ⟨b, hb, rfl⟩ := h
    have : i.toNat < s.size := by
      rcases Nat.lt_or_ge i.toNat s.size with h' | h'
      · exact h'
      · rw [getElem?_neg s i.toNat (by omega)] at hb; cases hb
    exact ⟨by assumption, by omega, b, hb, rfl, fun hh => by rw [getElem?_pos s i.toNat hh] at hb; cases hb; rfl⟩
  · cases h
theorem pieceL_some {α : Type} {xs ys : List α} {l h : Int} (e : pieceL xs l h = some ys) : 0 ≤ l ∧ l ≤ h ∧ h ≤ xs.length ∧ ys = (xs.drop l.toNat).take (h.toNat - l.toNat) ∧ ys.length = h.toNat - l.toNat := by
  unfold pieceL at e
  split at e
  · cases e
    refine ⟨by omega, by omega, by omega, rfl, ?_⟩
    simp; omega
  · cases e
theorem pieceS_some {s t : ByteArray} {l h : Int} (e : pieceS s l h = some t) : 0 ≤ l ∧ l ≤ h ∧ h ≤ s.size ∧ t = s.extract l.toNat h.toNat := by
  unfold pieceS at e
  split at e
  · cases e; exact ⟨by omega, by omega, by omega, rfl⟩
  · cases e

/-! Loops, by an invariant. -/

theorem loopG_rule {σ ρ : Type} {b : σ → Option (σ ⊕ ρ)} (I : σ → Prop) (m : σ → Nat) (Post : ρ → Prop) (step : ∀ s, I s → (∃ s', b s = some (.inl s') ∧ I s' ∧ m s' < m s) ∨ (∃ r, b s = some (.inr r) ∧ Post r)) :
    ∀ (n : Nat) (s : σ), I s → m s < n → ∃ r, loopG b n s = some r ∧ Post r
  | 0, s, _, h => by omega
  | n + 1, s, hI, hm => by
    rcases step s hI with ⟨s', e, hI', hm'⟩ | ⟨r, e, hr⟩
    · obtain ⟨r, h1, h2⟩ := loopG_rule I m Post step n s' hI' (by omega)
      exact ⟨r, by simp only [loopG, e]; exact h1, h2⟩
    · exact ⟨r, by simp only [loopG, e], hr⟩
/-- A loop whose answer is known. -/
theorem loopG_eq {σ ρ : Type} {b : σ → Option (σ ⊕ ρ)} {r : ρ} (I : σ → Prop) (m : σ → Nat) {n : Nat} {s : σ} (hI : I s) (hm : m s < n) (step : ∀ s, I s → (∃ s', b s = nextG s' ∧ I s' ∧ m s' < m s) ∨ b s = exitG (some r)) : loopG b n s = some r := by
  obtain ⟨r', h1, h2⟩ := loopG_rule I m (· = r) (fun s hs => (step s hs).imp id fun h => ⟨r, h, rfl⟩) n s hI hm
  rw [h1, h2]

/-! The engine's steps beside them. -/

theorem q_ifT {P : Program} {C : Contract} {cf : Cfg} {LF : Nat} {c : Code} {fr : Fr} {Q : X → Fr → Prop} {o : Operand} (ho : cdO c = some o) (hv : rdV (opE fr o) = some (.bool true)) (h : wpC P C cf LF (cdA c) fr Q) : wpC P C cf LF c fr Q :=
  q_if ho fun Q1 Q2 h1 h2 => by rw [hv, twoV_some]; exact ⟨fun _ => h1.out h, fun e => by cases e⟩
theorem q_ifF {P : Program} {C : Contract} {cf : Cfg} {LF : Nat} {c : Code} {fr : Fr} {Q : X → Fr → Prop} {o : Operand} (ho : cdO c = some o) (hv : rdV (opE fr o) = some (.bool false)) (h : wpC P C cf LF (cdB c) fr Q) : wpC P C cf LF c fr Q :=
  q_if ho fun Q1 Q2 h1 h2 => by rw [hv, twoV_some]; exact ⟨(fun e => by cases e), fun _ => h2.out h⟩

/-- How a round ends. -/
def roundC {σ ρ : Type} (H : σ → Fr) (cn : Fr → Fr) (o : σ ⊕ ρ) (Q : X → Fr → Prop) : X → Fr → Prop
  | .n, fr => ∃ s', o = .inl s' ∧ cn fr = H s'
  | .x i, fr => (∃ r, o = .inr r) ∧ Q (.x i) fr
  | .r, fr => (∃ r, o = .inr r) ∧ Q .r fr
theorem roundC_n {σ ρ : Type} {H : σ → Fr} {cn : Fr → Fr} {o : σ ⊕ ρ} {Q : X → Fr → Prop} {fr : Fr} {s : σ} (ho : o = .inl s) (h : cn fr = H s) : roundC H cn o Q .n fr := ⟨s, ho, h⟩
theorem roundC_x {σ ρ : Type} {H : σ → Fr} {cn : Fr → Fr} {o : σ ⊕ ρ} {Q : X → Fr → Prop} {fr : Fr} {i : Nat} {r : ρ} (ho : o = .inr r) (h : Q (.x i) fr) : roundC H cn o Q (.x i) fr := ⟨⟨r, ho⟩, h⟩
theorem roundC_r {σ ρ : Type} {H : σ → Fr} {cn : Fr → Fr} {o : σ ⊕ ρ} {Q : X → Fr → Prop} {fr : Fr} {r : ρ} (ho : o = .inr r) (h : Q .r fr) : roundC H cn o Q .r fr := ⟨⟨r, ho⟩, h⟩

theorem iter_loopG {σ ρ : Type} {B : Fr → Option (X × Fr)} {cn : Fr → Fr} {body : σ → Option (σ ⊕ ρ)} {H : σ → Fr} {r : ρ} {Q : X → Fr → Prop}
    (round : ∀ s o, body s = some o → (∀ r', o = .inr r' → r' = r) → ∃ x fr', B (H s) = some (x, fr') ∧ roundC H cn o Q x fr') :
    ∀ (n : Nat) (s : σ) (fr : Fr), loopG body n s = some r → cn fr = H s → ∃ x fr', iterF B cn n fr = some (x, fr') ∧ Q x fr'
  | 0, s, fr, h, _ => by cases h
  | n + 1, s, fr, h, h0 => by
    simp only [loopG] at h
    split at h
    · cases h
    · rename_i s' e
      obtain ⟨x, fr', e1, e2⟩ := round s _ e (fun r' h' => by cases h')
      cases x with
      | n =>
        obtain ⟨s2, e3, e4⟩ := e2
        cases e3
        obtain ⟨x2, fr2, e5, e6⟩ := iter_loopG round n s' fr' h e4
        exact ⟨x2, fr2, by simp only [iterF, h0, e1]; exact e5, e6⟩
      | x i => obtain ⟨⟨r', e3⟩, _⟩ := e2; cases e3
      | r => obtain ⟨⟨r', e3⟩, _⟩ := e2; cases e3
    · rename_i r0 e
      cases h
      obtain ⟨x, fr', e1, e2⟩ := round s _ e (fun r' h' => by cases h'; rfl)
      cases x with
      | n => obtain ⟨s2, e3, _⟩ := e2; cases e3
      | x i => exact ⟨_, _, by simp only [iterF, h0, e1], e2.2⟩
      | r => exact ⟨_, _, by simp only [iterF, h0, e1], e2.2⟩
theorem q_loopG {P : Program} {C : Contract} {cf : Cfg} {LF : Nat} {c : Code} {fr : Fr} {Q : X → Fr → Prop} {σ ρ : Type} {lv : List Nat} {body : σ → Option (σ ⊕ ρ)} {s0 : σ} {r : ρ} (h : loopG body LF s0 = some r) (H : σ → Fr) (hk : kindC c = 5) (hv : cf.live (firstR (lpC c)) = some lv)
    (h0 : canonF (some lv) fr = H s0) (round : ∀ s o, body s = some o → (∀ r', o = .inr r' → r' = r) → wpC P C cf LF (lpC c) (H s) (roundC H (canonF (some lv)) o Q)) : wpC P C cf LF c fr Q := by
  cases c with
  | loop b =>
    obtain ⟨x, fr', e1, e2⟩ := iter_loopG (B := fun fr => codeF P C cf LF b fr) (cn := canonF (some lv)) (H := H) (body := body) (r := r) (Q := Q) (fun s o h1 h2 => by have := round s o h1 h2; unfold wpC at this; exact this) LF s0 fr h h0
    unfold wpC
    refine ⟨x, fr', ?_, e2⟩
    simp only [codeF]
    simp only [lpC] at hv
    rw [hv]
    exact e1
  | _ => cases hk

/-! The engine's rules in these words. -/
theorem intBin_add (k : IntKind) (a b : Int) : intBin .add k a b = some (.int k (k.wrap (a + b))) := rfl
theorem intBin_sub (k : IntKind) (a b : Int) : intBin .sub k a b = some (.int k (k.wrap (a - b))) := rfl
theorem intBin_mul (k : IntKind) (a b : Int) : intBin .mul k a b = some (.int k (k.wrap (a * b))) := rfl
theorem intBin_quo (k : IntKind) (a b : Int) : intBin .quo k a b = if b = 0 then none else some (.int k (quoI k a b)) := rfl
theorem intBin_rem (k : IntKind) (a b : Int) : intBin .rem k a b = if b = 0 then none else some (.int k (a.tmod b)) := rfl
theorem intBin_and (k : IntKind) (a b : Int) : intBin .and k a b = some (.int k (andI k a b)) := rfl
theorem intBin_or (k : IntKind) (a b : Int) : intBin .or k a b = some (.int k (orI k a b)) := rfl
theorem intBin_xor (k : IntKind) (a b : Int) : intBin .xor k a b = some (.int k (xorI k a b)) := rfl
theorem intBin_andNot (k : IntKind) (a b : Int) : intBin .andNot k a b = some (.int k (andNotI k a b)) := rfl
theorem intBin_eql (k : IntKind) (a b : Int) : intBin .eql k a b = some (.bool (decide (a = b))) := rfl
theorem intBin_neq (k : IntKind) (a b : Int) : intBin .neq k a b = some (.bool (!decide (a = b))) := rfl
theorem intBin_lss (k : IntKind) (a b : Int) : intBin .lss k a b = some (.bool (decide (a < b))) := rfl
theorem intBin_leq (k : IntKind) (a b : Int) : intBin .leq k a b = some (.bool (decide (a ≤ b))) := rfl
theorem intBin_gtr (k : IntKind) (a b : Int) : intBin .gtr k a b = some (.bool (decide (b < a))) := rfl
theorem intBin_geq (k : IntKind) (a b : Int) : intBin .geq k a b = some (.bool (decide (b ≤ a))) := rfl
theorem toList_inj {a b : ByteArray} : a.toList = b.toList ↔ a = b := by
  constructor
  · intro h
    have h1 : a.data.toList = b.data.toList := by simpa [ByteArray.toList_eq] using h
    obtain ⟨⟨x⟩⟩ := a
    obtain ⟨⟨y⟩⟩ := b
    simp at h1
    rw [h1]
  · intro h; rw [h]
theorem strBin_eql (a b : ByteArray) : strBin .eql a b = some (.bool (decide (a = b))) := by
  simp only [strBin]
  congr 2
  rw [Bool.eq_iff_iff]; simp [toList_inj]
theorem strBin_neq (a b : ByteArray) : strBin .neq a b = some (.bool (!decide (a = b))) := by
  simp only [strBin]
  congr 3
  rw [Bool.eq_iff_iff]; simp [toList_inj]
theorem strBin_lss (a b : ByteArray) : strBin .lss a b = some (.bool (strLt a b)) := rfl
theorem strBin_geq (a b : ByteArray) : strBin .geq a b = some (.bool (!strLt a b)) := rfl
theorem strBin_add (a b : ByteArray) : strBin .add a b = if catOk a b then some (.string (a ++ b)) else none := by
  have hm : IntKind.i64.max = 9223372036854775807 := by decide
  show (if ((a.size + b.size : Nat) : Int) > IntKind.i64.max then none else some (Value.string (a ++ b))) = _
  rw [hm]
  by_cases h : catOk a b
  · rw [if_pos h]
    unfold catOk at h
    rw [if_neg (by omega)]
  · rw [if_neg h]
    unfold catOk at h
    rw [if_pos (by omega)]
theorem binS_int (op : BinOp) (u : Option TyI) (k k' : IntKind) (a b : Int) : binS op u (.int k a) (.int k' b) = match op with
    | .shl => if b < 0 then none else some (.int k (shlI k a b))
    | .shr => if b < 0 then none else some (.int k (shrI k a b))
    | _ => if k = k' then intBin op k a b else none := by
  cases op <;> rfl
theorem binS_str (op : BinOp) (u : Option TyI) (a b : ByteArray) : binS op u (.string a) (.string b) = strBin op a b := rfl
theorem binS_bool (op : BinOp) (u : Option TyI) (a b : Bool) : binS op u (.bool a) (.bool b) = match u with
    | some ⟨.bool, _, _, _⟩ => (match op with | .eql => some (.bool (a == b)) | .neq => some (.bool (!(a == b))) | _ => none)
    | _ => none := rfl
theorem bytesT_z : ∀ l : List Int, bytesT (l.map fun z => .sc (.int .u8 z)) = some (l.map fun z => UInt8.ofNat z.toNat)
  | [] => rfl
  | z :: l => by simp [bytesT, bytesT_z l]

/-! Elements and pieces. -/
theorem flat_len {α β : Type} {g : α → List β} {m : Nat} (hg : ∀ x, (g x).length = m) : ∀ xs : List α, (xs.flatMap g).length = xs.length * m
  | [] => by simp
  | x :: xs => by
    have := flat_len hg xs
    simp only [List.flatMap_cons, List.length_append, hg, this, List.length_cons, Nat.add_mul, Nat.one_mul]
    omega
theorem flat_drop {α β : Type} {g : α → List β} {m : Nat} (hg : ∀ x, (g x).length = m) : ∀ (xs : List α) (i : Nat), (xs.flatMap g).drop (i * m) = (xs.drop i).flatMap g
  | xs, 0 => by simp
  | [], i + 1 => by simp
  | x :: xs, i + 1 => by
    have := flat_drop hg xs i
    rw [List.flatMap_cons, List.drop_succ_cons, ← this, List.drop_append, List.drop_eq_nil_of_le (by rw [hg, Nat.add_mul]; omega), List.nil_append, hg]
    congr 1
    rw [Nat.add_mul]; omega
theorem flat_take {α β : Type} {g : α → List β} {m : Nat} (hg : ∀ x, (g x).length = m) : ∀ (xs : List α) (i : Nat), (xs.flatMap g).take (i * m) = (xs.take i).flatMap g
  | xs, 0 => by simp
  | [], i + 1 => by simp
  | x :: xs, i + 1 => by
    have := flat_take hg xs i
    rw [List.flatMap_cons, List.take_succ_cons, List.flatMap_cons, ← this, List.take_append, List.take_of_length_le (by rw [hg, Nat.add_mul]; omega), hg]
    congr 2
    rw [Nat.add_mul]; omega
theorem flat_some {α β : Type} {g : α → List β} {m : Nat} (hg : ∀ x, (g x).length = m) {xs : List α} {i : Nat} {v : α} (h : xs[i]? = some v) :
    i * m + m ≤ xs.length * m ∧ ((xs.flatMap g).drop (i * m)).take m = g v ∧ (∀ j, j < m → (xs.flatMap g)[i * m + j]? = (g v)[j]?) ∧ ∀ j c, (g v)[j]? = some c → ∀ hh : i * m + j < (xs.flatMap g).length, (xs.flatMap g)[i * m + j]'hh = c := by
  obtain ⟨hi, hv⟩ := List.getElem?_eq_some_iff.1 h
  have hd : xs.drop i = v :: xs.drop (i + 1) := by rw [← hv]; exact List.drop_eq_getElem_cons hi
  have h2 : ((xs.flatMap g).drop (i * m)) = g v ++ (xs.drop (i + 1)).flatMap g := by rw [flat_drop hg, hd, List.flatMap_cons]
  have key : ∀ j, j < m → (xs.flatMap g)[i * m + j]? = (g v)[j]? := fun j hj => by
    rw [← List.getElem?_drop, h2, List.getElem?_append_left (by rw [hg]; exact hj)]
  refine ⟨?_, ?_, key, fun j c hc hh => ?_⟩
  · calc i * m + m = (i + 1) * m := by rw [Nat.add_mul, Nat.one_mul]
      _ ≤ _ := Nat.mul_le_mul_right _ hi
  · rw [h2, List.take_append_of_le_length (by rw [hg]; exact Nat.le_refl _), List.take_of_length_le (by rw [hg]; exact Nat.le_refl _)]
  · have hj : j < m := by rw [← hg v]; exact (List.getElem?_eq_some_iff.1 hc).1
    have := key j hj
    rw [hc, List.getElem?_eq_getElem hh] at this
    exact Option.some.inj this

theorem pieceL_map {α β : Type} {g : α → β} {xs ys : List α} {l h : Int} (e : pieceL xs l h = some ys) : ((xs.map g).drop l.toNat).take (h.toNat - l.toNat) = ys.map g := by
  obtain ⟨_, _, _, e2, _⟩ := pieceL_some e
  rw [e2, List.map_take, List.map_drop]
theorem pieceL_flat {α β : Type} {g : α → List β} {m : Nat} (hg : ∀ x, (g x).length = m) {xs ys : List α} {l h : Int} (e : pieceL xs l h = some ys) : ((xs.flatMap g).drop (l.toNat * m)).take ((h.toNat - l.toNat) * m) = ys.flatMap g := by
  obtain ⟨_, _, _, e2, _⟩ := pieceL_some e
  rw [e2, flat_drop hg, flat_take hg]
theorem pieceL_slm {α : Type} {xs ys : List α} {l h : Int} (e : pieceL xs l h = some ys) (f : α → T) : T.sl (h.toNat - l.toNat) (ys.map f) = T.sl ys.length (ys.map f) := by
  obtain ⟨_, _, _, _, e2⟩ := pieceL_some e
  rw [e2]
theorem pieceL_slf {α : Type} {xs ys : List α} {l h : Int} (e : pieceL xs l h = some ys) (f : α → List T) : T.sl (h.toNat - l.toNat) (ys.flatMap f) = T.sl ys.length (ys.flatMap f) := by
  obtain ⟨_, _, _, _, e2⟩ := pieceL_some e
  rw [e2]
theorem piece_hi {l h : Int} (a : 0 ≤ l) (b : l ≤ h) : 0 ≤ h ∧ l ≤ (h.toNat : Int) := by omega
theorem zeroL_flat {α : Type} {g : α → List T} (z : α) : ∀ n : Nat, zeroL n (g z) = (List.replicate n z).flatMap g
  | 0 => rfl
  | n + 1 => by rw [zeroL, zeroL_flat z n, List.replicate_succ, List.flatMap_cons]
theorem opns_append : ∀ a b : List T, opns (a ++ b) = (opns a || opns b)
  | [], b => by simp [opns]
  | t :: a, b => by simp [opns, opns_append a b, Bool.or_assoc]
theorem opns_map {α : Type} (g : α → T) : ∀ l : List α, opns (l.map g) = l.any fun x => opn (g x)
  | [] => rfl
  | x :: l => by simp [opns, opns_map g l]
theorem opns_flat {α : Type} (g : α → List T) : ∀ l : List α, opns (l.flatMap g) = l.any fun x => opns (g x)
  | [] => rfl
  | x :: l => by simp [opns_append, opns_flat g l]
/-! Maps. -/
theorem findV_si (k : ByteArray) (kd : IntKind) : ∀ m : List (ByteArray × Int), findV (.string k) (m.map fun p => (Value.string p.1, Value.int kd p.2)) = (getM k m).map (Value.int kd)
  | [] => rfl
  | (a, v) :: m => by
    simp only [List.map_cons, findV, getM, keyEq, findV_si k kd m]
    by_cases h : a = k <;> simp [h]
theorem findV_sb (k : ByteArray) : ∀ m : List (ByteArray × Bool), findV (.string k) (m.map fun p => (Value.string p.1, Value.bool p.2)) = (getM k m).map Value.bool
  | [] => rfl
  | (a, v) :: m => by
    simp only [List.map_cons, findV, getM, keyEq, findV_sb k m]
    by_cases h : a = k <;> simp [h]
theorem findV_ii (k : Int) (kk kd : IntKind) : ∀ m : List (Int × Int), findV (.int kk k) (m.map fun p => (Value.int kk p.1, Value.int kd p.2)) = (getM k m).map (Value.int kd)
  | [] => rfl
  | (a, v) :: m => by
    simp only [List.map_cons, findV, getM, keyEq, findV_ii k kk kd m]
    by_cases h : a = k <;> simp [h]
theorem findV_ib (k : Int) (kk : IntKind) : ∀ m : List (Int × Bool), findV (.int kk k) (m.map fun p => (Value.int kk p.1, Value.bool p.2)) = (getM k m).map Value.bool
  | [] => rfl
  | (a, v) :: m => by
    simp only [List.map_cons, findV, getM, keyEq, findV_ib k kk m]
    by_cases h : a = k <;> simp [h]
theorem setV_si (k : ByteArray) (kd : IntKind) (v : Int) : ∀ m : List (ByteArray × Int), setV (.string k) (.int kd v) (m.map fun p => (Value.string p.1, Value.int kd p.2)) = (setM k v m).map fun p => (Value.string p.1, Value.int kd p.2)
  | [] => rfl
  | (a, u) :: m => by
    simp only [List.map_cons, setV, setM, keyEq, setV_si k kd v m]
    by_cases h : a = k <;> simp [h]
theorem setV_sb (k : ByteArray) (v : Bool) : ∀ m : List (ByteArray × Bool), setV (.string k) (.bool v) (m.map fun p => (Value.string p.1, Value.bool p.2)) = (setM k v m).map fun p => (Value.string p.1, Value.bool p.2)
  | [] => rfl
  | (a, u) :: m => by
    simp only [List.map_cons, setV, setM, keyEq, setV_sb k v m]
    by_cases h : a = k <;> simp [h]
theorem setV_ii (k : Int) (kk kd : IntKind) (v : Int) : ∀ m : List (Int × Int), setV (.int kk k) (.int kd v) (m.map fun p => (Value.int kk p.1, Value.int kd p.2)) = (setM k v m).map fun p => (Value.int kk p.1, Value.int kd p.2)
  | [] => rfl
  | (a, u) :: m => by
    simp only [List.map_cons, setV, setM, keyEq, setV_ii k kk kd v m]
    by_cases h : a = k <;> simp [h]
theorem setV_ib (k : Int) (kk : IntKind) (v : Bool) : ∀ m : List (Int × Bool), setV (.int kk k) (.bool v) (m.map fun p => (Value.int kk p.1, Value.bool p.2)) = (setM k v m).map fun p => (Value.int kk p.1, Value.bool p.2)
  | [] => rfl
  | (a, u) :: m => by
    simp only [List.map_cons, setV, setM, keyEq, setV_ib k kk v m]
    by_cases h : a = k <;> simp [h]
theorem setV_nil (k v : Value) : setV k v [] = [(k, v)] := rfl
theorem setM_nil {κ ν : Type} [DecidableEq κ] (k : κ) (v : ν) : setM k v [] = [(k, v)] := rfl
theorem getD_int (kd : IntKind) (z : Int) (o : Option Int) : (o.map (Value.int kd)).getD (.int kd z) = .int kd (o.getD z) := by cases o <;> rfl
theorem getD_bool (z : Bool) (o : Option Bool) : (o.map Value.bool).getD (.bool z) = .bool (o.getD z) := by cases o <;> rfl

@[simp] theorem oneNil : (Value.slice none 0 0).oneCell' = true := rfl
@[simp] theorem bszL (a : Array UInt8) : ByteArray.size ⟨a⟩ = a.size := rfl
@[simp] theorem bempty : (⟨#[]⟩ : ByteArray) = ByteArray.empty := rfl
/-! A part of a list, handed on to be written. -/
theorem vo_at {α : Type} {g : α → List T} {m : Nat} (hm : ∀ x, (g x).length = m) (y : α) {xs : List α} {k : Nat} {x : α} (h : xs[k]? = some x) :
    xs.flatMap g = (xs.take k).flatMap g ++ (g x ++ (xs.drop (k + 1)).flatMap g) ∧ (xs.set k y).flatMap g = (xs.take k).flatMap g ++ (g y ++ (xs.drop (k + 1)).flatMap g) ∧ ((xs.take k).flatMap g).length = k * m := by
  obtain ⟨hk, hx⟩ := List.getElem?_eq_some_iff.1 h
  have hd : xs.drop k = x :: xs.drop (k + 1) := by rw [← hx]; exact List.drop_eq_getElem_cons hk
  refine ⟨?_, ?_, ?_⟩
  · rw [← List.flatMap_cons, ← hd, ← List.flatMap_append, List.take_append_drop]
  · rw [← List.flatMap_cons, ← List.flatMap_append, List.set_eq_take_append_cons_drop, if_pos hk]
  · rw [flat_len hm, List.length_take, Nat.min_eq_left (by omega)]
@[simp] theorem voG0 (p l : List T) : (p ++ l)[p.length]? = l[0]? := by rw [List.getElem?_append_right (Nat.le_refl _), Nat.sub_self]
@[simp] theorem voG (p l : List T) (j : Nat) : (p ++ l)[p.length + j]? = l[j]? := by rw [List.getElem?_append_right (by omega), Nat.add_sub_cancel_left]
@[simp] theorem voSet0 (p l : List T) (x : T) : (p ++ l).set p.length x = p ++ l.set 0 x := by rw [List.set_append_right _ _ (Nat.le_refl _), Nat.sub_self]
@[simp] theorem voSet (p l : List T) (j : Nat) (x : T) : (p ++ l).set (p.length + j) x = p ++ l.set j x := by rw [List.set_append_right _ _ (by omega), Nat.add_sub_cancel_left]
/-! Short names: the engine's rules in a row of a sequence. -/
section
variable {P : Program} {C : Contract} {cf : Cfg} {LF : Nat} {c : Code} {fr fr1 : Fr} {Q : X → Fr → Prop}
theorem zr {l : List Oper} (hl : rgL c = some l) (hd : rgD c = false) (hz : cf.fz (rgI c) = none) (hf : regF P C cf.wio l.toArray l fr = some fr1) (h : Q .n fr1) : wpC P C cf LF c fr Q :=
  q_region hl hd hz fun Q' hQ => by rw [hf, andF_some]; exact hQ.out _ h
theorem zq (hk : kindC c = 2) (h : wpC P C cf LF (seqA c) fr (thenC (fun fr' => wpC P C cf LF (seqB c) fr' Q) Q)) : wpC P C cf LF c fr Q := q_seq hk h
theorem zb (hk : kindC c = 4) (h : wpC P C cf LF (blC c) fr (blockC (blI c) Q)) : wpC P C cf LF c fr Q := q_block hk h
end
@[simp] theorem voLe (a j k n : Nat) : (a + j + k ≤ a + n) = (j + k ≤ n) := by simp only [eq_iff_iff]; omega
theorem setCells_app (p : List T) : ∀ (xs l : List T) (j : Nat), setCells (p ++ l) (p.length + j) xs = p ++ setCells l j xs
  | [], l, j => rfl
  | x :: xs, l, j => by
    simp only [setCells]
    rw [voSet, show p.length + j + 1 = p.length + (j + 1) by omega, setCells_app p xs]
theorem setCells_all : ∀ (xs a l : List T), a.length = xs.length → setCells (a ++ l) 0 xs = xs ++ l
  | [], a, l, h => by
    have : a = [] := List.eq_nil_of_length_eq_zero h
    subst this; rfl
  | x :: xs, [], l, h => by cases h
  | x :: xs, b :: a, l, h => by
    have ih := setCells_all xs a l (by simpa using h)
    have h2 := setCells_app [x] xs (a ++ l) 0
    simp only [List.length_singleton, Nat.add_zero, ih] at h2
    simp only [List.cons_append, setCells, List.set_cons_zero, Nat.zero_add]
    simpa using h2
theorem setCells_nil : ∀ (xs : List T) (j : Nat), setCells [] j xs = []
  | [], j => rfl
  | x :: xs, j => by simp only [setCells, List.set_nil]; exact setCells_nil xs _
theorem flat_put {α : Type} {g : α → List T} {m : Nat} (hg : ∀ x, (g x).length = m) (v : α) : ∀ (k : Nat) (xs : List α), setCells (xs.flatMap g) (k * m) (g v) = (xs.set k v).flatMap g
  | k, [] => by simp only [List.flatMap_nil, setCells_nil, List.set_nil]
  | 0, x :: xs => by
    rw [Nat.zero_mul, List.flatMap_cons, setCells_all _ _ _ (by rw [hg, hg]), List.set_cons_zero, List.flatMap_cons]
  | k + 1, x :: xs => by
    have h := setCells_app (g x) (g v) (xs.flatMap g) (k * m)
    rw [hg] at h
    rw [List.flatMap_cons, show (k + 1) * m = m + k * m by rw [Nat.add_mul]; omega, h, flat_put hg v k xs, List.set_cons_succ, List.flatMap_cons]
end Go.Proofs.YthalofddjlhcjaaDoor
end
section
/- Plain laws on loops, counters, lists. No program. -/
namespace Go.Proofs.YthalofddjlhcjaaDoor
open Go
set_option linter.unusedVariables false
set_option linter.unusedSimpArgs false

theorem loop_toN {σ ρ : Type} {b : σ → Option (σ ⊕ ρ)} {x : Option ρ} : ∀ (n : Nat) (f : Nat → σ) (m : Nat), n < m → (∀ k, k < n → b (f k) = nextG (f (k + 1))) → b (f n) = exitG x → loopG b m (f 0) = x
  | 0, f, m + 1, _, _, hl => by
    simp only [loopG, hl]
    cases x <;> rfl
  | n + 1, f, m + 1, hm, hs, hl => by
    simp only [loopG, hs 0 (by omega), nextG]
    exact loop_toN n (fun k => f (k + 1)) m (by omega) (fun k hk => hs (k + 1) (by omega)) hl
/-- A loop that makes n rounds and ends. -/
theorem loop_to {σ ρ : Type} {b : σ → Option (σ ⊕ ρ)} {x : Option ρ} (n : Nat) (f : Nat → σ) {s : σ} (h0 : s = f 0) (hn : n < LFm) (step : ∀ k, k < n → b (f k) = nextG (f (k + 1))) (last : b (f n) = exitG x) : loopG b LFm s = x := by
  subst h0; exact loop_toN n f LFm hn step last
theorem loop_findN {σ ρ : Type} {b : σ → Option (σ ⊕ ρ)} {x : Option ρ} {p : Nat → Bool} {A : Nat → Option ρ} : ∀ (n : Nat) (f : Nat → σ) (m i : Nat), n < m → (∀ k, k < n → b (f k) = if p (i + k) = true then exitG (A (i + k)) else nextG (f (k + 1))) → b (f n) = exitG x →
    loopG b m (f 0) = match ((List.range n).map (i + ·)).find? p with | some k => A k | none => x
  | 0, f, m + 1, i, _, _, hl => by
    simp only [loopG, hl]
    cases x <;> rfl
  | n + 1, f, m + 1, i, hm, hs, hl => by
    have h0 := hs 0 (by omega)
    have hmap : (List.range (n + 1)).map (i + ·) = i :: (List.range n).map (i + 1 + ·) := by
      rw [List.range_succ_eq_map, List.map_cons, List.map_map]
      congr 1
      apply List.map_congr_left
      intro k _
      simp only [Function.comp]
      omega
    rw [hmap, List.find?_cons]
    simp only [Nat.add_zero] at h0
    by_cases hp : p i = true
    · rw [if_pos hp] at h0
      rw [hp]
      simp only [loopG, h0]
      generalize A i = y
      cases y <;> rfl
    · rw [if_neg hp] at h0
      have hp' : p i = false := by simpa using hp
      rw [hp']
      simp only [loopG, h0, nextG]
      exact loop_findN n (fun k => f (k + 1)) m (i + 1) (by omega) (fun k hk => by rw [hs (k + 1) (by omega), show i + (k + 1) = i + 1 + k by omega]) hl
/-- A loop that ends early where p holds. -/
theorem loop_find {σ ρ : Type} {b : σ → Option (σ ⊕ ρ)} {x : Option ρ} (n : Nat) (f : Nat → σ) (p : Nat → Bool) (A : Nat → Option ρ) {s : σ} (h0 : s = f 0) (hn : n < LFm) (step : ∀ k, k < n → b (f k) = if p k = true then exitG (A k) else nextG (f (k + 1))) (last : b (f n) = exitG x) :
    loopG b LFm s = match (List.range n).find? p with | some k => A k | none => x := by
  subst h0
  have := loop_findN n f LFm 0 hn (p := p) (A := A) (fun k hk => by rw [step k hk]; simp) last
  simpa using this
theorem wrapS {k : Nat} (h : k < 4611686018427387904) : IntKind.i64.wrap ((k : Int) + 1) = ((k + 1 : Nat) : Int) := by
  rw [IntWalk.i64_in _ (by omega)]; omega
theorem wrapI {x : Int} (h : -9223372036854775808 ≤ x) (h2 : x < 9223372036854775808) : IntKind.i64.wrap x = x := IntWalk.i64_in _ (by omega)
theorem wrap8 {x : Int} (h : 0 ≤ x) (h2 : x < 256) : IntKind.u8.wrap x = x := by rw [IntKind.wrap_u8]; omega
theorem atI_nat {α : Type} {xs : List α} {k : Nat} (h : k < xs.length) : atI xs (k : Int) = some xs[k] := by
  unfold atI; rw [if_pos (by omega), Int.toNat_natCast, List.getElem?_eq_getElem h]
theorem atI_q {α : Type} (xs : List α) (k : Nat) : atI xs (k : Int) = xs[k]? := by
  unfold atI; rw [if_pos (by omega), Int.toNat_natCast]
theorem byteI_nat {s : ByteArray} {k : Nat} (h : k < s.size) : byteI s (k : Int) = some (s[k].toNat : Int) := by
  unfold byteI; rw [if_pos (by omega), Int.toNat_natCast, getElem?_pos s k h]; rfl
theorem pieceL_to {α : Type} {xs : List α} {k : Nat} (h : k ≤ xs.length) : pieceL xs 0 (k : Int) = some (xs.take k) := by
  unfold pieceL; rw [if_pos (by omega)]; simp
theorem pieceL_from {α : Type} {xs : List α} {k : Nat} (h : k ≤ xs.length) : pieceL xs (k : Int) (xs.length : Int) = some (xs.drop k) := by
  unfold pieceL; rw [if_pos (by omega)]; simp [List.take_of_length_le]
theorem chk_pos {α : Type} {p : Prop} [Decidable p] (x : Option α) (h : p) : chk p x = x := by unfold chk; rw [if_pos h]
theorem find_none {p : Nat → Bool} {n : Nat} : (List.range n).find? p = none ↔ ∀ k, k < n → p k = false := by simp
theorem find_some {p : Nat → Bool} {n k : Nat} : (List.range n).find? p = some k ↔ k < n ∧ p k = true ∧ ∀ j, j < k → p j = false := by
  rw [List.find?_range_eq_some]; simp; constructor
  · rintro ⟨a, b, c⟩; exact ⟨b, a, c⟩
  · rintro ⟨a, b, c⟩; exact ⟨b, a, c⟩
/-- A loop over a range that answers a Bool. -/
theorem find_all {ρ : Type} {p : Nat → Bool} {n : Nat} (a b : ρ) : (match (List.range n).find? p with | some _ => a | none => b) = if (List.range n).all (fun k => !p k) then b else a := by
  cases h : (List.range n).find? p with
  | none => rw [find_none] at h; rw [if_pos (by simpa using h)]
  | some k =>
    rw [find_some] at h
    rw [if_neg]
    simp only [List.all_eq_true, List.mem_range, Bool.not_eq_true']
    intro hh
    have := hh k h.1
    rw [h.2.1] at this
    cases this
theorem range_all {α : Type} (p : α → Bool) (l : List α) (d : α) : (List.range l.length).all (fun k => p (l.getD k d)) = l.all p := by
  rw [Bool.eq_iff_iff, List.all_eq_true, List.all_eq_true]
  constructor
  · intro h x hx
    obtain ⟨i, hi, rfl⟩ := List.getElem_of_mem hx
    have := h i (List.mem_range.2 hi)
    simpa only [List.getD, List.getElem?_eq_getElem hi, Option.getD_some] using this
  · intro h i hi
    have hi := List.mem_range.1 hi
    have := h _ (List.getElem_mem hi)
    simpa only [List.getD, List.getElem?_eq_getElem hi, Option.getD_some] using this
/-- A loop over a list that asks something of each element. -/
theorem list_loop {α ρ : Type} {b : Int → Option (Int ⊕ ρ)} {l : List α} (d : α) (p : α → Bool) {A B : Option ρ} (h : l.length < 4611686018427387904) (step : ∀ k, k < l.length → b (k : Int) = if p (l.getD k d) = true then nextG ((k + 1 : Nat) : Int) else exitG A) (last : b (l.length : Int) = exitG B) :
    loopG b LFm 0 = if l.all p = true then B else A := by
  rw [loop_find (s := (0 : Int)) l.length (fun k => (k : Int)) (fun k => !p (l.getD k d)) (fun _ => A) (x := B) rfl (by simp only [LFm]; omega) (fun k hk => ?_) last]
  · rw [find_all]
    simp only [Bool.not_not]
    rw [range_all]
  · rw [step k hk]
    cases p (l.getD k d) <;> simp
/-- Two answers that belong together. -/
def OptR {α β : Type} (E : α → β → Prop) : Option α → Option β → Prop
  | some a, some b => E a b
  | none, none => True
  | _, _ => False
def SumR {σ τ α β : Type} (R : σ → τ → Prop) (E : α → β → Prop) : σ ⊕ α → τ ⊕ β → Prop
  | .inl a, .inl b => R a b
  | .inr a, .inr b => E a b
  | _, _ => False
/-- Two rounds that belong together. -/
abbrev RndR {σ τ α β : Type} (R : σ → τ → Prop) (E : α → β → Prop) : Option (σ ⊕ α) → Option (τ ⊕ β) → Prop := OptR (SumR R E)
theorem rnd_next {σ τ α β : Type} {R : σ → τ → Prop} {E : α → β → Prop} {s : σ} {t : τ} (h : R s t) : RndR R E (nextG s) (nextG t) := h
theorem rnd_exit {σ τ α β : Type} {R : σ → τ → Prop} {E : α → β → Prop} {x : Option α} {y : Option β} (h : OptR E x y) : RndR R E (exitG x) (exitG y) := by
  cases x <;> cases y <;> first | exact h | exact absurd h id
/-- Two loops side by side. -/
theorem loop_sim {σ τ α β : Type} {b : σ → Option (σ ⊕ α)} {d : τ → Option (τ ⊕ β)} (R : σ → τ → Prop) (E : α → β → Prop) (step : ∀ s t, R s t → RndR R E (b s) (d t)) : ∀ (n : Nat) (s : σ) (t : τ), R s t → OptR E (loopG b n s) (loopG d n t)
  | 0, s, t, _ => trivial
  | n + 1, s, t, h => by
    have h1 := step s t h
    simp only [loopG]
    revert h1
    cases b s with
    | none => cases d t with
      | none => intro _; trivial
      | some y => intro h1; exact absurd h1 (by cases y <;> exact id)
    | some x => cases d t with
      | none => intro h1; exact absurd h1 (by cases x <;> exact id)
      | some y =>
        cases x with
        | inl s' => cases y with
          | inl t' => intro h1; exact loop_sim R E step n s' t' h1
          | inr r => intro h1; exact absurd h1 id
        | inr r => cases y with
          | inl t' => intro h1; exact absurd h1 id
          | inr r' => intro h1; exact h1
theorem optR_eq {α : Type} {x y : Option α} (h : OptR (· = ·) x y) : x = y := by
  cases x <;> cases y <;> first | rfl | (exact congrArg some h) | exact absurd h id
theorem optR_rfl {α : Type} (x : Option α) : OptR (· = ·) x x := by cases x <;> first | rfl | trivial
end Go.Proofs.YthalofddjlhcjaaDoor
end
section
/- The engine's steps as rules of rewriting. Over any program. -/
namespace Go.Proofs.YthalofddjlhcjaaDoor
attribute [simp] undef scB ext demark demarks_eq Function.comp_def bytesT_map wrap_u8_nat kidV kidT nav sub upd cellsT withCells getA setA getO delO setO mapE mapA constC constT depOk onA kill strip renA takeA setCells under killU frzA freezeA killP plainT kidA kidsA cellT setT moveT plugA plugL putR cellAB explode cellsE isAggU rdV scE binS_int binS_str binS_bool intBin_add intBin_sub intBin_mul intBin_quo intBin_rem intBin_and intBin_or intBin_xor intBin_andNot intBin_eql intBin_neq intBin_lss intBin_leq intBin_gtr intBin_geq strBin_eql strBin_neq strBin_lss strBin_geq strBin_add findV_si findV_sb findV_ii findV_ib setV_si setV_sb setV_ii setV_ib getD_int getD_bool setV_nil setM_nil List.map_flatMap opns_map opns_flat bytesT_z bytesOf intsOf unS minS maxS constE opE depA depIn loadE partE rdSl intV indexAddrE indexE bndE sliceE extractE lenE bytesT intsOfT convE callE quietE initT needP plugs dropG finF newF allocF boxF setAt keepZ keepZs fillA zeroL zcells buildSliceF makeSliceF storeF storeG sameF baseF baseM isSc srcF ownSrc isIntU appendF isTup markF bytesF effF calmB asgF opn opns isIo topArg argA argAs argE inDeps argsF kill1 freezeL clB ioF retF retA callF quiet2E putF opF yieldF guardF grdF regF calmF firstR onE ids keepO keepT ghosts gfrom canonF asgAll entryE entryT entryO entryF resE resEs shapeE flatE plugsE outT outId outsF ioIdx outId2 isVo outV backT ownT exitF andF_some ltFI leFI ltFN leFN drawF drawZ stepZ wrF pickZ noM allM frz1 frzP frzL keyB rdMp lookupE mapLenE killD mapSetF hintB makeMapF capE capsE makeFuncE calleeE mapLenC eff2F calm2B exitC exitD Option.map_some fieldAddrE_eq fieldE_eq
end Go.Proofs.YthalofddjlhcjaaDoor
end
section
/- What is known of functions that the engine does not run. -/
namespace Go.Proofs.YthalofddjlhcjaaDoor
open Go

def intsI : List T → Option (List Int)
  | [] => some []
  | .sc (.int .i64 x) :: l => (intsI l).map (x :: ·)
  | _ => none
theorem intsI_map : ∀ xs : List Int, intsI (xs.map fun x => .sc (.int .i64 x)) = some xs
  | [] => rfl
  | x :: xs => by simp [intsI, intsI_map xs]
/-- slices.Clone of numbers. -/
def xClone (args : List T) : Option (T × List T) := match args with
  | [.sl n cs] => (match intsI cs with | some xs => if xs.length = n ∧ n * 8 ≤ 140737488355328 then some (ointsT xs, [.dead]) else none | none => none)
  | _ => none
/-- The reference's digits of a number below 100. -/
def xDigits (args : List T) : Option (T × List T) := match args with
  | [.sc (.int .i64 n)] => if 0 ≤ n ∧ n < 100 then some (sT ⟨(Lib.itoa n).toArray⟩, [.dead]) else none
  | _ => none
/-- Where a byte stands first; how often it stands. -/
def xIndex (args : List T) : Option (T × List T) := match args with
  | [.sc (.string s), .sc (.string b)] => (match b.data.toList with | [c] => some (.sc (.int .i64 (Lib.indexByte s.data.toList c)), [.dead, .dead]) | _ => none)
  | _ => none
def xCount (args : List T) : Option (T × List T) := match args with
  | [.sc (.string s), .sc (.string b)] => (match b.data.toList with | [c] => some (.sc (.int .i64 ((Lib.countByte s.data.toList c : Nat) : Int)), [.dead, .dead]) | _ => none)
  | _ => none
def xtC : Contract := fun f args => if f = 33 then xClone args else if f = 76 ∨ f = 79 then xIndex args else if f = 78 then xCount args else none
/-- The same by value. -/
def vClone (xs : List Int) : Option (List Int) := if xs.length * 8 ≤ 140737488355328 then some xs else none
def vIndex (s b : ByteArray) : Option Int := match b.data.toList with | [c] => some (Lib.indexByte s.data.toList c) | _ => none
def vCount (s b : ByteArray) : Option Int := match b.data.toList with | [c] => some ((Lib.countByte s.data.toList c : Nat) : Int) | _ => none
theorem xIndex_v {s b : ByteArray} {r : Int} (h : vIndex s b = some r) : xIndex [.sc (.string s), .sc (.string b)] = some (.sc (.int .i64 r), [.dead, .dead]) := by
  unfold vIndex at h
  unfold xIndex
  split at h
  · rename_i c hc; cases h; simp only [hc]
  · cases h
theorem xCount_v {s b : ByteArray} {r : Int} (h : vCount s b = some r) : xCount [.sc (.string s), .sc (.string b)] = some (.sc (.int .i64 r), [.dead, .dead]) := by
  unfold vCount at h
  unfold xCount
  split at h
  · rename_i c hc; cases h; simp only [hc]
  · cases h
theorem xClone_ints (xs : List Int) (h : xs.length * 8 ≤ 140737488355328) : xClone [ints xs] = some (ointsT xs, [.dead]) := by
  simp [xClone, intsI_map, h]
end Go.Proofs.YthalofddjlhcjaaDoor
end
section
/- Facts on the types; what guides the run of each function; one contract for all. -/
namespace Go.Proofs.YthalofddjlhcjaaDoor
open Go
set_option maxRecDepth 100000

@[simp] theorem ty2 : tyOf Tryd.prog 2 = some ⟨.int .i64, 1, 8, (some [(.sc (.int .i64 0))])⟩ := by kernel_rfl
@[simp] theorem ty3 : tyOf Tryd.prog 3 = some ⟨.int .i64, 1, 8, (some [(.sc (.int .i64 0))])⟩ := by kernel_rfl
@[simp] theorem ty4 : tyOf Tryd.prog 4 = some ⟨.bool, 1, 1, (some [(.sc (.bool false))])⟩ := by kernel_rfl
@[simp] theorem ty5 : tyOf Tryd.prog 5 = some ⟨.int .u8, 1, 1, (some [(.sc (.int .u8 0))])⟩ := by kernel_rfl
@[simp] theorem ty9 : tyOf Tryd.prog 9 = some ⟨.string, 1, 16, (some [(.sc (.string ByteArray.empty))])⟩ := by kernel_rfl
@[simp] theorem ty22 : tyOf Tryd.prog 22 = some ⟨.slice 3, 1, 24, (some [(.os 1 0 [])])⟩ := by kernel_rfl
@[simp] theorem ty23 : tyOf Tryd.prog 23 = some ⟨.pointer 57, 1, 8, (some [(.sc (.pointer none))])⟩ := by kernel_rfl
@[simp] theorem ty25 : tyOf Tryd.prog 25 = some ⟨.slice 47, 1, 24, (some [(.os 2 0 [])])⟩ := by kernel_rfl
noncomputable def fs27 : Array Field := match Tryd.prog.underlying 27 with | some (.struct fs) => fs | _ => #[]
@[simp] theorem ty27 : tyOf Tryd.prog 27 = some ⟨.struct fs27, 3, 56, (some [(.sc (.int .i64 0)), (.os 1 0 []), (.os 2 0 [])])⟩ := by kernel_rfl
@[simp] theorem fi27_0 : fieldI Tryd.prog 27 0 = some (0, 1, false) := by kernel_rfl
@[simp] theorem fi27_1 : fieldI Tryd.prog 27 1 = some (1, 1, false) := by kernel_rfl
@[simp] theorem fi27_2 : fieldI Tryd.prog 27 2 = some (2, 1, false) := by kernel_rfl
@[simp] theorem st27 : structI Tryd.prog 27 = (some [(.sc (.int .i64 0)), (.os 1 0 []), (.os 2 0 [])]) := by kernel_rfl
@[simp] theorem bs27 (fr : Fr) (parts : List (Nat × Operand)) : buildE Tryd.prog fr 27 parts = match fillA fr (fieldI Tryd.prog 27) ([(.sc (.int .i64 0)), (.os 1 0 []), (.os 2 0 [])].map (A.t none)) parts with | some xs => some (E.ag xs) | none => none := buildE_struct st27 fr parts
@[simp] theorem ty33 : tyOf Tryd.prog 33 = some ⟨.int .i64, 1, 8, (some [(.sc (.int .i64 0))])⟩ := by kernel_rfl
@[simp] theorem ty40 : tyOf Tryd.prog 40 = some ⟨.slice 22, 1, 24, (some [(.os 1 0 [])])⟩ := by kernel_rfl
noncomputable def fs47 : Array Field := match Tryd.prog.underlying 47 with | some (.struct fs) => fs | _ => #[]
@[simp] theorem ty47 : tyOf Tryd.prog 47 = some ⟨.struct fs47, 2, 48, (some [(.os 1 0 []), (.os 1 0 [])])⟩ := by kernel_rfl
@[simp] theorem fi47_0 : fieldI Tryd.prog 47 0 = some (0, 1, false) := by kernel_rfl
@[simp] theorem fi47_1 : fieldI Tryd.prog 47 1 = some (1, 1, false) := by kernel_rfl
@[simp] theorem st47 : structI Tryd.prog 47 = (some [(.os 1 0 []), (.os 1 0 [])]) := by kernel_rfl
@[simp] theorem bs47 (fr : Fr) (parts : List (Nat × Operand)) : buildE Tryd.prog fr 47 parts = match fillA fr (fieldI Tryd.prog 47) ([(.os 1 0 []), (.os 1 0 [])].map (A.t none)) parts with | some xs => some (E.ag xs) | none => none := buildE_struct st47 fr parts
@[simp] theorem ty54 : tyOf Tryd.prog 54 = some ⟨.slice 5, 1, 24, (some [(.os 1 0 [])])⟩ := by kernel_rfl
noncomputable def fs57 : Array Field := match Tryd.prog.underlying 57 with | some (.struct fs) => fs | _ => #[]
@[simp] theorem ty57 : tyOf Tryd.prog 57 = some ⟨.struct fs57, 2, 32, (some [(.os 1 0 []), (.sc (.int .i64 0))])⟩ := by kernel_rfl
@[simp] theorem fi57_0 : fieldI Tryd.prog 57 0 = some (0, 1, false) := by kernel_rfl
@[simp] theorem fi57_1 : fieldI Tryd.prog 57 1 = some (1, 1, false) := by kernel_rfl
@[simp] theorem st57 : structI Tryd.prog 57 = (some [(.os 1 0 []), (.sc (.int .i64 0))]) := by kernel_rfl
@[simp] theorem bs57 (fr : Fr) (parts : List (Nat × Operand)) : buildE Tryd.prog fr 57 parts = match fillA fr (fieldI Tryd.prog 57) ([(.os 1 0 []), (.sc (.int .i64 0))].map (A.t none)) parts with | some xs => some (E.ag xs) | none => none := buildE_struct st57 fr parts
noncomputable def fs59 : Array Field := match Tryd.prog.underlying 59 with | some (.struct fs) => fs | _ => #[]
@[simp] theorem ty59 : tyOf Tryd.prog 59 = some ⟨.struct fs59, 3, 56, (some [(.sc (.int .i64 0)), (.os 1 0 []), (.os 2 0 [])])⟩ := by kernel_rfl
@[simp] theorem fi59_0 : fieldI Tryd.prog 59 0 = some (0, 3, true) := by kernel_rfl
@[simp] theorem st59 : structI Tryd.prog 59 = (some [(.sc (.int .i64 0)), (.os 1 0 []), (.os 2 0 [])]) := by kernel_rfl
@[simp] theorem bs59 (fr : Fr) (parts : List (Nat × Operand)) : buildE Tryd.prog fr 59 parts = match fillA fr (fieldI Tryd.prog 59) ([(.sc (.int .i64 0)), (.os 1 0 []), (.os 2 0 [])].map (A.t none)) parts with | some xs => some (E.ag xs) | none => none := buildE_struct st59 fr parts
@[simp] theorem ty68 : tyOf Tryd.prog 68 = some ⟨.map 9 3, 1, 8, (some [(.sc (.map none))])⟩ := by kernel_rfl
@[simp] theorem mt68 : mapTy Tryd.prog 68 = some (none, 3) := by kernel_rfl
@[simp] theorem zv68 : zeroV Tryd.prog 3 = some (.int .i64 0) := by kernel_rfl
@[simp] theorem ty77 : tyOf Tryd.prog 77 = some ⟨.slice 9, 1, 24, (some [(.os 1 0 [])])⟩ := by kernel_rfl
@[simp] theorem ty92 : tyOf Tryd.prog 92 = some ⟨.slice 94, 1, 24, (some [(.os 4 0 [])])⟩ := by kernel_rfl
noncomputable def fs94 : Array Field := match Tryd.prog.underlying 94 with | some (.struct fs) => fs | _ => #[]
@[simp] theorem ty94 : tyOf Tryd.prog 94 = some ⟨.struct fs94, 4, 4, (some [(.sc (.bool false)), (.sc (.bool false)), (.sc (.bool false)), (.sc (.bool false))])⟩ := by kernel_rfl
@[simp] theorem fi94_0 : fieldI Tryd.prog 94 0 = some (0, 1, false) := by kernel_rfl
@[simp] theorem fi94_1 : fieldI Tryd.prog 94 1 = some (1, 1, false) := by kernel_rfl
@[simp] theorem fi94_2 : fieldI Tryd.prog 94 2 = some (2, 1, false) := by kernel_rfl
@[simp] theorem fi94_3 : fieldI Tryd.prog 94 3 = some (3, 1, false) := by kernel_rfl
@[simp] theorem st94 : structI Tryd.prog 94 = (some [(.sc (.bool false)), (.sc (.bool false)), (.sc (.bool false)), (.sc (.bool false))]) := by kernel_rfl
@[simp] theorem bs94 (fr : Fr) (parts : List (Nat × Operand)) : buildE Tryd.prog fr 94 parts = match fillA fr (fieldI Tryd.prog 94) ([(.sc (.bool false)), (.sc (.bool false)), (.sc (.bool false)), (.sc (.bool false))].map (A.t none)) parts with | some xs => some (E.ag xs) | none => none := buildE_struct st94 fr parts
@[simp] theorem ty102 : tyOf Tryd.prog 102 = some ⟨.int .u64, 1, 8, (some [(.sc (.int .u64 0))])⟩ := by kernel_rfl
@[simp] theorem ty104 : tyOf Tryd.prog 104 = some ⟨.pointer 94, 1, 8, (some [(.sc (.pointer none))])⟩ := by kernel_rfl
@[simp] theorem ty105 : tyOf Tryd.prog 105 = some ⟨.array 32 4, 32, 32, (some [(.sc (.bool false)), (.sc (.bool false)), (.sc (.bool false)), (.sc (.bool false)), (.sc (.bool false)), (.sc (.bool false)), (.sc (.bool false)), (.sc (.bool false)), (.sc (.bool false)), (.sc (.bool false)), (.sc (.bool false)), (.sc (.bool false)), (.sc (.bool false)), (.sc (.bool false)), (.sc (.bool false)), (.sc (.bool false)), (.sc (.bool false)), (.sc (.bool false)), (.sc (.bool false)), (.sc (.bool false)), (.sc (.bool false)), (.sc (.bool false)), (.sc (.bool false)), (.sc (.bool false)), (.sc (.bool false)), (.sc (.bool false)), (.sc (.bool false)), (.sc (.bool false)), (.sc (.bool false)), (.sc (.bool false)), (.sc (.bool false)), (.sc (.bool false))])⟩ := by kernel_rfl
@[simp] theorem ty112 : tyOf Tryd.prog 112 = some ⟨.int .u64, 1, 8, (some [(.sc (.int .u64 0))])⟩ := by kernel_rfl
@[simp] theorem ty117 : tyOf Tryd.prog 117 = some ⟨.array 24 5, 24, 24, (some [(.sc (.int .u8 0)), (.sc (.int .u8 0)), (.sc (.int .u8 0)), (.sc (.int .u8 0)), (.sc (.int .u8 0)), (.sc (.int .u8 0)), (.sc (.int .u8 0)), (.sc (.int .u8 0)), (.sc (.int .u8 0)), (.sc (.int .u8 0)), (.sc (.int .u8 0)), (.sc (.int .u8 0)), (.sc (.int .u8 0)), (.sc (.int .u8 0)), (.sc (.int .u8 0)), (.sc (.int .u8 0)), (.sc (.int .u8 0)), (.sc (.int .u8 0)), (.sc (.int .u8 0)), (.sc (.int .u8 0)), (.sc (.int .u8 0)), (.sc (.int .u8 0)), (.sc (.int .u8 0)), (.sc (.int .u8 0))])⟩ := by kernel_rfl

-- semigroup/semigrouplaw26.CascadeOrder
def cf3 : Cfg := { wio := fun f i => (f == 16 && (i == 0)) || (f == 14 && (i == 0)) || (f == 12 && (i == 0)) || (f == 13 && (i == 0)), live := fun r => if r = 7 then some [1, 5, 6, 7, 8, 9, 10] else none, dr := fun r => if r = 3 then some [(0, 0), (1, 0), (3, 0), (4, 0), (5, 0), (2, 1), (6, 1), (7, 0), (8, 0)] else if r = 14 then some [(0, 0), (1, 0), (2, 0), (3, 0), (4, 0), (5, 0), (6, 0), (7, 0), (8, 0), (9, 0), (10, 0), (11, 0), (12, 0), (13, 0), (14, 0), (15, 0), (16, 0), (17, 0), (18, 0), (19, 1), (20, 0), (21, 0), (22, 1), (23, 0), (24, 0)] else none, wr := fun r => if r = 3 then [16] else [] }
@[simp] theorem wio3 : cf3.wio = fun f i => (f == 16 && (i == 0)) || (f == 14 && (i == 0)) || (f == 12 && (i == 0)) || (f == 13 && (i == 0)) := rfl
@[simp] theorem live3 : cf3.live = fun r => if r = 7 then some [1, 5, 6, 7, 8, 9, 10] else none := rfl
@[simp] theorem wr3 : cf3.wr = fun r => if r = 3 then [16] else [] := rfl
-- semigroup/semigrouplaw26.CascadeRuns
def cf4 : Cfg := { wio := fun f i => (f == 16 && (i == 0)) || (f == 14 && (i == 0)) || (f == 12 && (i == 0)) || (f == 13 && (i == 0)), live := fun r => none, dr := fun r => if r = 3 then some [(0, 0), (1, 0), (3, 0), (4, 0), (5, 0), (7, 0), (8, 0), (9, 0), (2, 1), (6, 1), (10, 1), (11, 0), (12, 0), (13, 0)] else none, wr := fun r => if r = 3 then [15] else [] }
@[simp] theorem wio4 : cf4.wio = fun f i => (f == 16 && (i == 0)) || (f == 14 && (i == 0)) || (f == 12 && (i == 0)) || (f == 13 && (i == 0)) := rfl
@[simp] theorem live4 : cf4.live = fun r => none := rfl
@[simp] theorem wr4 : cf4.wr = fun r => if r = 3 then [15] else [] := rfl
-- semigroup/semigrouplaw26.CascadeFlat
def cf5 : Cfg := { wio := fun f i => false, live := fun r => none, dr := fun r => none }
@[simp] theorem wio5 : cf5.wio = fun f i => false := rfl
@[simp] theorem live5 : cf5.live = fun r => none := rfl
@[simp] theorem wr5 : cf5.wr = fun _ => [] := rfl
-- semigroup/semigrouplaw26.CascadeRaw
def cf6 : Cfg := { wio := fun f i => false, live := fun r => none, dr := fun r => none }
@[simp] theorem wio6 : cf6.wio = fun f i => false := rfl
@[simp] theorem live6 : cf6.live = fun r => none := rfl
@[simp] theorem wr6 : cf6.wr = fun _ => [] := rfl
-- semigroup/semigrouplaw26.CascadeMade
def cf7 : Cfg := { wio := fun f i => (f == 16 && (i == 0)) || (f == 14 && (i == 0)) || (f == 12 && (i == 0)) || (f == 13 && (i == 0)), live := fun r => none, dr := fun r => if r = 3 then some [(0, 0), (1, 0), (2, 0), (4, 0), (6, 0), (7, 0), (8, 0), (3, 1), (5, 1), (9, 1), (10, 1), (11, 0), (12, 1), (13, 0), (14, 0)] else none, wr := fun r => if r = 3 then [8] else [] }
@[simp] theorem wio7 : cf7.wio = fun f i => (f == 16 && (i == 0)) || (f == 14 && (i == 0)) || (f == 12 && (i == 0)) || (f == 13 && (i == 0)) := rfl
@[simp] theorem live7 : cf7.live = fun r => none := rfl
@[simp] theorem wr7 : cf7.wr = fun r => if r = 3 then [8] else [] := rfl
-- semigroup/semigrouplaw26.CascadeChanged
def cf8 : Cfg := { wio := fun f i => false, live := fun r => none, dr := fun r => if r = 12 then some [(0, 0), (1, 0), (2, 0), (3, 0), (4, 0), (5, 0), (7, 0), (6, 1), (8, 0), (9, 2)] else if r = 14 then some [(0, 0), (1, 0), (2, 0), (3, 0), (4, 0), (5, 0), (6, 0), (7, 1), (8, 2), (9, 0), (10, 2)] else if r = 20 then some [(0, 0), (1, 0), (2, 0), (3, 0), (4, 0), (5, 0), (6, 0), (7, 0), (8, 0), (9, 0), (10, 0), (11, 0), (12, 2)] else none, dt := fun r => if r = 16 then some (.op 0 3 (.op 1 3 (.op 2 3 (.op 4 0 (.op 5 0 (.op 6 0 (.op 7 0 (.op 8 0 (.op 9 0 (.op 11 3 (.alt (.op 3 1 (.alt (.op 10 2 (.op 12 1 (.op 13 2 (.op 14 0 (.op 15 0 (.op 16 2 .nil)))))) (.op 12 1 (.op 10 2 (.op 13 2 (.op 14 0 (.op 15 0 (.op 16 2 .nil)))))))) (.op 12 1 (.op 3 1 (.op 10 2 (.op 13 2 (.op 14 0 (.op 15 0 (.op 16 2 .nil)))))))))))))))))) else none }
@[simp] theorem wio8 : cf8.wio = fun f i => false := rfl
@[simp] theorem live8 : cf8.live = fun r => none := rfl
@[simp] theorem wr8 : cf8.wr = fun _ => [] := rfl
-- semigroup/semigrouplaw26.CascadeText
def cf9 : Cfg := { wio := fun f i => false, live := fun r => none, dr := fun r => if r = 13 then some [(0, 0), (1, 0), (2, 0), (3, 0), (7, 0), (8, 0), (9, 0), (4, 1), (5, 0), (6, 0), (10, 0), (11, 0)] else if r = 16 then some [(0, 0), (1, 0), (2, 0), (3, 0), (4, 0), (5, 0), (6, 0), (7, 0), (8, 0), (9, 0), (10, 0), (11, 0), (12, 0), (13, 0), (14, 0), (15, 0), (16, 0), (17, 0)] else none }
@[simp] theorem wio9 : cf9.wio = fun f i => false := rfl
@[simp] theorem live9 : cf9.live = fun r => none := rfl
@[simp] theorem wr9 : cf9.wr = fun _ => [] := rfl
-- semigroup/semigrouplaw26.CascadeBack
def cf10 : Cfg := { wio := fun f i => false, live := fun r => none, dr := fun r => none }
@[simp] theorem wio10 : cf10.wio = fun f i => false := rfl
@[simp] theorem live10 : cf10.live = fun r => none := rfl
@[simp] theorem wr10 : cf10.wr = fun _ => [] := rfl
-- semigroup/semigroupmade.New
def cf11 : Cfg := { wio := fun f i => false, live := fun r => none, dr := fun r => none }
@[simp] theorem wio11 : cf11.wio = fun f i => false := rfl
@[simp] theorem live11 : cf11.live = fun r => none := rfl
@[simp] theorem wr11 : cf11.wr = fun _ => [] := rfl
-- semigroup/semigrouplaw26.build
def cf12 : Cfg := { wio := fun f i => (f == 16 && (i == 0)), live := fun r => if r = 4 then some [0, 2, 3, 4, 5] else if r = 10 then some [0, 2, 3, 5, 6, 7, 38, 39, 40] else if r = 15 then some [0, 2, 3, 5, 6, 7, 9, 10, 11, 38, 39, 40] else if r = 20 then some [0, 2, 3, 5, 6, 7, 9, 10, 11, 12, 13, 14, 15, 38, 39, 40] else if r = 31 then some [0, 2, 3, 5, 6, 7, 9, 16, 38, 39, 40] else none, dr := fun r => none, fz := fun r => if r = 9 then some [4] else none }
@[simp] theorem wio12 : cf12.wio = fun f i => (f == 16 && (i == 0)) := rfl
@[simp] theorem live12 : cf12.live = fun r => if r = 4 then some [0, 2, 3, 4, 5] else if r = 10 then some [0, 2, 3, 5, 6, 7, 38, 39, 40] else if r = 15 then some [0, 2, 3, 5, 6, 7, 9, 10, 11, 38, 39, 40] else if r = 20 then some [0, 2, 3, 5, 6, 7, 9, 10, 11, 12, 13, 14, 15, 38, 39, 40] else if r = 31 then some [0, 2, 3, 5, 6, 7, 9, 16, 38, 39, 40] else none := rfl
@[simp] theorem wr12 : cf12.wr = fun _ => [] := rfl
-- semigroup/semigrouplaw26.tuple
def cf13 : Cfg := { wio := fun f i => (f == 16 && (i == 0)), live := fun r => if r = 3 then some [0, 5, 10, 11, 12] else none, dr := fun r => none }
@[simp] theorem wio13 : cf13.wio = fun f i => (f == 16 && (i == 0)) := rfl
@[simp] theorem live13 : cf13.live = fun r => if r = 3 then some [0, 5, 10, 11, 12] else none := rfl
@[simp] theorem wr13 : cf13.wr = fun _ => [] := rfl
-- (*semigroup/semigroupmade.Tape).Word
def cf14 : Cfg := { wio := fun f i => (f == 16 && (i == 0)), live := fun r => if r = 3 then some [0, 1, 7, 8] else none, dr := fun r => none }
@[simp] theorem wio14 : cf14.wio = fun f i => (f == 16 && (i == 0)) := rfl
@[simp] theorem live14 : cf14.live = fun r => if r = 3 then some [0, 1, 7, 8] else none := rfl
@[simp] theorem wr14 : cf14.wr = fun _ => [] := rfl
-- semigroup/semigroupmade.Mod
def cf15 : Cfg := { wio := fun f i => false, live := fun r => none, dr := fun r => none }
@[simp] theorem wio15 : cf15.wio = fun f i => false := rfl
@[simp] theorem live15 : cf15.live = fun r => none := rfl
@[simp] theorem wr15 : cf15.wr = fun _ => [] := rfl
-- (*semigroup/semigroupmade.Tape).Next
def cf16 : Cfg := { wio := fun f i => false, live := fun r => none, dr := fun r => if r = 1 then some [(0, 0), (1, 0), (2, 0), (3, 0), (4, 0), (5, 0), (6, 0), (7, 0), (8, 0), (9, 0)] else if r = 4 then some [(0, 0), (1, 0), (2, 0), (3, 0), (4, 0), (5, 0), (6, 0), (7, 0), (8, 0), (9, 0), (10, 0), (11, 0), (12, 1), (13, 0)] else none }
@[simp] theorem wio16 : cf16.wio = fun f i => false := rfl
@[simp] theorem live16 : cf16.live = fun r => none := rfl
@[simp] theorem wr16 : cf16.wr = fun _ => [] := rfl
-- semigroup/cascade.Run
def cf17 : Cfg := { wio := fun f i => false, live := fun r => if r = 8 then some [2, 8, 10, 35, 36] else none, dr := fun r => if r = 10 then some [(0, 0), (1, 0), (2, 0), (3, 0), (4, 0), (5, 0), (6, 0), (7, 1), (8, 0), (9, 0), (10, 0), (11, 0), (12, 0)] else none }
@[simp] theorem wio17 : cf17.wio = fun f i => false := rfl
@[simp] theorem live17 : cf17.live = fun r => if r = 8 then some [2, 8, 10, 35, 36] else none := rfl
@[simp] theorem wr17 : cf17.wr = fun _ => [] := rfl
-- semigroup/semigrouplaw26.known
def cf18 : Cfg := { wio := fun f i => false, live := fun r => none, dr := fun r => none }
@[simp] theorem wio18 : cf18.wio = fun f i => false := rfl
@[simp] theorem live18 : cf18.live = fun r => none := rfl
@[simp] theorem wr18 : cf18.wr = fun _ => [] := rfl
-- semigroup/semigroupref03.Same
def cf19 : Cfg := { wio := fun f i => false, live := fun r => if r = 4 then some [0, 1, 12, 13] else none, dr := fun r => if r = 6 then some [(0, 0), (1, 0), (2, 0), (3, 0), (4, 0), (5, 0), (6, 0), (7, 0), (8, 0)] else none }
@[simp] theorem wio19 : cf19.wio = fun f i => false := rfl
@[simp] theorem live19 : cf19.live = fun r => if r = 4 then some [0, 1, 12, 13] else none := rfl
@[simp] theorem wr19 : cf19.wr = fun _ => [] := rfl
-- semigroup/cascade.Flat
def cf20 : Cfg := { wio := fun f i => false, live := fun r => if r = 10 then some [2, 7, 9, 10, 11, 12] else if r = 14 then some [2, 7, 9, 10, 11, 12, 13, 50, 51] else none, dr := fun r => if r = 16 then some [(0, 0), (1, 0), (2, 0), (3, 0), (4, 0), (5, 0), (6, 1), (7, 0), (8, 0), (9, 0), (10, 0), (11, 0)] else none }
@[simp] theorem wio20 : cf20.wio = fun f i => false := rfl
@[simp] theorem live20 : cf20.live = fun r => if r = 10 then some [2, 7, 9, 10, 11, 12] else if r = 14 then some [2, 7, 9, 10, 11, 12, 13, 50, 51] else none := rfl
@[simp] theorem wr20 : cf20.wr = fun _ => [] := rfl
-- semigroup/semigroupref26.Flat
def cf21 : Cfg := { wio := fun f i => false, live := fun r => if r = 9 then some [2, 8, 9, 10] else if r = 13 then some [2, 8, 9, 10, 11, 12] else none, dr := fun r => if r = 15 then some [(0, 0), (1, 0), (2, 0), (3, 0), (4, 0), (5, 0), (6, 1), (7, 0), (8, 0), (9, 0), (10, 0), (11, 0)] else none }
@[simp] theorem wio21 : cf21.wio = fun f i => false := rfl
@[simp] theorem live21 : cf21.live = fun r => if r = 9 then some [2, 8, 9, 10] else if r = 13 then some [2, 8, 9, 10, 11, 12] else none := rfl
@[simp] theorem wr21 : cf21.wr = fun _ => [] := rfl
-- semigroup/semigroupref03.SameRows
def cf22 : Cfg := { wio := fun f i => false, live := fun r => if r = 4 then some [0, 1, 12, 13] else none, dr := fun r => if r = 6 then some [(0, 0), (1, 0), (2, 0), (3, 0), (4, 0), (5, 0), (6, 0), (7, 0), (8, 1), (9, 0)] else none }
@[simp] theorem wio22 : cf22.wio = fun f i => false := rfl
@[simp] theorem live22 : cf22.live = fun r => if r = 4 then some [0, 1, 12, 13] else none := rfl
@[simp] theorem wr22 : cf22.wr = fun _ => [] := rfl
-- semigroup/semigrouplaw26.few
def cf23 : Cfg := { wio := fun f i => false, live := fun r => if r = 4 then some [16, 17, 18] else none, dr := fun r => none }
@[simp] theorem wio23 : cf23.wio = fun f i => false := rfl
@[simp] theorem live23 : cf23.live = fun r => if r = 4 then some [16, 17, 18] else none := rfl
@[simp] theorem wr23 : cf23.wr = fun _ => [] := rfl
-- semigroup/semigrouplaw26.all
def cf24 : Cfg := { wio := fun f i => false, live := fun r => none, dr := fun r => if r = 1 then some [(0, 0), (2, 0), (1, 1), (3, 1), (4, 0), (5, 0), (6, 0), (8, 0), (7, 1), (9, 1), (10, 1), (11, 0), (12, 0)] else none }
@[simp] theorem wio24 : cf24.wio = fun f i => false := rfl
@[simp] theorem live24 : cf24.live = fun r => none := rfl
@[simp] theorem wr24 : cf24.wr = fun _ => [] := rfl
-- semigroup/cascade.Parse
def cf25 : Cfg := { wio := fun f i => (f == 999999 && (i == 0)), live := fun r => if r = 5 then some [0, 2, 5, 6] else none, dr := fun r => if r = 20 then some [(0, 0), (1, 0), (2, 0), (3, 3), (4, 3), (5, 0), (6, 2), (7, 0), (8, 2)] else none, fz := fun r => if r = 4 then some [200005] else if r = 999998 then some [] else none }
@[simp] theorem wio25 : cf25.wio = fun f i => (f == 999999 && (i == 0)) := rfl
@[simp] theorem live25 : cf25.live = fun r => if r = 5 then some [0, 2, 5, 6] else none := rfl
@[simp] theorem wr25 : cf25.wr = fun _ => [] := rfl
-- semigroup/semigroupref26.Parse
def cf26 : Cfg := { wio := fun f i => false, live := fun r => if r = 7 then some [0, 2, 5, 6, 7] else if r = 10 then some [0, 2, 5, 6, 7, 8] else if r = 18 then some [0, 2, 5, 6, 8, 10, 11, 79, 80, 81] else none, dr := fun r => if r = 35 then some [(0, 0), (1, 0), (2, 0), (3, 0), (4, 0), (5, 0), (6, 3), (7, 0), (8, 2), (9, 0), (10, 2)] else none, fz := fun r => if r = 35 then some [200005] else if r = 999998 then some [] else none, dt := fun r => if r = 30 then some (.op 0 3 (.op 2 3 (.op 3 3 (.op 4 0 (.op 5 0 (.op 6 0 (.op 7 0 (.op 8 0 (.op 9 0 (.op 10 0 (.alt (.op 1 1 (.op 11 1 (.op 12 2 (.op 13 0 (.op 14 2 .nil))))) (.op 11 1 (.alt (.op 1 1 (.op 12 2 (.op 13 0 (.op 14 2 .nil)))) (.op 12 2 (.op 1 1 (.op 13 0 (.op 14 2 .nil))))))))))))))))) else none }
@[simp] theorem wio26 : cf26.wio = fun f i => false := rfl
@[simp] theorem live26 : cf26.live = fun r => if r = 7 then some [0, 2, 5, 6, 7] else if r = 10 then some [0, 2, 5, 6, 7, 8] else if r = 18 then some [0, 2, 5, 6, 8, 10, 11, 79, 80, 81] else none := rfl
@[simp] theorem wr26 : cf26.wr = fun _ => [] := rfl
-- semigroup/semigroupref26.Same
def cf27 : Cfg := { wio := fun f i => false, live := fun r => if r = 4 then some [2, 3, 30, 31] else none, dr := fun r => if r = 6 then some [(0, 0), (1, 0), (2, 0), (3, 0), (4, 0), (5, 0), (6, 0), (7, 0), (8, 0), (9, 0), (10, 0), (11, 0), (12, 1), (13, 0), (14, 0), (15, 0), (16, 0), (17, 0), (18, 0), (19, 0), (20, 0), (21, 0), (22, 0), (23, 0), (24, 0), (25, 0), (26, 0), (27, 1), (28, 0), (29, 0)] else none }
@[simp] theorem wio27 : cf27.wio = fun f i => false := rfl
@[simp] theorem live27 : cf27.live = fun r => if r = 4 then some [2, 3, 30, 31] else none := rfl
@[simp] theorem wr27 : cf27.wr = fun _ => [] := rfl
-- semigroup/semigroupref26.Format
def cf28 : Cfg := { wio := fun f i => false, live := fun r => if r = 6 then some [1, 5, 26, 27, 28] else if r = 12 then some [5, 41, 42, 43] else if r = 16 then some [5, 9, 41, 42, 43, 50, 51, 52] else if r = 21 then some [5, 41, 42, 43, 63, 64, 65] else if r = 25 then some [5, 41, 42, 43, 63, 64, 65, 71, 72, 73] else none, dr := fun r => none }
@[simp] theorem wio28 : cf28.wio = fun f i => false := rfl
@[simp] theorem live28 : cf28.live = fun r => if r = 6 then some [1, 5, 26, 27, 28] else if r = 12 then some [5, 41, 42, 43] else if r = 16 then some [5, 9, 41, 42, 43, 50, 51, 52] else if r = 21 then some [5, 41, 42, 43, 63, 64, 65] else if r = 25 then some [5, 41, 42, 43, 63, 64, 65, 71, 72, 73] else none := rfl
@[simp] theorem wr28 : cf28.wr = fun _ => [] := rfl
-- semigroup/cascade.Format
def cf29 : Cfg := { wio := fun f i => (f == 55 && (i == 0)), live := fun r => if r = 7 then some [5, 28, 29, 30] else if r = 11 then some [5, 28, 29, 30, 40, 41, 42] else none, dr := fun r => if r = 9 then some [(0, 0), (2, 3), (3, 3), (1, 2), (4, 2), (5, 0)] else none, fz := fun r => if r = 9 then some [7] else none }
@[simp] theorem wio29 : cf29.wio = fun f i => (f == 55 && (i == 0)) := rfl
@[simp] theorem live29 : cf29.live = fun r => if r = 7 then some [5, 28, 29, 30] else if r = 11 then some [5, 28, 29, 30, 40, 41, 42] else none := rfl
@[simp] theorem wr29 : cf29.wr = fun _ => [] := rfl
-- semigroup/cascade.NewRunner
def cf30 : Cfg := { wio := fun f i => false, live := fun r => none, dr := fun r => none }
@[simp] theorem wio30 : cf30.wio = fun f i => false := rfl
@[simp] theorem live30 : cf30.live = fun r => none := rfl
@[simp] theorem wr30 : cf30.wr = fun _ => [] := rfl
-- semigroup/cascade.isTuple
def cf31 : Cfg := { wio := fun f i => false, live := fun r => if r = 4 then some [0, 12, 13, 14] else none, dr := fun r => none }
@[simp] theorem wio31 : cf31.wio = fun f i => false := rfl
@[simp] theorem live31 : cf31.live = fun r => if r = 4 then some [0, 12, 13, 14] else none := rfl
@[simp] theorem wr31 : cf31.wr = fun _ => [] := rfl
-- semigroup/word.Valid
def cf32 : Cfg := { wio := fun f i => false, live := fun r => if r = 4 then some [0, 1, 18, 19] else none, dr := fun r => none }
@[simp] theorem wio32 : cf32.wio = fun f i => false := rfl
@[simp] theorem live32 : cf32.live = fun r => if r = 4 then some [0, 1, 18, 19] else none := rfl
@[simp] theorem wr32 : cf32.wr = fun _ => [] := rfl
-- (semigroup/cascade.Runner).Step
def cf34 : Cfg := { wio := fun f i => false, live := fun r => if r = 5 then some [1, 2, 3, 8, 33, 34, 35] else none, dr := fun r => if r = 7 then some [(0, 0), (1, 0), (2, 0), (3, 0), (4, 0), (5, 0), (6, 1), (7, 0), (8, 0), (9, 0), (10, 0), (11, 0)] else none }
@[simp] theorem wio34 : cf34.wio = fun f i => false := rfl
@[simp] theorem live34 : cf34.live = fun r => if r = 5 then some [1, 2, 3, 8, 33, 34, 35] else none := rfl
@[simp] theorem wr34 : cf34.wr = fun _ => [] := rfl
-- semigroup/cascade.Step
def cf35 : Cfg := { wio := fun f i => false, live := fun r => none, dr := fun r => none }
@[simp] theorem wio35 : cf35.wio = fun f i => false := rfl
@[simp] theorem live35 : cf35.live = fun r => none := rfl
@[simp] theorem wr35 : cf35.wr = fun _ => [] := rfl
-- semigroup/semigrouplaw26.example
def cf36 : Cfg := { wio := fun f i => false, live := fun r => none, dr := fun r => none }
@[simp] theorem wio36 : cf36.wio = fun f i => false := rfl
@[simp] theorem live36 : cf36.live = fun r => none := rfl
@[simp] theorem wr36 : cf36.wr = fun _ => [] := rfl
-- semigroup/cascade.key
def cf37 : Cfg := { wio := fun f i => false, live := fun r => if r = 3 then some [3, 9, 10, 11] else none, dr := fun r => none }
@[simp] theorem wio37 : cf37.wio = fun f i => false := rfl
@[simp] theorem live37 : cf37.live = fun r => if r = 3 then some [3, 9, 10, 11] else none := rfl
@[simp] theorem wr37 : cf37.wr = fun _ => [] := rfl
-- semigroup/semigroupref26.Validate
def cf38 : Cfg := { wio := fun f i => false, live := fun r => if r = 6 then some [1, 31, 32, 33] else if r = 12 then some [1, 45, 46, 47] else if r = 18 then some [1, 7, 45, 46, 47, 100, 101, 102] else if r = 23 then some [1, 7, 45, 46, 47, 100, 101, 102, 110, 111, 112] else none, dr := fun r => if r = 14 then some [(0, 0), (1, 0), (2, 0), (3, 0), (4, 0), (5, 0), (6, 0), (7, 0), (8, 0), (9, 0), (10, 0), (11, 0), (12, 1), (13, 0), (14, 0), (15, 0), (16, 0), (17, 0), (18, 0), (19, 0), (20, 0), (21, 0), (22, 0), (23, 0), (24, 0), (25, 0), (26, 0), (27, 0), (28, 1), (29, 0), (30, 0), (31, 0), (32, 0), (33, 0), (34, 0), (35, 0), (36, 0), (37, 0), (38, 0), (39, 0)] else none }
@[simp] theorem wio38 : cf38.wio = fun f i => false := rfl
@[simp] theorem live38 : cf38.live = fun r => if r = 6 then some [1, 31, 32, 33] else if r = 12 then some [1, 45, 46, 47] else if r = 18 then some [1, 7, 45, 46, 47, 100, 101, 102] else if r = 23 then some [1, 7, 45, 46, 47, 100, 101, 102, 110, 111, 112] else none := rfl
@[simp] theorem wr38 : cf38.wr = fun _ => [] := rfl
-- semigroup/semigroupref26.IsTuple
def cf39 : Cfg := { wio := fun f i => false, live := fun r => none, dr := fun r => none }
@[simp] theorem wio39 : cf39.wio = fun f i => false := rfl
@[simp] theorem live39 : cf39.live = fun r => none := rfl
@[simp] theorem wr39 : cf39.wr = fun _ => [] := rfl
-- semigroup/semigroupref26.step
def cf40 : Cfg := { wio := fun f i => false, live := fun r => if r = 3 then some [1, 2, 3, 8, 13, 14] else none, dr := fun r => if r = 5 then some [(0, 0), (1, 0), (2, 0), (3, 0), (4, 1), (5, 0)] else if r = 8 then some [(0, 0), (1, 0), (2, 0), (3, 0), (4, 0), (5, 0), (6, 0), (7, 0), (8, 0), (9, 0), (10, 0), (11, 0), (12, 0), (13, 0), (14, 0), (15, 0), (16, 1), (17, 2), (18, 0)] else none }
@[simp] theorem wio40 : cf40.wio = fun f i => false := rfl
@[simp] theorem live40 : cf40.live = fun r => if r = 3 then some [1, 2, 3, 8, 13, 14] else none := rfl
@[simp] theorem wr40 : cf40.wr = fun _ => [] := rfl
-- semigroup/semigroupref26.Find
def cf41 : Cfg := { wio := fun f i => false, live := fun r => if r = 2 then some [1, 7, 8, 9] else none, dr := fun r => none }
@[simp] theorem wio41 : cf41.wio = fun f i => false := rfl
@[simp] theorem live41 : cf41.live = fun r => if r = 2 then some [1, 7, 8, 9] else none := rfl
@[simp] theorem wr41 : cf41.wr = fun _ => [] := rfl
-- semigroup/semigroupmade.FewRows
def cf42 : Cfg := { wio := fun f i => false, live := fun r => if r = 4 then some [8, 9, 10] else none, dr := fun r => none }
@[simp] theorem wio42 : cf42.wio = fun f i => false := rfl
@[simp] theorem live42 : cf42.live = fun r => if r = 4 then some [8, 9, 10] else none := rfl
@[simp] theorem wr42 : cf42.wr = fun _ => [] := rfl
-- semigroup/cascade.Validate
def cf43 : Cfg := { wio := fun f i => false, live := fun r => if r = 6 then some [1, 26, 27, 28] else if r = 12 then some [1, 40, 41, 42] else none, dr := fun r => if r = 14 then some [(0, 0), (1, 0), (2, 1), (3, 0), (4, 0), (5, 0), (6, 0), (7, 0), (8, 0), (9, 0), (10, 0), (11, 0), (12, 0), (13, 0), (14, 0), (15, 0), (16, 0), (17, 1), (18, 0), (19, 0), (20, 0)] else none }
@[simp] theorem wio43 : cf43.wio = fun f i => false := rfl
@[simp] theorem live43 : cf43.live = fun r => if r = 6 then some [1, 26, 27, 28] else if r = 12 then some [1, 40, 41, 42] else none := rfl
@[simp] theorem wr43 : cf43.wr = fun _ => [] := rfl
-- semigroup/cascade.Kinds
def cf44 : Cfg := { wio := fun f i => (f == 63 && (i == 0)), live := fun r => if r = 5 then some [1, 3, 20, 21] else if r = 10 then some [3, 30, 31, 32] else if r = 13 then some [3, 6, 30, 31, 32, 37, 38, 39] else if r = 20 then some [9, 55, 56, 57] else none, dr := fun r => none }
@[simp] theorem wio44 : cf44.wio = fun f i => (f == 63 && (i == 0)) := rfl
@[simp] theorem live44 : cf44.live = fun r => if r = 5 then some [1, 3, 20, 21] else if r = 10 then some [3, 30, 31, 32] else if r = 13 then some [3, 6, 30, 31, 32, 37, 38, 39] else if r = 20 then some [9, 55, 56, 57] else none := rfl
@[simp] theorem wr44 : cf44.wr = fun _ => [] := rfl
-- semigroup/semigroupref26.Kinds
def cf45 : Cfg := { wio := fun f i => false, live := fun r => if r = 5 then some [1, 3, 21, 22] else if r = 9 then some [1, 3, 4, 5, 6, 7, 8, 21, 22, 26, 27, 28] else if r = 12 then some [1, 3, 4, 5, 6, 7, 8, 10, 21, 22, 26, 27, 28, 33, 34, 35] else none, dr := fun r => none }
@[simp] theorem wio45 : cf45.wio = fun f i => false := rfl
@[simp] theorem live45 : cf45.live = fun r => if r = 5 then some [1, 3, 21, 22] else if r = 9 then some [1, 3, 4, 5, 6, 7, 8, 21, 22, 26, 27, 28] else if r = 12 then some [1, 3, 4, 5, 6, 7, 8, 10, 21, 22, 26, 27, 28, 33, 34, 35] else none := rfl
@[simp] theorem wr45 : cf45.wr = fun _ => [] := rfl
-- semigroup/semigroupref26.Step
def cf46 : Cfg := { wio := fun f i => false, live := fun r => none, dr := fun r => none }
@[simp] theorem wio46 : cf46.wio = fun f i => false := rfl
@[simp] theorem live46 : cf46.live = fun r => none := rfl
@[simp] theorem wr46 : cf46.wr = fun _ => [] := rfl
-- semigroup/semigroupref26.Run
def cf47 : Cfg := { wio := fun f i => false, live := fun r => if r = 8 then some [2, 3, 9, 10] else none, dr := fun r => if r = 10 then some [(0, 0), (1, 0), (2, 0), (3, 0), (4, 0), (5, 0), (6, 0), (7, 1), (8, 0), (9, 0), (10, 0), (11, 0), (12, 0)] else none }
@[simp] theorem wio47 : cf47.wio = fun f i => false := rfl
@[simp] theorem live47 : cf47.live = fun r => if r = 8 then some [2, 3, 9, 10] else none := rfl
@[simp] theorem wr47 : cf47.wr = fun _ => [] := rfl
-- strings.Cut
def cf48 : Cfg := { wio := fun f i => false, live := fun r => none, dr := fun r => none }
@[simp] theorem wio48 : cf48.wio = fun f i => false := rfl
@[simp] theorem live48 : cf48.live = fun r => none := rfl
@[simp] theorem wr48 : cf48.wr = fun _ => [] := rfl
-- strings.Split
def cf49 : Cfg := { wio := fun f i => false, live := fun r => none, dr := fun r => none }
@[simp] theorem wio49 : cf49.wio = fun f i => false := rfl
@[simp] theorem live49 : cf49.live = fun r => none := rfl
@[simp] theorem wr49 : cf49.wr = fun _ => [] := rfl
-- semigroup/cascade.parseRow
def cf50 : Cfg := { wio := fun f i => false, live := fun r => if r = 6 then some [0, 2, 4, 5, 6] else none, dr := fun r => none }
@[simp] theorem wio50 : cf50.wio = fun f i => false := rfl
@[simp] theorem live50 : cf50.live = fun r => if r = 6 then some [0, 2, 4, 5, 6] else none := rfl
@[simp] theorem wr50 : cf50.wr = fun _ => [] := rfl
-- semigroup/cascade.parseNumbers
def cf51 : Cfg := { wio := fun f i => false, live := fun r => if r = 3 then some [4, 9, 10, 11] else none, dr := fun r => none }
@[simp] theorem wio51 : cf51.wio = fun f i => false := rfl
@[simp] theorem live51 : cf51.live = fun r => if r = 3 then some [4, 9, 10, 11] else none := rfl
@[simp] theorem wr51 : cf51.wr = fun _ => [] := rfl
-- semigroup/semigroupref26.split
def cf52 : Cfg := { wio := fun f i => false, live := fun r => if r = 4 then some [0, 3, 4, 5] else none, dr := fun r => none }
@[simp] theorem wio52 : cf52.wio = fun f i => false := rfl
@[simp] theorem live52 : cf52.live = fun r => if r = 4 then some [0, 3, 4, 5] else none := rfl
@[simp] theorem wr52 : cf52.wr = fun _ => [] := rfl
-- semigroup/semigroupref26.number
def cf53 : Cfg := { wio := fun f i => false, live := fun r => if r = 5 then some [0, 3, 4] else none, dr := fun r => none }
@[simp] theorem wio53 : cf53.wio = fun f i => false := rfl
@[simp] theorem live53 : cf53.live = fun r => if r = 5 then some [0, 3, 4] else none := rfl
@[simp] theorem wr53 : cf53.wr = fun _ => [] := rfl
-- semigroup/semigroupref26.digits
def cf54 : Cfg := { wio := fun f i => false, live := fun r => none, dr := fun r => none, dt := fun r => if r = 3 then some (.op 0 0 (.op 1 0 (.op 3 0 (.op 4 0 (.op 5 0 (.op 6 0 (.alt (.op 2 1 (.op 7 1 (.op 8 0 (.op 9 0 (.op 10 0 .nil))))) (.op 7 1 (.op 8 0 (.op 2 1 (.op 9 0 (.op 10 0 .nil)))))))))))) else none }
@[simp] theorem wio54 : cf54.wio = fun f i => false := rfl
@[simp] theorem live54 : cf54.live = fun r => none := rfl
@[simp] theorem wr54 : cf54.wr = fun _ => [] := rfl
-- semigroup/cascade.appendNumbers
def cf55 : Cfg := { wio := fun f i => (f == 70 && (i == 0)), live := fun r => if r = 2 then some [0, 7, 8, 9, 999999] else none, dr := fun r => none }
@[simp] theorem wio55 : cf55.wio = fun f i => (f == 70 && (i == 0)) := rfl
@[simp] theorem live55 : cf55.live = fun r => if r = 2 then some [0, 7, 8, 9, 999999] else none := rfl
@[simp] theorem wr55 : cf55.wr = fun _ => [] := rfl
-- slices.BinarySearchFunc[[]semigroup/api.CascadeRow,semigroup/api.CascadeRow,[]int]
def cf56 : Cfg := { wio := fun f i => false, live := fun r => if r = 3 then some [0, 1, 2, 8, 9, 10] else none, dr := fun r => none }
@[simp] theorem wio56 : cf56.wio = fun f i => false := rfl
@[simp] theorem live56 : cf56.live = fun r => if r = 3 then some [0, 1, 2, 8, 9, 10] else none := rfl
@[simp] theorem wr56 : cf56.wr = fun _ => [] := rfl
-- (semigroup/cascade.Runner).Step$1
def cf57 : Cfg := { wio := fun f i => false, live := fun r => none, dr := fun r => none }
@[simp] theorem wio57 : cf57.wio = fun f i => false := rfl
@[simp] theorem live57 : cf57.live = fun r => none := rfl
@[simp] theorem wr57 : cf57.wr = fun _ => [] := rfl
-- semigroup/cascade.compareRows
def cf58 : Cfg := { wio := fun f i => false, live := fun r => none, dr := fun r => none }
@[simp] theorem wio58 : cf58.wio = fun f i => false := rfl
@[simp] theorem live58 : cf58.live = fun r => none := rfl
@[simp] theorem wr58 : cf58.wr = fun _ => [] := rfl
-- semigroup/semigroupref26.in
def cf59 : Cfg := { wio := fun f i => false, live := fun r => if r = 2 then some [0, 7, 8, 9] else none, dr := fun r => none }
@[simp] theorem wio59 : cf59.wio = fun f i => false := rfl
@[simp] theorem live59 : cf59.live = fun r => if r = 2 then some [0, 7, 8, 9] else none := rfl
@[simp] theorem wr59 : cf59.wr = fun _ => [] := rfl
-- semigroup/semigroupref26.Less
def cf60 : Cfg := { wio := fun f i => false, live := fun r => none, dr := fun r => none }
@[simp] theorem wio60 : cf60.wio = fun f i => false := rfl
@[simp] theorem live60 : cf60.live = fun r => none := rfl
@[simp] theorem wr60 : cf60.wr = fun _ => [] := rfl
-- semigroup/semigroupref26.Row
def cf61 : Cfg := { wio := fun f i => false, live := fun r => if r = 2 then some [1, 8, 9, 10] else none, dr := fun r => none }
@[simp] theorem wio61 : cf61.wio = fun f i => false := rfl
@[simp] theorem live61 : cf61.live = fun r => if r = 2 then some [1, 8, 9, 10] else none := rfl
@[simp] theorem wr61 : cf61.wr = fun _ => [] := rfl
-- semigroup/cascade.validRow
def cf62 : Cfg := { wio := fun f i => false, live := fun r => if r = 5 then some [2, 5, 37, 38, 39] else if r = 10 then some [2, 5, 37, 38, 39, 51, 52, 53] else none, dr := fun r => if r = 2 then some [(0, 0), (1, 0), (2, 0), (3, 0), (4, 0), (5, 0), (6, 0), (7, 0), (8, 0), (9, 0), (10, 0), (11, 0), (12, 1), (13, 0), (14, 0), (15, 0), (16, 0), (17, 0), (18, 0), (19, 0), (20, 0), (21, 0), (22, 0)] else none }
@[simp] theorem wio62 : cf62.wio = fun f i => false := rfl
@[simp] theorem live62 : cf62.live = fun r => if r = 5 then some [2, 5, 37, 38, 39] else if r = 10 then some [2, 5, 37, 38, 39, 51, 52, 53] else none := rfl
@[simp] theorem wr62 : cf62.wr = fun _ => [] := rfl
-- (*semigroup/cascade.traits).include
def cf63 : Cfg := { wio := fun f i => false, live := fun r => if r = 3 then some [0, 1, 4, 5, 6, 7, 10, 11, 12] else none, dr := fun r => none }
@[simp] theorem wio63 : cf63.wio = fun f i => false := rfl
@[simp] theorem live63 : cf63.live = fun r => if r = 3 then some [0, 1, 4, 5, 6, 7, 10, 11, 12] else none := rfl
@[simp] theorem wr63 : cf63.wr = fun _ => [] := rfl
-- (semigroup/cascade.traits).kind
def cf64 : Cfg := { wio := fun f i => false, live := fun r => none, dr := fun r => none }
@[simp] theorem wio64 : cf64.wio = fun f i => false := rfl
@[simp] theorem live64 : cf64.live = fun r => none := rfl
@[simp] theorem wr64 : cf64.wr = fun _ => [] := rfl
-- semigroup/semigroupref26.kind
def cf65 : Cfg := { wio := fun f i => false, live := fun r => if r = 3 then some [0, 2, 3, 4, 8, 9, 10] else if r = 8 then some [0, 2, 3, 4, 5, 6, 7, 8, 9, 10] else none, dr := fun r => none }
@[simp] theorem wio65 : cf65.wio = fun f i => false := rfl
@[simp] theorem live65 : cf65.live = fun r => if r = 3 then some [0, 2, 3, 4, 8, 9, 10] else if r = 8 then some [0, 2, 3, 4, 5, 6, 7, 8, 9, 10] else none := rfl
@[simp] theorem wr65 : cf65.wr = fun _ => [] := rfl
-- semigroup/semigroupref01.Valid
def cf66 : Cfg := { wio := fun f i => false, live := fun r => if r = 4 then some [0, 1, 5] else none, dr := fun r => none }
@[simp] theorem wio66 : cf66.wio = fun f i => false := rfl
@[simp] theorem live66 : cf66.live = fun r => if r = 4 then some [0, 1, 5] else none := rfl
@[simp] theorem wr66 : cf66.wr = fun _ => [] := rfl
-- internal/stringslite.Cut
def cf67 : Cfg := { wio := fun f i => false, live := fun r => none, dr := fun r => if r = 3 then some [(0, 0), (1, 0), (2, 0), (3, 0), (4, 0), (5, 0), (6, 0), (7, 0), (8, 0), (9, 0), (10, 0), (11, 0)] else none }
@[simp] theorem wio67 : cf67.wio = fun f i => false := rfl
@[simp] theorem live67 : cf67.live = fun r => none := rfl
@[simp] theorem wr67 : cf67.wr = fun _ => [] := rfl
-- strings.genSplit
def cf68 : Cfg := { wio := fun f i => false, live := fun r => if r = 11 then some [0, 1, 2, 3, 9, 10] else none, dr := fun r => none, fz := fun r => if r = 18 then some [9] else none }
@[simp] theorem wio68 : cf68.wio = fun f i => false := rfl
@[simp] theorem live68 : cf68.live = fun r => if r = 11 then some [0, 1, 2, 3, 9, 10] else none := rfl
@[simp] theorem wr68 : cf68.wr = fun _ => [] := rfl
-- semigroup/cascade.parseNumber
def cf69 : Cfg := { wio := fun f i => false, live := fun r => if r = 5 then some [0, 4, 24, 25] else none, dr := fun r => none }
@[simp] theorem wio69 : cf69.wio = fun f i => false := rfl
@[simp] theorem live69 : cf69.live = fun r => if r = 5 then some [0, 4, 24, 25] else none := rfl
@[simp] theorem wr69 : cf69.wr = fun _ => [] := rfl
-- strconv.AppendInt
def cf70 : Cfg := { wio := fun f i => (f == 80 && (i == 0)), live := fun r => none, dr := fun r => none }
@[simp] theorem wio70 : cf70.wio = fun f i => (f == 80 && (i == 0)) := rfl
@[simp] theorem live70 : cf70.live = fun r => none := rfl
@[simp] theorem wr70 : cf70.wr = fun _ => [] := rfl
-- cmp.Or[int]
def cf71 : Cfg := { wio := fun f i => false, live := fun r => if r = 3 then some [3, 6, 7, 8] else none, dr := fun r => none }
@[simp] theorem wio71 : cf71.wio = fun f i => false := rfl
@[simp] theorem live71 : cf71.live = fun r => if r = 3 then some [3, 6, 7, 8] else none := rfl
@[simp] theorem wr71 : cf71.wr = fun _ => [] := rfl
-- cmp.Compare[int]
def cf72 : Cfg := { wio := fun f i => false, live := fun r => none, dr := fun r => none }
@[simp] theorem wio72 : cf72.wio = fun f i => false := rfl
@[simp] theorem live72 : cf72.live = fun r => none := rfl
@[simp] theorem wr72 : cf72.wr = fun _ => [] := rfl
-- slices.Compare[[]int,int]
def cf73 : Cfg := { wio := fun f i => false, live := fun r => if r = 2 then some [0, 1, 9, 10, 11] else none, dr := fun r => none }
@[simp] theorem wio73 : cf73.wio = fun f i => false := rfl
@[simp] theorem live73 : cf73.live = fun r => if r = 2 then some [0, 1, 9, 10, 11] else none := rfl
@[simp] theorem wr73 : cf73.wr = fun _ => [] := rfl
-- semigroup/semigroupref03.Less
def cf74 : Cfg := { wio := fun f i => false, live := fun r => if r = 2 then some [0, 1, 5] else none, dr := fun r => if r = 4 then some [(0, 0), (1, 0), (2, 0), (3, 0), (4, 0), (5, 0), (6, 0), (7, 0), (8, 0)] else if r = 5 then some [(0, 0), (1, 0), (2, 0), (3, 0), (4, 0), (5, 0), (6, 0), (7, 0), (8, 0), (9, 0)] else none }
@[simp] theorem wio74 : cf74.wio = fun f i => false := rfl
@[simp] theorem live74 : cf74.live = fun r => if r = 2 then some [0, 1, 5] else none := rfl
@[simp] theorem wr74 : cf74.wr = fun _ => [] := rfl
-- semigroup/semigroupref01.MayLetters
def cf75 : Cfg := { wio := fun f i => false, live := fun r => none, dr := fun r => none }
@[simp] theorem wio75 : cf75.wio = fun f i => false := rfl
@[simp] theorem live75 : cf75.live = fun r => none := rfl
@[simp] theorem wr75 : cf75.wr = fun _ => [] := rfl
-- internal/strconv.AppendInt
def cf80 : Cfg := { wio := fun f i => (f == 89 && (i == 0)), live := fun r => none, dr := fun r => none }
@[simp] theorem wio80 : cf80.wio = fun f i => (f == 89 && (i == 0)) := rfl
@[simp] theorem live80 : cf80.live = fun r => none := rfl
@[simp] theorem wr80 : cf80.wr = fun _ => [] := rfl
-- cmp.isNaN[int]
def cf81 : Cfg := { wio := fun f i => false, live := fun r => none, dr := fun r => none }
@[simp] theorem wio81 : cf81.wio = fun f i => false := rfl
@[simp] theorem live81 : cf81.live = fun r => none := rfl
@[simp] theorem wr81 : cf81.wr = fun _ => [] := rfl
-- internal/strconv.AppendUint
def cf89 : Cfg := { wio := fun f i => false, live := fun r => none, dr := fun r => none }
@[simp] theorem wio89 : cf89.wio = fun f i => false := rfl
@[simp] theorem live89 : cf89.live = fun r => none := rfl
@[simp] theorem wr89 : cf89.wr = fun _ => [] := rfl
-- internal/strconv.small
def cf93 : Cfg := { wio := fun f i => false, live := fun r => none, dr := fun r => none }
@[simp] theorem wio93 : cf93.wio = fun f i => false := rfl
@[simp] theorem live93 : cf93.live = fun r => none := rfl
@[simp] theorem wr93 : cf93.wr = fun _ => [] := rfl

def cfAll (f : FuncId) : Option Cfg :=
  if f = 3 then some cf3 else
  if f = 4 then some cf4 else
  if f = 5 then some cf5 else
  if f = 6 then some cf6 else
  if f = 7 then some cf7 else
  if f = 8 then some cf8 else
  if f = 9 then some cf9 else
  if f = 10 then some cf10 else
  if f = 11 then some cf11 else
  if f = 12 then some cf12 else
  if f = 13 then some cf13 else
  if f = 14 then some cf14 else
  if f = 15 then some cf15 else
  if f = 16 then some cf16 else
  if f = 17 then some cf17 else
  if f = 18 then some cf18 else
  if f = 19 then some cf19 else
  if f = 20 then some cf20 else
  if f = 21 then some cf21 else
  if f = 22 then some cf22 else
  if f = 23 then some cf23 else
  if f = 24 then some cf24 else
  if f = 25 then some cf25 else
  if f = 26 then some cf26 else
  if f = 27 then some cf27 else
  if f = 28 then some cf28 else
  if f = 29 then some cf29 else
  if f = 30 then some cf30 else
  if f = 31 then some cf31 else
  if f = 32 then some cf32 else
  if f = 34 then some cf34 else
  if f = 35 then some cf35 else
  if f = 36 then some cf36 else
  if f = 37 then some cf37 else
  if f = 38 then some cf38 else
  if f = 39 then some cf39 else
  if f = 40 then some cf40 else
  if f = 41 then some cf41 else
  if f = 42 then some cf42 else
  if f = 43 then some cf43 else
  if f = 44 then some cf44 else
  if f = 45 then some cf45 else
  if f = 46 then some cf46 else
  if f = 47 then some cf47 else
  if f = 48 then some cf48 else
  if f = 49 then some cf49 else
  if f = 50 then some cf50 else
  if f = 51 then some cf51 else
  if f = 52 then some cf52 else
  if f = 53 then some cf53 else
  if f = 54 then some cf54 else
  if f = 55 then some cf55 else
  if f = 56 then some cf56 else
  if f = 57 then some cf57 else
  if f = 58 then some cf58 else
  if f = 59 then some cf59 else
  if f = 60 then some cf60 else
  if f = 61 then some cf61 else
  if f = 62 then some cf62 else
  if f = 63 then some cf63 else
  if f = 64 then some cf64 else
  if f = 65 then some cf65 else
  if f = 66 then some cf66 else
  if f = 67 then some cf67 else
  if f = 68 then some cf68 else
  if f = 69 then some cf69 else
  if f = 70 then some cf70 else
  if f = 71 then some cf71 else
  if f = 72 then some cf72 else
  if f = 73 then some cf73 else
  if f = 74 then some cf74 else
  if f = 75 then some cf75 else
  if f = 80 then some cf80 else
  if f = 81 then some cf81 else
  if f = 89 then some cf89 else
  if f = 93 then some cf93 else none
theorem cfn3 : cfAll 3 = some cf3 := rfl
theorem cfn4 : cfAll 4 = some cf4 := rfl
theorem cfn5 : cfAll 5 = some cf5 := rfl
theorem cfn6 : cfAll 6 = some cf6 := rfl
theorem cfn7 : cfAll 7 = some cf7 := rfl
theorem cfn8 : cfAll 8 = some cf8 := rfl
theorem cfn9 : cfAll 9 = some cf9 := rfl
theorem cfn10 : cfAll 10 = some cf10 := rfl
theorem cfn11 : cfAll 11 = some cf11 := rfl
theorem cfn12 : cfAll 12 = some cf12 := rfl
theorem cfn13 : cfAll 13 = some cf13 := rfl
theorem cfn14 : cfAll 14 = some cf14 := rfl
theorem cfn15 : cfAll 15 = some cf15 := rfl
theorem cfn16 : cfAll 16 = some cf16 := rfl
theorem cfn17 : cfAll 17 = some cf17 := rfl
theorem cfn18 : cfAll 18 = some cf18 := rfl
theorem cfn19 : cfAll 19 = some cf19 := rfl
theorem cfn20 : cfAll 20 = some cf20 := rfl
theorem cfn21 : cfAll 21 = some cf21 := rfl
theorem cfn22 : cfAll 22 = some cf22 := rfl
theorem cfn23 : cfAll 23 = some cf23 := rfl
theorem cfn24 : cfAll 24 = some cf24 := rfl
theorem cfn25 : cfAll 25 = some cf25 := rfl
theorem cfn26 : cfAll 26 = some cf26 := rfl
theorem cfn27 : cfAll 27 = some cf27 := rfl
theorem cfn28 : cfAll 28 = some cf28 := rfl
theorem cfn29 : cfAll 29 = some cf29 := rfl
theorem cfn30 : cfAll 30 = some cf30 := rfl
theorem cfn31 : cfAll 31 = some cf31 := rfl
theorem cfn32 : cfAll 32 = some cf32 := rfl
theorem cfn34 : cfAll 34 = some cf34 := rfl
theorem cfn35 : cfAll 35 = some cf35 := rfl
theorem cfn36 : cfAll 36 = some cf36 := rfl
theorem cfn37 : cfAll 37 = some cf37 := rfl
theorem cfn38 : cfAll 38 = some cf38 := rfl
theorem cfn39 : cfAll 39 = some cf39 := rfl
theorem cfn40 : cfAll 40 = some cf40 := rfl
theorem cfn41 : cfAll 41 = some cf41 := rfl
theorem cfn42 : cfAll 42 = some cf42 := rfl
theorem cfn43 : cfAll 43 = some cf43 := rfl
theorem cfn44 : cfAll 44 = some cf44 := rfl
theorem cfn45 : cfAll 45 = some cf45 := rfl
theorem cfn46 : cfAll 46 = some cf46 := rfl
theorem cfn47 : cfAll 47 = some cf47 := rfl
theorem cfn48 : cfAll 48 = some cf48 := rfl
theorem cfn49 : cfAll 49 = some cf49 := rfl
theorem cfn50 : cfAll 50 = some cf50 := rfl
theorem cfn51 : cfAll 51 = some cf51 := rfl
theorem cfn52 : cfAll 52 = some cf52 := rfl
theorem cfn53 : cfAll 53 = some cf53 := rfl
theorem cfn54 : cfAll 54 = some cf54 := rfl
theorem cfn55 : cfAll 55 = some cf55 := rfl
theorem cfn56 : cfAll 56 = some cf56 := rfl
theorem cfn57 : cfAll 57 = some cf57 := rfl
theorem cfn58 : cfAll 58 = some cf58 := rfl
theorem cfn59 : cfAll 59 = some cf59 := rfl
theorem cfn60 : cfAll 60 = some cf60 := rfl
theorem cfn61 : cfAll 61 = some cf61 := rfl
theorem cfn62 : cfAll 62 = some cf62 := rfl
theorem cfn63 : cfAll 63 = some cf63 := rfl
theorem cfn64 : cfAll 64 = some cf64 := rfl
theorem cfn65 : cfAll 65 = some cf65 := rfl
theorem cfn66 : cfAll 66 = some cf66 := rfl
theorem cfn67 : cfAll 67 = some cf67 := rfl
theorem cfn68 : cfAll 68 = some cf68 := rfl
theorem cfn69 : cfAll 69 = some cf69 := rfl
theorem cfn70 : cfAll 70 = some cf70 := rfl
theorem cfn71 : cfAll 71 = some cf71 := rfl
theorem cfn72 : cfAll 72 = some cf72 := rfl
theorem cfn73 : cfAll 73 = some cf73 := rfl
theorem cfn74 : cfAll 74 = some cf74 := rfl
theorem cfn75 : cfAll 75 = some cf75 := rfl
theorem cfn80 : cfAll 80 = some cf80 := rfl
theorem cfn81 : cfAll 81 = some cf81 := rfl
theorem cfn89 : cfAll 89 = some cf89 := rfl
theorem cfn93 : cfAll 93 = some cf93 := rfl
theorem fn3 : Tryd.prog.funcs[3]? = some Tryd.f3 := by kernel_rfl
theorem fn4 : Tryd.prog.funcs[4]? = some Tryd.f4 := by kernel_rfl
theorem fn5 : Tryd.prog.funcs[5]? = some Tryd.f5 := by kernel_rfl
theorem fn6 : Tryd.prog.funcs[6]? = some Tryd.f6 := by kernel_rfl
theorem fn7 : Tryd.prog.funcs[7]? = some Tryd.f7 := by kernel_rfl
theorem fn8 : Tryd.prog.funcs[8]? = some Tryd.f8 := by kernel_rfl
theorem fn9 : Tryd.prog.funcs[9]? = some Tryd.f9 := by kernel_rfl
theorem fn10 : Tryd.prog.funcs[10]? = some Tryd.f10 := by kernel_rfl
theorem fn11 : Tryd.prog.funcs[11]? = some Tryd.f11 := by kernel_rfl
theorem fn12 : Tryd.prog.funcs[12]? = some Tryd.f12 := by kernel_rfl
theorem fn13 : Tryd.prog.funcs[13]? = some Tryd.f13 := by kernel_rfl
theorem fn14 : Tryd.prog.funcs[14]? = some Tryd.f14 := by kernel_rfl
theorem fn15 : Tryd.prog.funcs[15]? = some Tryd.f15 := by kernel_rfl
theorem fn16 : Tryd.prog.funcs[16]? = some Tryd.f16 := by kernel_rfl
theorem fn17 : Tryd.prog.funcs[17]? = some Tryd.f17 := by kernel_rfl
theorem fn18 : Tryd.prog.funcs[18]? = some Tryd.f18 := by kernel_rfl
theorem fn19 : Tryd.prog.funcs[19]? = some Tryd.f19 := by kernel_rfl
theorem fn20 : Tryd.prog.funcs[20]? = some Tryd.f20 := by kernel_rfl
theorem fn21 : Tryd.prog.funcs[21]? = some Tryd.f21 := by kernel_rfl
theorem fn22 : Tryd.prog.funcs[22]? = some Tryd.f22 := by kernel_rfl
theorem fn23 : Tryd.prog.funcs[23]? = some Tryd.f23 := by kernel_rfl
theorem fn24 : Tryd.prog.funcs[24]? = some Tryd.f24 := by kernel_rfl
theorem fn25 : Tryd.prog.funcs[25]? = some Tryd.f25 := by kernel_rfl
theorem fn26 : Tryd.prog.funcs[26]? = some Tryd.f26 := by kernel_rfl
theorem fn27 : Tryd.prog.funcs[27]? = some Tryd.f27 := by kernel_rfl
theorem fn28 : Tryd.prog.funcs[28]? = some Tryd.f28 := by kernel_rfl
theorem fn29 : Tryd.prog.funcs[29]? = some Tryd.f29 := by kernel_rfl
theorem fn30 : Tryd.prog.funcs[30]? = some Tryd.f30 := by kernel_rfl
theorem fn31 : Tryd.prog.funcs[31]? = some Tryd.f31 := by kernel_rfl
theorem fn32 : Tryd.prog.funcs[32]? = some Tryd.f32 := by kernel_rfl
theorem fn34 : Tryd.prog.funcs[34]? = some Tryd.f34 := by kernel_rfl
theorem fn35 : Tryd.prog.funcs[35]? = some Tryd.f35 := by kernel_rfl
theorem fn36 : Tryd.prog.funcs[36]? = some Tryd.f36 := by kernel_rfl
theorem fn37 : Tryd.prog.funcs[37]? = some Tryd.f37 := by kernel_rfl
theorem fn38 : Tryd.prog.funcs[38]? = some Tryd.f38 := by kernel_rfl
theorem fn39 : Tryd.prog.funcs[39]? = some Tryd.f39 := by kernel_rfl
theorem fn40 : Tryd.prog.funcs[40]? = some Tryd.f40 := by kernel_rfl
theorem fn41 : Tryd.prog.funcs[41]? = some Tryd.f41 := by kernel_rfl
theorem fn42 : Tryd.prog.funcs[42]? = some Tryd.f42 := by kernel_rfl
theorem fn43 : Tryd.prog.funcs[43]? = some Tryd.f43 := by kernel_rfl
theorem fn44 : Tryd.prog.funcs[44]? = some Tryd.f44 := by kernel_rfl
theorem fn45 : Tryd.prog.funcs[45]? = some Tryd.f45 := by kernel_rfl
theorem fn46 : Tryd.prog.funcs[46]? = some Tryd.f46 := by kernel_rfl
theorem fn47 : Tryd.prog.funcs[47]? = some Tryd.f47 := by kernel_rfl
theorem fn48 : Tryd.prog.funcs[48]? = some Tryd.f48 := by kernel_rfl
theorem fn49 : Tryd.prog.funcs[49]? = some Tryd.f49 := by kernel_rfl
theorem fn50 : Tryd.prog.funcs[50]? = some Tryd.f50 := by kernel_rfl
theorem fn51 : Tryd.prog.funcs[51]? = some Tryd.f51 := by kernel_rfl
theorem fn52 : Tryd.prog.funcs[52]? = some Tryd.f52 := by kernel_rfl
theorem fn53 : Tryd.prog.funcs[53]? = some Tryd.f53 := by kernel_rfl
theorem fn54 : Tryd.prog.funcs[54]? = some Tryd.f54 := by kernel_rfl
theorem fn55 : Tryd.prog.funcs[55]? = some Tryd.f55 := by kernel_rfl
theorem fn56 : Tryd.prog.funcs[56]? = some Tryd.f56 := by kernel_rfl
theorem fn57 : Tryd.prog.funcs[57]? = some Tryd.f57 := by kernel_rfl
theorem fn58 : Tryd.prog.funcs[58]? = some Tryd.f58 := by kernel_rfl
theorem fn59 : Tryd.prog.funcs[59]? = some Tryd.f59 := by kernel_rfl
theorem fn60 : Tryd.prog.funcs[60]? = some Tryd.f60 := by kernel_rfl
theorem fn61 : Tryd.prog.funcs[61]? = some Tryd.f61 := by kernel_rfl
theorem fn62 : Tryd.prog.funcs[62]? = some Tryd.f62 := by kernel_rfl
theorem fn63 : Tryd.prog.funcs[63]? = some Tryd.f63 := by kernel_rfl
theorem fn64 : Tryd.prog.funcs[64]? = some Tryd.f64 := by kernel_rfl
theorem fn65 : Tryd.prog.funcs[65]? = some Tryd.f65 := by kernel_rfl
theorem fn66 : Tryd.prog.funcs[66]? = some Tryd.f66 := by kernel_rfl
theorem fn67 : Tryd.prog.funcs[67]? = some Tryd.f67 := by kernel_rfl
theorem fn68 : Tryd.prog.funcs[68]? = some Tryd.f68 := by kernel_rfl
theorem fn69 : Tryd.prog.funcs[69]? = some Tryd.f69 := by kernel_rfl
theorem fn70 : Tryd.prog.funcs[70]? = some Tryd.f70 := by kernel_rfl
theorem fn71 : Tryd.prog.funcs[71]? = some Tryd.f71 := by kernel_rfl
theorem fn72 : Tryd.prog.funcs[72]? = some Tryd.f72 := by kernel_rfl
theorem fn73 : Tryd.prog.funcs[73]? = some Tryd.f73 := by kernel_rfl
theorem fn74 : Tryd.prog.funcs[74]? = some Tryd.f74 := by kernel_rfl
theorem fn75 : Tryd.prog.funcs[75]? = some Tryd.f75 := by kernel_rfl
theorem fn80 : Tryd.prog.funcs[80]? = some Tryd.f80 := by kernel_rfl
theorem fn81 : Tryd.prog.funcs[81]? = some Tryd.f81 := by kernel_rfl
theorem fn89 : Tryd.prog.funcs[89]? = some Tryd.f89 := by kernel_rfl
theorem fn93 : Tryd.prog.funcs[93]? = some Tryd.f93 := by kernel_rfl
noncomputable def cd3 : Code := match Tryd.f3.body with | some c => c | none => .skip
theorem bd3 : Tryd.f3.body = some cd3 := by kernel_rfl
noncomputable def cd4 : Code := match Tryd.f4.body with | some c => c | none => .skip
theorem bd4 : Tryd.f4.body = some cd4 := by kernel_rfl
noncomputable def cd5 : Code := match Tryd.f5.body with | some c => c | none => .skip
theorem bd5 : Tryd.f5.body = some cd5 := by kernel_rfl
noncomputable def cd6 : Code := match Tryd.f6.body with | some c => c | none => .skip
theorem bd6 : Tryd.f6.body = some cd6 := by kernel_rfl
noncomputable def cd7 : Code := match Tryd.f7.body with | some c => c | none => .skip
theorem bd7 : Tryd.f7.body = some cd7 := by kernel_rfl
noncomputable def cd8 : Code := match Tryd.f8.body with | some c => c | none => .skip
theorem bd8 : Tryd.f8.body = some cd8 := by kernel_rfl
noncomputable def cd9 : Code := match Tryd.f9.body with | some c => c | none => .skip
theorem bd9 : Tryd.f9.body = some cd9 := by kernel_rfl
noncomputable def cd10 : Code := match Tryd.f10.body with | some c => c | none => .skip
theorem bd10 : Tryd.f10.body = some cd10 := by kernel_rfl
noncomputable def cd11 : Code := match Tryd.f11.body with | some c => c | none => .skip
theorem bd11 : Tryd.f11.body = some cd11 := by kernel_rfl
noncomputable def cd12 : Code := match Tryd.f12.body with | some c => c | none => .skip
theorem bd12 : Tryd.f12.body = some cd12 := by kernel_rfl
noncomputable def cd13 : Code := match Tryd.f13.body with | some c => c | none => .skip
theorem bd13 : Tryd.f13.body = some cd13 := by kernel_rfl
noncomputable def cd14 : Code := match Tryd.f14.body with | some c => c | none => .skip
theorem bd14 : Tryd.f14.body = some cd14 := by kernel_rfl
noncomputable def cd15 : Code := match Tryd.f15.body with | some c => c | none => .skip
theorem bd15 : Tryd.f15.body = some cd15 := by kernel_rfl
noncomputable def cd16 : Code := match Tryd.f16.body with | some c => c | none => .skip
theorem bd16 : Tryd.f16.body = some cd16 := by kernel_rfl
noncomputable def cd17 : Code := match Tryd.f17.body with | some c => c | none => .skip
theorem bd17 : Tryd.f17.body = some cd17 := by kernel_rfl
noncomputable def cd18 : Code := match Tryd.f18.body with | some c => c | none => .skip
theorem bd18 : Tryd.f18.body = some cd18 := by kernel_rfl
noncomputable def cd19 : Code := match Tryd.f19.body with | some c => c | none => .skip
theorem bd19 : Tryd.f19.body = some cd19 := by kernel_rfl
noncomputable def cd20 : Code := match Tryd.f20.body with | some c => c | none => .skip
theorem bd20 : Tryd.f20.body = some cd20 := by kernel_rfl
noncomputable def cd21 : Code := match Tryd.f21.body with | some c => c | none => .skip
theorem bd21 : Tryd.f21.body = some cd21 := by kernel_rfl
noncomputable def cd22 : Code := match Tryd.f22.body with | some c => c | none => .skip
theorem bd22 : Tryd.f22.body = some cd22 := by kernel_rfl
noncomputable def cd23 : Code := match Tryd.f23.body with | some c => c | none => .skip
theorem bd23 : Tryd.f23.body = some cd23 := by kernel_rfl
noncomputable def cd24 : Code := match Tryd.f24.body with | some c => c | none => .skip
theorem bd24 : Tryd.f24.body = some cd24 := by kernel_rfl
noncomputable def cd25 : Code := match Tryd.f25.body with | some c => c | none => .skip
theorem bd25 : Tryd.f25.body = some cd25 := by kernel_rfl
noncomputable def cd26 : Code := match Tryd.f26.body with | some c => c | none => .skip
theorem bd26 : Tryd.f26.body = some cd26 := by kernel_rfl
noncomputable def cd27 : Code := match Tryd.f27.body with | some c => c | none => .skip
theorem bd27 : Tryd.f27.body = some cd27 := by kernel_rfl
noncomputable def cd28 : Code := match Tryd.f28.body with | some c => c | none => .skip
theorem bd28 : Tryd.f28.body = some cd28 := by kernel_rfl
noncomputable def cd29 : Code := match Tryd.f29.body with | some c => c | none => .skip
theorem bd29 : Tryd.f29.body = some cd29 := by kernel_rfl
noncomputable def cd30 : Code := match Tryd.f30.body with | some c => c | none => .skip
theorem bd30 : Tryd.f30.body = some cd30 := by kernel_rfl
noncomputable def cd31 : Code := match Tryd.f31.body with | some c => c | none => .skip
theorem bd31 : Tryd.f31.body = some cd31 := by kernel_rfl
noncomputable def cd32 : Code := match Tryd.f32.body with | some c => c | none => .skip
theorem bd32 : Tryd.f32.body = some cd32 := by kernel_rfl
noncomputable def cd34 : Code := match Tryd.f34.body with | some c => c | none => .skip
theorem bd34 : Tryd.f34.body = some cd34 := by kernel_rfl
noncomputable def cd35 : Code := match Tryd.f35.body with | some c => c | none => .skip
theorem bd35 : Tryd.f35.body = some cd35 := by kernel_rfl
noncomputable def cd36 : Code := match Tryd.f36.body with | some c => c | none => .skip
theorem bd36 : Tryd.f36.body = some cd36 := by kernel_rfl
noncomputable def cd37 : Code := match Tryd.f37.body with | some c => c | none => .skip
theorem bd37 : Tryd.f37.body = some cd37 := by kernel_rfl
noncomputable def cd38 : Code := match Tryd.f38.body with | some c => c | none => .skip
theorem bd38 : Tryd.f38.body = some cd38 := by kernel_rfl
noncomputable def cd39 : Code := match Tryd.f39.body with | some c => c | none => .skip
theorem bd39 : Tryd.f39.body = some cd39 := by kernel_rfl
noncomputable def cd40 : Code := match Tryd.f40.body with | some c => c | none => .skip
theorem bd40 : Tryd.f40.body = some cd40 := by kernel_rfl
noncomputable def cd41 : Code := match Tryd.f41.body with | some c => c | none => .skip
theorem bd41 : Tryd.f41.body = some cd41 := by kernel_rfl
noncomputable def cd42 : Code := match Tryd.f42.body with | some c => c | none => .skip
theorem bd42 : Tryd.f42.body = some cd42 := by kernel_rfl
noncomputable def cd43 : Code := match Tryd.f43.body with | some c => c | none => .skip
theorem bd43 : Tryd.f43.body = some cd43 := by kernel_rfl
noncomputable def cd44 : Code := match Tryd.f44.body with | some c => c | none => .skip
theorem bd44 : Tryd.f44.body = some cd44 := by kernel_rfl
noncomputable def cd45 : Code := match Tryd.f45.body with | some c => c | none => .skip
theorem bd45 : Tryd.f45.body = some cd45 := by kernel_rfl
noncomputable def cd46 : Code := match Tryd.f46.body with | some c => c | none => .skip
theorem bd46 : Tryd.f46.body = some cd46 := by kernel_rfl
noncomputable def cd47 : Code := match Tryd.f47.body with | some c => c | none => .skip
theorem bd47 : Tryd.f47.body = some cd47 := by kernel_rfl
noncomputable def cd48 : Code := match Tryd.f48.body with | some c => c | none => .skip
theorem bd48 : Tryd.f48.body = some cd48 := by kernel_rfl
noncomputable def cd49 : Code := match Tryd.f49.body with | some c => c | none => .skip
theorem bd49 : Tryd.f49.body = some cd49 := by kernel_rfl
noncomputable def cd50 : Code := match Tryd.f50.body with | some c => c | none => .skip
theorem bd50 : Tryd.f50.body = some cd50 := by kernel_rfl
noncomputable def cd51 : Code := match Tryd.f51.body with | some c => c | none => .skip
theorem bd51 : Tryd.f51.body = some cd51 := by kernel_rfl
noncomputable def cd52 : Code := match Tryd.f52.body with | some c => c | none => .skip
theorem bd52 : Tryd.f52.body = some cd52 := by kernel_rfl
noncomputable def cd53 : Code := match Tryd.f53.body with | some c => c | none => .skip
theorem bd53 : Tryd.f53.body = some cd53 := by kernel_rfl
noncomputable def cd54 : Code := match Tryd.f54.body with | some c => c | none => .skip
theorem bd54 : Tryd.f54.body = some cd54 := by kernel_rfl
noncomputable def cd55 : Code := match Tryd.f55.body with | some c => c | none => .skip
theorem bd55 : Tryd.f55.body = some cd55 := by kernel_rfl
noncomputable def cd56 : Code := match Tryd.f56.body with | some c => c | none => .skip
theorem bd56 : Tryd.f56.body = some cd56 := by kernel_rfl
noncomputable def cd57 : Code := match Tryd.f57.body with | some c => c | none => .skip
theorem bd57 : Tryd.f57.body = some cd57 := by kernel_rfl
noncomputable def cd58 : Code := match Tryd.f58.body with | some c => c | none => .skip
theorem bd58 : Tryd.f58.body = some cd58 := by kernel_rfl
noncomputable def cd59 : Code := match Tryd.f59.body with | some c => c | none => .skip
theorem bd59 : Tryd.f59.body = some cd59 := by kernel_rfl
noncomputable def cd60 : Code := match Tryd.f60.body with | some c => c | none => .skip
theorem bd60 : Tryd.f60.body = some cd60 := by kernel_rfl
noncomputable def cd61 : Code := match Tryd.f61.body with | some c => c | none => .skip
theorem bd61 : Tryd.f61.body = some cd61 := by kernel_rfl
noncomputable def cd62 : Code := match Tryd.f62.body with | some c => c | none => .skip
theorem bd62 : Tryd.f62.body = some cd62 := by kernel_rfl
noncomputable def cd63 : Code := match Tryd.f63.body with | some c => c | none => .skip
theorem bd63 : Tryd.f63.body = some cd63 := by kernel_rfl
noncomputable def cd64 : Code := match Tryd.f64.body with | some c => c | none => .skip
theorem bd64 : Tryd.f64.body = some cd64 := by kernel_rfl
noncomputable def cd65 : Code := match Tryd.f65.body with | some c => c | none => .skip
theorem bd65 : Tryd.f65.body = some cd65 := by kernel_rfl
noncomputable def cd66 : Code := match Tryd.f66.body with | some c => c | none => .skip
theorem bd66 : Tryd.f66.body = some cd66 := by kernel_rfl
noncomputable def cd67 : Code := match Tryd.f67.body with | some c => c | none => .skip
theorem bd67 : Tryd.f67.body = some cd67 := by kernel_rfl
noncomputable def cd68 : Code := match Tryd.f68.body with | some c => c | none => .skip
theorem bd68 : Tryd.f68.body = some cd68 := by kernel_rfl
noncomputable def cd69 : Code := match Tryd.f69.body with | some c => c | none => .skip
theorem bd69 : Tryd.f69.body = some cd69 := by kernel_rfl
noncomputable def cd70 : Code := match Tryd.f70.body with | some c => c | none => .skip
theorem bd70 : Tryd.f70.body = some cd70 := by kernel_rfl
noncomputable def cd71 : Code := match Tryd.f71.body with | some c => c | none => .skip
theorem bd71 : Tryd.f71.body = some cd71 := by kernel_rfl
noncomputable def cd72 : Code := match Tryd.f72.body with | some c => c | none => .skip
theorem bd72 : Tryd.f72.body = some cd72 := by kernel_rfl
noncomputable def cd73 : Code := match Tryd.f73.body with | some c => c | none => .skip
theorem bd73 : Tryd.f73.body = some cd73 := by kernel_rfl
noncomputable def cd74 : Code := match Tryd.f74.body with | some c => c | none => .skip
theorem bd74 : Tryd.f74.body = some cd74 := by kernel_rfl
noncomputable def cd75 : Code := match Tryd.f75.body with | some c => c | none => .skip
theorem bd75 : Tryd.f75.body = some cd75 := by kernel_rfl
noncomputable def cd80 : Code := match Tryd.f80.body with | some c => c | none => .skip
theorem bd80 : Tryd.f80.body = some cd80 := by kernel_rfl
noncomputable def cd81 : Code := match Tryd.f81.body with | some c => c | none => .skip
theorem bd81 : Tryd.f81.body = some cd81 := by kernel_rfl
noncomputable def cd89 : Code := match Tryd.f89.body with | some c => c | none => .skip
theorem bd89 : Tryd.f89.body = some cd89 := by kernel_rfl
noncomputable def cd93 : Code := match Tryd.f93.body with | some c => c | none => .skip
theorem bd93 : Tryd.f93.body = some cd93 := by kernel_rfl
/-- What is known from elsewhere. -/
def xt : Contract := xtC
/-- What each function answers. -/
noncomputable def L : Contract := Lim Tryd.prog xt cfAll
theorem L_run {f : FuncId} {c : Cfg} {fn : Func} {args : List T} {o : T × List T} (hc : cfAll f = some c) (hfn : Tryd.prog.funcs[f]? = some fn) (h : runF Tryd.prog L c LFm fn args = some o) : L f args = some o := lim_run hc hfn h
end Go.Proofs.YthalofddjlhcjaaDoor
end
section
/- Views of slices of integers, of rows and of cascade rows: what a slice value reads as. Over any program. -/
namespace Go.Proofs.YthalofddjlhcjaaDoor
set_option linter.unusedVariables false
set_option linter.unusedSimpArgs false
open Go.RowKit

/-- The first n cells behind an address hold F. -/
def Cells (w : World) (ga : Option Addr) (n : Nat) (F : Nat → Value) : Prop := ∀ j, j < n → ∃ g o, ga = some ⟨g, o, none⟩ ∧ w.cell? ⟨g, o + j, none⟩ = some (F j)

theorem Addr_add_block (a : Addr) (j : Nat) : (a.add j).block = a.block := by unfold Addr.add; split <;> rfl

theorem cell_below {w w' : World} (hb : Below w.heap.size w w') {a : Addr} {v : Value} (h : w.cell? a = some v) : w'.cell? a = some v := by
  rw [hb.cell (World.block_lt_of_cell? w a h)]; exact h

theorem Cells.below {w w' : World} {ga : Option Addr} {n : Nat} {F : Nat → Value} (h : Cells w ga n F) (hb : Below w.heap.size w w') : Cells w' ga n F := fun j hj => by
  obtain ⟨g, o, e, hc⟩ := h j hj
  exact ⟨g, o, e, cell_below hb hc⟩

theorem Cells.mono {w : World} {ga : Option Addr} {n m : Nat} {F : Nat → Value} (h : Cells w ga n F) (hm : m ≤ n) : Cells w ga m F := fun j hj => h j (by omega)
theorem Cells.congr {w : World} {ga : Option Addr} {n : Nat} {F G : Nat → Value} (h : Cells w ga n F) (e : ∀ j, j < n → F j = G j) : Cells w ga n G := fun j hj => by
  obtain ⟨g, o, e1, hc⟩ := h j hj
  exact ⟨g, o, e1, by rw [hc, e j hj]⟩

/-- The value is a slice of integers that reads as xs. -/
def IntsAt (w : World) (v : Value) (xs : List Int) : Prop :=
  ∃ ga cap, v = .slice ga xs.length cap ∧ xs.length ≤ cap ∧ cap ≤ maxLen ∧ Cells w ga xs.length (fun j => .int .i64 (xs.getD j 0))

theorem IntsAt.below {w w' : World} {v : Value} {xs : List Int} (h : IntsAt w v xs) (hb : Below w.heap.size w w') : IntsAt w' v xs := by
  obtain ⟨ga, cap, e, h1, h2, h3⟩ := h
  exact ⟨ga, cap, e, h1, h2, h3.below hb⟩

/-- The value is a slice of slices of integers. -/
def RowsAt (w : World) (v : Value) (rows : List (List Int)) : Prop :=
  ∃ ga cap, ∃ F : Nat → Value, v = .slice ga rows.length cap ∧ rows.length ≤ cap ∧ cap ≤ maxLen ∧ Cells w ga rows.length F ∧ ∀ j, j < rows.length → IntsAt w (F j) (rows.getD j [])

theorem RowsAt.below {w w' : World} {v : Value} {rows : List (List Int)} (h : RowsAt w v rows) (hb : Below w.heap.size w w') : RowsAt w' v rows := by
  obtain ⟨ga, cap, F, e, h1, h2, h3, h4⟩ := h
  exact ⟨ga, cap, F, e, h1, h2, h3.below hb, fun j hj => (h4 j hj).below hb⟩

/-- A cascade's row. -/
structure CRow where
  pre : List Int
  maps : List (List Int)
deriving Inhabited

/-- A cascade. -/
structure Casc where
  letters : Int
  sizes : List Int
  rows : List CRow
deriving Inhabited

/-- The value is a slice of cascade rows. -/
def CRowsAt (w : World) (v : Value) (rows : List CRow) : Prop :=
  ∃ ga cap, ∃ F G : Nat → Value, v = .slice ga rows.length cap ∧ rows.length ≤ cap ∧ cap ≤ maxLen ∧ ∀ j, (h : j < rows.length) → ∃ g o, ga = some ⟨g, o, none⟩ ∧ w.cell? ⟨g, o + j * 2, none⟩ = some (F j) ∧ w.cell? ⟨g, o + j * 2 + 1, none⟩ = some (G j) ∧ IntsAt w (F j) rows[j].pre ∧ RowsAt w (G j) rows[j].maps

theorem CRowsAt.below {w w' : World} {v : Value} {rows : List CRow} (h : CRowsAt w v rows) (hb : Below w.heap.size w w') : CRowsAt w' v rows := by
  obtain ⟨ga, cap, F, G, e, h1, h2, h3⟩ := h
  refine ⟨ga, cap, F, G, e, h1, h2, fun j hj => ?_⟩
  obtain ⟨g, o, e1, c1, c2, i1, i2⟩ := h3 j hj
  exact ⟨g, o, e1, cell_below hb c1, cell_below hb c2, i1.below hb, i2.below hb⟩

/-- The value is a cascade. -/
def CascAt (w : World) (v : Value) (c : Casc) : Prop :=
  ∃ s r, v = .agg #[.int .i64 c.letters, s, r] ∧ IntsAt w s c.sizes ∧ CRowsAt w r c.rows

theorem CascAt.below {w w' : World} {v : Value} {c : Casc} (h : CascAt w v c) (hb : Below w.heap.size w w') : CascAt w' v c := by
  obtain ⟨s, r, e, h1, h2⟩ := h
  exact ⟨s, r, e, h1.below hb, h2.below hb⟩
end Go.Proofs.YthalofddjlhcjaaDoor
end
section
/- Functions by value: program. -/
namespace Go.Proofs.YthalofddjlhcjaaDoor
open Go
set_option maxRecDepth 100000
set_option maxHeartbeats 1000000
set_option linter.unusedVariables false
set_option linter.unusedSimpArgs false

structure Tape where
  l : List Int
  at_ : Int
deriving Inhabited

-- semigroup/semigroupmade.Mod
def made_Mod (a0 : Int) (a1 : Int) : Option (Int) :=
  if a1 < 1 then
    some 0
  else
    chk (¬ a1 = 0) <|
    if (Int.tmod a0 a1) < 0 then
      some (IntKind.i64.wrap ((Int.tmod a0 a1) + a1))
    else
      some (Int.tmod a0 a1)
theorem made_Mod_ok {a0 : Int} {a1 : Int} {r : Int} (h0 : made_Mod a0 a1 = some r) : L 15 [.sc (.int .i64 a0), .sc (.int .i64 a1)] = some (.sc (.int .i64 r), [.dead, .dead]) := by
  simp only [made_Mod] at h0
  refine L_run cfn15 fn15 (runF_of bd15 ⟨of_decide_eq_true rfl, of_decide_eq_true rfl⟩ ?_)
  simp only [entryF, entryT, entryO, entryE, isIo]
  refine zq rfl (zr rfl rfl rfl (by simp; rfl) ?_)
  refine thenC_n (zq rfl (zq rfl (zr rfl rfl rfl (by simp; rfl) ?_)))
  refine thenC_n ?_
  by_cases c4 : a1 < 1
  · rw [if_pos c4] at h0
    refine q_ifT rfl (by simp [c4]) (zq rfl (zr rfl rfl rfl (by simp; rfl) ?_))
    refine thenC_n (q_ret rfl (thenC_r ?_))
    cases h0
    simp
  · rw [if_neg c4] at h0
    refine q_ifF rfl (by simp [c4]) (q_skip rfl (thenC_n (zq rfl ?_)))
    obtain ⟨f5, h1⟩ := chk_some h0
    refine zr rfl rfl rfl (by simp [f5]; rfl) ?_
    refine thenC_n (zq rfl (zq rfl (zr rfl rfl rfl (by simp; rfl) ?_)))
    refine thenC_n ?_
    by_cases c6 : (Int.tmod a0 a1) < 0
    · rw [if_pos c6] at h1
      refine q_ifT rfl (by simp [c6]) (zr rfl rfl rfl (by simp; rfl) ?_)
      refine thenC_n (zq rfl (zr rfl rfl rfl (by simp; rfl) ?_))
      refine thenC_n (q_ret rfl ?_)
      cases h1
      simp
    · rw [if_neg c6] at h1
      refine q_ifF rfl (by simp [c6]) (q_skip rfl (thenC_n (zq rfl (zr rfl rfl rfl (by simp; rfl) ?_))))
      refine thenC_n (q_ret rfl ?_)
      cases h1
      simp

-- (*semigroup/semigroupmade.Tape).Next
def made_Tape_Next (a0 : Tape) (a1 : Int) : Option (Int × Tape) :=
  if (a0.l.length : Int) ≤ a0.at_ then
    some (0, a0)
  else
    (atI a0.l (IntKind.i64.wrap ((IntKind.i64.wrap (a0.at_ + 1)) - 1))).bind fun v3 =>
    (made_Mod v3 a1).bind fun v4 =>
    some (v4, (⟨a0.l, IntKind.i64.wrap (a0.at_ + 1)⟩ : Tape))
theorem made_Tape_Next_ok {a0 : Tape} {a1 : Int} {r : Int × Tape} (h0 : made_Tape_Next a0 a1 = some r) : L 16 [.vr [.sl a0.l.length (a0.l.map fun x0 => .sc (.int .i64 x0)), .sc (.int .i64 a0.at_)], .sc (.int .i64 a1)] = some (.sc (.int .i64 r.1), [.vr [.sl r.2.l.length (r.2.l.map fun x0 => .sc (.int .i64 x0)), .sc (.int .i64 r.2.at_)], .dead]) := by
  simp only [made_Tape_Next] at h0
  refine L_run cfn16 fn16 (runF_of bd16 ⟨of_decide_eq_true rfl, of_decide_eq_true rfl⟩ ?_)
  simp only [entryF, entryT, entryO, entryE, isIo]
  refine zq rfl (zr rfl rfl rfl (by simp; rfl) ?_)
  refine thenC_n (zq rfl (zq rfl ?_))
  refine q_drawW rfl rfl rfl rfl ?_; repeat' (first | (refine q_drawW_op rfl rfl fun Q' hQ => ?_; simp; refine hQ.out _ ?_; clear hQ; clear Q') | (refine q_drawW_guard rfl rfl fun Q1 Q2 h1 h2 => ?_; simp [twoB_some]; (first | refine h1.out ?_ | refine h2.out ?_); clear h1 h2; clear Q1 Q2; intro Q' hQ; simp; refine hQ.out _ ?_; clear hQ; clear Q') | (refine q_drawW_nil rfl fun Q' hQ => ?_; simp; refine hQ.out _ ?_; clear hQ; clear Q'))
  refine thenC_n ?_
  by_cases c4 : (a0.l.length : Int) ≤ a0.at_
  · rw [if_pos c4] at h0
    refine q_ifT rfl (by simp [c4]) (zq rfl (zr rfl rfl rfl (by simp; rfl) ?_))
    refine thenC_n (q_ret rfl (thenC_r ?_))
    cases h0
    simp
  · rw [if_neg c4] at h0
    refine q_ifF rfl (by simp [c4]) (q_skip rfl (thenC_n (zq rfl (zr rfl rfl rfl (by simp; rfl) ?_))))
    refine thenC_n (zq rfl ?_)
    obtain ⟨v3, f5, h1⟩ := bnd_some h0
    obtain ⟨f5a, f5b, f5c, f5d, f5e⟩ := atI_some f5
    obtain ⟨v4, f6, h2⟩ := bnd_some h1
    have f6k := made_Mod_ok f6
    try simp at f6k
    refine q_drawW rfl rfl rfl rfl ?_; repeat' (first | (refine q_drawW_op rfl rfl fun Q' hQ => ?_; simp [f5a, f5b, f5c, f5d, f5e, f6k]; refine hQ.out _ ?_; clear hQ; clear Q') | (refine q_drawW_guard rfl rfl fun Q1 Q2 h1 h2 => ?_; simp [f5a, f5b, f5c, f5d, f5e, f6k, twoB_some]; (first | refine h1.out ?_ | refine h2.out ?_); clear h1 h2; clear Q1 Q2; intro Q' hQ; simp [f5a, f5b, f5c, f5d, f5e, f6k]; refine hQ.out _ ?_; clear hQ; clear Q') | (refine q_drawW_nil rfl fun Q' hQ => ?_; simp [f5a, f5b, f5c, f5d, f5e, f6k]; refine hQ.out _ ?_; clear hQ; clear Q'))
    refine thenC_n (q_ret rfl ?_)
    cases h2
    simp

-- semigroup/semigroupmade.New
def made_New (a0 : List Int) : Option (Tape) :=
  if 80 < (a0.length : Int) then
    (pieceL a0 0 80).bind fun v2 =>
    some (⟨v2, 0⟩ : Tape)
  else
    some (⟨a0, 0⟩ : Tape)
theorem made_New_ok {a0 : List Int} {r : Tape} (h0 : made_New a0 = some r) : L 11 [.sl a0.length (a0.map fun x0 => .sc (.int .i64 x0))] = some (.vr [.sl r.l.length (r.l.map fun x0 => .sc (.int .i64 x0)), .sc (.int .i64 r.at_)], [.dead]) := by
  simp only [made_New] at h0
  refine L_run cfn11 fn11 (runF_of bd11 ⟨of_decide_eq_true rfl, of_decide_eq_true rfl⟩ ?_)
  simp only [entryF, entryT, entryO, entryE, isIo]
  refine zq rfl (zr rfl rfl rfl (by simp; rfl) ?_)
  refine thenC_n (zq rfl (zq rfl (zr rfl rfl rfl (by simp; rfl) ?_)))
  refine thenC_n ?_
  by_cases c3 : 80 < (a0.length : Int)
  · rw [if_pos c3] at h0
    refine q_ifT rfl (by simp [c3]) ?_
    obtain ⟨v2, f4, h1⟩ := bnd_some h0
    obtain ⟨f4a, f4b, f4c, -⟩ := pieceL_some f4
    obtain ⟨f4d, f4g⟩ := piece_hi f4a f4b
    have f4e := pieceL_map (g := fun x : Int => (.sc (.int .i64 x) : T)) f4
    try simp at f4e
    have f4f := pieceL_slm f4
    try simp only [Int.reduceToNat, Int.toNat_natCast, Nat.sub_zero] at f4f
    refine zr rfl rfl rfl (by simp [f4a, f4b, f4c, f4d, f4g, f4e, f4f]; rfl) ?_
    refine thenC_n (zq rfl (zr rfl rfl rfl (by simp; rfl) ?_))
    refine thenC_n (q_ret rfl ?_)
    cases h1
    simp
  · rw [if_neg c3] at h0
    refine q_ifF rfl (by simp [c3]) (q_skip rfl (thenC_n (zq rfl (zr rfl rfl rfl (by simp; rfl) ?_))))
    refine thenC_n (q_ret rfl ?_)
    cases h0
    simp

-- (*semigroup/semigroupmade.Tape).Word
def made_Tape_Word_b3 (a1 : Int) : Int × List Int × Int × List Int → Option ((Int × List Int × Int × List Int) ⊕ (ByteArray × Tape))
  | (w11, w12, w13, w14) =>
  if 0 < w11 then
    (made_Tape_Next (⟨w12, w13⟩ : Tape) a1).bind fun v16 =>
    chk (capOk 1 (w14.length + 1)) <|
    nextG (IntKind.i64.wrap (w11 - 1), v16.2.l, v16.2.at_, w14 ++ [IntKind.u8.wrap (IntKind.i64.wrap (97 + v16.1))])
  else
    exitG <|
    some (bytesOf w14, (⟨w12, w13⟩ : Tape))
def made_Tape_Word_h3 (a1 : Int) : Int × List Int × Int × List Int → Fr
  | (w11, w12, w13, w14) => ⟨27, [(0, .one (.a 0 [] (0))), (1, .one (.t none (.sc (.int .i64 a1)))), (7, .one (.h 7 [])), (8, .one (.t none (.sc (.int .i64 w11)))), (1027, .one (.a 0 [] (0)))], [(0, .vr [.sl w12.length (w12.map fun x0 => .sc (.int .i64 x0)), .sc (.int .i64 w13)]), (7, .os 1 w14.length (w14.map fun x0 => .sc (.int .u8 x0)))]⟩
def made_Tape_Word (a0 : Tape) (a1 : Int) (a2 : Int) : Option (ByteArray × Tape) :=
  (made_Tape_Next a0 (IntKind.i64.wrap (a2 + 1))).bind fun v9 =>
  loopG (made_Tape_Word_b3 a1) LFm (v9.1, v9.2.l, v9.2.at_, [])
theorem made_Tape_Word_ok {a0 : Tape} {a1 : Int} {a2 : Int} {r : ByteArray × Tape} (h0 : made_Tape_Word a0 a1 a2 = some r) : L 14 [.vr [.sl a0.l.length (a0.l.map fun x0 => .sc (.int .i64 x0)), .sc (.int .i64 a0.at_)], .sc (.int .i64 a1), .sc (.int .i64 a2)] = some (.sc (.string r.1), [.vr [.sl r.2.l.length (r.2.l.map fun x0 => .sc (.int .i64 x0)), .sc (.int .i64 r.2.at_)], .dead, .dead]) := by
  simp only [made_Tape_Word] at h0
  refine L_run cfn14 fn14 (runF_of bd14 ⟨of_decide_eq_true rfl, of_decide_eq_true rfl⟩ ?_)
  simp only [entryF, entryT, entryO, entryE, isIo]
  refine zq rfl (zr rfl rfl rfl (by simp; rfl) ?_)
  refine thenC_n (zq rfl (zr rfl rfl rfl (by simp; rfl) ?_))
  refine thenC_n (zq rfl (zq rfl ?_))
  obtain ⟨v9, f10, h1⟩ := bnd_some h0
  have f10k := made_Tape_Next_ok f10
  try simp at f10k
  refine zr rfl rfl rfl (by simp [f10k]; rfl) ?_
  refine thenC_n (zb rfl (q_loopG h1 (made_Tape_Word_h3 a1) rfl rfl (by simp [made_Tape_Word_h3]) fun s o1 h2 hr1 => ?_))
  obtain ⟨w11, w12, w13, w14⟩ := s
  simp only [made_Tape_Word_b3] at h2
  simp only [made_Tape_Word_h3]
  refine zq rfl (zq rfl (zr rfl rfl rfl (by simp; rfl) ?_))
  refine thenC_n ?_
  by_cases c16 : 0 < w11
  · rw [if_pos c16] at h2
    refine q_ifT rfl (by simp [c16]) (q_skip rfl (thenC_n (zq rfl (zb rfl ?_))))
    obtain ⟨v16, f17, h3⟩ := bnd_some h2
    have f17k := made_Tape_Next_ok f17
    try simp at f17k
    obtain ⟨f18, h4⟩ := chk_some h3
    obtain ⟨f18a, f18b⟩ := f18
    simp only [Nat.mul_one] at f18a
    refine zr rfl rfl rfl (by simp [f17k, f18a, f18b]; rfl) ?_
    refine blockC_n (thenC_n (zr rfl rfl rfl (by simp; rfl) ?_))
    have ho := next_some h4
    refine roundC_n ho ?_
    simp [made_Tape_Word_h3]
  · rw [if_neg c16] at h2
    refine q_ifF rfl (by simp [c16]) (q_exit rfl (thenC_x ?_))
    obtain ⟨rr1, h3, ho1⟩ := exit_some h2
    have hs1 := hr1 _ ho1
    subst hs1
    refine roundC_x ho1 (blockC_hit2 rfl (thenC_n (zq rfl (zr rfl rfl rfl (by simp; rfl) ?_))))
    refine thenC_n (q_ret rfl ?_)
    cases h3
    simp
end Go.Proofs.YthalofddjlhcjaaDoor
end
section
/- Functions by value: program. -/
namespace Go.Proofs.YthalofddjlhcjaaDoor
open Go
set_option maxRecDepth 100000
set_option maxHeartbeats 1000000
set_option linter.unusedVariables false
set_option linter.unusedSimpArgs false



-- cmp.isNaN[int]
def cmp_isNaN_int (a0 : Int) : Option (Bool) :=
  some (!decide (a0 = a0))
theorem cmp_isNaN_int_ok {a0 : Int} {r : Bool} (h0 : cmp_isNaN_int a0 = some r) : L 81 [.sc (.int .i64 a0)] = some (.sc (.bool r), [.dead]) := by
  simp only [cmp_isNaN_int] at h0
  refine L_run cfn81 fn81 (runF_of bd81 ⟨of_decide_eq_true rfl, of_decide_eq_true rfl⟩ ?_)
  simp only [entryF, entryT, entryO, entryE, isIo]
  refine zq rfl (zr rfl rfl rfl (by simp; rfl) ?_)
  refine thenC_n (zq rfl (zr rfl rfl rfl (by simp; rfl) ?_))
  refine thenC_n (q_ret rfl ?_)
  cases h0
  simp

-- cmp.Compare[int]
def cmp_Compare_int (a0 : Int) (a1 : Int) : Option (Int) :=
  (cmp_isNaN_int a0).bind fun v3 =>
  (cmp_isNaN_int a1).bind fun v4 =>
  if v3 = true then
    if v4 = true then
      some 0
    else
      some (-1)
  else
    if v4 = true then
      some 1
    else
      if a0 < a1 then
        some (-1)
      else
        if a1 < a0 then
          some 1
        else
          some 0
theorem cmp_Compare_int_ok {a0 : Int} {a1 : Int} {r : Int} (h0 : cmp_Compare_int a0 a1 = some r) : L 72 [.sc (.int .i64 a0), .sc (.int .i64 a1)] = some (.sc (.int .i64 r), [.dead, .dead]) := by
  simp only [cmp_Compare_int] at h0
  refine L_run cfn72 fn72 (runF_of bd72 ⟨of_decide_eq_true rfl, of_decide_eq_true rfl⟩ ?_)
  simp only [entryF, entryT, entryO, entryE, isIo]
  refine zq rfl (zr rfl rfl rfl (by simp; rfl) ?_)
  refine thenC_n (zq rfl ?_)
  obtain ⟨v3, f8, h1⟩ := bnd_some h0
  have f8k := cmp_isNaN_int_ok f8
  try simp at f8k
  refine zr rfl rfl rfl (by simp [f8k]; rfl) ?_
  refine thenC_n (zq rfl ?_)
  obtain ⟨v4, f9, h2⟩ := bnd_some h1
  have f9k := cmp_isNaN_int_ok f9
  try simp at f9k
  refine zr rfl rfl rfl (by simp [f9k]; rfl) ?_
  refine thenC_n (zq rfl (zq rfl (zr rfl rfl rfl (by simp; rfl) ?_)))
  refine thenC_n ?_
  by_cases c10 : v3 = true
  · rw [if_pos c10] at h2
    refine q_ifT rfl (by simp [c10]) (zq rfl (zq rfl (zr rfl rfl rfl (by simp; rfl) ?_)))
    refine thenC_n ?_
    by_cases c11 : v4 = true
    · rw [if_pos c11] at h2
      refine q_ifT rfl (by simp [c11]) (zq rfl (zr rfl rfl rfl (by simp; rfl) ?_))
      refine thenC_n (q_ret rfl (thenC_r (thenC_r ?_)))
      cases h2
      simp [c10, c11]
    · rw [if_neg c11] at h2
      refine q_ifF rfl (by simp [c11]) (q_skip rfl (thenC_n (zq rfl (zr rfl rfl rfl (by simp; rfl) ?_))))
      refine thenC_n (q_ret rfl (thenC_r ?_))
      cases h2
      simp [c10, c11]
  · rw [if_neg c10] at h2
    refine q_ifF rfl (by simp [c10]) (q_skip rfl (thenC_n (zq rfl (zq rfl (zr rfl rfl rfl (by simp; rfl) ?_)))))
    refine thenC_n ?_
    by_cases c12 : v4 = true
    · rw [if_pos c12] at h2
      refine q_ifT rfl (by simp [c12]) (zq rfl (zr rfl rfl rfl (by simp; rfl) ?_))
      refine thenC_n (q_ret rfl (thenC_r ?_))
      cases h2
      simp [c10, c12]
    · rw [if_neg c12] at h2
      refine q_ifF rfl (by simp [c12]) (q_skip rfl (thenC_n (zq rfl (zq rfl (zr rfl rfl rfl (by simp; rfl) ?_)))))
      refine thenC_n ?_
      by_cases c13 : a0 < a1
      · rw [if_pos c13] at h2
        refine q_ifT rfl (by simp [c13]) (zq rfl (zr rfl rfl rfl (by simp; rfl) ?_))
        refine thenC_n (q_ret rfl (thenC_r ?_))
        cases h2
        simp [c10, c12]
      · rw [if_neg c13] at h2
        refine q_ifF rfl (by simp [c13]) (q_skip rfl (thenC_n (zq rfl (zq rfl (zr rfl rfl rfl (by simp; rfl) ?_)))))
        refine thenC_n ?_
        by_cases c14 : a1 < a0
        · rw [if_pos c14] at h2
          refine q_ifT rfl (by simp [c14]) (zq rfl (zr rfl rfl rfl (by simp; rfl) ?_))
          refine thenC_n (q_ret rfl (thenC_r ?_))
          cases h2
          simp [c10, c12]
        · rw [if_neg c14] at h2
          refine q_ifF rfl (by simp [c14]) (q_skip rfl (thenC_n (zq rfl (zr rfl rfl rfl (by simp; rfl) ?_))))
          refine thenC_n (q_ret rfl ?_)
          cases h2
          simp [c10, c12]

-- cmp.Or[int]
def cmp_Or_int_b3 (a0 : List Int) : Int → Option (Int ⊕ Int)
  | w6 =>
  if w6 < (a0.length : Int) then
    (atI a0 w6).bind fun v8 =>
    if v8 = 0 then
      nextG (IntKind.i64.wrap (w6 + 1))
    else
      exitG <|
      some v8
  else
    exitG <|
    some 0
def cmp_Or_int_h3 (a0 : List Int) : Int → Fr
  | w6 => ⟨18, [(3, .one (.t none (.sc (.int .i64 0)))), (6, .one (.t none (.sl a0.length (a0.map fun x0 => .sc (.int .i64 x0))))), (7, .one (.t none (.sc (.int .i64 (a0.length : Int))))), (8, .one (.t none (.sc (.int .i64 w6))))], []⟩
def cmp_Or_int (a0 : List Int) : Option (Int) :=
  loopG (cmp_Or_int_b3 a0) LFm 0
theorem cmp_Or_int_ok {a0 : List Int} {r : Int} (h0 : cmp_Or_int a0 = some r) : L 71 [.sl a0.length (a0.map fun x0 => .sc (.int .i64 x0))] = some (.sc (.int .i64 r), [.dead]) := by
  simp only [cmp_Or_int] at h0
  refine L_run cfn71 fn71 (runF_of bd71 ⟨of_decide_eq_true rfl, of_decide_eq_true rfl⟩ ?_)
  simp only [entryF, entryT, entryO, entryE, isIo]
  refine zq rfl (zr rfl rfl rfl (by simp; rfl) ?_)
  refine thenC_n (zq rfl (zr rfl rfl rfl (by simp; rfl) ?_))
  refine thenC_n (zq rfl (zq rfl (zr rfl rfl rfl (by simp; rfl) ?_)))
  refine thenC_n (zb rfl (q_loopG h0 (cmp_Or_int_h3 a0) rfl rfl (by simp [cmp_Or_int_h3]) fun s o1 h1 hr1 => ?_))
  obtain ⟨w6, hs1⟩ : ∃ y, y = s := ⟨_, rfl⟩
  subst hs1
  simp only [cmp_Or_int_b3] at h1
  simp only [cmp_Or_int_h3]
  refine zq rfl (zr rfl rfl rfl (by simp; rfl) ?_)
  refine thenC_n (zq rfl ?_)
  by_cases c16 : w6 < (a0.length : Int)
  · rw [if_pos c16] at h1
    refine q_ifT rfl (by simp [c16]) (q_skip rfl (thenC_n (zq rfl (zb rfl (zq rfl ?_)))))
    obtain ⟨v8, f17, h2⟩ := bnd_some h1
    obtain ⟨f17a, f17b, f17c, f17d, f17e⟩ := atI_some f17
    refine zr rfl rfl rfl (by simp [f17a, f17b, f17c, f17d, f17e]; rfl) ?_
    refine thenC_n (zq rfl (zr rfl rfl rfl (by simp; rfl) ?_))
    refine thenC_n ?_
    by_cases c18 : v8 = 0
    · rw [if_pos c18] at h2
      have c18e := eq_true c18
      refine q_ifF rfl (by simp [c18e]) (q_skip rfl (blockC_n (thenC_n (zr rfl rfl rfl (by simp; rfl) ?_))))
      have ho := next_some h2
      refine roundC_n ho ?_
      simp [cmp_Or_int_h3]
    · rw [if_neg c18] at h2
      have c18e := eq_false c18
      refine q_ifT rfl (by simp [c18e]) (zq rfl (zr rfl rfl rfl (by simp; rfl) ?_))
      refine thenC_n (q_ret rfl (blockC_r (thenC_r ?_)))
      obtain ⟨rr1, h3, ho1⟩ := exit_some h2
      have hs1 := hr1 _ ho1
      subst hs1
      refine roundC_r ho1 (blockC_r (thenC_r ?_))
      cases h3
      simp
  · rw [if_neg c16] at h1
    refine q_ifF rfl (by simp [c16]) (q_exit rfl (thenC_x ?_))
    obtain ⟨rr1, h2, ho1⟩ := exit_some h1
    have hs1 := hr1 _ ho1
    subst hs1
    refine roundC_x ho1 (blockC_hit2 rfl (thenC_n (zq rfl (zr rfl rfl rfl (by simp; rfl) ?_))))
    refine thenC_n (q_ret rfl ?_)
    cases h2
    simp

-- slices.Compare[[]int,int]
def slices_Compare_Lint_int_b2 (a0 : List Int) (a1 : List Int) : Int → Option (Int ⊕ Int)
  | w14 =>
  if w14 < (a0.length : Int) then
    (atI a0 w14).bind fun v18 =>
    if (a1.length : Int) ≤ w14 then
      exitG <|
      some 1
    else
      (atI a1 w14).bind fun v19 =>
      (cmp_Compare_int v18 v19).bind fun v20 =>
      if v20 = 0 then
        nextG (IntKind.i64.wrap (w14 + 1))
      else
        exitG <|
        some v20
  else
    exitG <|
    if a0.length < a1.length then
      some (-1)
    else
      some 0
def slices_Compare_Lint_int_h2 (a0 : List Int) (a1 : List Int) : Int → Fr
  | w14 => ⟨36, [(0, .one (.t none (.sl a0.length (a0.map fun x0 => .sc (.int .i64 x0))))), (1, .one (.t none (.sl a1.length (a1.map fun x0 => .sc (.int .i64 x0))))), (9, .one (.t none (.sl a0.length (a0.map fun x0 => .sc (.int .i64 x0))))), (10, .one (.t none (.sc (.int .i64 (a0.length : Int))))), (11, .one (.t none (.sc (.int .i64 w14))))], []⟩
def slices_Compare_Lint_int (a0 : List Int) (a1 : List Int) : Option (Int) :=
  loopG (slices_Compare_Lint_int_b2 a0 a1) LFm 0
theorem slices_Compare_Lint_int_ok {a0 : List Int} {a1 : List Int} {r : Int} (h0 : slices_Compare_Lint_int a0 a1 = some r) : L 73 [.sl a0.length (a0.map fun x0 => .sc (.int .i64 x0)), .sl a1.length (a1.map fun x0 => .sc (.int .i64 x0))] = some (.sc (.int .i64 r), [.dead, .dead]) := by
  simp only [slices_Compare_Lint_int] at h0
  refine L_run cfn73 fn73 (runF_of bd73 ⟨of_decide_eq_true rfl, of_decide_eq_true rfl⟩ ?_)
  simp only [entryF, entryT, entryO, entryE, isIo]
  refine zq rfl (zr rfl rfl rfl (by simp; rfl) ?_)
  refine thenC_n (zq rfl (zq rfl (zr rfl rfl rfl (by simp; rfl) ?_)))
  refine thenC_n (zb rfl (q_loopG h0 (slices_Compare_Lint_int_h2 a0 a1) rfl rfl (by simp [slices_Compare_Lint_int_h2]) fun s o1 h1 hr1 => ?_))
  obtain ⟨w14, hs1⟩ : ∃ y, y = s := ⟨_, rfl⟩
  subst hs1
  simp only [slices_Compare_Lint_int_b2] at h1
  simp only [slices_Compare_Lint_int_h2]
  refine zq rfl (zr rfl rfl rfl (by simp; rfl) ?_)
  refine thenC_n (zq rfl ?_)
  by_cases c32 : w14 < (a0.length : Int)
  · rw [if_pos c32] at h1
    refine q_ifT rfl (by simp [c32]) (q_skip rfl (thenC_n (zq rfl (zb rfl (zq rfl ?_)))))
    obtain ⟨v18, f33, h2⟩ := bnd_some h1
    obtain ⟨f33a, f33b, f33c, f33d, f33e⟩ := atI_some f33
    refine zr rfl rfl rfl (by simp [f33a, f33b, f33c, f33d, f33e]; rfl) ?_
    refine thenC_n (zq rfl (zq rfl (zr rfl rfl rfl (by simp; rfl) ?_)))
    refine thenC_n ?_
    by_cases c34 : (a1.length : Int) ≤ w14
    · rw [if_pos c34] at h2
      refine q_ifT rfl (by simp [c34]) (zq rfl (zr rfl rfl rfl (by simp; rfl) ?_))
      refine thenC_n (q_ret rfl (thenC_r (blockC_r (thenC_r ?_))))
      obtain ⟨rr1, h3, ho1⟩ := exit_some h2
      have hs1 := hr1 _ ho1
      subst hs1
      refine roundC_r ho1 (blockC_r (thenC_r ?_))
      cases h3
      simp
    · rw [if_neg c34] at h2
      refine q_ifF rfl (by simp [c34]) (q_skip rfl (thenC_n (zq rfl ?_)))
      obtain ⟨v19, f35, h3⟩ := bnd_some h2
      obtain ⟨f35a, f35b, f35c, f35d, f35e⟩ := atI_some f35
      refine zr rfl rfl rfl (by simp [f35a, f35b, f35c, f35d, f35e]; rfl) ?_
      refine thenC_n (zq rfl ?_)
      obtain ⟨v20, f36, h4⟩ := bnd_some h3
      have f36k := cmp_Compare_int_ok f36
      try simp at f36k
      refine zr rfl rfl rfl (by simp [f36k]; rfl) ?_
      refine thenC_n (zq rfl (zr rfl rfl rfl (by simp; rfl) ?_))
      refine thenC_n ?_
      by_cases c37 : v20 = 0
      · rw [if_pos c37] at h4
        have c37e := eq_true c37
        refine q_ifF rfl (by simp [c37e]) (q_skip rfl (blockC_n (thenC_n (zr rfl rfl rfl (by simp; rfl) ?_))))
        have ho := next_some h4
        refine roundC_n ho ?_
        simp [slices_Compare_Lint_int_h2]
      · rw [if_neg c37] at h4
        have c37e := eq_false c37
        refine q_ifT rfl (by simp [c37e]) (zq rfl (zr rfl rfl rfl (by simp; rfl) ?_))
        refine thenC_n (q_ret rfl (blockC_r (thenC_r ?_)))
        obtain ⟨rr1, h5, ho1⟩ := exit_some h4
        have hs1 := hr1 _ ho1
        subst hs1
        refine roundC_r ho1 (blockC_r (thenC_r ?_))
        cases h5
        simp
  · rw [if_neg c32] at h1
    refine q_ifF rfl (by simp [c32]) (q_exit rfl (thenC_x ?_))
    obtain ⟨rr1, h2, ho1⟩ := exit_some h1
    have hs1 := hr1 _ ho1
    subst hs1
    refine roundC_x ho1 (blockC_hit2 rfl (thenC_n (zq rfl (zq rfl (zr rfl rfl rfl (by simp; rfl) ?_)))))
    refine thenC_n ?_
    by_cases c38 : a0.length < a1.length
    · rw [if_pos c38] at h2
      refine q_ifT rfl (by simp [c38]) (zq rfl (zr rfl rfl rfl (by simp; rfl) ?_))
      refine thenC_n (q_ret rfl (thenC_r ?_))
      cases h2
      simp
    · rw [if_neg c38] at h2
      refine q_ifF rfl (by simp [c38]) (q_skip rfl (thenC_n (zq rfl (zr rfl rfl rfl (by simp; rfl) ?_))))
      refine thenC_n (q_ret rfl ?_)
      cases h2
      simp

-- semigroup/semigroupref03.Less
def ref03_Less_b2 (a0 : List Int) (a1 : List Int) : Int → Option (Int ⊕ Bool)
  | w18 =>
  if w18 < (a0.length : Int) then
    if w18 < (a1.length : Int) then
      (atI a0 w18).bind fun v23 =>
      (atI a1 w18).bind fun v24 =>
      if v23 = v24 then
        nextG (IntKind.i64.wrap (w18 + 1))
      else
        exitG <|
        some (decide (v23 < v24))
    else
      exitG <|
      some (decide (a0.length < a1.length))
  else
    exitG <|
    some (decide (a0.length < a1.length))
def ref03_Less_h2 (a0 : List Int) (a1 : List Int) : Int → Fr
  | w18 => ⟨41, [(0, .one (.t none (.sl a0.length (a0.map fun x0 => .sc (.int .i64 x0))))), (1, .one (.t none (.sl a1.length (a1.map fun x0 => .sc (.int .i64 x0))))), (5, .one (.t none (.sc (.int .i64 w18))))], []⟩
def ref03_Less (a0 : List Int) (a1 : List Int) : Option (Bool) :=
  loopG (ref03_Less_b2 a0 a1) LFm 0
theorem ref03_Less_ok {a0 : List Int} {a1 : List Int} {r : Bool} (h0 : ref03_Less a0 a1 = some r) : L 74 [.sl a0.length (a0.map fun x0 => .sc (.int .i64 x0)), .sl a1.length (a1.map fun x0 => .sc (.int .i64 x0))] = some (.sc (.bool r), [.dead, .dead]) := by
  simp only [ref03_Less] at h0
  refine L_run cfn74 fn74 (runF_of bd74 ⟨of_decide_eq_true rfl, of_decide_eq_true rfl⟩ ?_)
  simp only [entryF, entryT, entryO, entryE, isIo]
  refine zq rfl (zr rfl rfl rfl (by simp; rfl) ?_)
  refine thenC_n (zq rfl (zq rfl (zr rfl rfl rfl (by simp; rfl) ?_)))
  refine thenC_n (zb rfl (q_loopG h0 (ref03_Less_h2 a0 a1) rfl rfl (by simp [ref03_Less_h2]) fun s o1 h1 hr1 => ?_))
  obtain ⟨w18, hs1⟩ : ∃ y, y = s := ⟨_, rfl⟩
  subst hs1
  simp only [ref03_Less_b2] at h1
  simp only [ref03_Less_h2]
  refine zq rfl (zq rfl ?_)
  by_cases c26 : w18 < (a0.length : Int)
  · rw [if_pos c26] at h1
    refine zr rfl rfl rfl (by simp [c26]; rfl) ?_
    refine thenC_n ?_
    by_cases c27 : w18 < (a1.length : Int)
    · rw [if_pos c27] at h1
      refine q_ifT rfl (by simp [c27]) (q_skip rfl (thenC_n (zq rfl (zb rfl (zq rfl ?_)))))
      obtain ⟨v23, f28, h2⟩ := bnd_some h1
      obtain ⟨f28a, f28b, f28c, f28d, f28e⟩ := atI_some f28
      obtain ⟨v24, f29, h3⟩ := bnd_some h2
      obtain ⟨f29a, f29b, f29c, f29d, f29e⟩ := atI_some f29
      refine q_drawW rfl rfl rfl rfl ?_; repeat' (first | (refine q_drawW_op rfl rfl fun Q' hQ => ?_; simp [f28a, f28b, f28c, f28d, f28e, f29a, f29b, f29c, f29d, f29e]; refine hQ.out _ ?_; clear hQ; clear Q') | (refine q_drawW_guard rfl rfl fun Q1 Q2 h1 h2 => ?_; simp [f28a, f28b, f28c, f28d, f28e, f29a, f29b, f29c, f29d, f29e, twoB_some]; (first | refine h1.out ?_ | refine h2.out ?_); clear h1 h2; clear Q1 Q2; intro Q' hQ; simp [f28a, f28b, f28c, f28d, f28e, f29a, f29b, f29c, f29d, f29e]; refine hQ.out _ ?_; clear hQ; clear Q') | (refine q_drawW_nil rfl fun Q' hQ => ?_; simp [f28a, f28b, f28c, f28d, f28e, f29a, f29b, f29c, f29d, f29e]; refine hQ.out _ ?_; clear hQ; clear Q'))
      refine thenC_n ?_
      by_cases c30 : v23 = v24
      · rw [if_pos c30] at h3
        have c30e := eq_true c30
        refine q_ifF rfl (by simp [c30e]) (q_skip rfl (blockC_n (thenC_n (zr rfl rfl rfl (by simp; rfl) ?_))))
        have ho := next_some h3
        refine roundC_n ho ?_
        simp [ref03_Less_h2]
      · rw [if_neg c30] at h3
        have c30e := eq_false c30
        refine q_ifT rfl (by simp [c30e]) (zq rfl ?_)
        refine q_drawW rfl rfl rfl rfl ?_; repeat' (first | (refine q_drawW_op rfl rfl fun Q' hQ => ?_; simp [f28a, f28b, f28c, f28d, f28e, f29a, f29b, f29c, f29d, f29e]; refine hQ.out _ ?_; clear hQ; clear Q') | (refine q_drawW_guard rfl rfl fun Q1 Q2 h1 h2 => ?_; simp [f28a, f28b, f28c, f28d, f28e, f29a, f29b, f29c, f29d, f29e, twoB_some]; (first | refine h1.out ?_ | refine h2.out ?_); clear h1 h2; clear Q1 Q2; intro Q' hQ; simp [f28a, f28b, f28c, f28d, f28e, f29a, f29b, f29c, f29d, f29e]; refine hQ.out _ ?_; clear hQ; clear Q') | (refine q_drawW_nil rfl fun Q' hQ => ?_; simp [f28a, f28b, f28c, f28d, f28e, f29a, f29b, f29c, f29d, f29e]; refine hQ.out _ ?_; clear hQ; clear Q'))
        refine thenC_n (q_ret rfl (blockC_r (thenC_r ?_)))
        obtain ⟨rr1, h4, ho1⟩ := exit_some h3
        have hs1 := hr1 _ ho1
        subst hs1
        refine roundC_r ho1 (blockC_r (thenC_r ?_))
        cases h4
        simp
    · rw [if_neg c27] at h1
      refine q_ifF rfl (by simp [c27]) (q_exit rfl (thenC_x ?_))
      obtain ⟨rr1, h2, ho1⟩ := exit_some h1
      have hs1 := hr1 _ ho1
      subst hs1
      refine roundC_x ho1 (blockC_hit2 rfl (thenC_n (zq rfl (zr rfl rfl rfl (by simp; rfl) ?_))))
      refine thenC_n (q_ret rfl ?_)
      cases h2
      simp
  · rw [if_neg c26] at h1
    refine zr rfl rfl rfl (by simp [c26]; rfl) ?_
    refine thenC_n (q_ifF rfl (by simp) (q_exit rfl (thenC_x ?_)))
    obtain ⟨rr1, h2, ho1⟩ := exit_some h1
    have hs1 := hr1 _ ho1
    subst hs1
    refine roundC_x ho1 (blockC_hit2 rfl (thenC_n (zq rfl (zr rfl rfl rfl (by simp; rfl) ?_))))
    refine thenC_n (q_ret rfl ?_)
    cases h2
    simp

-- semigroup/semigroupref03.Same
def ref03_Same_b4 (a0 : List Int) (a1 : List Int) : Int → Option (Int ⊕ Bool)
  | w10 =>
  if w10 < (a0.length : Int) then
    (atI a0 w10).bind fun v13 =>
    (atI a1 w10).bind fun v14 =>
    if v13 = v14 then
      nextG (IntKind.i64.wrap (w10 + 1))
    else
      exitG <|
      some false
  else
    exitG <|
    some true
def ref03_Same_h4 (a0 : List Int) (a1 : List Int) : Int → Fr
  | w10 => ⟨26, [(0, .one (.t none (.sl a0.length (a0.map fun x0 => .sc (.int .i64 x0))))), (1, .one (.t none (.sl a1.length (a1.map fun x0 => .sc (.int .i64 x0))))), (12, .one (.t none (.sc (.int .i64 (a0.length : Int))))), (13, .one (.t none (.sc (.int .i64 w10))))], []⟩
def ref03_Same (a0 : List Int) (a1 : List Int) : Option (Bool) :=
  if (a0.length : Int) = (a1.length : Int) then
    loopG (ref03_Same_b4 a0 a1) LFm 0
  else
    some false
theorem ref03_Same_ok {a0 : List Int} {a1 : List Int} {r : Bool} (h0 : ref03_Same a0 a1 = some r) : L 19 [.sl a0.length (a0.map fun x0 => .sc (.int .i64 x0)), .sl a1.length (a1.map fun x0 => .sc (.int .i64 x0))] = some (.sc (.bool r), [.dead, .dead]) := by
  simp only [ref03_Same] at h0
  refine L_run cfn19 fn19 (runF_of bd19 ⟨of_decide_eq_true rfl, of_decide_eq_true rfl⟩ ?_)
  simp only [entryF, entryT, entryO, entryE, isIo]
  refine zq rfl (zr rfl rfl rfl (by simp; rfl) ?_)
  refine thenC_n (zq rfl (zq rfl (zr rfl rfl rfl (by simp; rfl) ?_)))
  refine thenC_n ?_
  by_cases c14 : (a0.length : Int) = (a1.length : Int)
  · rw [if_pos c14] at h0
    have c14e := eq_true c14
    refine q_ifF rfl (by simp [c14e]) (q_skip rfl (thenC_n (zq rfl (zq rfl (zr rfl rfl rfl (by simp; rfl) ?_)))))
    refine thenC_n (zb rfl (q_loopG h0 (ref03_Same_h4 a0 a1) rfl rfl (by simp [ref03_Same_h4]) fun s o1 h1 hr1 => ?_))
    obtain ⟨w10, hs1⟩ : ∃ y, y = s := ⟨_, rfl⟩
    subst hs1
    simp only [ref03_Same_b4] at h1
    simp only [ref03_Same_h4]
    refine zq rfl (zr rfl rfl rfl (by simp; rfl) ?_)
    refine thenC_n (zq rfl ?_)
    by_cases c23 : w10 < (a0.length : Int)
    · rw [if_pos c23] at h1
      refine q_ifT rfl (by simp [c23]) (q_skip rfl (thenC_n (zq rfl (zb rfl (zq rfl (zr rfl rfl rfl (by simp; rfl) ?_))))))
      refine thenC_n (zq rfl ?_)
      obtain ⟨v13, f24, h2⟩ := bnd_some h1
      obtain ⟨f24a, f24b, f24c, f24d, f24e⟩ := atI_some f24
      obtain ⟨v14, f25, h3⟩ := bnd_some h2
      obtain ⟨f25a, f25b, f25c, f25d, f25e⟩ := atI_some f25
      refine q_drawW rfl rfl rfl rfl ?_; repeat' (first | (refine q_drawW_op rfl rfl fun Q' hQ => ?_; simp [f24a, f24b, f24c, f24d, f24e, f25a, f25b, f25c, f25d, f25e]; refine hQ.out _ ?_; clear hQ; clear Q') | (refine q_drawW_guard rfl rfl fun Q1 Q2 h1 h2 => ?_; simp [f24a, f24b, f24c, f24d, f24e, f25a, f25b, f25c, f25d, f25e, twoB_some]; (first | refine h1.out ?_ | refine h2.out ?_); clear h1 h2; clear Q1 Q2; intro Q' hQ; simp [f24a, f24b, f24c, f24d, f24e, f25a, f25b, f25c, f25d, f25e]; refine hQ.out _ ?_; clear hQ; clear Q') | (refine q_drawW_nil rfl fun Q' hQ => ?_; simp [f24a, f24b, f24c, f24d, f24e, f25a, f25b, f25c, f25d, f25e]; refine hQ.out _ ?_; clear hQ; clear Q'))
      refine thenC_n ?_
      by_cases c26 : v13 = v14
      · rw [if_pos c26] at h3
        have c26e := eq_true c26
        refine q_ifF rfl (by simp [c26e]) (q_skip rfl (blockC_n (thenC_n (zr rfl rfl rfl (by simp; rfl) ?_))))
        have ho := next_some h3
        refine roundC_n ho ?_
        simp [ref03_Same_h4]
      · rw [if_neg c26] at h3
        have c26e := eq_false c26
        refine q_ifT rfl (by simp [c26e]) (zq rfl (zr rfl rfl rfl (by simp; rfl) ?_))
        refine thenC_n (q_ret rfl (blockC_r (thenC_r ?_)))
        obtain ⟨rr1, h4, ho1⟩ := exit_some h3
        have hs1 := hr1 _ ho1
        subst hs1
        refine roundC_r ho1 (blockC_r (thenC_r ?_))
        cases h4
        simp
    · rw [if_neg c23] at h1
      refine q_ifF rfl (by simp [c23]) (q_exit rfl (thenC_x ?_))
      obtain ⟨rr1, h2, ho1⟩ := exit_some h1
      have hs1 := hr1 _ ho1
      subst hs1
      refine roundC_x ho1 (blockC_hit2 rfl (thenC_n (zq rfl (zr rfl rfl rfl (by simp; rfl) ?_))))
      refine thenC_n (q_ret rfl ?_)
      cases h2
      simp
  · rw [if_neg c14] at h0
    have c14e := eq_false c14
    refine q_ifT rfl (by simp [c14e]) (zq rfl (zr rfl rfl rfl (by simp; rfl) ?_))
    refine thenC_n (q_ret rfl (thenC_r ?_))
    cases h0
    simp

-- semigroup/semigroupref03.SameRows
def ref03_SameRows_b4 (a0 : List (List Int)) (a1 : List (List Int)) : Int → Option (Int ⊕ Bool)
  | w14 =>
  if w14 < (a0.length : Int) then
    (atI a0 w14).bind fun v18 =>
    (atI a1 w14).bind fun v19 =>
    (ref03_Same v18 v19).bind fun v20 =>
    if v20 = true then
      nextG (IntKind.i64.wrap (w14 + 1))
    else
      exitG <|
      some false
  else
    exitG <|
    some true
def ref03_SameRows_h4 (a0 : List (List Int)) (a1 : List (List Int)) : Int → Fr
  | w14 => ⟨27, [(0, .one (.t none (.sl a0.length (a0.map fun x0 => .sl x0.length (x0.map fun x1 => .sc (.int .i64 x1)))))), (1, .one (.t none (.sl a1.length (a1.map fun x0 => .sl x0.length (x0.map fun x1 => .sc (.int .i64 x1)))))), (12, .one (.t none (.sc (.int .i64 (a0.length : Int))))), (13, .one (.t none (.sc (.int .i64 w14))))], []⟩
def ref03_SameRows (a0 : List (List Int)) (a1 : List (List Int)) : Option (Bool) :=
  if (a0.length : Int) = (a1.length : Int) then
    loopG (ref03_SameRows_b4 a0 a1) LFm 0
  else
    some false
theorem ref03_SameRows_ok {a0 : List (List Int)} {a1 : List (List Int)} {r : Bool} (h0 : ref03_SameRows a0 a1 = some r) : L 22 [.sl a0.length (a0.map fun x0 => .sl x0.length (x0.map fun x1 => .sc (.int .i64 x1))), .sl a1.length (a1.map fun x0 => .sl x0.length (x0.map fun x1 => .sc (.int .i64 x1)))] = some (.sc (.bool r), [.dead, .dead]) := by
  simp only [ref03_SameRows] at h0
  refine L_run cfn22 fn22 (runF_of bd22 ⟨of_decide_eq_true rfl, of_decide_eq_true rfl⟩ ?_)
  simp only [entryF, entryT, entryO, entryE, isIo]
  refine zq rfl (zr rfl rfl rfl (by simp; rfl) ?_)
  refine thenC_n (zq rfl (zq rfl (zr rfl rfl rfl (by simp; rfl) ?_)))
  refine thenC_n ?_
  by_cases c17 : (a0.length : Int) = (a1.length : Int)
  · rw [if_pos c17] at h0
    have c17e := eq_true c17
    refine q_ifF rfl (by simp [c17e]) (q_skip rfl (thenC_n (zq rfl (zq rfl (zr rfl rfl rfl (by simp; rfl) ?_)))))
    refine thenC_n (zb rfl (q_loopG h0 (ref03_SameRows_h4 a0 a1) rfl rfl (by simp [ref03_SameRows_h4]) fun s o1 h1 hr1 => ?_))
    obtain ⟨w14, hs1⟩ : ∃ y, y = s := ⟨_, rfl⟩
    subst hs1
    simp only [ref03_SameRows_b4] at h1
    simp only [ref03_SameRows_h4]
    refine zq rfl (zr rfl rfl rfl (by simp; rfl) ?_)
    refine thenC_n (zq rfl ?_)
    by_cases c28 : w14 < (a0.length : Int)
    · rw [if_pos c28] at h1
      refine q_ifT rfl (by simp [c28]) (q_skip rfl (thenC_n (zq rfl (zb rfl (zq rfl (zr rfl rfl rfl (by simp; rfl) ?_))))))
      refine thenC_n (zq rfl ?_)
      obtain ⟨v18, f29, h2⟩ := bnd_some h1
      obtain ⟨f29a, f29b, f29c, f29d, f29e⟩ := atI_some f29
      obtain ⟨v19, f30, h3⟩ := bnd_some h2
      obtain ⟨f30a, f30b, f30c, f30d, f30e⟩ := atI_some f30
      obtain ⟨v20, f31, h4⟩ := bnd_some h3
      have f31k := ref03_Same_ok f31
      try simp at f31k
      refine q_drawW rfl rfl rfl rfl ?_; repeat' (first | (refine q_drawW_op rfl rfl fun Q' hQ => ?_; simp [f29a, f29b, f29c, f29d, f29e, f30a, f30b, f30c, f30d, f30e, f31k]; refine hQ.out _ ?_; clear hQ; clear Q') | (refine q_drawW_guard rfl rfl fun Q1 Q2 h1 h2 => ?_; simp [f29a, f29b, f29c, f29d, f29e, f30a, f30b, f30c, f30d, f30e, f31k, twoB_some]; (first | refine h1.out ?_ | refine h2.out ?_); clear h1 h2; clear Q1 Q2; intro Q' hQ; simp [f29a, f29b, f29c, f29d, f29e, f30a, f30b, f30c, f30d, f30e, f31k]; refine hQ.out _ ?_; clear hQ; clear Q') | (refine q_drawW_nil rfl fun Q' hQ => ?_; simp [f29a, f29b, f29c, f29d, f29e, f30a, f30b, f30c, f30d, f30e, f31k]; refine hQ.out _ ?_; clear hQ; clear Q'))
      refine thenC_n ?_
      by_cases c32 : v20 = true
      · rw [if_pos c32] at h4
        refine q_ifF rfl (by simp [c32]) (q_skip rfl (blockC_n (thenC_n (zr rfl rfl rfl (by simp; rfl) ?_))))
        have ho := next_some h4
        refine roundC_n ho ?_
        simp [ref03_SameRows_h4, c32]
      · rw [if_neg c32] at h4
        refine q_ifT rfl (by simp [c32]) (zq rfl (zr rfl rfl rfl (by simp; rfl) ?_))
        refine thenC_n (q_ret rfl (blockC_r (thenC_r ?_)))
        obtain ⟨rr1, h5, ho1⟩ := exit_some h4
        have hs1 := hr1 _ ho1
        subst hs1
        refine roundC_r ho1 (blockC_r (thenC_r ?_))
        cases h5
        simp [c32]
    · rw [if_neg c28] at h1
      refine q_ifF rfl (by simp [c28]) (q_exit rfl (thenC_x ?_))
      obtain ⟨rr1, h2, ho1⟩ := exit_some h1
      have hs1 := hr1 _ ho1
      subst hs1
      refine roundC_x ho1 (blockC_hit2 rfl (thenC_n (zq rfl (zr rfl rfl rfl (by simp; rfl) ?_))))
      refine thenC_n (q_ret rfl ?_)
      cases h2
      simp
  · rw [if_neg c17] at h0
    have c17e := eq_false c17
    refine q_ifT rfl (by simp [c17e]) (zq rfl (zr rfl rfl rfl (by simp; rfl) ?_))
    refine thenC_n (q_ret rfl (thenC_r ?_))
    cases h0
    simp
end Go.Proofs.YthalofddjlhcjaaDoor
end

/- Proved here: a part of the proof of the law at hand, in one text: no condition. -/
import Derived.Test.YtbnnipkanechoaaMImagesBelow2
import Derived.Test.YtbnnipkanechoaaProg
import Derived.KernelRfl
import Derived.WalkKit
import Derived.Below
set_option linter.unusedVariables false
set_option linter.unusedSimpArgs false
section
/- The engine's steps on structs, by short facts on types. Over any program. -/
namespace Go.Proofs.Ytbnnipkanechoaa
set_option linter.unusedVariables false
set_option linter.unusedSimpArgs false

/-- A field's place: offset, cells, is it a struct itself? -/
def fieldI (P : Program) (t : TypeId) (f : Nat) : Option (Nat × Nat × Bool) :=
  match tyOf P t with
  | some ⟨.struct fields, _, _, _⟩ => match fields[f]? with
    | none => none
    | some fd => match tyOf P fd.type with
      | none => none
      | some ti => some (fd.offset, ti.size, isAggU ti.u)
  | _ => none
/-- A struct's zero. -/
def structI (P : Program) (t : TypeId) : Option (List T) :=
  match tyOf P t with
  | some ⟨.struct fields, _, _, some zs⟩ => if zs.all cellT = true ∧ (fields.toList.all fun f => (tyOf P f.type).isSome) = true then some zs else none
  | _ => none

theorem fieldAddrE_eq (P : Program) (t : TypeId) (e : E) (f : Nat) : fieldAddrE P t e f = match fieldI P t f with
    | some (off, size, _) => if size = 0 then none else match e with
      | .one (.a id p o) => some (.one (.a id p (o + off)))
      | .one (.ea dep cs o) => some (.one (.ea dep cs (o + off)))
      | _ => none
    | none => none := by
  unfold fieldAddrE fieldI
  cases tyOf P t with
  | none => rfl
  | some i =>
    obtain ⟨u, s, b, z⟩ := i
    cases u with
    | struct fields =>
      simp only
      cases fields[f]? with
      | none => rfl
      | some fd =>
        simp only
        cases tyOf P fd.type with
        | none => rfl
        | some ti => rfl
    | _ => rfl
theorem fieldE_eq (P : Program) (fr : Fr) (t : TypeId) (e : E) (f : Nat) : fieldE P fr t e f = match fieldI P t f with
    | some (off, size, agg) => partE fr agg size off e
    | none => none := by
  unfold fieldE fieldI
  cases tyOf P t with
  | none => rfl
  | some i =>
    obtain ⟨u, s, b, z⟩ := i
    cases u with
    | struct fields =>
      simp only
      cases fields[f]? with
      | none => rfl
      | some fd =>
        simp only
        cases tyOf P fd.type with
        | none => rfl
        | some ti => rfl
    | _ => rfl
theorem buildE_struct {P : Program} {t : TypeId} {zs : List T} (h : structI P t = some zs) (fr : Fr) (parts : List (Nat × Operand)) : buildE P fr t parts = match fillA fr (fieldI P t) (zs.map (A.t none)) parts with
    | some xs => some (.ag xs)
    | none => none := by
  unfold structI at h
  split at h
  · rename_i fields s b zs' ht
    split at h
    · rename_i hc
      cases h
      unfold buildE
      rw [ht]
      simp only
      rw [if_pos hc]
      have : (fun i => match fields[i]? with | some f => (match tyOf P f.type with | some ti => some (f.offset, ti.size, isAggU ti.u) | none => none) | none => none) = fieldI P t := by
        funext i
        unfold fieldI
        rw [ht]
        simp only
        cases fields[i]? with
        | none => rfl
        | some f =>
          simp only
          cases tyOf P f.type with
          | none => rfl
          | some ti => rfl
      exact congrArg (fun g => match fillA fr g (zs.map (A.t none)) parts with | some xs => some (E.ag xs) | none => none) this
    · cases h
  · cases h

/-! Data by value as trees. -/
abbrev iT (x : Int) : T := .sc (.int .i64 x)
abbrev bT (x : Bool) : T := .sc (.bool x)
abbrev sT (x : ByteArray) : T := .sc (.string x)
/-- Numbers to read. -/
abbrev ints (xs : List Int) : T := .sl xs.length (xs.map fun x => .sc (.int .i64 x))
/-- Numbers of one's own. -/
abbrev ointsT (xs : List Int) : T := .os 1 xs.length (xs.map fun x => .sc (.int .i64 x))
abbrev bools (xs : List Bool) : T := .sl xs.length (xs.map fun x => .sc (.bool x))
abbrev strs (xs : List ByteArray) : T := .sl xs.length (xs.map fun x => .sc (.string x))
abbrev intss (xs : List (List Int)) : T := .sl xs.length (xs.map fun x => ints x)
/-- What a temporary holds. -/
abbrev rE (t : T) : E := .one (.t none t)
abbrev hE (id : Nat) : E := .one (.h id [])
abbrev aE (id : Nat) : E := .one (.a id [] 0)
/-- Bytes of one's own. -/
abbrev obytes (l : List UInt8) : T := .os 1 l.length (l.map fun b => .sc (.int .u8 b.toNat))
theorem bytesT_map : ∀ l : List UInt8, bytesT (l.map fun b => .sc (.int .u8 b.toNat)) = some l
  | [] => rfl
  | b :: l => by simp [bytesT, bytesT_map l]
theorem wrap_u8_nat (b : UInt8) : IntKind.u8.wrap (b.toNat : Int) = b.toNat := by
  have := b.toNat_lt
  rw [IntKind.wrap_u8]; omega
@[simp] theorem range_1 : List.range 1 = [0] := rfl
@[simp] theorem range_2 : List.range 2 = [0, 1] := rfl
@[simp] theorem range_3 : List.range 3 = [0, 1, 2] := rfl
@[simp] theorem range_4 : List.range 4 = [0, 1, 2, 3] := rfl
@[simp] theorem range_5 : List.range 5 = [0, 1, 2, 3, 4] := rfl
@[simp] theorem range_6 : List.range 6 = [0, 1, 2, 3, 4, 5] := rfl
@[simp] theorem range_7 : List.range 7 = [0, 1, 2, 3, 4, 5, 6] := rfl
@[simp] theorem range_8 : List.range 8 = [0, 1, 2, 3, 4, 5, 6, 7] := rfl
@[simp] theorem range_9 : List.range 9 = [0, 1, 2, 3, 4, 5, 6, 7, 8] := rfl
@[simp] theorem range_10 : List.range 10 = [0, 1, 2, 3, 4, 5, 6, 7, 8, 9] := rfl
@[simp] theorem range_11 : List.range 11 = [0, 1, 2, 3, 4, 5, 6, 7, 8, 9, 10] := rfl
@[simp] theorem range_12 : List.range 12 = [0, 1, 2, 3, 4, 5, 6, 7, 8, 9, 10, 11] := rfl

@[simp] theorem zeroL_one (t : T) : ∀ n, zeroL n [t] = List.replicate n t
  | 0 => rfl
  | n + 1 => by simp [zeroL, zeroL_one t n, List.replicate_succ]
@[simp] theorem opns_sc {α : Type} (g : α → Value) : ∀ l : List α, opns (l.map fun x => T.sc (g x)) = false
  | [] => rfl
  | x :: l => by simp [opns, opn, opns_sc g l]
@[simp] theorem bits_u64 : IntKind.u64.bits = 64 := rfl
@[simp] theorem bits_i64 : IntKind.i64.bits = 64 := rfl
@[simp] theorem int_beq (a b : Int) : (a == b) = decide (a = b) := rfl
@[simp] theorem int_bne (a b : Int) : (a != b) = !decide (a = b) := rfl
@[simp] theorem wrap_0 : IntKind.i64.wrap 0 = 0 := by decide
@[simp] theorem wrap_1 : IntKind.i64.wrap 1 = 1 := by decide
@[simp] theorem wrap_2 : IntKind.i64.wrap 2 = 2 := by decide
@[simp] theorem wrap_3 : IntKind.i64.wrap 3 = 3 := by decide
@[simp] theorem wrap_m1 : IntKind.i64.wrap (-1) = -1 := by decide
/-- Numbers that a machine's word holds. -/
abbrev In64 (x : Int) : Prop := -9223372036854775808 ≤ x ∧ x < 9223372036854775808
end Go.Proofs.Ytbnnipkanechoaa
end
section
/- Functions by value as plain definitions: loops, checks, and the engine's steps beside them. Over any program. -/
namespace Go.Proofs.Ytbnnipkanechoaa
set_option linter.unusedVariables false
set_option linter.unusedSimpArgs false

/-! Plain definitions. -/

/-- A loop: a round goes on, ends with an answer, or fails. -/
def loopG {σ ρ : Type} (b : σ → Option (σ ⊕ ρ)) : Nat → σ → Option ρ
  | 0, _ => none
  | n + 1, s => match b s with
    | none => none
    | some (.inl s') => loopG b n s'
    | some (.inr r) => some r
def nextG {σ ρ : Type} (s : σ) : Option (σ ⊕ ρ) := some (.inl s)
def exitG {σ ρ : Type} (x : Option ρ) : Option (σ ⊕ ρ) := x.map .inr
def chk {α : Type} (p : Prop) [Decidable p] (x : Option α) : Option α := if p then x else none
def atI {α : Type} (xs : List α) (i : Int) : Option α := if 0 ≤ i then xs[i.toNat]? else none
def byteI (s : ByteArray) (i : Int) : Option Int := if 0 ≤ i then (s[i.toNat]?).map fun b => (b.toNat : Int) else none
/-- A piece. -/
def pieceL {α : Type} (xs : List α) (l h : Int) : Option (List α) := if 0 ≤ l ∧ l ≤ h ∧ h ≤ xs.length then some ((xs.drop l.toNat).take (h.toNat - l.toNat)) else none
def pieceS (s : ByteArray) (l h : Int) : Option ByteArray := if 0 ≤ l ∧ l ≤ h ∧ h ≤ s.size then some (s.extract l.toNat h.toNat) else none
def capOk (bytes n : Nat) : Prop := n * bytes ≤ 140737488355328 ∧ n ≤ 4611686018427387904
instance (b n : Nat) : Decidable (capOk b n) := by unfold capOk; exact inferInstance
def makeOk (bytes l : Int) : Prop := 0 ≤ l ∧ l ≤ 140737488355328 ∧ bytes * l ≤ 140737488355328
instance (b n : Int) : Decidable (makeOk b n) := by unfold makeOk; exact inferInstance
def catOk (a b : ByteArray) : Prop := ((a.size : Int) + b.size) ≤ 9223372036854775807
instance (a b : ByteArray) : Decidable (catOk a b) := by unfold catOk; exact inferInstance
def bytesOf (l : List Int) : ByteArray := ⟨(l.map fun z => UInt8.ofNat z.toNat).toArray⟩
def intsOf (s : ByteArray) : List Int := s.data.toList.map fun b => (b.toNat : Int)
def getM {κ ν : Type} [DecidableEq κ] (k : κ) : List (κ × ν) → Option ν
  | [] => none
  | (a, v) :: r => if a = k then some v else getM k r
def setM {κ ν : Type} [DecidableEq κ] (k : κ) (v : ν) : List (κ × ν) → List (κ × ν)
  | [] => [(k, v)]
  | (a, u) :: r => if a = k then (k, v) :: r else (a, u) :: setM k v r
def andI (k : IntKind) (a b : Int) : Int := k.wrap (BitVec.ofInt k.bits a &&& BitVec.ofInt k.bits b).toNat
def orI (k : IntKind) (a b : Int) : Int := k.wrap (BitVec.ofInt k.bits a ||| BitVec.ofInt k.bits b).toNat
def xorI (k : IntKind) (a b : Int) : Int := k.wrap (BitVec.ofInt k.bits a ^^^ BitVec.ofInt k.bits b).toNat
def andNotI (k : IntKind) (a b : Int) : Int := k.wrap (BitVec.ofInt k.bits a &&& ~~~ BitVec.ofInt k.bits b).toNat
/-- Hidden from the kernel: it would compute. -/
theorem shlI_ex : ∃ f : IntKind → Int → Int → Int, ∀ k a b, f k a b = k.wrap (a * 2 ^ (min b.toNat k.bits)) := ⟨_, fun _ _ _ => rfl⟩
noncomputable def shlI : IntKind → Int → Int → Int := Classical.choose shlI_ex
theorem shlI_eq (k : IntKind) (a b : Int) : shlI k a b = k.wrap (a * 2 ^ (min b.toNat k.bits)) := Classical.choose_spec shlI_ex k a b
def shrI (k : IntKind) (a b : Int) : Int := a.fdiv (2 ^ (min b.toNat k.bits))
def quoI (k : IntKind) (a b : Int) : Int := k.wrap (a.tdiv b)
def strLt (a b : ByteArray) : Bool := Go.Op.bytesLess a.toList b.toList

theorem chk_some {α : Type} {p : Prop} [Decidable p] {x : Option α} {r : α} (h : chk p x = some r) : p ∧ x = some r := by
  unfold chk at h; split at h
  · exact ⟨by assumption, h⟩
  · cases h
theorem bnd_some {α β : Type} {x : Option α} {f : α → Option β} {r : β} (h : x.bind f = some r) : ∃ v, x = some v ∧ f v = some r := by
  cases x with
  | none => cases h
  | some v => exact ⟨v, rfl, h⟩
theorem exit_some {σ ρ : Type} {x : Option ρ} {o : σ ⊕ ρ} (h : exitG x = some o) : ∃ r, x = some r ∧ o = .inr r := by
  unfold exitG at h
  cases x with
  | none => cases h
  | some v => cases h; exact ⟨v, rfl, rfl⟩
theorem next_some {σ ρ : Type} {s : σ} {o : σ ⊕ ρ} (h : nextG s = some o) : o = .inl s := by cases h; rfl
theorem atI_some {α : Type} {xs : List α} {i : Int} {v : α} (h : atI xs i = some v) : 0 ≤ i ∧ i < xs.length ∧ i.toNat + 1 ≤ xs.length ∧ xs[i.toNat]? = some v ∧ ∀ hh : i.toNat < xs.length, xs[i.toNat]'hh = v := by
  unfold atI at h
  split at h
  · have := (List.getElem?_eq_some_iff.1 h).1
    exact ⟨by assumption, by omega, this, h, fun _ => (List.getElem?_eq_some_iff.1 h).2⟩
  · cases h
theorem byteI_some {s : ByteArray} {i v : Int} (h : byteI s i = some v) : 0 ≤ i ∧ i < s.size ∧ ∃ b, s[i.toNat]? = some b ∧ v = (b.toNat : Int) ∧ ∀ hh : i.toNat < s.size, ((s[i.toNat]'hh).toNat : Int) = v := by
  unfold byteI at h
  split at h
  · simp only [Option.map_eq_some_iff] at h
    obtain ⟨b, hb, rfl⟩ := h
    have : i.toNat < s.size := by
      rcases Nat.lt_or_ge i.toNat s.size with h' | h'
      · exact h'
      · rw [getElem?_neg s i.toNat (by omega)] at hb; cases hb
    exact ⟨by assumption, by omega, b, hb, rfl, fun hh => by rw [getElem?_pos s i.toNat hh] at hb; cases hb; rfl⟩
  · cases h
theorem pieceL_some {α : Type} {xs ys : List α} {l h : Int} (e : pieceL xs l h = some ys) : 0 ≤ l ∧ l ≤ h ∧ h ≤ xs.length ∧ ys = (xs.drop l.toNat).take (h.toNat - l.toNat) ∧ ys.length = h.toNat - l.toNat := by
  unfold pieceL at e
  split at e
  · cases e
    refine ⟨by omega, by omega, by omega, rfl, ?_⟩
    simp; omega
  · cases e
theorem pieceS_some {s t : ByteArray} {l h : Int} (e : pieceS s l h = some t) : 0 ≤ l ∧ l ≤ h ∧ h ≤ s.size ∧ t = s.extract l.toNat h.toNat := by
  unfold pieceS at e
  split at e
  · cases e; exact ⟨by omega, by omega, by omega, rfl⟩
  · cases e

/-! Loops, by an invariant. -/

theorem loopG_rule {σ ρ : Type} {b : σ → Option (σ ⊕ ρ)} (I : σ → Prop) (m : σ → Nat) (Post : ρ → Prop) (step : ∀ s, I s → (∃ s', b s = some (.inl s') ∧ I s' ∧ m s' < m s) ∨ (∃ r, b s = some (.inr r) ∧ Post r)) :
    ∀ (n : Nat) (s : σ), I s → m s < n → ∃ r, loopG b n s = some r ∧ Post r
  | 0, s, _, h => by omega
  | n + 1, s, hI, hm => by
    rcases step s hI with ⟨s', e, hI', hm'⟩ | ⟨r, e, hr⟩
    · obtain ⟨r, h1, h2⟩ := loopG_rule I m Post step n s' hI' (by omega)
      exact ⟨r, by simp only [loopG, e]; exact h1, h2⟩
    · exact ⟨r, by simp only [loopG, e], hr⟩
/-- A loop whose answer is known. -/
theorem loopG_eq {σ ρ : Type} {b : σ → Option (σ ⊕ ρ)} {r : ρ} (I : σ → Prop) (m : σ → Nat) {n : Nat} {s : σ} (hI : I s) (hm : m s < n) (step : ∀ s, I s → (∃ s', b s = nextG s' ∧ I s' ∧ m s' < m s) ∨ b s = exitG (some r)) : loopG b n s = some r := by
  obtain ⟨r', h1, h2⟩ := loopG_rule I m (· = r) (fun s hs => (step s hs).imp id fun h => ⟨r, h, rfl⟩) n s hI hm
  rw [h1, h2]

/-! The engine's steps beside them. -/

theorem q_ifT {P : Program} {C : Contract} {cf : Cfg} {LF : Nat} {c : Code} {fr : Fr} {Q : X → Fr → Prop} {o : Operand} (ho : cdO c = some o) (hv : rdV (opE fr o) = some (.bool true)) (h : wpC P C cf LF (cdA c) fr Q) : wpC P C cf LF c fr Q :=
  q_if ho fun Q1 Q2 h1 h2 => by rw [hv, twoV_some]; exact ⟨fun _ => h1.out h, fun e => by cases e⟩
theorem q_ifF {P : Program} {C : Contract} {cf : Cfg} {LF : Nat} {c : Code} {fr : Fr} {Q : X → Fr → Prop} {o : Operand} (ho : cdO c = some o) (hv : rdV (opE fr o) = some (.bool false)) (h : wpC P C cf LF (cdB c) fr Q) : wpC P C cf LF c fr Q :=
  q_if ho fun Q1 Q2 h1 h2 => by rw [hv, twoV_some]; exact ⟨(fun e => by cases e), fun _ => h2.out h⟩

/-- How a round ends. -/
def roundC {σ ρ : Type} (H : σ → Fr) (cn : Fr → Fr) (o : σ ⊕ ρ) (Q : X → Fr → Prop) : X → Fr → Prop
  | .n, fr => ∃ s', o = .inl s' ∧ cn fr = H s'
  | .x i, fr => (∃ r, o = .inr r) ∧ Q (.x i) fr
  | .r, fr => (∃ r, o = .inr r) ∧ Q .r fr
theorem roundC_n {σ ρ : Type} {H : σ → Fr} {cn : Fr → Fr} {o : σ ⊕ ρ} {Q : X → Fr → Prop} {fr : Fr} {s : σ} (ho : o = .inl s) (h : cn fr = H s) : roundC H cn o Q .n fr := ⟨s, ho, h⟩
theorem roundC_x {σ ρ : Type} {H : σ → Fr} {cn : Fr → Fr} {o : σ ⊕ ρ} {Q : X → Fr → Prop} {fr : Fr} {i : Nat} {r : ρ} (ho : o = .inr r) (h : Q (.x i) fr) : roundC H cn o Q (.x i) fr := ⟨⟨r, ho⟩, h⟩
theorem roundC_r {σ ρ : Type} {H : σ → Fr} {cn : Fr → Fr} {o : σ ⊕ ρ} {Q : X → Fr → Prop} {fr : Fr} {r : ρ} (ho : o = .inr r) (h : Q .r fr) : roundC H cn o Q .r fr := ⟨⟨r, ho⟩, h⟩

theorem iter_loopG {σ ρ : Type} {B : Fr → Option (X × Fr)} {cn : Fr → Fr} {body : σ → Option (σ ⊕ ρ)} {H : σ → Fr} {r : ρ} {Q : X → Fr → Prop}
    (round : ∀ s o, body s = some o → (∀ r', o = .inr r' → r' = r) → ∃ x fr', B (H s) = some (x, fr') ∧ roundC H cn o Q x fr') :
    ∀ (n : Nat) (s : σ) (fr : Fr), loopG body n s = some r → cn fr = H s → ∃ x fr', iterF B cn n fr = some (x, fr') ∧ Q x fr'
  | 0, s, fr, h, _ => by cases h
  | n + 1, s, fr, h, h0 => by
    simp only [loopG] at h
    split at h
    · cases h
    · rename_i s' e
      obtain ⟨x, fr', e1, e2⟩ := round s _ e (fun r' h' => by cases h')
      cases x with
      | n =>
        obtain ⟨s2, e3, e4⟩ := e2
        cases e3
        obtain ⟨x2, fr2, e5, e6⟩ := iter_loopG round n s' fr' h e4
        exact ⟨x2, fr2, by simp only [iterF, h0, e1]; exact e5, e6⟩
      | x i => obtain ⟨⟨r', e3⟩, _⟩ := e2; cases e3
      | r => obtain ⟨⟨r', e3⟩, _⟩ := e2; cases e3
    · rename_i r0 e
      cases h
      obtain ⟨x, fr', e1, e2⟩ := round s _ e (fun r' h' => by cases h'; rfl)
      cases x with
      | n => obtain ⟨s2, e3, _⟩ := e2; cases e3
      | x i => exact ⟨_, _, by simp only [iterF, h0, e1], e2.2⟩
      | r => exact ⟨_, _, by simp only [iterF, h0, e1], e2.2⟩
theorem q_loopG {P : Program} {C : Contract} {cf : Cfg} {LF : Nat} {c : Code} {fr : Fr} {Q : X → Fr → Prop} {σ ρ : Type} {lv : List Nat} {body : σ → Option (σ ⊕ ρ)} {s0 : σ} {r : ρ} (h : loopG body LF s0 = some r) (H : σ → Fr) (hk : kindC c = 5) (hv : cf.live (firstR (lpC c)) = some lv)
    (h0 : canonF (some lv) fr = H s0) (round : ∀ s o, body s = some o → (∀ r', o = .inr r' → r' = r) → wpC P C cf LF (lpC c) (H s) (roundC H (canonF (some lv)) o Q)) : wpC P C cf LF c fr Q := by
  cases c with
  | loop b =>
    obtain ⟨x, fr', e1, e2⟩ := iter_loopG (B := fun fr => codeF P C cf LF b fr) (cn := canonF (some lv)) (H := H) (body := body) (r := r) (Q := Q) (fun s o h1 h2 => by have := round s o h1 h2; unfold wpC at this; exact this) LF s0 fr h h0
    unfold wpC
    refine ⟨x, fr', ?_, e2⟩
    simp only [codeF]
    simp only [lpC] at hv
    rw [hv]
    exact e1
  | _ => cases hk

/-! The engine's rules in these words. -/
theorem intBin_add (k : IntKind) (a b : Int) : intBin .add k a b = some (.int k (k.wrap (a + b))) := rfl
theorem intBin_sub (k : IntKind) (a b : Int) : intBin .sub k a b = some (.int k (k.wrap (a - b))) := rfl
theorem intBin_mul (k : IntKind) (a b : Int) : intBin .mul k a b = some (.int k (k.wrap (a * b))) := rfl
theorem intBin_quo (k : IntKind) (a b : Int) : intBin .quo k a b = if b = 0 then none else some (.int k (quoI k a b)) := rfl
theorem intBin_rem (k : IntKind) (a b : Int) : intBin .rem k a b = if b = 0 then none else some (.int k (a.tmod b)) := rfl
theorem intBin_and (k : IntKind) (a b : Int) : intBin .and k a b = some (.int k (andI k a b)) := Eq.trans rfl rfl
theorem intBin_or (k : IntKind) (a b : Int) : intBin .or k a b = some (.int k (orI k a b)) := Eq.trans rfl rfl
theorem intBin_xor (k : IntKind) (a b : Int) : intBin .xor k a b = some (.int k (xorI k a b)) := Eq.trans rfl rfl
theorem intBin_andNot (k : IntKind) (a b : Int) : intBin .andNot k a b = some (.int k (andNotI k a b)) := Eq.trans rfl rfl
theorem intBin_eql (k : IntKind) (a b : Int) : intBin .eql k a b = some (.bool (decide (a = b))) := rfl
theorem intBin_neq (k : IntKind) (a b : Int) : intBin .neq k a b = some (.bool (!decide (a = b))) := rfl
theorem intBin_lss (k : IntKind) (a b : Int) : intBin .lss k a b = some (.bool (decide (a < b))) := rfl
theorem intBin_leq (k : IntKind) (a b : Int) : intBin .leq k a b = some (.bool (decide (a ≤ b))) := rfl
theorem intBin_gtr (k : IntKind) (a b : Int) : intBin .gtr k a b = some (.bool (decide (b < a))) := rfl
theorem intBin_geq (k : IntKind) (a b : Int) : intBin .geq k a b = some (.bool (decide (b ≤ a))) := rfl
theorem toList_inj {a b : ByteArray} : a.toList = b.toList ↔ a = b := by
  constructor
  · intro h
    have h1 : a.data.toList = b.data.toList := by simpa [ByteArray.toList_eq] using h
    obtain ⟨⟨x⟩⟩ := a
    obtain ⟨⟨y⟩⟩ := b
    simp at h1
    rw [h1]
  · intro h; rw [h]
theorem strBin_eql (a b : ByteArray) : strBin .eql a b = some (.bool (decide (a = b))) := by
  simp only [strBin]
  congr 2
  rw [Bool.eq_iff_iff]; simp [toList_inj]
theorem strBin_neq (a b : ByteArray) : strBin .neq a b = some (.bool (!decide (a = b))) := by
  simp only [strBin]
  congr 3
  rw [Bool.eq_iff_iff]; simp [toList_inj]
theorem strBin_lss (a b : ByteArray) : strBin .lss a b = some (.bool (strLt a b)) := rfl
theorem strBin_geq (a b : ByteArray) : strBin .geq a b = some (.bool (!strLt a b)) := rfl
theorem strBin_add (a b : ByteArray) : strBin .add a b = if catOk a b then some (.string (a ++ b)) else none := by
  have hm : IntKind.i64.max = 9223372036854775807 := by decide
  show (if ((a.size + b.size : Nat) : Int) > IntKind.i64.max then none else some (Value.string (a ++ b))) = _
  rw [hm]
  by_cases h : catOk a b
  · rw [if_pos h]
    unfold catOk at h
    rw [if_neg (by omega)]
  · rw [if_neg h]
    unfold catOk at h
    rw [if_pos (by omega)]
theorem binS_int (op : BinOp) (u : Option TyI) (k k' : IntKind) (a b : Int) : binS op u (.int k a) (.int k' b) = match op with
    | .shl => if b < 0 then none else some (.int k (shlI k a b))
    | .shr => if b < 0 then none else some (.int k (shrI k a b))
    | _ => if k = k' then intBin op k a b else none := by
  cases op
  case shl => simp only [shlI_eq]; rfl
  all_goals rfl
theorem binS_str (op : BinOp) (u : Option TyI) (a b : ByteArray) : binS op u (.string a) (.string b) = strBin op a b := rfl
theorem binS_bool (op : BinOp) (u : Option TyI) (a b : Bool) : binS op u (.bool a) (.bool b) = match u with
    | some ⟨.bool, _, _, _⟩ => (match op with | .eql => some (.bool (a == b)) | .neq => some (.bool (!(a == b))) | _ => none)
    | _ => none := rfl
theorem bytesT_z : ∀ l : List Int, bytesT (l.map fun z => .sc (.int .u8 z)) = some (l.map fun z => UInt8.ofNat z.toNat)
  | [] => rfl
  | z :: l => by simp [bytesT, bytesT_z l]

/-! Elements and pieces. -/
theorem flat_len {α β : Type} {g : α → List β} {m : Nat} (hg : ∀ x, (g x).length = m) : ∀ xs : List α, (xs.flatMap g).length = xs.length * m
  | [] => by simp
  | x :: xs => by
    have := flat_len hg xs
    simp only [List.flatMap_cons, List.length_append, hg, this, List.length_cons, Nat.add_mul, Nat.one_mul]
    omega
theorem flat_drop {α β : Type} {g : α → List β} {m : Nat} (hg : ∀ x, (g x).length = m) : ∀ (xs : List α) (i : Nat), (xs.flatMap g).drop (i * m) = (xs.drop i).flatMap g
  | xs, 0 => by simp
  | [], i + 1 => by simp
  | x :: xs, i + 1 => by
    have := flat_drop hg xs i
    rw [List.flatMap_cons, List.drop_succ_cons, ← this, List.drop_append, List.drop_eq_nil_of_le (by rw [hg, Nat.add_mul]; omega), List.nil_append, hg]
    congr 1
    rw [Nat.add_mul]; omega
theorem flat_take {α β : Type} {g : α → List β} {m : Nat} (hg : ∀ x, (g x).length = m) : ∀ (xs : List α) (i : Nat), (xs.flatMap g).take (i * m) = (xs.take i).flatMap g
  | xs, 0 => by simp
  | [], i + 1 => by simp
  | x :: xs, i + 1 => by
    have := flat_take hg xs i
    rw [List.flatMap_cons, List.take_succ_cons, List.flatMap_cons, ← this, List.take_append, List.take_of_length_le (by rw [hg, Nat.add_mul]; omega), hg]
    congr 2
    rw [Nat.add_mul]; omega
theorem flat_some {α β : Type} {g : α → List β} {m : Nat} (hg : ∀ x, (g x).length = m) {xs : List α} {i : Nat} {v : α} (h : xs[i]? = some v) :
    i * m + m ≤ xs.length * m ∧ ((xs.flatMap g).drop (i * m)).take m = g v ∧ (∀ j, j < m → (xs.flatMap g)[i * m + j]? = (g v)[j]?) ∧ ∀ j c, (g v)[j]? = some c → ∀ hh : i * m + j < (xs.flatMap g).length, (xs.flatMap g)[i * m + j]'hh = c := by
  obtain ⟨hi, hv⟩ := List.getElem?_eq_some_iff.1 h
  have hd : xs.drop i = v :: xs.drop (i + 1) := by rw [← hv]; exact List.drop_eq_getElem_cons hi
  have h2 : ((xs.flatMap g).drop (i * m)) = g v ++ (xs.drop (i + 1)).flatMap g := by rw [flat_drop hg, hd, List.flatMap_cons]
  have key : ∀ j, j < m → (xs.flatMap g)[i * m + j]? = (g v)[j]? := fun j hj => by
    rw [← List.getElem?_drop, h2, List.getElem?_append_left (by rw [hg]; exact hj)]
  refine ⟨?_, ?_, key, fun j c hc hh => ?_⟩
  · calc i * m + m = (i + 1) * m := by rw [Nat.add_mul, Nat.one_mul]
      _ ≤ _ := Nat.mul_le_mul_right _ hi
  · rw [h2, List.take_append_of_le_length (by rw [hg]; exact Nat.le_refl _), List.take_of_length_le (by rw [hg]; exact Nat.le_refl _)]
  · have hj : j < m := by rw [← hg v]; exact (List.getElem?_eq_some_iff.1 hc).1
    have := key j hj
    rw [hc, List.getElem?_eq_getElem hh] at this
    exact Option.some.inj this

theorem pieceL_map {α β : Type} {g : α → β} {xs ys : List α} {l h : Int} (e : pieceL xs l h = some ys) : ((xs.map g).drop l.toNat).take (h.toNat - l.toNat) = ys.map g := by
  obtain ⟨_, _, _, e2, _⟩ := pieceL_some e
  rw [e2, List.map_take, List.map_drop]
theorem pieceL_flat {α β : Type} {g : α → List β} {m : Nat} (hg : ∀ x, (g x).length = m) {xs ys : List α} {l h : Int} (e : pieceL xs l h = some ys) : ((xs.flatMap g).drop (l.toNat * m)).take ((h.toNat - l.toNat) * m) = ys.flatMap g := by
  obtain ⟨_, _, _, e2, _⟩ := pieceL_some e
  rw [e2, flat_drop hg, flat_take hg]
theorem pieceL_slm {α : Type} {xs ys : List α} {l h : Int} (e : pieceL xs l h = some ys) (f : α → T) : T.sl (h.toNat - l.toNat) (ys.map f) = T.sl ys.length (ys.map f) := by
  obtain ⟨_, _, _, _, e2⟩ := pieceL_some e
  rw [e2]
theorem pieceL_slf {α : Type} {xs ys : List α} {l h : Int} (e : pieceL xs l h = some ys) (f : α → List T) : T.sl (h.toNat - l.toNat) (ys.flatMap f) = T.sl ys.length (ys.flatMap f) := by
  obtain ⟨_, _, _, _, e2⟩ := pieceL_some e
  rw [e2]
theorem piece_hi {l h : Int} (a : 0 ≤ l) (b : l ≤ h) : 0 ≤ h ∧ l ≤ (h.toNat : Int) := by omega
theorem zeroL_flat {α : Type} {g : α → List T} (z : α) : ∀ n : Nat, zeroL n (g z) = (List.replicate n z).flatMap g
  | 0 => rfl
  | n + 1 => by rw [zeroL, zeroL_flat z n, List.replicate_succ, List.flatMap_cons]
theorem opns_append : ∀ a b : List T, opns (a ++ b) = (opns a || opns b)
  | [], b => by simp [opns]
  | t :: a, b => by simp [opns, opns_append a b, Bool.or_assoc]
theorem opns_map {α : Type} (g : α → T) : ∀ l : List α, opns (l.map g) = l.any fun x => opn (g x)
  | [] => rfl
  | x :: l => by simp [opns, opns_map g l]
theorem opns_flat {α : Type} (g : α → List T) : ∀ l : List α, opns (l.flatMap g) = l.any fun x => opns (g x)
  | [] => rfl
  | x :: l => by simp [opns_append, opns_flat g l]
/-! Maps. -/
theorem findV_si (k : ByteArray) (kd : IntKind) : ∀ m : List (ByteArray × Int), findV (.string k) (m.map fun p => (Value.string p.1, Value.int kd p.2)) = (getM k m).map (Value.int kd)
  | [] => rfl
  | (a, v) :: m => by
    simp only [List.map_cons, findV, getM, keyEq, findV_si k kd m]
    by_cases h : a = k <;> simp [h]
theorem findV_sb (k : ByteArray) : ∀ m : List (ByteArray × Bool), findV (.string k) (m.map fun p => (Value.string p.1, Value.bool p.2)) = (getM k m).map Value.bool
  | [] => rfl
  | (a, v) :: m => by
    simp only [List.map_cons, findV, getM, keyEq, findV_sb k m]
    by_cases h : a = k <;> simp [h]
theorem findV_ii (k : Int) (kk kd : IntKind) : ∀ m : List (Int × Int), findV (.int kk k) (m.map fun p => (Value.int kk p.1, Value.int kd p.2)) = (getM k m).map (Value.int kd)
  | [] => rfl
  | (a, v) :: m => by
    simp only [List.map_cons, findV, getM, keyEq, findV_ii k kk kd m]
    by_cases h : a = k <;> simp [h]
theorem findV_ib (k : Int) (kk : IntKind) : ∀ m : List (Int × Bool), findV (.int kk k) (m.map fun p => (Value.int kk p.1, Value.bool p.2)) = (getM k m).map Value.bool
  | [] => rfl
  | (a, v) :: m => by
    simp only [List.map_cons, findV, getM, keyEq, findV_ib k kk m]
    by_cases h : a = k <;> simp [h]
theorem setV_si (k : ByteArray) (kd : IntKind) (v : Int) : ∀ m : List (ByteArray × Int), setV (.string k) (.int kd v) (m.map fun p => (Value.string p.1, Value.int kd p.2)) = (setM k v m).map fun p => (Value.string p.1, Value.int kd p.2)
  | [] => rfl
  | (a, u) :: m => by
    simp only [List.map_cons, setV, setM, keyEq, setV_si k kd v m]
    by_cases h : a = k <;> simp [h]
theorem setV_sb (k : ByteArray) (v : Bool) : ∀ m : List (ByteArray × Bool), setV (.string k) (.bool v) (m.map fun p => (Value.string p.1, Value.bool p.2)) = (setM k v m).map fun p => (Value.string p.1, Value.bool p.2)
  | [] => rfl
  | (a, u) :: m => by
    simp only [List.map_cons, setV, setM, keyEq, setV_sb k v m]
    by_cases h : a = k <;> simp [h]
theorem setV_ii (k : Int) (kk kd : IntKind) (v : Int) : ∀ m : List (Int × Int), setV (.int kk k) (.int kd v) (m.map fun p => (Value.int kk p.1, Value.int kd p.2)) = (setM k v m).map fun p => (Value.int kk p.1, Value.int kd p.2)
  | [] => rfl
  | (a, u) :: m => by
    simp only [List.map_cons, setV, setM, keyEq, setV_ii k kk kd v m]
    by_cases h : a = k <;> simp [h]
theorem setV_ib (k : Int) (kk : IntKind) (v : Bool) : ∀ m : List (Int × Bool), setV (.int kk k) (.bool v) (m.map fun p => (Value.int kk p.1, Value.bool p.2)) = (setM k v m).map fun p => (Value.int kk p.1, Value.bool p.2)
  | [] => rfl
  | (a, u) :: m => by
    simp only [List.map_cons, setV, setM, keyEq, setV_ib k kk v m]
    by_cases h : a = k <;> simp [h]
theorem setV_nil (k v : Value) : setV k v [] = [(k, v)] := rfl
theorem setM_nil {κ ν : Type} [DecidableEq κ] (k : κ) (v : ν) : setM k v [] = [(k, v)] := rfl
theorem getD_int (kd : IntKind) (z : Int) (o : Option Int) : (o.map (Value.int kd)).getD (.int kd z) = .int kd (o.getD z) := by cases o <;> rfl
theorem getD_bool (z : Bool) (o : Option Bool) : (o.map Value.bool).getD (.bool z) = .bool (o.getD z) := by cases o <;> rfl

@[simp] theorem oneNil : (Value.slice none 0 0).oneCell' = true := rfl
@[simp] theorem bszL (a : Array UInt8) : ByteArray.size ⟨a⟩ = a.size := rfl
@[simp] theorem bempty : (⟨#[]⟩ : ByteArray) = ByteArray.empty := rfl
/-! A part of a list, handed on to be written. -/
theorem vo_at {α : Type} {g : α → List T} {m : Nat} (hm : ∀ x, (g x).length = m) (y : α) {xs : List α} {k : Nat} {x : α} (h : xs[k]? = some x) :
    xs.flatMap g = (xs.take k).flatMap g ++ (g x ++ (xs.drop (k + 1)).flatMap g) ∧ (xs.set k y).flatMap g = (xs.take k).flatMap g ++ (g y ++ (xs.drop (k + 1)).flatMap g) ∧ ((xs.take k).flatMap g).length = k * m := by
  obtain ⟨hk, hx⟩ := List.getElem?_eq_some_iff.1 h
  have hd : xs.drop k = x :: xs.drop (k + 1) := by rw [← hx]; exact List.drop_eq_getElem_cons hk
  refine ⟨?_, ?_, ?_⟩
  · rw [← List.flatMap_cons, ← hd, ← List.flatMap_append, List.take_append_drop]
  · rw [← List.flatMap_cons, ← List.flatMap_append, List.set_eq_take_append_cons_drop, if_pos hk]
  · rw [flat_len hm, List.length_take, Nat.min_eq_left (by omega)]
@[simp] theorem voG0 (p l : List T) : (p ++ l)[p.length]? = l[0]? := by rw [List.getElem?_append_right (Nat.le_refl _), Nat.sub_self]
@[simp] theorem voG (p l : List T) (j : Nat) : (p ++ l)[p.length + j]? = l[j]? := by rw [List.getElem?_append_right (by omega), Nat.add_sub_cancel_left]
@[simp] theorem voSet0 (p l : List T) (x : T) : (p ++ l).set p.length x = p ++ l.set 0 x := by rw [List.set_append_right _ _ (Nat.le_refl _), Nat.sub_self]
@[simp] theorem voSet (p l : List T) (j : Nat) (x : T) : (p ++ l).set (p.length + j) x = p ++ l.set j x := by rw [List.set_append_right _ _ (by omega), Nat.add_sub_cancel_left]
/-! Short names: the engine's rules in a row of a sequence. -/
section
variable {P : Program} {C : Contract} {cf : Cfg} {LF : Nat} {c : Code} {fr fr1 : Fr} {Q : X → Fr → Prop}
theorem zr {l : List Oper} (hl : rgL c = some l) (hd : rgD c = false) (hz : cf.fz (rgI c) = none) (hf : regF P C cf.wio l.toArray l fr = some fr1) (h : Q .n fr1) : wpC P C cf LF c fr Q :=
  q_region hl hd hz fun Q' hQ => by rw [hf, andF_some]; exact hQ.out _ h
theorem zq (hk : kindC c = 2) (h : wpC P C cf LF (seqA c) fr (thenC (fun fr' => wpC P C cf LF (seqB c) fr' Q) Q)) : wpC P C cf LF c fr Q := q_seq hk h
theorem zb (hk : kindC c = 4) (h : wpC P C cf LF (blC c) fr (blockC (blI c) Q)) : wpC P C cf LF c fr Q := q_block hk h
end
@[simp] theorem voLe (a j k n : Nat) : (a + j + k ≤ a + n) = (j + k ≤ n) := by simp only [eq_iff_iff]; omega
theorem setCells_app (p : List T) : ∀ (xs l : List T) (j : Nat), setCells (p ++ l) (p.length + j) xs = p ++ setCells l j xs
  | [], l, j => rfl
  | x :: xs, l, j => by
    simp only [setCells]
    rw [voSet, show p.length + j + 1 = p.length + (j + 1) by omega, setCells_app p xs]
theorem setCells_all : ∀ (xs a l : List T), a.length = xs.length → setCells (a ++ l) 0 xs = xs ++ l
  | [], a, l, h => by
    have : a = [] := List.eq_nil_of_length_eq_zero h
    subst this; rfl
  | x :: xs, [], l, h => by cases h
  | x :: xs, b :: a, l, h => by
    have ih := setCells_all xs a l (by simpa using h)
    have h2 := setCells_app [x] xs (a ++ l) 0
    simp only [List.length_singleton, Nat.add_zero, ih] at h2
    simp only [List.cons_append, setCells, List.set_cons_zero, Nat.zero_add]
    simpa using h2
theorem setCells_nil : ∀ (xs : List T) (j : Nat), setCells [] j xs = []
  | [], j => rfl
  | x :: xs, j => by simp only [setCells, List.set_nil]; exact setCells_nil xs _
theorem flat_put {α : Type} {g : α → List T} {m : Nat} (hg : ∀ x, (g x).length = m) (v : α) : ∀ (k : Nat) (xs : List α), setCells (xs.flatMap g) (k * m) (g v) = (xs.set k v).flatMap g
  | k, [] => by simp only [List.flatMap_nil, setCells_nil, List.set_nil]
  | 0, x :: xs => by
    rw [Nat.zero_mul, List.flatMap_cons, setCells_all _ _ _ (by rw [hg, hg]), List.set_cons_zero, List.flatMap_cons]
  | k + 1, x :: xs => by
    have h := setCells_app (g x) (g v) (xs.flatMap g) (k * m)
    rw [hg] at h
    rw [List.flatMap_cons, show (k + 1) * m = m + k * m by rw [Nat.add_mul]; omega, h, flat_put hg v k xs, List.set_cons_succ, List.flatMap_cons]
end Go.Proofs.Ytbnnipkanechoaa
end
section
/- Plain laws on loops, counters, lists. No program. -/
namespace Go.Proofs.Ytbnnipkanechoaa
open Go
set_option linter.unusedVariables false
set_option linter.unusedSimpArgs false

theorem loop_toN {σ ρ : Type} {b : σ → Option (σ ⊕ ρ)} {x : Option ρ} : ∀ (n : Nat) (f : Nat → σ) (m : Nat), n < m → (∀ k, k < n → b (f k) = nextG (f (k + 1))) → b (f n) = exitG x → loopG b m (f 0) = x
  | 0, f, m + 1, _, _, hl => by
    simp only [loopG, hl]
    cases x <;> rfl
  | n + 1, f, m + 1, hm, hs, hl => by
    simp only [loopG, hs 0 (by omega), nextG]
    exact loop_toN n (fun k => f (k + 1)) m (by omega) (fun k hk => hs (k + 1) (by omega)) hl
/-- A loop that makes n rounds and ends. -/
theorem loop_to {σ ρ : Type} {b : σ → Option (σ ⊕ ρ)} {x : Option ρ} (n : Nat) (f : Nat → σ) {s : σ} (h0 : s = f 0) (hn : n < LFm) (step : ∀ k, k < n → b (f k) = nextG (f (k + 1))) (last : b (f n) = exitG x) : loopG b LFm s = x := by
  subst h0; exact loop_toN n f LFm hn step last
theorem loop_findN {σ ρ : Type} {b : σ → Option (σ ⊕ ρ)} {x : Option ρ} {p : Nat → Bool} {A : Nat → Option ρ} : ∀ (n : Nat) (f : Nat → σ) (m i : Nat), n < m → (∀ k, k < n → b (f k) = if p (i + k) = true then exitG (A (i + k)) else nextG (f (k + 1))) → b (f n) = exitG x →
    loopG b m (f 0) = match ((List.range n).map (i + ·)).find? p with | some k => A k | none => x
  | 0, f, m + 1, i, _, _, hl => by
    simp only [loopG, hl]
    cases x <;> rfl
  | n + 1, f, m + 1, i, hm, hs, hl => by
    have h0 := hs 0 (by omega)
    have hmap : (List.range (n + 1)).map (i + ·) = i :: (List.range n).map (i + 1 + ·) := by
      rw [List.range_succ_eq_map, List.map_cons, List.map_map]
      congr 1
      apply List.map_congr_left
      intro k _
      simp only [Function.comp]
      omega
    rw [hmap, List.find?_cons]
    simp only [Nat.add_zero] at h0
    by_cases hp : p i = true
    · rw [if_pos hp] at h0
      rw [hp]
      simp only [loopG, h0]
      generalize A i = y
      cases y <;> rfl
    · rw [if_neg hp] at h0
      have hp' : p i = false := by simpa using hp
      rw [hp']
      simp only [loopG, h0, nextG]
      exact loop_findN n (fun k => f (k + 1)) m (i + 1) (by omega) (fun k hk => by rw [hs (k + 1) (by omega), show i + (k + 1) = i + 1 + k by omega]) hl
/-- A loop that ends early where p holds. -/
theorem loop_find {σ ρ : Type} {b : σ → Option (σ ⊕ ρ)} {x : Option ρ} (n : Nat) (f : Nat → σ) (p : Nat → Bool) (A : Nat → Option ρ) {s : σ} (h0 : s = f 0) (hn : n < LFm) (step : ∀ k, k < n → b (f k) = if p k = true then exitG (A k) else nextG (f (k + 1))) (last : b (f n) = exitG x) :
    loopG b LFm s = match (List.range n).find? p with | some k => A k | none => x := by
  subst h0
  have := loop_findN n f LFm 0 hn (p := p) (A := A) (fun k hk => by rw [step k hk]; simp) last
  simpa using this
theorem wrapS {k : Nat} (h : k < 4611686018427387904) : IntKind.i64.wrap ((k : Int) + 1) = ((k + 1 : Nat) : Int) := by
  rw [IntWalk.i64_in _ (by omega)]; omega
theorem wrapI {x : Int} (h : -9223372036854775808 ≤ x) (h2 : x < 9223372036854775808) : IntKind.i64.wrap x = x := IntWalk.i64_in _ (by omega)
theorem wrap8 {x : Int} (h : 0 ≤ x) (h2 : x < 256) : IntKind.u8.wrap x = x := by rw [IntKind.wrap_u8]; omega
theorem atI_nat {α : Type} {xs : List α} {k : Nat} (h : k < xs.length) : atI xs (k : Int) = some xs[k] := by
  unfold atI; rw [if_pos (by omega), Int.toNat_natCast, List.getElem?_eq_getElem h]
theorem atI_q {α : Type} (xs : List α) (k : Nat) : atI xs (k : Int) = xs[k]? := by
  unfold atI; rw [if_pos (by omega), Int.toNat_natCast]
theorem byteI_nat {s : ByteArray} {k : Nat} (h : k < s.size) : byteI s (k : Int) = some (s[k].toNat : Int) := by
  unfold byteI; rw [if_pos (by omega), Int.toNat_natCast, getElem?_pos s k h]; rfl
theorem pieceL_to {α : Type} {xs : List α} {k : Nat} (h : k ≤ xs.length) : pieceL xs 0 (k : Int) = some (xs.take k) := by
  unfold pieceL; rw [if_pos (by omega)]; simp
theorem pieceL_from {α : Type} {xs : List α} {k : Nat} (h : k ≤ xs.length) : pieceL xs (k : Int) (xs.length : Int) = some (xs.drop k) := by
  unfold pieceL; rw [if_pos (by omega)]; simp [List.take_of_length_le]
theorem chk_pos {α : Type} {p : Prop} [Decidable p] (x : Option α) (h : p) : chk p x = x := by unfold chk; rw [if_pos h]
theorem find_none {p : Nat → Bool} {n : Nat} : (List.range n).find? p = none ↔ ∀ k, k < n → p k = false := by simp
theorem find_some {p : Nat → Bool} {n k : Nat} : (List.range n).find? p = some k ↔ k < n ∧ p k = true ∧ ∀ j, j < k → p j = false := by
  rw [List.find?_range_eq_some]; simp; constructor
  · rintro ⟨a, b, c⟩; exact ⟨b, a, c⟩
  · rintro ⟨a, b, c⟩; exact ⟨b, a, c⟩
/-- A loop over a range that answers a Bool. -/
theorem find_all {ρ : Type} {p : Nat → Bool} {n : Nat} (a b : ρ) : (match (List.range n).find? p with | some _ => a | none => b) = if (List.range n).all (fun k => !p k) then b else a := by
  cases h : (List.range n).find? p with
  | none => rw [find_none] at h; rw [if_pos (by simpa using h)]
  | some k =>
    rw [find_some] at h
    rw [if_neg]
    simp only [List.all_eq_true, List.mem_range, Bool.not_eq_true']
    intro hh
    have := hh k h.1
    rw [h.2.1] at this
    cases this
theorem range_all {α : Type} (p : α → Bool) (l : List α) (d : α) : (List.range l.length).all (fun k => p (l.getD k d)) = l.all p := by
  rw [Bool.eq_iff_iff, List.all_eq_true, List.all_eq_true]
  constructor
  · intro h x hx
    obtain ⟨i, hi, rfl⟩ := List.getElem_of_mem hx
    have := h i (List.mem_range.2 hi)
    simpa only [List.getD, List.getElem?_eq_getElem hi, Option.getD_some] using this
  · intro h i hi
    have hi := List.mem_range.1 hi
    have := h _ (List.getElem_mem hi)
    simpa only [List.getD, List.getElem?_eq_getElem hi, Option.getD_some] using this
/-- A loop over a list that asks something of each element. -/
theorem list_loop {α ρ : Type} {b : Int → Option (Int ⊕ ρ)} {l : List α} (d : α) (p : α → Bool) {A B : Option ρ} (h : l.length < 4611686018427387904) (step : ∀ k, k < l.length → b (k : Int) = if p (l.getD k d) = true then nextG ((k + 1 : Nat) : Int) else exitG A) (last : b (l.length : Int) = exitG B) :
    loopG b LFm 0 = if l.all p = true then B else A := by
  rw [loop_find (s := (0 : Int)) l.length (fun k => (k : Int)) (fun k => !p (l.getD k d)) (fun _ => A) (x := B) rfl (by simp only [LFm]; omega) (fun k hk => ?_) last]
  · rw [find_all]
    simp only [Bool.not_not]
    rw [range_all]
  · rw [step k hk]
    cases p (l.getD k d) <;> simp
/-- Two answers that belong together. -/
def OptR {α β : Type} (E : α → β → Prop) : Option α → Option β → Prop
  | some a, some b => E a b
  | none, none => True
  | _, _ => False
def SumR {σ τ α β : Type} (R : σ → τ → Prop) (E : α → β → Prop) : σ ⊕ α → τ ⊕ β → Prop
  | .inl a, .inl b => R a b
  | .inr a, .inr b => E a b
  | _, _ => False
/-- Two rounds that belong together. -/
abbrev RndR {σ τ α β : Type} (R : σ → τ → Prop) (E : α → β → Prop) : Option (σ ⊕ α) → Option (τ ⊕ β) → Prop := OptR (SumR R E)
theorem rnd_next {σ τ α β : Type} {R : σ → τ → Prop} {E : α → β → Prop} {s : σ} {t : τ} (h : R s t) : RndR R E (nextG s) (nextG t) := h
theorem rnd_exit {σ τ α β : Type} {R : σ → τ → Prop} {E : α → β → Prop} {x : Option α} {y : Option β} (h : OptR E x y) : RndR R E (exitG x) (exitG y) := by
  cases x <;> cases y <;> first | exact h | exact absurd h id
/-- Two loops side by side. -/
theorem loop_sim {σ τ α β : Type} {b : σ → Option (σ ⊕ α)} {d : τ → Option (τ ⊕ β)} (R : σ → τ → Prop) (E : α → β → Prop) (step : ∀ s t, R s t → RndR R E (b s) (d t)) : ∀ (n : Nat) (s : σ) (t : τ), R s t → OptR E (loopG b n s) (loopG d n t)
  | 0, s, t, _ => trivial
  | n + 1, s, t, h => by
    have h1 := step s t h
    simp only [loopG]
    revert h1
    cases b s with
    | none => cases d t with
      | none => intro _; trivial
      | some y => intro h1; exact absurd h1 (by cases y <;> exact id)
    | some x => cases d t with
      | none => intro h1; exact absurd h1 (by cases x <;> exact id)
      | some y =>
        cases x with
        | inl s' => cases y with
          | inl t' => intro h1; exact loop_sim R E step n s' t' h1
          | inr r => intro h1; exact absurd h1 id
        | inr r => cases y with
          | inl t' => intro h1; exact absurd h1 id
          | inr r' => intro h1; exact h1
theorem optR_eq {α : Type} {x y : Option α} (h : OptR (· = ·) x y) : x = y := by
  cases x <;> cases y <;> first | rfl | (exact congrArg some h) | exact absurd h id
theorem optR_rfl {α : Type} (x : Option α) : OptR (· = ·) x x := by cases x <;> first | rfl | trivial
end Go.Proofs.Ytbnnipkanechoaa
end
section
/- The engine's steps as rules of rewriting. Over any program. -/
namespace Go.Proofs.Ytbnnipkanechoaa
attribute [simp] undef scB ext demark demarks_eq Function.comp_def bytesT_map wrap_u8_nat kidV kidT nav sub upd cellsT withCells getA setA getO delO setO mapE mapA constC constT depOk onA kill strip renA takeA setCells under killU frzA freezeA killP plainT kidA kidsA cellT setT moveT plugA plugA' plugL' finF' newOk buildSliceOk nrmA nrmO nrmF insA insO nrmO? plugL putR cellAB explode cellsE isAggU rdV scE binS_int binS_str binS_bool intBin_add intBin_sub intBin_mul intBin_quo intBin_rem intBin_and intBin_or intBin_xor intBin_andNot intBin_eql intBin_neq intBin_lss intBin_leq intBin_gtr intBin_geq strBin_eql strBin_neq strBin_lss strBin_geq strBin_add findV_si findV_sb findV_ii findV_ib setV_si setV_sb setV_ii setV_ib getD_int getD_bool setV_nil setM_nil List.map_flatMap opns_map opns_flat bytesT_z bytesOf intsOf unS minS maxS constE opE depA depIn loadE partE rdSl intV indexAddrE indexE bndE sliceE extractE lenE bytesT intsOfT convE callE quietE initT needP plugs dropG finF newF allocF boxF setAt keepZ keepZs fillA zeroL zcells buildSliceF makeSliceF storeF storeG sameF baseF baseM isSc srcF ownSrc isIntU appendF appendQ isTup markF bytesF effF calmB asgF opn opns isIo topArg argA argAs argE inDeps argsF kill1 freezeL clB ioF retF retA callF quiet2E putF opF yieldF guardF grdF regF calmF firstR onE ids keepO keepT ghosts gfrom canonF asgAll entryE entryT entryO entryF resE resEs shapeE flatE plugsE outT outId outsF ioIdx outId2 isVo outV backT ownT exitF andF_some ltFI leFI ltFN leFN drawF drawZ stepZ wrF pickZ noM allM frz1 frzP frzL keyB rdMp lookupE mapLenE killD mapSetF hintB makeMapF capE capsE makeFuncE calleeE mapLenC eff2F calm2B exitC exitD Option.map_some fieldAddrE_eq fieldE_eq
end Go.Proofs.Ytbnnipkanechoaa
end
section
/- What is known of functions that the engine does not run: the sort of the images. -/
namespace Go.Proofs.Ytbnnipkanechoaa
open Go
set_option linter.unusedVariables false
set_option linter.unusedSimpArgs false

def intsI : List T → Option (List Int)
  | [] => some []
  | .sc (.int .i64 x) :: l => (intsI l).map (x :: ·)
  | _ => none
theorem intsI_map : ∀ xs : List Int, intsI (xs.map fun x => .sc (.int .i64 x)) = some xs
  | [] => rfl
  | x :: xs => by simp [intsI, intsI_map xs]
theorem intsI_inv : ∀ {cs : List T} {xs : List Int}, intsI cs = some xs → cs = xs.map fun x => .sc (.int .i64 x)
  | [], xs, h => by simp [intsI] at h; subst h; rfl
  | c :: cs, xs, h => by
    unfold intsI at h
    split at h
    · rename_i he; cases he
    · rename_i x l he
      cases he
      simp only [Option.map_eq_some_iff] at h
      obtain ⟨ys, hy, rfl⟩ := h
      simp [← intsI_inv hy]
    · cases h
/-- How many states a set has (of the first seven). -/
def szN (s : Nat) : Nat := (List.range 7).countP fun q => s.testBit q
/-- The order of the images: the greater first, then by number. -/
def befN (p r : Nat) : Bool := decide (szN r < szN p) || (decide (szN p = szN r) && decide (p ≤ r))
def leI (a b : Int) : Bool := befN a.toNat b.toNat
def insB (x : Int) : List Int → List Int
  | [] => [x]
  | y :: l => if leI x y = true then x :: y :: l else y :: insB x l
def sortI : List Int → List Int
  | [] => []
  | x :: l => insB x (sortI l)
/-- slices.SortFunc of images: sets of the first seven states. -/
def vSort (xs : List Int) : Option (List Int) := if xs ≠ [] ∧ xs.length < 4611686018427387904 ∧ xs.all (fun x => decide (0 ≤ x ∧ x < 128)) = true then some (sortI xs) else none
def xSort (fn : FuncId) (args : List T) : Option (T × List T) := match args with
  | [.os 1 n cs, .sc (.func (.func f) fs gs)] => if f = fn ∧ fs.isEmpty ∧ gs.isEmpty then (match intsI cs with | some xs => if xs.length = n then (vSort xs).map fun ys => (.tup [], [.os 1 ys.length (ys.map fun x => .sc (.int .i64 x)), .dead]) else none | none => none) else none
  | _ => none
def xtC : Contract := fun f args => if f = 64 then xSort 65 args else none
end Go.Proofs.Ytbnnipkanechoaa
end
section
/- Facts on the types; what guides the run of each function; one contract for all. -/
namespace Go.Proofs.Ytbnnipkanechoaa
open Go
set_option maxRecDepth 100000

@[simp] theorem ty3 : tyOf Try.prog 3 = some ⟨.int .i64, 1, 8, (some [(.sc (.int .i64 0))])⟩ := by kernel_rfl
@[simp] theorem ty4 : tyOf Try.prog 4 = some ⟨.bool, 1, 1, (some [(.sc (.bool false))])⟩ := by kernel_rfl
@[simp] theorem ty5 : tyOf Try.prog 5 = some ⟨.int .u8, 1, 1, (some [(.sc (.int .u8 0))])⟩ := by kernel_rfl
@[simp] theorem ty9 : tyOf Try.prog 9 = some ⟨.string, 1, 16, (some [(.sc (.string ByteArray.empty))])⟩ := by kernel_rfl
@[simp] theorem ty22 : tyOf Try.prog 22 = some ⟨.slice 3, 1, 24, (some [(.os 1 0 [])])⟩ := by kernel_rfl
@[simp] theorem ty23 : tyOf Try.prog 23 = some ⟨.pointer 60, 1, 8, (some [(.sc (.pointer none))])⟩ := by kernel_rfl
@[simp] theorem ty25 : tyOf Try.prog 25 = some ⟨.slice 4, 1, 24, (some [(.os 1 0 [])])⟩ := by kernel_rfl
@[simp] theorem ty26 : tyOf Try.prog 26 = some ⟨.slice 22, 1, 24, (some [(.os 1 0 [])])⟩ := by kernel_rfl
noncomputable def fs28 : Array Field := match Try.prog.underlying 28 with | some (.struct fs) => fs | _ => #[]
@[simp] theorem ty28 : tyOf Try.prog 28 = some ⟨.struct fs28, 4, 64, (some [(.sc (.int .i64 0)), (.sc (.int .i64 0)), (.os 1 0 []), (.os 1 0 [])])⟩ := by kernel_rfl
@[simp] theorem fi28_0 : fieldI Try.prog 28 0 = some (0, 1, false) := by kernel_rfl
@[simp] theorem fi28_1 : fieldI Try.prog 28 1 = some (1, 1, false) := by kernel_rfl
@[simp] theorem fi28_2 : fieldI Try.prog 28 2 = some (2, 1, false) := by kernel_rfl
@[simp] theorem fi28_3 : fieldI Try.prog 28 3 = some (3, 1, false) := by kernel_rfl
@[simp] theorem st28 : structI Try.prog 28 = (some [(.sc (.int .i64 0)), (.sc (.int .i64 0)), (.os 1 0 []), (.os 1 0 [])]) := by kernel_rfl
@[simp] theorem bs28 (fr : Fr) (parts : List (Nat × Operand)) : buildE Try.prog fr 28 parts = match fillA fr (fieldI Try.prog 28) ([(.sc (.int .i64 0)), (.sc (.int .i64 0)), (.os 1 0 []), (.os 1 0 [])].map (A.t none)) parts with | some xs => some (E.ag xs) | none => none := buildE_struct st28 fr parts
@[simp] theorem ty31 : tyOf Try.prog 31 = some ⟨.slice 9, 1, 24, (some [(.os 1 0 [])])⟩ := by kernel_rfl
noncomputable def fs33 : Array Field := match Try.prog.underlying 33 with | some (.struct fs) => fs | _ => #[]
@[simp] theorem ty33 : tyOf Try.prog 33 = some ⟨.struct fs33, 6, 144, (some [(.os 1 0 []), (.os 1 0 []), (.os 1 0 []), (.os 1 0 []), (.os 1 0 []), (.os 1 0 [])])⟩ := by kernel_rfl
@[simp] theorem fi33_0 : fieldI Try.prog 33 0 = some (0, 1, false) := by kernel_rfl
@[simp] theorem fi33_1 : fieldI Try.prog 33 1 = some (1, 1, false) := by kernel_rfl
@[simp] theorem fi33_2 : fieldI Try.prog 33 2 = some (2, 1, false) := by kernel_rfl
@[simp] theorem fi33_3 : fieldI Try.prog 33 3 = some (3, 1, false) := by kernel_rfl
@[simp] theorem fi33_4 : fieldI Try.prog 33 4 = some (4, 1, false) := by kernel_rfl
@[simp] theorem fi33_5 : fieldI Try.prog 33 5 = some (5, 1, false) := by kernel_rfl
@[simp] theorem st33 : structI Try.prog 33 = (some [(.os 1 0 []), (.os 1 0 []), (.os 1 0 []), (.os 1 0 []), (.os 1 0 []), (.os 1 0 [])]) := by kernel_rfl
@[simp] theorem bs33 (fr : Fr) (parts : List (Nat × Operand)) : buildE Try.prog fr 33 parts = match fillA fr (fieldI Try.prog 33) ([(.os 1 0 []), (.os 1 0 []), (.os 1 0 []), (.os 1 0 []), (.os 1 0 []), (.os 1 0 [])].map (A.t none)) parts with | some xs => some (E.ag xs) | none => none := buildE_struct st33 fr parts
@[simp] theorem ty34 : tyOf Try.prog 34 = some ⟨.int .i64, 1, 8, (some [(.sc (.int .i64 0))])⟩ := by kernel_rfl
@[simp] theorem ty41 : tyOf Try.prog 41 = some ⟨.map 3 3, 1, 8, (some [(.sc (.map none))])⟩ := by kernel_rfl
@[simp] theorem mt41 : mapTy Try.prog 41 = some ((some .i64), 3) := by kernel_rfl
@[simp] theorem zv41 : zeroV Try.prog 3 = some (.int .i64 0) := by kernel_rfl
@[simp] theorem ty51 : tyOf Try.prog 51 = some ⟨.int .u64, 1, 8, (some [(.sc (.int .u64 0))])⟩ := by kernel_rfl
noncomputable def fs60 : Array Field := match Try.prog.underlying 60 with | some (.struct fs) => fs | _ => #[]
@[simp] theorem ty60 : tyOf Try.prog 60 = some ⟨.struct fs60, 2, 32, (some [(.os 1 0 []), (.sc (.int .i64 0))])⟩ := by kernel_rfl
@[simp] theorem fi60_0 : fieldI Try.prog 60 0 = some (0, 1, false) := by kernel_rfl
@[simp] theorem fi60_1 : fieldI Try.prog 60 1 = some (1, 1, false) := by kernel_rfl
@[simp] theorem st60 : structI Try.prog 60 = (some [(.os 1 0 []), (.sc (.int .i64 0))]) := by kernel_rfl
@[simp] theorem bs60 (fr : Fr) (parts : List (Nat × Operand)) : buildE Try.prog fr 60 parts = match fillA fr (fieldI Try.prog 60) ([(.os 1 0 []), (.sc (.int .i64 0))].map (A.t none)) parts with | some xs => some (E.ag xs) | none => none := buildE_struct st60 fr parts
@[simp] theorem ty63 : tyOf Try.prog 63 = some ⟨.slice 25, 1, 24, (some [(.os 1 0 [])])⟩ := by kernel_rfl
noncomputable def fs65 : Array Field := match Try.prog.underlying 65 with | some (.struct fs) => fs | _ => #[]
@[simp] theorem ty65 : tyOf Try.prog 65 = some ⟨.struct fs65, 3, 72, (some [(.os 1 0 []), (.os 1 0 []), (.os 1 0 [])])⟩ := by kernel_rfl
@[simp] theorem fi65_0 : fieldI Try.prog 65 0 = some (0, 1, false) := by kernel_rfl
@[simp] theorem fi65_1 : fieldI Try.prog 65 1 = some (1, 1, false) := by kernel_rfl
@[simp] theorem fi65_2 : fieldI Try.prog 65 2 = some (2, 1, false) := by kernel_rfl
@[simp] theorem st65 : structI Try.prog 65 = (some [(.os 1 0 []), (.os 1 0 []), (.os 1 0 [])]) := by kernel_rfl
@[simp] theorem bs65 (fr : Fr) (parts : List (Nat × Operand)) : buildE Try.prog fr 65 parts = match fillA fr (fieldI Try.prog 65) ([(.os 1 0 []), (.os 1 0 []), (.os 1 0 [])].map (A.t none)) parts with | some xs => some (E.ag xs) | none => none := buildE_struct st65 fr parts
@[simp] theorem ty80 : tyOf Try.prog 80 = some ⟨.slice 5, 1, 24, (some [(.os 1 0 [])])⟩ := by kernel_rfl
@[simp] theorem ty89 : tyOf Try.prog 89 = some ⟨.map 3 4, 1, 8, (some [(.sc (.map none))])⟩ := by kernel_rfl
@[simp] theorem mt89 : mapTy Try.prog 89 = some ((some .i64), 4) := by kernel_rfl
@[simp] theorem zv89 : zeroV Try.prog 4 = some (.bool false) := by kernel_rfl
@[simp] theorem ty102 : tyOf Try.prog 102 = some ⟨.int .u32, 1, 4, (some [(.sc (.int .u32 0))])⟩ := by kernel_rfl
@[simp] theorem ty104 : tyOf Try.prog 104 = some ⟨.int .u64, 1, 8, (some [(.sc (.int .u64 0))])⟩ := by kernel_rfl

-- semigroup/semigrouplaw24.ImagesOf
def cf3 : Cfg := { wio := fun f i => (f == 30 && (i == 0)) || (f == 12 && (i == 0)) || (f == 13 && (i == 0)) || (f == 20 && (i == 0)) || (f == 999999 && (i == 0)), live := fun r => none, dr := fun r => none }
@[simp] theorem wio3 : cf3.wio = fun f i => (f == 30 && (i == 0)) || (f == 12 && (i == 0)) || (f == 13 && (i == 0)) || (f == 20 && (i == 0)) || (f == 999999 && (i == 0)) := rfl
@[simp] theorem live3 : cf3.live = fun r => none := rfl
@[simp] theorem wr3 : cf3.wr = fun _ => [] := rfl
-- semigroup/semigrouplaw24.ImagesCover
def cf4 : Cfg := { wio := fun f i => (f == 30 && (i == 0)) || (f == 12 && (i == 0)) || (f == 13 && (i == 0)) || (f == 20 && (i == 0)) || (f == 999999 && (i == 0)), live := fun r => if r = 7 then some [5, 35, 36, 37] else if r = 11 then some [5, 7, 8, 9, 35, 36, 37, 46, 47, 48] else none, dr := fun r => if r = 13 then some [(0, 0), (1, 0), (2, 0), (3, 0), (4, 0), (5, 0), (6, 0), (7, 0), (8, 0), (9, 0), (10, 0), (11, 0), (12, 0), (13, 0), (14, 0), (15, 0), (16, 0), (17, 0), (18, 0), (19, 0), (20, 0), (21, 0), (22, 0), (23, 0), (24, 0), (25, 0), (26, 0), (27, 0), (28, 0), (29, 0), (30, 0), (31, 0), (32, 0), (33, 0)] else none }
@[simp] theorem wio4 : cf4.wio = fun f i => (f == 30 && (i == 0)) || (f == 12 && (i == 0)) || (f == 13 && (i == 0)) || (f == 20 && (i == 0)) || (f == 999999 && (i == 0)) := rfl
@[simp] theorem live4 : cf4.live = fun r => if r = 7 then some [5, 35, 36, 37] else if r = 11 then some [5, 7, 8, 9, 35, 36, 37, 46, 47, 48] else none := rfl
@[simp] theorem wr4 : cf4.wr = fun _ => [] := rfl
-- semigroup/semigrouplaw24.ImagesClasses
def cf5 : Cfg := { wio := fun f i => (f == 30 && (i == 0)) || (f == 12 && (i == 0)) || (f == 13 && (i == 0)) || (f == 20 && (i == 0)) || (f == 999999 && (i == 0)), live := fun r => if r = 9 then some [4, 5, 7, 8, 78, 79, 80] else if r = 20 then some [4, 5, 7, 8, 9, 78, 79, 80, 189, 190, 191] else if r = 27 then some [4, 5, 7, 8, 9, 20, 22, 78, 79, 80, 189, 190, 191, 221, 222, 223] else none, dr := fun r => if r = 15 then some [(0, 0), (1, 0), (2, 0), (3, 0), (4, 0), (5, 0), (6, 0), (7, 0), (8, 0), (9, 0), (10, 0), (11, 1), (12, 0), (13, 0), (14, 0), (15, 0), (16, 0)] else if r = 16 then some [(0, 0), (1, 0), (2, 0), (3, 0), (4, 0), (5, 0), (6, 0), (7, 1), (8, 0), (9, 0), (10, 0), (11, 0), (12, 0)] else if r = 17 then some [(0, 0), (1, 0), (2, 0), (3, 0), (4, 0), (5, 0), (6, 0), (7, 0), (8, 0), (9, 0), (10, 0), (11, 0), (12, 0), (13, 0), (14, 0), (15, 0), (16, 0), (17, 0), (18, 0), (19, 0), (20, 0), (21, 0), (22, 0), (23, 0), (24, 0), (25, 0), (26, 0), (27, 0), (28, 0), (29, 0), (30, 0), (31, 0), (32, 0), (33, 0), (34, 0), (35, 0), (36, 0), (37, 0), (38, 0), (39, 0), (40, 0), (41, 0), (42, 0), (43, 0), (44, 0), (45, 0), (46, 0), (47, 0)] else if r = 24 then some [(0, 0), (1, 0), (2, 0), (3, 0), (4, 0), (5, 0), (6, 0), (7, 0), (8, 0), (9, 0), (10, 0), (11, 1), (12, 0), (13, 0), (14, 0), (15, 0), (16, 0)] else none }
@[simp] theorem wio5 : cf5.wio = fun f i => (f == 30 && (i == 0)) || (f == 12 && (i == 0)) || (f == 13 && (i == 0)) || (f == 20 && (i == 0)) || (f == 999999 && (i == 0)) := rfl
@[simp] theorem live5 : cf5.live = fun r => if r = 9 then some [4, 5, 7, 8, 78, 79, 80] else if r = 20 then some [4, 5, 7, 8, 9, 78, 79, 80, 189, 190, 191] else if r = 27 then some [4, 5, 7, 8, 9, 20, 22, 78, 79, 80, 189, 190, 191, 221, 222, 223] else none := rfl
@[simp] theorem wr5 : cf5.wr = fun _ => [] := rfl
-- semigroup/semigrouplaw24.ImagesHeights
def cf6 : Cfg := { wio := fun f i => (f == 30 && (i == 0)) || (f == 12 && (i == 0)) || (f == 13 && (i == 0)) || (f == 20 && (i == 0)) || (f == 999999 && (i == 0)), live := fun r => if r = 10 then some [8, 10, 11, 12, 64, 65, 66] else none, dr := fun r => if r = 8 then some [(0, 0), (1, 0), (2, 0), (3, 0), (4, 0), (5, 0), (6, 0), (7, 1), (8, 0), (9, 0), (10, 0), (11, 0), (12, 0)] else if r = 13 then some [(0, 0), (1, 0), (2, 0), (3, 0), (4, 0), (5, 0), (6, 0), (7, 0), (8, 0), (9, 0), (10, 0), (11, 0), (12, 0), (13, 0), (14, 0), (15, 0), (16, 1), (17, 0), (18, 0)] else none }
@[simp] theorem wio6 : cf6.wio = fun f i => (f == 30 && (i == 0)) || (f == 12 && (i == 0)) || (f == 13 && (i == 0)) || (f == 20 && (i == 0)) || (f == 999999 && (i == 0)) := rfl
@[simp] theorem live6 : cf6.live = fun r => if r = 10 then some [8, 10, 11, 12, 64, 65, 66] else none := rfl
@[simp] theorem wr6 : cf6.wr = fun _ => [] := rfl
-- semigroup/semigrouplaw24.ImagesQueries
def cf8 : Cfg := { wio := fun f i => (f == 30 && (i == 0)) || (f == 12 && (i == 0)) || (f == 13 && (i == 0)) || (f == 20 && (i == 0)) || (f == 999999 && (i == 0)), live := fun r => none, dr := fun r => none }
@[simp] theorem wio8 : cf8.wio = fun f i => (f == 30 && (i == 0)) || (f == 12 && (i == 0)) || (f == 13 && (i == 0)) || (f == 20 && (i == 0)) || (f == 999999 && (i == 0)) := rfl
@[simp] theorem live8 : cf8.live = fun r => none := rfl
@[simp] theorem wr8 : cf8.wr = fun _ => [] := rfl
-- semigroup/semigrouplaw24.ImagesBelow
def cf9 : Cfg := { wio := fun f i => (f == 30 && (i == 0)) || (f == 12 && (i == 0)) || (f == 13 && (i == 0)) || (f == 20 && (i == 0)) || (f == 999999 && (i == 0)), live := fun r => none, dr := fun r => none }
@[simp] theorem wio9 : cf9.wio = fun f i => (f == 30 && (i == 0)) || (f == 12 && (i == 0)) || (f == 13 && (i == 0)) || (f == 20 && (i == 0)) || (f == 999999 && (i == 0)) := rfl
@[simp] theorem live9 : cf9.live = fun r => none := rfl
@[simp] theorem wr9 : cf9.wr = fun _ => [] := rfl
-- semigroup/semigrouplaw24.ImagesRaw
def cf10 : Cfg := { wio := fun f i => (f == 30 && (i == 0)) || (f == 12 && (i == 0)) || (f == 13 && (i == 0)) || (f == 20 && (i == 0)) || (f == 999999 && (i == 0)), live := fun r => none, dr := fun r => none }
@[simp] theorem wio10 : cf10.wio = fun f i => (f == 30 && (i == 0)) || (f == 12 && (i == 0)) || (f == 13 && (i == 0)) || (f == 20 && (i == 0)) || (f == 999999 && (i == 0)) := rfl
@[simp] theorem live10 : cf10.live = fun r => none := rfl
@[simp] theorem wr10 : cf10.wr = fun _ => [] := rfl
-- semigroup/semigroupmade.New
def cf11 : Cfg := { wio := fun f i => (f == 999999 && (i == 0)), live := fun r => none, dr := fun r => none }
@[simp] theorem wio11 : cf11.wio = fun f i => (f == 999999 && (i == 0)) := rfl
@[simp] theorem live11 : cf11.live = fun r => none := rfl
@[simp] theorem wr11 : cf11.wr = fun _ => [] := rfl
-- (*semigroup/semigroupmade.Tape).Any
def cf12 : Cfg := { wio := fun f i => (f == 30 && (i == 0)) || (f == 34 && (i == 0)) || (f == 31 && (i == 0)) || (f == 32 && (i == 0)) || (f == 33 && (i == 0)) || (f == 999999 && (i == 0)), live := fun r => none, dr := fun r => none }
@[simp] theorem wio12 : cf12.wio = fun f i => (f == 30 && (i == 0)) || (f == 34 && (i == 0)) || (f == 31 && (i == 0)) || (f == 32 && (i == 0)) || (f == 33 && (i == 0)) || (f == 999999 && (i == 0)) := rfl
@[simp] theorem live12 : cf12.live = fun r => none := rfl
@[simp] theorem wr12 : cf12.wr = fun _ => [] := rfl
-- (*semigroup/semigroupmade.Tape).Letters
def cf13 : Cfg := { wio := fun f i => (f == 30 && (i == 0)) || (f == 999999 && (i == 0)), live := fun r => none, dr := fun r => none }
@[simp] theorem wio13 : cf13.wio = fun f i => (f == 30 && (i == 0)) || (f == 999999 && (i == 0)) := rfl
@[simp] theorem live13 : cf13.live = fun r => none := rfl
@[simp] theorem wr13 : cf13.wr = fun _ => [] := rfl
def tr14_10_41 : SchT := .nil
def tr14_10_40 : SchT := .op 13 2 tr14_10_41
def tr14_10_39 : SchT := .op 11 0 tr14_10_40
def tr14_10_38 : SchT := .op 12 1 tr14_10_40
def tr14_10_37 : SchT := .op 4 1 tr14_10_39
def tr14_10_36 : SchT := .op 6 1 tr14_10_39
def tr14_10_35 : SchT := .op 8 1 tr14_10_39
def tr14_10_34 : SchT := .op 10 1 tr14_10_39
def tr14_10_33 : SchT := .op 11 0 tr14_10_38
def tr14_10_32 : SchT := .alt (.op 4 1 tr14_10_36) (.op 6 1 tr14_10_37)
def tr14_10_31 : SchT := .alt (.op 4 1 tr14_10_35) (.op 8 1 tr14_10_37)
def tr14_10_30 : SchT := .alt (.op 4 1 tr14_10_34) (.op 10 1 tr14_10_37)
def tr14_10_29 : SchT := .alt (.op 4 1 tr14_10_33) (.op 12 1 tr14_10_37)
def tr14_10_28 : SchT := .alt (.op 6 1 tr14_10_35) (.op 8 1 tr14_10_36)
def tr14_10_27 : SchT := .alt (.op 6 1 tr14_10_34) (.op 10 1 tr14_10_36)
def tr14_10_26 : SchT := .alt (.op 6 1 tr14_10_33) (.op 12 1 tr14_10_36)
def tr14_10_25 : SchT := .alt (.op 8 1 tr14_10_34) (.op 10 1 tr14_10_35)
def tr14_10_24 : SchT := .alt (.op 8 1 tr14_10_33) (.op 12 1 tr14_10_35)
def tr14_10_23 : SchT := .alt (.op 10 1 tr14_10_33) (.op 12 1 tr14_10_34)
def tr14_10_22 : SchT := .alt (.op 4 1 tr14_10_28) (.alt (.op 6 1 tr14_10_31) (.op 8 1 tr14_10_32))
def tr14_10_21 : SchT := .alt (.op 4 1 tr14_10_27) (.alt (.op 6 1 tr14_10_30) (.op 10 1 tr14_10_32))
def tr14_10_20 : SchT := .alt (.op 4 1 tr14_10_26) (.alt (.op 6 1 tr14_10_29) (.op 12 1 tr14_10_32))
def tr14_10_19 : SchT := .alt (.op 4 1 tr14_10_25) (.alt (.op 8 1 tr14_10_30) (.op 10 1 tr14_10_31))
def tr14_10_18 : SchT := .alt (.op 4 1 tr14_10_24) (.alt (.op 8 1 tr14_10_29) (.op 12 1 tr14_10_31))
def tr14_10_17 : SchT := .alt (.op 4 1 tr14_10_23) (.alt (.op 10 1 tr14_10_29) (.op 12 1 tr14_10_30))
def tr14_10_16 : SchT := .alt (.op 6 1 tr14_10_25) (.alt (.op 8 1 tr14_10_27) (.op 10 1 tr14_10_28))
def tr14_10_15 : SchT := .alt (.op 6 1 tr14_10_24) (.alt (.op 8 1 tr14_10_26) (.op 12 1 tr14_10_28))
def tr14_10_14 : SchT := .alt (.op 6 1 tr14_10_23) (.alt (.op 10 1 tr14_10_26) (.op 12 1 tr14_10_27))
def tr14_10_13 : SchT := .alt (.op 8 1 tr14_10_23) (.alt (.op 10 1 tr14_10_24) (.op 12 1 tr14_10_25))
def tr14_10_12 : SchT := .alt (.op 4 1 tr14_10_16) (.alt (.op 6 1 tr14_10_19) (.alt (.op 8 1 tr14_10_21) (.op 10 1 tr14_10_22)))
def tr14_10_11 : SchT := .alt (.op 4 1 tr14_10_15) (.alt (.op 6 1 tr14_10_18) (.alt (.op 8 1 tr14_10_20) (.op 12 1 tr14_10_22)))
def tr14_10_10 : SchT := .alt (.op 4 1 tr14_10_14) (.alt (.op 6 1 tr14_10_17) (.alt (.op 10 1 tr14_10_20) (.op 12 1 tr14_10_21)))
def tr14_10_9 : SchT := .alt (.op 4 1 tr14_10_13) (.alt (.op 8 1 tr14_10_17) (.alt (.op 10 1 tr14_10_18) (.op 12 1 tr14_10_19)))
def tr14_10_8 : SchT := .alt (.op 6 1 tr14_10_13) (.alt (.op 8 1 tr14_10_14) (.alt (.op 10 1 tr14_10_15) (.op 12 1 tr14_10_16)))
def tr14_10_7 : SchT := .alt (.op 4 1 tr14_10_8) (.alt (.op 6 1 tr14_10_9) (.alt (.op 8 1 tr14_10_10) (.alt (.op 10 1 tr14_10_11) (.op 12 1 tr14_10_12))))
def tr14_10_6 : SchT := .op 9 0 tr14_10_7
def tr14_10_5 : SchT := .op 7 0 tr14_10_6
def tr14_10_4 : SchT := .op 5 0 tr14_10_5
def tr14_10_3 : SchT := .op 3 0 tr14_10_4
def tr14_10_2 : SchT := .op 2 0 tr14_10_3
def tr14_10_1 : SchT := .op 1 0 tr14_10_2
def tr14_10_0 : SchT := .op 0 0 tr14_10_1
-- semigroup/images.Of
def cf14 : Cfg := { wio := fun f i => (f == 999999 && (i == 0)), live := fun r => if r = 12 then some [2, 5, 7, 8, 9, 10, 53, 54] else if r = 19 then some [2, 5, 7, 8, 10, 85, 86, 87] else if r = 23 then some [2, 5, 7, 8, 10, 14, 17, 85, 86, 87, 99, 100] else none, dr := fun r => if r = 14 then some [(0, 0), (1, 0), (2, 0), (3, 0), (4, 0), (5, 1), (6, 0), (7, 2)] else if r = 16 then some [(0, 0), (1, 0), (2, 0), (3, 0), (4, 0), (5, 0), (6, 0), (7, 0), (8, 0), (9, 0), (10, 0), (11, 0), (12, 0), (13, 0), (14, 2)] else if r = 26 then some [(0, 0), (1, 0), (2, 0), (3, 0), (4, 0), (5, 0), (6, 0), (7, 0), (8, 2)] else none, fz := fun r => if r = 8 then some [5] else if r = 10 then some [8] else none, dt := fun r => if r = 10 then some (tr14_10_0) else none }
@[simp] theorem wio14 : cf14.wio = fun f i => (f == 999999 && (i == 0)) := rfl
@[simp] theorem live14 : cf14.live = fun r => if r = 12 then some [2, 5, 7, 8, 9, 10, 53, 54] else if r = 19 then some [2, 5, 7, 8, 10, 85, 86, 87] else if r = 23 then some [2, 5, 7, 8, 10, 14, 17, 85, 86, 87, 99, 100] else none := rfl
@[simp] theorem wr14 : cf14.wr = fun _ => [] := rfl
def tr15_47_49 : SchT := .nil
def tr15_47_48 : SchT := .op 15 2 tr15_47_49
def tr15_47_47 : SchT := .op 14 0 tr15_47_48
def tr15_47_46 : SchT := .op 7 1 tr15_47_47
def tr15_47_45 : SchT := .op 13 2 tr15_47_47
def tr15_47_44 : SchT := .alt (.op 7 1 tr15_47_45) (.op 13 2 tr15_47_46)
def tr15_47_43 : SchT := .op 12 0 tr15_47_45
def tr15_47_42 : SchT := .op 5 1 tr15_47_43
def tr15_47_41 : SchT := .op 12 0 tr15_47_44
def tr15_47_40 : SchT := .op 11 2 tr15_47_43
def tr15_47_39 : SchT := .alt (.op 5 1 tr15_47_41) (.op 7 1 tr15_47_42)
def tr15_47_38 : SchT := .alt (.op 5 1 tr15_47_40) (.op 11 2 tr15_47_42)
def tr15_47_37 : SchT := .alt (.op 7 1 tr15_47_40) (.op 11 2 tr15_47_41)
def tr15_47_36 : SchT := .op 10 0 tr15_47_40
def tr15_47_35 : SchT := .op 3 1 tr15_47_36
def tr15_47_34 : SchT := .alt (.op 5 1 tr15_47_37) (.alt (.op 7 1 tr15_47_38) (.op 11 2 tr15_47_39))
def tr15_47_33 : SchT := .op 10 0 tr15_47_38
def tr15_47_32 : SchT := .op 10 0 tr15_47_37
def tr15_47_31 : SchT := .op 9 2 tr15_47_36
def tr15_47_30 : SchT := .alt (.op 3 1 tr15_47_33) (.op 5 1 tr15_47_35)
def tr15_47_29 : SchT := .alt (.op 3 1 tr15_47_32) (.op 7 1 tr15_47_35)
def tr15_47_28 : SchT := .alt (.op 3 1 tr15_47_31) (.op 9 2 tr15_47_35)
def tr15_47_27 : SchT := .op 10 0 tr15_47_34
def tr15_47_26 : SchT := .alt (.op 5 1 tr15_47_31) (.op 9 2 tr15_47_33)
def tr15_47_25 : SchT := .alt (.op 7 1 tr15_47_31) (.op 9 2 tr15_47_32)
def tr15_47_24 : SchT := .op 8 0 tr15_47_31
def tr15_47_23 : SchT := .op 1 1 tr15_47_24
def tr15_47_22 : SchT := .alt (.op 3 1 tr15_47_27) (.alt (.op 5 1 tr15_47_29) (.op 7 1 tr15_47_30))
def tr15_47_21 : SchT := .alt (.op 3 1 tr15_47_26) (.alt (.op 5 1 tr15_47_28) (.op 9 2 tr15_47_30))
def tr15_47_20 : SchT := .alt (.op 3 1 tr15_47_25) (.alt (.op 7 1 tr15_47_28) (.op 9 2 tr15_47_29))
def tr15_47_19 : SchT := .op 8 0 tr15_47_28
def tr15_47_18 : SchT := .alt (.op 5 1 tr15_47_25) (.alt (.op 7 1 tr15_47_26) (.op 9 2 tr15_47_27))
def tr15_47_17 : SchT := .op 8 0 tr15_47_26
def tr15_47_16 : SchT := .op 8 0 tr15_47_25
def tr15_47_15 : SchT := .alt (.op 1 1 tr15_47_19) (.op 3 1 tr15_47_23)
def tr15_47_14 : SchT := .alt (.op 1 1 tr15_47_17) (.op 5 1 tr15_47_23)
def tr15_47_13 : SchT := .alt (.op 1 1 tr15_47_16) (.op 7 1 tr15_47_23)
def tr15_47_12 : SchT := .alt (.op 3 1 tr15_47_18) (.alt (.op 5 1 tr15_47_20) (.alt (.op 7 1 tr15_47_21) (.op 9 2 tr15_47_22)))
def tr15_47_11 : SchT := .op 8 0 tr15_47_21
def tr15_47_10 : SchT := .op 8 0 tr15_47_20
def tr15_47_9 : SchT := .op 8 0 tr15_47_18
def tr15_47_8 : SchT := .alt (.op 1 1 tr15_47_11) (.alt (.op 3 1 tr15_47_14) (.op 5 1 tr15_47_15))
def tr15_47_7 : SchT := .alt (.op 1 1 tr15_47_10) (.alt (.op 3 1 tr15_47_13) (.op 7 1 tr15_47_15))
def tr15_47_6 : SchT := .alt (.op 1 1 tr15_47_9) (.alt (.op 5 1 tr15_47_13) (.op 7 1 tr15_47_14))
def tr15_47_5 : SchT := .op 8 0 tr15_47_12
def tr15_47_4 : SchT := .alt (.op 1 1 tr15_47_5) (.alt (.op 3 1 tr15_47_6) (.alt (.op 5 1 tr15_47_7) (.op 7 1 tr15_47_8)))
def tr15_47_3 : SchT := .op 6 3 tr15_47_4
def tr15_47_2 : SchT := .op 4 3 tr15_47_3
def tr15_47_1 : SchT := .op 2 3 tr15_47_2
def tr15_47_0 : SchT := .op 0 0 tr15_47_1
def tr15_77_24 : SchT := .nil
def tr15_77_23 : SchT := .op 12 2 tr15_77_24
def tr15_77_22 : SchT := .op 11 0 tr15_77_23
def tr15_77_21 : SchT := .op 1 2 tr15_77_22
def tr15_77_20 : SchT := .op 10 2 tr15_77_22
def tr15_77_19 : SchT := .alt (.op 1 2 tr15_77_20) (.op 10 2 tr15_77_21)
def tr15_77_18 : SchT := .op 7 2 tr15_77_20
def tr15_77_17 : SchT := .op 9 1 tr15_77_20
def tr15_77_16 : SchT := .alt (.op 1 2 tr15_77_18) (.op 7 2 tr15_77_19)
def tr15_77_15 : SchT := .alt (.op 1 2 tr15_77_17) (.op 9 1 tr15_77_19)
def tr15_77_14 : SchT := .op 6 0 tr15_77_18
def tr15_77_13 : SchT := .alt (.op 7 2 tr15_77_17) (.op 9 1 tr15_77_18)
def tr15_77_12 : SchT := .op 6 3 tr15_77_16
def tr15_77_11 : SchT := .alt (.op 1 2 tr15_77_13) (.alt (.op 7 2 tr15_77_15) (.op 9 1 tr15_77_16))
def tr15_77_10 : SchT := .op 4 2 tr15_77_14
def tr15_77_9 : SchT := .op 6 0 tr15_77_13
def tr15_77_8 : SchT := .alt (.op 1 2 tr15_77_10) (.op 4 2 tr15_77_12)
def tr15_77_7 : SchT := .op 6 3 tr15_77_11
def tr15_77_6 : SchT := .alt (.op 4 2 tr15_77_9) (.op 9 1 tr15_77_10)
def tr15_77_5 : SchT := .alt (.op 1 2 tr15_77_6) (.alt (.op 4 2 tr15_77_7) (.op 9 1 tr15_77_8))
def tr15_77_4 : SchT := .op 8 3 tr15_77_5
def tr15_77_3 : SchT := .op 5 3 tr15_77_4
def tr15_77_2 : SchT := .op 3 3 tr15_77_3
def tr15_77_1 : SchT := .op 2 3 tr15_77_2
def tr15_77_0 : SchT := .op 0 3 tr15_77_1
-- semigroup/semigroupref24.Of
def cf15 : Cfg := { wio := fun f i => (f == 999999 && (i == 0)), live := fun r => if r = 10 then some [1, 2, 5, 6, 7, 57, 58, 59] else if r = 16 then some [1, 2, 5, 6, 10, 71, 72] else if r = 21 then some [1, 2, 5, 6, 10, 82, 83, 84] else if r = 25 then some [1, 2, 5, 6, 10, 12, 82, 83, 84, 95, 96, 97] else if r = 28 then some [1, 2, 5, 6, 10, 12, 17, 82, 83, 84, 95, 96, 97, 102, 103, 104] else if r = 37 then some [1, 2, 5, 6, 10, 20, 126, 127] else if r = 41 then some [1, 2, 5, 6, 10, 20, 21, 22, 126, 127] else if r = 49 then some [1, 2, 5, 10, 23] else if r = 52 then some [1, 2, 5, 10, 23, 181, 182] else if r = 55 then some [1, 2, 5, 10, 23, 24, 181, 182, 187, 188] else if r = 63 then some [1, 2, 5, 244, 245] else if r = 67 then some [1, 2, 5, 26, 244, 245, 256, 257, 258] else if r = 72 then some [1, 2, 5, 26, 27, 28, 29, 244, 245, 256, 257, 258, 278, 279, 280] else if r = 81 then some [1, 2, 5, 333, 334] else if r = 84 then some [1, 2, 5, 32, 33, 333, 334] else if r = 88 then some [1, 2, 5, 32, 33, 35, 333, 334, 360, 361, 362] else if r = 95 then some [1, 2, 5, 32, 33, 35, 333, 334, 393, 394, 395] else none, dr := fun r => if r = 57 then some [(0, 0), (1, 0), (2, 0), (3, 0), (4, 0), (5, 1), (6, 0), (7, 0), (8, 0), (9, 0), (10, 0), (11, 0), (12, 0), (13, 0), (14, 0), (15, 0), (16, 0), (17, 0), (18, 0), (19, 0), (20, 0), (21, 0), (22, 0), (23, 0), (24, 0), (25, 0), (26, 0), (27, 0), (28, 0), (29, 0), (30, 0), (31, 0), (32, 0), (33, 0), (34, 0), (35, 0), (36, 0), (37, 0), (38, 0)] else if r = 58 then some [(0, 0), (1, 0), (2, 0), (3, 0), (4, 0), (5, 0), (6, 0), (7, 0), (8, 0), (9, 0), (10, 2)] else if r = 84 then some [(0, 0), (1, 0), (2, 0), (3, 0), (4, 0), (5, 0), (6, 0), (7, 0), (8, 0), (9, 0), (10, 0)] else if r = 86 then some [(0, 0), (1, 0), (2, 0), (3, 0), (4, 0), (5, 0), (6, 1), (7, 0), (8, 0), (9, 0), (10, 0), (11, 0)] else if r = 91 then some [(0, 0), (1, 0), (2, 0), (3, 0), (4, 0), (5, 0), (6, 0), (7, 0), (8, 2)] else if r = 93 then some [(0, 0), (1, 0), (2, 0), (3, 0), (4, 0), (5, 0), (6, 1), (7, 0), (8, 0), (9, 0), (10, 0), (11, 0)] else if r = 98 then some [(0, 0), (1, 0), (2, 0), (3, 0), (4, 0), (5, 0), (6, 0), (7, 0), (8, 2)] else none, dt := fun r => if r = 47 then some (tr15_47_0) else if r = 77 then some (tr15_77_0) else none }
@[simp] theorem wio15 : cf15.wio = fun f i => (f == 999999 && (i == 0)) := rfl
@[simp] theorem live15 : cf15.live = fun r => if r = 10 then some [1, 2, 5, 6, 7, 57, 58, 59] else if r = 16 then some [1, 2, 5, 6, 10, 71, 72] else if r = 21 then some [1, 2, 5, 6, 10, 82, 83, 84] else if r = 25 then some [1, 2, 5, 6, 10, 12, 82, 83, 84, 95, 96, 97] else if r = 28 then some [1, 2, 5, 6, 10, 12, 17, 82, 83, 84, 95, 96, 97, 102, 103, 104] else if r = 37 then some [1, 2, 5, 6, 10, 20, 126, 127] else if r = 41 then some [1, 2, 5, 6, 10, 20, 21, 22, 126, 127] else if r = 49 then some [1, 2, 5, 10, 23] else if r = 52 then some [1, 2, 5, 10, 23, 181, 182] else if r = 55 then some [1, 2, 5, 10, 23, 24, 181, 182, 187, 188] else if r = 63 then some [1, 2, 5, 244, 245] else if r = 67 then some [1, 2, 5, 26, 244, 245, 256, 257, 258] else if r = 72 then some [1, 2, 5, 26, 27, 28, 29, 244, 245, 256, 257, 258, 278, 279, 280] else if r = 81 then some [1, 2, 5, 333, 334] else if r = 84 then some [1, 2, 5, 32, 33, 333, 334] else if r = 88 then some [1, 2, 5, 32, 33, 35, 333, 334, 360, 361, 362] else if r = 95 then some [1, 2, 5, 32, 33, 35, 333, 334, 393, 394, 395] else none := rfl
@[simp] theorem wr15 : cf15.wr = fun _ => [] := rfl
-- semigroup/semigroupref24.Same
def cf16 : Cfg := { wio := fun f i => (f == 999999 && (i == 0)), live := fun r => none, dr := fun r => none }
@[simp] theorem wio16 : cf16.wio = fun f i => (f == 999999 && (i == 0)) := rfl
@[simp] theorem live16 : cf16.live = fun r => none := rfl
@[simp] theorem wr16 : cf16.wr = fun _ => [] := rfl
-- semigroup/semigrouplaw24.known
def cf17 : Cfg := { wio := fun f i => (f == 999999 && (i == 0)), live := fun r => none, dr := fun r => none }
@[simp] theorem wio17 : cf17.wio = fun f i => (f == 999999 && (i == 0)) := rfl
@[simp] theorem live17 : cf17.live = fun r => none := rfl
@[simp] theorem wr17 : cf17.wr = fun _ => [] := rfl
-- semigroup/semigroupref24.Size
def cf18 : Cfg := { wio := fun f i => (f == 999999 && (i == 0)), live := fun r => if r = 2 then some [0, 3] else none, dr := fun r => none }
@[simp] theorem wio18 : cf18.wio = fun f i => (f == 999999 && (i == 0)) := rfl
@[simp] theorem live18 : cf18.live = fun r => if r = 2 then some [0, 3] else none := rfl
@[simp] theorem wr18 : cf18.wr = fun _ => [] := rfl
-- semigroup/images.Apply
def cf19 : Cfg := { wio := fun f i => (f == 999999 && (i == 0)), live := fun r => if r = 7 then some [1, 2, 3, 27, 28] else none, dr := fun r => if r = 9 then some [(0, 0), (1, 0), (2, 0), (3, 0), (4, 0), (5, 0), (6, 0), (7, 1), (8, 0)] else none }
@[simp] theorem wio19 : cf19.wio = fun f i => (f == 999999 && (i == 0)) := rfl
@[simp] theorem live19 : cf19.live = fun r => if r = 7 then some [1, 2, 3, 27, 28] else none := rfl
@[simp] theorem wr19 : cf19.wr = fun _ => [] := rfl
-- (*semigroup/semigroupmade.Tape).Word
def cf20 : Cfg := { wio := fun f i => (f == 30 && (i == 0)) || (f == 999999 && (i == 0)), live := fun r => if r = 3 then some [0, 1, 7, 8] else none, dr := fun r => none }
@[simp] theorem wio20 : cf20.wio = fun f i => (f == 30 && (i == 0)) || (f == 999999 && (i == 0)) := rfl
@[simp] theorem live20 : cf20.live = fun r => if r = 3 then some [0, 1, 7, 8] else none := rfl
@[simp] theorem wr20 : cf20.wr = fun _ => [] := rfl
-- semigroup/semigroupmade.Mod
def cf21 : Cfg := { wio := fun f i => (f == 999999 && (i == 0)), live := fun r => none, dr := fun r => none }
@[simp] theorem wio21 : cf21.wio = fun f i => (f == 999999 && (i == 0)) := rfl
@[simp] theorem live21 : cf21.live = fun r => none := rfl
@[simp] theorem wr21 : cf21.wr = fun _ => [] := rfl
-- semigroup/images.Check
def cf22 : Cfg := { wio := fun f i => (f == 999999 && (i == 0)), live := fun r => none, dr := fun r => none }
@[simp] theorem wio22 : cf22.wio = fun f i => (f == 999999 && (i == 0)) := rfl
@[simp] theorem live22 : cf22.live = fun r => none := rfl
@[simp] theorem wr22 : cf22.wr = fun _ => [] := rfl
-- semigroup/semigroupref03.Copy
def cf23 : Cfg := { wio := fun f i => (f == 999999 && (i == 0)), live := fun r => if r = 3 then some [3, 6, 7, 8] else none, dr := fun r => none }
@[simp] theorem wio23 : cf23.wio = fun f i => (f == 999999 && (i == 0)) := rfl
@[simp] theorem live23 : cf23.live = fun r => if r = 3 then some [3, 6, 7, 8] else none := rfl
@[simp] theorem wr23 : cf23.wr = fun _ => [] := rfl
-- semigroup/semigroupref24.Apply
def cf24 : Cfg := { wio := fun f i => (f == 999999 && (i == 0)), live := fun r => none, dr := fun r => none }
@[simp] theorem wio24 : cf24.wio = fun f i => (f == 999999 && (i == 0)) := rfl
@[simp] theorem live24 : cf24.live = fun r => none := rfl
@[simp] theorem wr24 : cf24.wr = fun _ => [] := rfl
-- semigroup/images.Below
def cf25 : Cfg := { wio := fun f i => (f == 999999 && (i == 0)), live := fun r => if r = 8 then some [1, 11, 35, 36, 37] else none, dr := fun r => none }
@[simp] theorem wio25 : cf25.wio = fun f i => (f == 999999 && (i == 0)) := rfl
@[simp] theorem live25 : cf25.live = fun r => if r = 8 then some [1, 11, 35, 36, 37] else none := rfl
@[simp] theorem wr25 : cf25.wr = fun _ => [] := rfl
-- semigroup/semigroupref24.Below
def cf26 : Cfg := { wio := fun f i => (f == 999999 && (i == 0)), live := fun r => if r = 8 then some [1, 11, 35, 36, 37] else none, dr := fun r => none }
@[simp] theorem wio26 : cf26.wio = fun f i => (f == 999999 && (i == 0)) := rfl
@[simp] theorem live26 : cf26.live = fun r => if r = 8 then some [1, 11, 35, 36, 37] else none := rfl
@[simp] theorem wr26 : cf26.wr = fun _ => [] := rfl
-- semigroup/semigroupref01.Valid
def cf27 : Cfg := { wio := fun f i => (f == 999999 && (i == 0)), live := fun r => if r = 4 then some [0, 1, 5] else none, dr := fun r => none }
@[simp] theorem wio27 : cf27.wio = fun f i => (f == 999999 && (i == 0)) := rfl
@[simp] theorem live27 : cf27.live = fun r => if r = 4 then some [0, 1, 5] else none := rfl
@[simp] theorem wr27 : cf27.wr = fun _ => [] := rfl
-- semigroup/semigroupmade.Few
def cf28 : Cfg := { wio := fun f i => (f == 999999 && (i == 0)), live := fun r => if r = 4 then some [16, 17, 18] else none, dr := fun r => none }
@[simp] theorem wio28 : cf28.wio = fun f i => (f == 999999 && (i == 0)) := rfl
@[simp] theorem live28 : cf28.live = fun r => if r = 4 then some [16, 17, 18] else none := rfl
@[simp] theorem wr28 : cf28.wr = fun _ => [] := rfl
-- semigroup/semigroupref24.May
def cf29 : Cfg := { wio := fun f i => (f == 999999 && (i == 0)), live := fun r => none, dr := fun r => none }
@[simp] theorem wio29 : cf29.wio = fun f i => (f == 999999 && (i == 0)) := rfl
@[simp] theorem live29 : cf29.live = fun r => none := rfl
@[simp] theorem wr29 : cf29.wr = fun _ => [] := rfl
-- (*semigroup/semigroupmade.Tape).Next
def cf30 : Cfg := { wio := fun f i => (f == 999999 && (i == 0)), live := fun r => none, dr := fun r => if r = 1 then some [(0, 0), (1, 0), (2, 0), (3, 0), (4, 0), (5, 0), (6, 0), (7, 0), (8, 0), (9, 0)] else if r = 4 then some [(0, 0), (1, 0), (2, 0), (3, 0), (4, 0), (5, 0), (6, 0), (7, 0), (8, 0), (9, 0), (10, 0), (11, 0), (12, 1), (13, 0)] else none }
@[simp] theorem wio30 : cf30.wio = fun f i => (f == 999999 && (i == 0)) := rfl
@[simp] theorem live30 : cf30.live = fun r => none := rfl
@[simp] theorem wr30 : cf30.wr = fun _ => [] := rfl
-- (*semigroup/semigroupmade.Tape).Ordered
def cf31 : Cfg := { wio := fun f i => (f == 34 && (i == 0)) || (f == 999999 && (i == 0)), live := fun r => if r = 3 then some [6, 7, 17, 18] else if r = 6 then some [6, 7, 8, 17, 18, 25, 26, 27] else none, dr := fun r => none }
@[simp] theorem wio31 : cf31.wio = fun f i => (f == 34 && (i == 0)) || (f == 999999 && (i == 0)) := rfl
@[simp] theorem live31 : cf31.live = fun r => if r = 3 then some [6, 7, 17, 18] else if r = 6 then some [6, 7, 8, 17, 18, 25, 26, 27] else none := rfl
@[simp] theorem wr31 : cf31.wr = fun _ => [] := rfl
def tr32_7_64 : SchT := .nil
def tr32_7_63 : SchT := .op 16 2 tr32_7_64
def tr32_7_62 : SchT := .op 15 0 tr32_7_63
def tr32_7_61 : SchT := .op 14 2 tr32_7_62
def tr32_7_60 : SchT := .op 12 2 tr32_7_61
def tr32_7_59 : SchT := .op 11 1 tr32_7_60
def tr32_7_58 : SchT := .op 13 3 tr32_7_60
def tr32_7_57 : SchT := .op 6 2 tr32_7_58
def tr32_7_56 : SchT := .op 8 2 tr32_7_58
def tr32_7_55 : SchT := .op 10 1 tr32_7_59
def tr32_7_54 : SchT := .op 13 3 tr32_7_59
def tr32_7_53 : SchT := .op 1 2 tr32_7_57
def tr32_7_52 : SchT := .op 5 1 tr32_7_57
def tr32_7_51 : SchT := .alt (.op 6 2 tr32_7_56) (.op 8 2 tr32_7_57)
def tr32_7_50 : SchT := .alt (.op 6 2 tr32_7_54) (.op 11 1 tr32_7_57)
def tr32_7_49 : SchT := .alt (.op 8 2 tr32_7_54) (.op 11 1 tr32_7_56)
def tr32_7_48 : SchT := .op 13 3 tr32_7_55
def tr32_7_47 : SchT := .alt (.op 1 2 tr32_7_52) (.op 5 1 tr32_7_53)
def tr32_7_46 : SchT := .alt (.op 1 2 tr32_7_51) (.op 8 2 tr32_7_53)
def tr32_7_45 : SchT := .alt (.op 1 2 tr32_7_50) (.op 11 1 tr32_7_53)
def tr32_7_44 : SchT := .op 4 0 tr32_7_52
def tr32_7_43 : SchT := .alt (.op 5 1 tr32_7_51) (.op 8 2 tr32_7_52)
def tr32_7_42 : SchT := .alt (.op 5 1 tr32_7_50) (.op 11 1 tr32_7_52)
def tr32_7_41 : SchT := .alt (.op 6 2 tr32_7_49) (.alt (.op 8 2 tr32_7_50) (.op 11 1 tr32_7_51))
def tr32_7_40 : SchT := .alt (.op 6 2 tr32_7_48) (.op 10 1 tr32_7_50)
def tr32_7_39 : SchT := .alt (.op 8 2 tr32_7_48) (.op 10 1 tr32_7_49)
def tr32_7_38 : SchT := .op 4 3 tr32_7_47
def tr32_7_37 : SchT := .alt (.op 1 2 tr32_7_43) (.alt (.op 5 1 tr32_7_46) (.op 8 2 tr32_7_47))
def tr32_7_36 : SchT := .alt (.op 1 2 tr32_7_42) (.alt (.op 5 1 tr32_7_45) (.op 11 1 tr32_7_47))
def tr32_7_35 : SchT := .alt (.op 1 2 tr32_7_41) (.alt (.op 8 2 tr32_7_45) (.op 11 1 tr32_7_46))
def tr32_7_34 : SchT := .alt (.op 1 2 tr32_7_40) (.op 10 1 tr32_7_45)
def tr32_7_33 : SchT := .op 3 1 tr32_7_44
def tr32_7_32 : SchT := .op 4 3 tr32_7_43
def tr32_7_31 : SchT := .op 4 0 tr32_7_42
def tr32_7_30 : SchT := .alt (.op 5 1 tr32_7_41) (.alt (.op 8 2 tr32_7_42) (.op 11 1 tr32_7_43))
def tr32_7_29 : SchT := .alt (.op 5 1 tr32_7_40) (.op 10 1 tr32_7_42)
def tr32_7_28 : SchT := .alt (.op 6 2 tr32_7_39) (.alt (.op 8 2 tr32_7_40) (.op 10 1 tr32_7_41))
def tr32_7_27 : SchT := .alt (.op 1 2 tr32_7_33) (.op 3 1 tr32_7_38)
def tr32_7_26 : SchT := .op 4 3 tr32_7_37
def tr32_7_25 : SchT := .op 4 3 tr32_7_36
def tr32_7_24 : SchT := .alt (.op 1 2 tr32_7_30) (.alt (.op 5 1 tr32_7_35) (.alt (.op 8 2 tr32_7_36) (.op 11 1 tr32_7_37)))
def tr32_7_23 : SchT := .alt (.op 1 2 tr32_7_29) (.alt (.op 5 1 tr32_7_34) (.op 10 1 tr32_7_36))
def tr32_7_22 : SchT := .alt (.op 1 2 tr32_7_28) (.alt (.op 8 2 tr32_7_34) (.op 10 1 tr32_7_35))
def tr32_7_21 : SchT := .alt (.op 3 1 tr32_7_32) (.op 8 2 tr32_7_33)
def tr32_7_20 : SchT := .alt (.op 3 1 tr32_7_31) (.op 11 1 tr32_7_33)
def tr32_7_19 : SchT := .op 4 3 tr32_7_30
def tr32_7_18 : SchT := .op 4 0 tr32_7_29
def tr32_7_17 : SchT := .alt (.op 5 1 tr32_7_28) (.alt (.op 8 2 tr32_7_29) (.op 10 1 tr32_7_30))
def tr32_7_16 : SchT := .alt (.op 1 2 tr32_7_21) (.alt (.op 3 1 tr32_7_26) (.op 8 2 tr32_7_27))
def tr32_7_15 : SchT := .alt (.op 1 2 tr32_7_20) (.alt (.op 3 1 tr32_7_25) (.op 11 1 tr32_7_27))
def tr32_7_14 : SchT := .op 4 3 tr32_7_24
def tr32_7_13 : SchT := .op 4 3 tr32_7_23
def tr32_7_12 : SchT := .alt (.op 1 2 tr32_7_17) (.alt (.op 5 1 tr32_7_22) (.alt (.op 8 2 tr32_7_23) (.op 10 1 tr32_7_24)))
def tr32_7_11 : SchT := .alt (.op 3 1 tr32_7_19) (.alt (.op 8 2 tr32_7_20) (.op 11 1 tr32_7_21))
def tr32_7_10 : SchT := .alt (.op 3 1 tr32_7_18) (.op 10 1 tr32_7_20)
def tr32_7_9 : SchT := .op 4 3 tr32_7_17
def tr32_7_8 : SchT := .alt (.op 1 2 tr32_7_11) (.alt (.op 3 1 tr32_7_14) (.alt (.op 8 2 tr32_7_15) (.op 11 1 tr32_7_16)))
def tr32_7_7 : SchT := .alt (.op 1 2 tr32_7_10) (.alt (.op 3 1 tr32_7_13) (.op 10 1 tr32_7_15))
def tr32_7_6 : SchT := .op 4 3 tr32_7_12
def tr32_7_5 : SchT := .alt (.op 3 1 tr32_7_9) (.alt (.op 8 2 tr32_7_10) (.op 10 1 tr32_7_11))
def tr32_7_4 : SchT := .alt (.op 1 2 tr32_7_5) (.alt (.op 3 1 tr32_7_6) (.alt (.op 8 2 tr32_7_7) (.op 10 1 tr32_7_8)))
def tr32_7_3 : SchT := .op 9 3 tr32_7_4
def tr32_7_2 : SchT := .op 7 3 tr32_7_3
def tr32_7_1 : SchT := .op 2 3 tr32_7_2
def tr32_7_0 : SchT := .op 0 3 tr32_7_1
-- (*semigroup/semigroupmade.Tape).Permutations
def cf32 : Cfg := { wio := fun f i => (f == 30 && (i == 0)) || (f == 999999 && (i == 0)), live := fun r => if r = 5 then some [0, 1, 6, 7, 8, 9] else if r = 9 then some [0, 1, 6, 7, 8, 10] else if r = 13 then some [0, 1, 6, 7, 8, 10, 11, 12] else if r = 17 then some [0, 1, 6, 7, 8, 10, 11, 13] else none, dr := fun r => if r = 20 then some [(0, 0), (1, 0), (2, 0), (3, 0), (4, 0), (5, 0), (6, 0), (7, 0), (8, 0), (9, 0), (10, 0), (11, 2)] else if r = 21 then some [(1, 0), (2, 0), (3, 0), (5, 3), (6, 3), (7, 3), (8, 3), (0, 1), (4, 2), (9, 2), (10, 0)] else none, wr := fun r => if r = 7 then [0] else [], dt := fun r => if r = 7 then some (tr32_7_0) else none }
@[simp] theorem wio32 : cf32.wio = fun f i => (f == 30 && (i == 0)) || (f == 999999 && (i == 0)) := rfl
@[simp] theorem live32 : cf32.live = fun r => if r = 5 then some [0, 1, 6, 7, 8, 9] else if r = 9 then some [0, 1, 6, 7, 8, 10] else if r = 13 then some [0, 1, 6, 7, 8, 10, 11, 12] else if r = 17 then some [0, 1, 6, 7, 8, 10, 11, 13] else none := rfl
@[simp] theorem wr32 : cf32.wr = fun r => if r = 7 then [0] else [] := rfl
-- (*semigroup/semigroupmade.Tape).Definite
def cf33 : Cfg := { wio := fun f i => (f == 30 && (i == 0)) || (f == 999999 && (i == 0)), live := fun r => if r = 4 then some [0, 1, 4, 5, 6, 22, 23, 24] else if r = 9 then some [0, 1, 4, 5, 6, 8, 9, 10, 22, 23, 24] else if r = 13 then some [0, 1, 4, 5, 6, 8, 9, 10, 11, 12, 22, 23, 24] else if r = 15 then some [0, 1, 4, 5, 6, 8, 9, 10, 11, 12, 22, 23, 24, 50, 51, 52] else none, dr := fun r => if r = 6 then some [(0, 0), (1, 0), (2, 0), (3, 1), (4, 0), (5, 1), (6, 2), (7, 0), (8, 2)] else none, wr := fun r => if r = 6 then [0] else [] }
@[simp] theorem wio33 : cf33.wio = fun f i => (f == 30 && (i == 0)) || (f == 999999 && (i == 0)) := rfl
@[simp] theorem live33 : cf33.live = fun r => if r = 4 then some [0, 1, 4, 5, 6, 22, 23, 24] else if r = 9 then some [0, 1, 4, 5, 6, 8, 9, 10, 22, 23, 24] else if r = 13 then some [0, 1, 4, 5, 6, 8, 9, 10, 11, 12, 22, 23, 24] else if r = 15 then some [0, 1, 4, 5, 6, 8, 9, 10, 11, 12, 22, 23, 24, 50, 51, 52] else none := rfl
@[simp] theorem wr33 : cf33.wr = fun r => if r = 6 then [0] else [] := rfl
-- (*semigroup/semigroupmade.Tape).Dfa
def cf34 : Cfg := { wio := fun f i => (f == 30 && (i == 0)) || (f == 999999 && (i == 0)), live := fun r => if r = 5 then some [0, 1, 6, 7, 8, 9] else if r = 10 then some [0, 1, 6, 7, 8, 9, 10, 11] else none, dr := fun r => if r = 7 then some [(0, 0), (1, 0), (2, 0), (3, 1), (4, 0), (5, 1), (6, 2), (7, 0), (8, 2)] else none, wr := fun r => if r = 7 then [0] else [] }
@[simp] theorem wio34 : cf34.wio = fun f i => (f == 30 && (i == 0)) || (f == 999999 && (i == 0)) := rfl
@[simp] theorem live34 : cf34.live = fun r => if r = 5 then some [0, 1, 6, 7, 8, 9] else if r = 10 then some [0, 1, 6, 7, 8, 9, 10, 11] else none := rfl
@[simp] theorem wr34 : cf34.wr = fun r => if r = 7 then [0] else [] := rfl
-- semigroup/images.validate
def cf35 : Cfg := { wio := fun f i => (f == 999999 && (i == 0)), live := fun r => none, dr := fun r => none }
@[simp] theorem wio35 : cf35.wio = fun f i => (f == 999999 && (i == 0)) := rfl
@[simp] theorem live35 : cf35.live = fun r => none := rfl
@[simp] theorem wr35 : cf35.wr = fun _ => [] := rfl
-- semigroup/images.list
def cf36 : Cfg := { wio := fun f i => (f == 64 && (i == 0)) || (f == 999999 && (i == 0)), live := fun r => if r = 3 then some [3, 18, 19] else none, dr := fun r => if r = 1 then some [(0, 0), (1, 0), (2, 0), (3, 0), (4, 0), (5, 0), (6, 1), (7, 0), (8, 0), (9, 0), (10, 0), (11, 0)] else none }
@[simp] theorem wio36 : cf36.wio = fun f i => (f == 64 && (i == 0)) || (f == 999999 && (i == 0)) := rfl
@[simp] theorem live36 : cf36.live = fun r => if r = 3 then some [3, 18, 19] else none := rfl
@[simp] theorem wr36 : cf36.wr = fun _ => [] := rfl
-- semigroup/images.newDiagram
def cf37 : Cfg := { wio := fun f i => (f == 999999 && (i == 0)), live := fun r => if r = 3 then some [1, 2, 4, 5, 24, 25, 26] else if r = 9 then some [1, 2, 4, 5, 8, 44, 45, 46] else if r = 13 then some [1, 2, 4, 5, 8, 9, 10, 44, 45, 46, 59, 60] else if r = 20 then some [1, 4, 8, 87, 88] else if r = 24 then some [1, 4, 8, 12, 13, 87, 88, 97, 98, 99] else if r = 27 then some [1, 4, 8, 12, 13, 15, 16, 87, 88, 97, 98, 99, 104, 105, 106] else none, dr := fun r => if r = 11 then some [(0, 0), (1, 0), (2, 0), (3, 0), (4, 0), (5, 1), (6, 0), (7, 2)] else if r = 15 then some [(0, 0), (1, 0), (2, 0), (3, 0), (4, 0), (5, 0), (6, 0), (7, 0), (8, 0), (9, 0), (10, 1), (11, 0), (12, 0), (13, 0), (14, 2)] else if r = 17 then some [(0, 0), (1, 0), (2, 0), (3, 0), (4, 0), (5, 1), (6, 0), (7, 2)] else none, dt := fun r => if r = 7 then some (.op 0 0 (.op 1 0 (.op 2 0 (.op 4 0 (.op 5 0 (.alt (.op 3 1 (.alt (.op 6 1 (.op 7 0 (.op 8 1 (.op 9 2 .nil)))) (.op 8 1 (.op 6 1 (.op 7 0 (.op 9 2 .nil)))))) (.alt (.op 6 1 (.alt (.op 3 1 (.op 7 0 (.op 8 1 (.op 9 2 .nil)))) (.op 8 1 (.op 3 1 (.op 7 0 (.op 9 2 .nil)))))) (.op 8 1 (.alt (.op 3 1 (.op 6 1 (.op 7 0 (.op 9 2 .nil)))) (.op 6 1 (.op 3 1 (.op 7 0 (.op 9 2 .nil))))))))))))) else none }
@[simp] theorem wio37 : cf37.wio = fun f i => (f == 999999 && (i == 0)) := rfl
@[simp] theorem live37 : cf37.live = fun r => if r = 3 then some [1, 2, 4, 5, 24, 25, 26] else if r = 9 then some [1, 2, 4, 5, 8, 44, 45, 46] else if r = 13 then some [1, 2, 4, 5, 8, 9, 10, 44, 45, 46, 59, 60] else if r = 20 then some [1, 4, 8, 87, 88] else if r = 24 then some [1, 4, 8, 12, 13, 87, 88, 97, 98, 99] else if r = 27 then some [1, 4, 8, 12, 13, 15, 16, 87, 88, 97, 98, 99, 104, 105, 106] else none := rfl
@[simp] theorem wr37 : cf37.wr = fun _ => [] := rfl
-- (semigroup/images.diagram).classes
def cf38 : Cfg := { wio := fun f i => (f == 999999 && (i == 0)), live := fun r => if r = 4 then some [1, 4, 5, 15, 16] else if r = 8 then some [1, 4, 5, 6, 15, 16, 24, 25, 26] else none, dr := fun r => none }
@[simp] theorem wio38 : cf38.wio = fun f i => (f == 999999 && (i == 0)) := rfl
@[simp] theorem live38 : cf38.live = fun r => if r = 4 then some [1, 4, 5, 15, 16] else if r = 8 then some [1, 4, 5, 6, 15, 16, 24, 25, 26] else none := rfl
@[simp] theorem wr38 : cf38.wr = fun _ => [] := rfl
-- (semigroup/images.diagram).heights
def cf39 : Cfg := { wio := fun f i => (f == 69 && (i == 0)) || (f == 999999 && (i == 0)), live := fun r => if r = 4 then some [1, 2, 5, 6, 23, 24] else if r = 8 then some [1, 2, 5, 6, 7, 23, 24, 33, 34] else if r = 17 then some [1, 2, 9, 60, 61, 62] else if r = 21 then some [1, 2, 9, 11, 60, 61, 62, 75, 76] else none, dr := fun r => if r = 23 then some [(0, 0), (1, 0), (2, 0), (3, 0), (4, 0), (5, 0), (6, 0), (7, 0), (8, 0), (9, 0), (10, 0), (11, 0), (12, 0), (13, 0), (14, 0), (15, 0), (16, 0), (17, 0), (18, 0)] else if r = 24 then some [(0, 0), (1, 0), (2, 0), (3, 0), (4, 0), (5, 0), (6, 0), (7, 0), (8, 0), (9, 0), (10, 0), (11, 0), (12, 0), (13, 2)] else none, fz := fun r => if r = 14 then some [5] else none }
@[simp] theorem wio39 : cf39.wio = fun f i => (f == 69 && (i == 0)) || (f == 999999 && (i == 0)) := rfl
@[simp] theorem live39 : cf39.live = fun r => if r = 4 then some [1, 2, 5, 6, 23, 24] else if r = 8 then some [1, 2, 5, 6, 7, 23, 24, 33, 34] else if r = 17 then some [1, 2, 9, 60, 61, 62] else if r = 21 then some [1, 2, 9, 11, 60, 61, 62, 75, 76] else none := rfl
@[simp] theorem wr39 : cf39.wr = fun _ => [] := rfl
-- (semigroup/images.diagram).tiles
def cf40 : Cfg := { wio := fun f i => (f == 999999 && (i == 0)), live := fun r => if r = 5 then some [1, 2, 5, 21, 22, 23] else if r = 12 then some [2, 5, 8, 45, 46, 47] else if r = 15 then some [2, 5, 8, 10, 45, 46, 47, 51, 52, 53] else none, dr := fun r => if r = 17 then some [(0, 0), (1, 0), (2, 0), (3, 0), (4, 0), (5, 0), (6, 0), (7, 0), (8, 0), (9, 0), (10, 0), (11, 0), (12, 0), (13, 0), (14, 1), (15, 0)] else none }
@[simp] theorem wio40 : cf40.wio = fun f i => (f == 999999 && (i == 0)) := rfl
@[simp] theorem live40 : cf40.live = fun r => if r = 5 then some [1, 2, 5, 21, 22, 23] else if r = 12 then some [2, 5, 8, 45, 46, 47] else if r = 15 then some [2, 5, 8, 10, 45, 46, 47, 51, 52, 53] else none := rfl
@[simp] theorem wr40 : cf40.wr = fun _ => [] := rfl
-- (semigroup/images.diagram).search
def cf41 : Cfg := { wio := fun f i => (f == 999999 && (i == 0)), live := fun r => if r = 6 then some [2, 6, 7, 8, 9] else if r = 9 then some [2, 6, 7, 8, 9, 38, 39, 40] else none, dr := fun r => if r = 8 then some [(0, 0), (1, 0), (2, 0), (3, 0), (4, 0), (5, 0), (6, 0), (7, 0), (8, 0), (9, 0)] else if r = 13 then some [(0, 0), (1, 0), (2, 0), (3, 0), (4, 0), (5, 0), (6, 0), (7, 0), (8, 0), (9, 0), (10, 0), (11, 0), (12, 1), (13, 0), (14, 0), (15, 0), (16, 2)] else none }
@[simp] theorem wio41 : cf41.wio = fun f i => (f == 999999 && (i == 0)) := rfl
@[simp] theorem live41 : cf41.live = fun r => if r = 6 then some [2, 6, 7, 8, 9] else if r = 9 then some [2, 6, 7, 8, 9, 38, 39, 40] else none := rfl
@[simp] theorem wr41 : cf41.wr = fun _ => [] := rfl
-- semigroup/semigroupref24.Sets
def cf42 : Cfg := { wio := fun f i => (f == 999999 && (i == 0)), live := fun r => if r = 3 then some [3, 22, 23] else if r = 8 then some [3, 6, 7, 22, 23, 29, 30, 31] else if r = 17 then some [10, 53, 54] else if r = 20 then some [10, 12, 53, 54] else none, dr := fun r => if r = 1 then some [(0, 0), (1, 0), (2, 1), (3, 1), (4, 0), (5, 0), (6, 0), (7, 0), (8, 0)] else if r = 20 then some [(0, 0), (1, 0), (2, 0), (3, 0), (4, 0), (5, 0), (6, 0), (7, 0), (8, 0), (9, 0), (10, 0), (11, 0), (12, 1), (13, 0)] else if r = 22 then some [(0, 0), (1, 0), (2, 3), (3, 3), (4, 3), (5, 0), (6, 0), (7, 0), (8, 0), (9, 0), (10, 0), (11, 0), (12, 0), (13, 0), (14, 0), (15, 2), (16, 0), (17, 2)] else none }
@[simp] theorem wio42 : cf42.wio = fun f i => (f == 999999 && (i == 0)) := rfl
@[simp] theorem live42 : cf42.live = fun r => if r = 3 then some [3, 22, 23] else if r = 8 then some [3, 6, 7, 22, 23, 29, 30, 31] else if r = 17 then some [10, 53, 54] else if r = 20 then some [10, 12, 53, 54] else none := rfl
@[simp] theorem wr42 : cf42.wr = fun _ => [] := rfl
-- semigroup/semigroupref24.Reach
def cf43 : Cfg := { wio := fun f i => (f == 999999 && (i == 0)), live := fun r => if r = 4 then some [2, 6, 7, 8, 9] else if r = 7 then some [2, 6, 7, 8, 9, 10] else none, dr := fun r => if r = 9 then some [(0, 0), (1, 0), (2, 0), (3, 0), (4, 0), (5, 0), (6, 1), (7, 0)] else none, wr := fun r => if r = 12 then [6, 46] else [], dt := fun r => if r = 12 then some (.op 0 0 (.op 1 0 (.op 4 0 (.op 5 0 (.op 6 0 (.op 7 0 (.op 8 0 (.op 9 0 (.op 10 0 (.op 11 0 (.alt (.op 2 1 (.alt (.op 3 1 (.op 12 1 (.op 13 0 (.op 14 0 (.op 15 1 (.op 16 2 (.op 17 0 (.op 18 0 .nil)))))))) (.op 12 1 (.op 13 0 (.op 14 0 (.alt (.op 3 1 (.op 15 1 (.op 16 2 (.op 17 0 (.op 18 0 .nil))))) (.op 15 1 (.op 3 1 (.op 16 2 (.op 17 0 (.op 18 0 .nil))))))))))) (.op 12 1 (.op 13 0 (.op 14 0 (.alt (.op 2 1 (.alt (.op 3 1 (.op 15 1 (.op 16 2 (.op 17 0 (.op 18 0 .nil))))) (.op 15 1 (.op 3 1 (.op 16 2 (.op 17 0 (.op 18 0 .nil))))))) (.op 15 1 (.op 2 1 (.op 3 1 (.op 16 2 (.op 17 0 (.op 18 0 .nil))))))))))))))))))))) else none }
@[simp] theorem wio43 : cf43.wio = fun f i => (f == 999999 && (i == 0)) := rfl
@[simp] theorem live43 : cf43.live = fun r => if r = 4 then some [2, 6, 7, 8, 9] else if r = 7 then some [2, 6, 7, 8, 9, 10] else none := rfl
@[simp] theorem wr43 : cf43.wr = fun r => if r = 12 then [6, 46] else [] := rfl
-- semigroup/semigroupref03.Canonical
def cf44 : Cfg := { wio := fun f i => (f == 999999 && (i == 0)), live := fun r => if r = 7 then some [3, 4, 5, 17, 18, 19] else none, dr := fun r => none }
@[simp] theorem wio44 : cf44.wio = fun f i => (f == 999999 && (i == 0)) := rfl
@[simp] theorem live44 : cf44.live = fun r => if r = 7 then some [3, 4, 5, 17, 18, 19] else none := rfl
@[simp] theorem wr44 : cf44.wr = fun _ => [] := rfl
-- semigroup/semigroupref03.Same
def cf45 : Cfg := { wio := fun f i => (f == 999999 && (i == 0)), live := fun r => if r = 4 then some [0, 1, 12, 13] else none, dr := fun r => if r = 6 then some [(0, 0), (1, 0), (2, 0), (3, 0), (4, 0), (5, 0), (6, 0), (7, 0), (8, 0)] else none }
@[simp] theorem wio45 : cf45.wio = fun f i => (f == 999999 && (i == 0)) := rfl
@[simp] theorem live45 : cf45.live = fun r => if r = 4 then some [0, 1, 12, 13] else none := rfl
@[simp] theorem wr45 : cf45.wr = fun _ => [] := rfl
-- semigroup/semigroupref03.SameRows
def cf46 : Cfg := { wio := fun f i => (f == 999999 && (i == 0)), live := fun r => if r = 4 then some [0, 1, 12, 13] else none, dr := fun r => if r = 6 then some [(0, 0), (1, 0), (2, 0), (3, 0), (4, 0), (5, 0), (6, 0), (7, 0), (8, 1), (9, 0)] else none }
@[simp] theorem wio46 : cf46.wio = fun f i => (f == 999999 && (i == 0)) := rfl
@[simp] theorem live46 : cf46.live = fun r => if r = 4 then some [0, 1, 12, 13] else none := rfl
@[simp] theorem wr46 : cf46.wr = fun _ => [] := rfl
-- semigroup/semigroupref01.Same
def cf47 : Cfg := { wio := fun f i => (f == 999999 && (i == 0)), live := fun r => if r = 4 then some [0, 1, 12, 13] else none, dr := fun r => if r = 6 then some [(0, 0), (1, 0), (2, 0), (3, 0), (4, 0), (5, 0), (6, 0), (7, 0), (8, 0)] else none }
@[simp] theorem wio47 : cf47.wio = fun f i => (f == 999999 && (i == 0)) := rfl
@[simp] theorem live47 : cf47.live = fun r => if r = 4 then some [0, 1, 12, 13] else none := rfl
@[simp] theorem wr47 : cf47.wr = fun _ => [] := rfl
-- semigroup/semigrouplaw24.example
def cf48 : Cfg := { wio := fun f i => (f == 999999 && (i == 0)), live := fun r => none, dr := fun r => none }
@[simp] theorem wio48 : cf48.wio = fun f i => (f == 999999 && (i == 0)) := rfl
@[simp] theorem live48 : cf48.live = fun r => none := rfl
@[simp] theorem wr48 : cf48.wr = fun _ => [] := rfl
-- semigroup/images.isSet
def cf49 : Cfg := { wio := fun f i => (f == 999999 && (i == 0)), live := fun r => none, dr := fun r => none }
@[simp] theorem wio49 : cf49.wio = fun f i => (f == 999999 && (i == 0)) := rfl
@[simp] theorem live49 : cf49.live = fun r => none := rfl
@[simp] theorem wr49 : cf49.wr = fun _ => [] := rfl
-- semigroup/word.Valid
def cf50 : Cfg := { wio := fun f i => (f == 999999 && (i == 0)), live := fun r => if r = 4 then some [0, 1, 18, 19] else none, dr := fun r => none }
@[simp] theorem wio50 : cf50.wio = fun f i => (f == 999999 && (i == 0)) := rfl
@[simp] theorem live50 : cf50.live = fun r => if r = 4 then some [0, 1, 18, 19] else none := rfl
@[simp] theorem wr50 : cf50.wr = fun _ => [] := rfl
-- semigroup/images.move
def cf51 : Cfg := { wio := fun f i => (f == 999999 && (i == 0)), live := fun r => if r = 3 then some [1, 2, 7, 11, 12, 13] else none, dr := fun r => none }
@[simp] theorem wio51 : cf51.wio = fun f i => (f == 999999 && (i == 0)) := rfl
@[simp] theorem live51 : cf51.live = fun r => if r = 3 then some [1, 2, 7, 11, 12, 13] else none := rfl
@[simp] theorem wr51 : cf51.wr = fun _ => [] := rfl
-- slices.Equal[[]int,int]
def cf52 : Cfg := { wio := fun f i => (f == 999999 && (i == 0)), live := fun r => if r = 4 then some [0, 1, 12, 13] else none, dr := fun r => if r = 6 then some [(0, 0), (1, 0), (2, 0), (3, 0), (4, 0), (5, 0), (6, 0), (7, 0), (8, 0)] else none }
@[simp] theorem wio52 : cf52.wio = fun f i => (f == 999999 && (i == 0)) := rfl
@[simp] theorem live52 : cf52.live = fun r => if r = 4 then some [0, 1, 12, 13] else none := rfl
@[simp] theorem wr52 : cf52.wr = fun _ => [] := rfl
-- slices.EqualFunc[[][]int,[][]int,[]int,[]int]
def cf53 : Cfg := { wio := fun f i => (f == 999999 && (i == 0)), live := fun r => if r = 4 then some [1, 2, 15, 16, 17] else none, dr := fun r => none }
@[simp] theorem wio53 : cf53.wio = fun f i => (f == 999999 && (i == 0)) := rfl
@[simp] theorem live53 : cf53.live = fun r => if r = 4 then some [1, 2, 15, 16, 17] else none := rfl
@[simp] theorem wr53 : cf53.wr = fun _ => [] := rfl
-- slices.Equal[[]string,string]
def cf54 : Cfg := { wio := fun f i => (f == 999999 && (i == 0)), live := fun r => if r = 4 then some [0, 1, 12, 13] else none, dr := fun r => if r = 6 then some [(0, 0), (1, 0), (2, 0), (3, 0), (4, 0), (5, 0), (6, 0), (7, 0), (8, 0)] else none }
@[simp] theorem wio54 : cf54.wio = fun f i => (f == 999999 && (i == 0)) := rfl
@[simp] theorem live54 : cf54.live = fun r => if r = 4 then some [0, 1, 12, 13] else none := rfl
@[simp] theorem wr54 : cf54.wr = fun _ => [] := rfl
-- semigroup/semigroupref24.IsSet
def cf55 : Cfg := { wio := fun f i => (f == 999999 && (i == 0)), live := fun r => none, dr := fun r => none }
@[simp] theorem wio55 : cf55.wio = fun f i => (f == 999999 && (i == 0)) := rfl
@[simp] theorem live55 : cf55.live = fun r => none := rfl
@[simp] theorem wr55 : cf55.wr = fun _ => [] := rfl
-- semigroup/semigroupref24.Word
def cf56 : Cfg := { wio := fun f i => (f == 999999 && (i == 0)), live := fun r => if r = 2 then some [1, 2, 3, 7] else none, dr := fun r => if r = 4 then some [(0, 0), (1, 0), (2, 0), (3, 0), (4, 0), (5, 0), (6, 0), (7, 1), (8, 0)] else none }
@[simp] theorem wio56 : cf56.wio = fun f i => (f == 999999 && (i == 0)) := rfl
@[simp] theorem live56 : cf56.live = fun r => if r = 2 then some [1, 2, 3, 7] else none := rfl
@[simp] theorem wr56 : cf56.wr = fun _ => [] := rfl
-- semigroup/images.reach
def cf57 : Cfg := { wio := fun f i => (f == 999999 && (i == 0)), live := fun r => if r = 5 then some [2, 6, 7, 8, 9] else if r = 8 then some [2, 6, 7, 8, 9, 30, 31] else none, dr := fun r => if r = 10 then some [(0, 0), (1, 0), (2, 0), (3, 0), (4, 0), (5, 0), (6, 1), (7, 0)] else if r = 14 then some [(0, 0), (1, 0), (2, 0), (3, 0), (4, 0), (5, 0), (6, 0), (7, 0), (8, 1), (9, 0), (10, 0), (11, 1), (12, 2), (13, 0)] else none }
@[simp] theorem wio57 : cf57.wio = fun f i => (f == 999999 && (i == 0)) := rfl
@[simp] theorem live57 : cf57.live = fun r => if r = 5 then some [2, 6, 7, 8, 9] else if r = 8 then some [2, 6, 7, 8, 9, 30, 31] else none := rfl
@[simp] theorem wr57 : cf57.wr = fun _ => [] := rfl
-- semigroup/images.contains
def cf58 : Cfg := { wio := fun f i => (f == 999999 && (i == 0)), live := fun r => none, dr := fun r => none }
@[simp] theorem wio58 : cf58.wio = fun f i => (f == 999999 && (i == 0)) := rfl
@[simp] theorem live58 : cf58.live = fun r => none := rfl
@[simp] theorem wr58 : cf58.wr = fun _ => [] := rfl
-- semigroup/semigroupref01.MayLetters
def cf59 : Cfg := { wio := fun f i => (f == 999999 && (i == 0)), live := fun r => none, dr := fun r => none }
@[simp] theorem wio59 : cf59.wio = fun f i => (f == 999999 && (i == 0)) := rfl
@[simp] theorem live59 : cf59.live = fun r => none := rfl
@[simp] theorem wr59 : cf59.wr = fun _ => [] := rfl
-- semigroup/semigroupref07.Validate
def cf60 : Cfg := { wio := fun f i => (f == 999999 && (i == 0)), live := fun r => if r = 9 then some [1, 3, 38, 39, 40] else if r = 14 then some [1, 3, 38, 39, 40, 49, 50, 51] else none, dr := fun r => none }
@[simp] theorem wio60 : cf60.wio = fun f i => (f == 999999 && (i == 0)) := rfl
@[simp] theorem live60 : cf60.live = fun r => if r = 9 then some [1, 3, 38, 39, 40] else if r = 14 then some [1, 3, 38, 39, 40, 49, 50, 51] else none := rfl
@[simp] theorem wr60 : cf60.wr = fun _ => [] := rfl
-- semigroup/semigroupmade.Words
def cf61 : Cfg := { wio := fun f i => (f == 999999 && (i == 0)), live := fun r => if r = 3 then some [0, 1, 5, 6] else if r = 6 then some [0, 1, 5, 6, 7] else none, dr := fun r => if r = 8 then some [(0, 0), (1, 0), (2, 0), (3, 0), (4, 0), (5, 0), (6, 0), (7, 0), (8, 1), (9, 0), (10, 0), (11, 1), (12, 2), (13, 0)] else none }
@[simp] theorem wio61 : cf61.wio = fun f i => (f == 999999 && (i == 0)) := rfl
@[simp] theorem live61 : cf61.live = fun r => if r = 3 then some [0, 1, 5, 6] else if r = 6 then some [0, 1, 5, 6, 7] else none := rfl
@[simp] theorem wr61 : cf61.wr = fun _ => [] := rfl
-- semigroup/dfa.Validate
def cf62 : Cfg := { wio := fun f i => (f == 999999 && (i == 0)), live := fun r => if r = 9 then some [1, 3, 38, 39, 40] else if r = 14 then some [1, 3, 38, 39, 40, 49, 50, 51] else none, dr := fun r => none }
@[simp] theorem wio62 : cf62.wio = fun f i => (f == 999999 && (i == 0)) := rfl
@[simp] theorem live62 : cf62.live = fun r => if r = 9 then some [1, 3, 38, 39, 40] else if r = 14 then some [1, 3, 38, 39, 40, 49, 50, 51] else none := rfl
@[simp] theorem wr62 : cf62.wr = fun _ => [] := rfl
-- slices.Contains[[]int,int]
def cf63 : Cfg := { wio := fun f i => (f == 999999 && (i == 0)), live := fun r => none, dr := fun r => none }
@[simp] theorem wio63 : cf63.wio = fun f i => (f == 999999 && (i == 0)) := rfl
@[simp] theorem live63 : cf63.live = fun r => none := rfl
@[simp] theorem wr63 : cf63.wr = fun _ => [] := rfl
-- semigroup/images.list$1
def cf65 : Cfg := { wio := fun f i => (f == 999999 && (i == 0)), live := fun r => none, dr := fun r => none }
@[simp] theorem wio65 : cf65.wio = fun f i => (f == 999999 && (i == 0)) := rfl
@[simp] theorem live65 : cf65.live = fun r => none := rfl
@[simp] theorem wr65 : cf65.wr = fun _ => [] := rfl
-- cmp.Or[int]
def cf66 : Cfg := { wio := fun f i => (f == 999999 && (i == 0)), live := fun r => if r = 3 then some [3, 6, 7, 8] else none, dr := fun r => none }
@[simp] theorem wio66 : cf66.wio = fun f i => (f == 999999 && (i == 0)) := rfl
@[simp] theorem live66 : cf66.live = fun r => if r = 3 then some [3, 6, 7, 8] else none := rfl
@[simp] theorem wr66 : cf66.wr = fun _ => [] := rfl
-- cmp.Compare[int]
def cf67 : Cfg := { wio := fun f i => (f == 999999 && (i == 0)), live := fun r => none, dr := fun r => none }
@[simp] theorem wio67 : cf67.wio = fun f i => (f == 999999 && (i == 0)) := rfl
@[simp] theorem live67 : cf67.live = fun r => none := rfl
@[simp] theorem wr67 : cf67.wr = fun _ => [] := rfl
-- semigroup/images.size
def cf68 : Cfg := { wio := fun f i => (f == 999999 && (i == 0)), live := fun r => none, dr := fun r => none }
@[simp] theorem wio68 : cf68.wio = fun f i => (f == 999999 && (i == 0)) := rfl
@[simp] theorem live68 : cf68.live = fun r => none := rfl
@[simp] theorem wr68 : cf68.wr = fun _ => [] := rfl
-- slices.SortStableFunc[[]int,int]
def cf69 : Cfg := { wio := fun f i => (f == 79 && (i == 0)) || (f == 999999 && (i == 0)), live := fun r => none, dr := fun r => none }
@[simp] theorem wio69 : cf69.wio = fun f i => (f == 79 && (i == 0)) || (f == 999999 && (i == 0)) := rfl
@[simp] theorem live69 : cf69.live = fun r => none := rfl
@[simp] theorem wr69 : cf69.wr = fun _ => [] := rfl
-- (semigroup/images.diagram).heights$1
def cf70 : Cfg := { wio := fun f i => (f == 999999 && (i == 0)), live := fun r => none, dr := fun r => if r = 1 then some [(0, 0), (1, 0), (2, 0), (3, 0), (4, 0), (5, 0), (6, 0), (7, 0), (8, 1), (9, 0)] else none }
@[simp] theorem wio70 : cf70.wio = fun f i => (f == 999999 && (i == 0)) := rfl
@[simp] theorem live70 : cf70.live = fun r => none := rfl
@[simp] theorem wr70 : cf70.wr = fun _ => [] := rfl
-- semigroup/semigroupref24.All
def cf71 : Cfg := { wio := fun f i => (f == 999999 && (i == 0)), live := fun r => none, dr := fun r => none }
@[simp] theorem wio71 : cf71.wio = fun f i => (f == 999999 && (i == 0)) := rfl
@[simp] theorem live71 : cf71.live = fun r => none := rfl
@[simp] theorem wr71 : cf71.wr = fun _ => [] := rfl
-- semigroup/semigroupref24.before
def cf72 : Cfg := { wio := fun f i => (f == 999999 && (i == 0)), live := fun r => none, dr := fun r => none }
@[simp] theorem wio72 : cf72.wio = fun f i => (f == 999999 && (i == 0)) := rfl
@[simp] theorem live72 : cf72.live = fun r => none := rfl
@[simp] theorem wr72 : cf72.wr = fun _ => [] := rfl
-- semigroup/semigroupref24.Letter
def cf73 : Cfg := { wio := fun f i => (f == 999999 && (i == 0)), live := fun r => if r = 3 then some [1, 2, 3, 7, 11, 12] else none, dr := fun r => none }
@[simp] theorem wio73 : cf73.wio = fun f i => (f == 999999 && (i == 0)) := rfl
@[simp] theorem live73 : cf73.live = fun r => if r = 3 then some [1, 2, 3, 7, 11, 12] else none := rfl
@[simp] theorem wr73 : cf73.wr = fun _ => [] := rfl
-- slices.Index[[]int,int]
def cf74 : Cfg := { wio := fun f i => (f == 999999 && (i == 0)), live := fun r => if r = 2 then some [0, 1, 7, 8] else none, dr := fun r => none }
@[simp] theorem wio74 : cf74.wio = fun f i => (f == 999999 && (i == 0)) := rfl
@[simp] theorem live74 : cf74.live = fun r => if r = 2 then some [0, 1, 7, 8] else none := rfl
@[simp] theorem wr74 : cf74.wr = fun _ => [] := rfl
-- math/bits.Len
def cf76 : Cfg := { wio := fun f i => (f == 999999 && (i == 0)), live := fun r => none, dr := fun r => none }
@[simp] theorem wio76 : cf76.wio = fun f i => (f == 999999 && (i == 0)) := rfl
@[simp] theorem live76 : cf76.live = fun r => none := rfl
@[simp] theorem wr76 : cf76.wr = fun _ => [] := rfl
-- cmp.isNaN[int]
def cf77 : Cfg := { wio := fun f i => (f == 999999 && (i == 0)), live := fun r => none, dr := fun r => none }
@[simp] theorem wio77 : cf77.wio = fun f i => (f == 999999 && (i == 0)) := rfl
@[simp] theorem live77 : cf77.live = fun r => none := rfl
@[simp] theorem wr77 : cf77.wr = fun _ => [] := rfl
-- math/bits.OnesCount
def cf78 : Cfg := { wio := fun f i => (f == 999999 && (i == 0)), live := fun r => none, dr := fun r => none }
@[simp] theorem wio78 : cf78.wio = fun f i => (f == 999999 && (i == 0)) := rfl
@[simp] theorem live78 : cf78.live = fun r => none := rfl
@[simp] theorem wr78 : cf78.wr = fun _ => [] := rfl
-- slices.stableCmpFunc[int]
def cf79 : Cfg := { wio := fun f i => (f == 80 && (i == 0)) || (f == 92 && (i == 0)) || (f == 999999 && (i == 0)), live := fun r => if r = 2 then some [0, 1, 2, 6, 7, 8] else if r = 7 then some [0, 1, 2, 6] else if r = 9 then some [0, 1, 2, 6, 7, 8] else none, dr := fun r => none }
@[simp] theorem wio79 : cf79.wio = fun f i => (f == 80 && (i == 0)) || (f == 92 && (i == 0)) || (f == 999999 && (i == 0)) := rfl
@[simp] theorem live79 : cf79.live = fun r => if r = 2 then some [0, 1, 2, 6, 7, 8] else if r = 7 then some [0, 1, 2, 6] else if r = 9 then some [0, 1, 2, 6, 7, 8] else none := rfl
@[simp] theorem wr79 : cf79.wr = fun _ => [] := rfl
-- slices.insertionSortCmpFunc[int]
def cf80 : Cfg := { wio := fun f i => (f == 999999 && (i == 0)), live := fun r => if r = 1 then some [0, 1, 2, 3, 8] else if r = 4 then some [0, 1, 2, 3, 8, 9] else none, dr := fun r => if r = 4 then some [(0, 0), (1, 0), (2, 0), (3, 0), (4, 0), (5, 0), (6, 0), (7, 0), (8, 0), (9, 0), (10, 0), (11, 0), (12, 0), (13, 0), (14, 1), (15, 0), (16, 0)] else if r = 6 then some [(0, 0), (1, 0), (2, 3), (3, 3), (4, 3), (5, 0), (6, 0), (7, 0), (8, 0), (9, 0), (10, 0), (11, 0), (12, 0), (13, 0), (14, 0), (15, 2), (16, 0), (17, 2)] else none }
@[simp] theorem wio80 : cf80.wio = fun f i => (f == 999999 && (i == 0)) := rfl
@[simp] theorem live80 : cf80.live = fun r => if r = 1 then some [0, 1, 2, 3, 8] else if r = 4 then some [0, 1, 2, 3, 8, 9] else none := rfl
@[simp] theorem wr80 : cf80.wr = fun _ => [] := rfl
-- math/bits.Len32
def cf88 : Cfg := { wio := fun f i => (f == 999999 && (i == 0)), live := fun r => none, dr := fun r => none }
@[simp] theorem wio88 : cf88.wio = fun f i => (f == 999999 && (i == 0)) := rfl
@[simp] theorem live88 : cf88.live = fun r => none := rfl
@[simp] theorem wr88 : cf88.wr = fun _ => [] := rfl
-- math/bits.Len64
def cf89 : Cfg := { wio := fun f i => (f == 999999 && (i == 0)), live := fun r => none, dr := fun r => none }
@[simp] theorem wio89 : cf89.wio = fun f i => (f == 999999 && (i == 0)) := rfl
@[simp] theorem live89 : cf89.live = fun r => none := rfl
@[simp] theorem wr89 : cf89.wr = fun _ => [] := rfl
-- math/bits.OnesCount32
def cf90 : Cfg := { wio := fun f i => (f == 999999 && (i == 0)), live := fun r => none, dr := fun r => if r = 1 then some [(0, 0), (1, 0), (2, 0), (3, 0), (4, 0), (5, 0), (6, 0), (7, 0), (8, 0), (9, 0), (10, 0), (11, 0), (12, 0), (13, 0), (14, 0), (15, 0), (16, 0), (17, 0), (18, 0)] else none }
@[simp] theorem wio90 : cf90.wio = fun f i => (f == 999999 && (i == 0)) := rfl
@[simp] theorem live90 : cf90.live = fun r => none := rfl
@[simp] theorem wr90 : cf90.wr = fun _ => [] := rfl
-- math/bits.OnesCount64
def cf91 : Cfg := { wio := fun f i => (f == 999999 && (i == 0)), live := fun r => none, dr := fun r => none }
@[simp] theorem wio91 : cf91.wio = fun f i => (f == 999999 && (i == 0)) := rfl
@[simp] theorem live91 : cf91.live = fun r => none := rfl
@[simp] theorem wr91 : cf91.wr = fun _ => [] := rfl
-- slices.symMergeCmpFunc[int]
def cf92 : Cfg := { wio := fun f i => (f == 98 && (i == 0)) || (f == 92 && (i == 0)) || (f == 999999 && (i == 0)), live := fun r => if r = 3 then some [0, 1, 4, 10, 11] else if r = 9 then some [0, 10, 13] else if r = 15 then some [0, 2, 4, 14, 15] else if r = 21 then some [0, 14, 17] else if r = 33 then some [0, 1, 2, 3, 4, 18, 19, 20, 21, 22] else none, dr := fun r => if r = 5 then some [(0, 0), (1, 0), (2, 0), (3, 0), (4, 0), (5, 0), (6, 0), (7, 0), (8, 0), (9, 1), (10, 0)] else if r = 11 then some [(0, 0), (1, 0), (2, 3), (3, 3), (4, 3), (5, 0), (6, 0), (7, 0), (8, 0), (9, 0), (10, 0), (11, 0), (12, 0), (13, 0), (14, 0), (15, 2), (16, 0), (17, 2)] else if r = 17 then some [(0, 0), (1, 0), (2, 0), (3, 0), (4, 0), (5, 0), (6, 0), (7, 0), (8, 0), (9, 1), (10, 0), (11, 0)] else if r = 23 then some [(0, 0), (1, 0), (2, 3), (3, 3), (4, 3), (5, 0), (6, 0), (7, 0), (8, 0), (9, 0), (10, 0), (11, 0), (12, 0), (13, 0), (14, 0), (15, 2), (16, 0), (17, 2)] else if r = 35 then some [(0, 0), (1, 0), (2, 0), (3, 0), (4, 0), (5, 0), (6, 0), (7, 0), (8, 0), (9, 0), (10, 0), (11, 1), (12, 0), (13, 0)] else none }
@[simp] theorem wio92 : cf92.wio = fun f i => (f == 98 && (i == 0)) || (f == 92 && (i == 0)) || (f == 999999 && (i == 0)) := rfl
@[simp] theorem live92 : cf92.live = fun r => if r = 3 then some [0, 1, 4, 10, 11] else if r = 9 then some [0, 10, 13] else if r = 15 then some [0, 2, 4, 14, 15] else if r = 21 then some [0, 14, 17] else if r = 33 then some [0, 1, 2, 3, 4, 18, 19, 20, 21, 22] else none := rfl
@[simp] theorem wr92 : cf92.wr = fun _ => [] := rfl
-- slices.rotateCmpFunc[int]
def cf98 : Cfg := { wio := fun f i => (f == 100 && (i == 0)) || (f == 999999 && (i == 0)), live := fun r => if r = 2 then some [0, 2, 4, 10, 11] else none, dr := fun r => none }
@[simp] theorem wio98 : cf98.wio = fun f i => (f == 100 && (i == 0)) || (f == 999999 && (i == 0)) := rfl
@[simp] theorem live98 : cf98.live = fun r => if r = 2 then some [0, 2, 4, 10, 11] else none := rfl
@[simp] theorem wr98 : cf98.wr = fun _ => [] := rfl
-- slices.swapRangeCmpFunc[int]
def cf100 : Cfg := { wio := fun f i => (f == 999999 && (i == 0)), live := fun r => if r = 1 then some [0, 1, 2, 3, 10] else none, dr := fun r => if r = 3 then some [(0, 0), (1, 0), (2, 0), (3, 0), (4, 3), (5, 3), (6, 3), (7, 3), (8, 0), (9, 0), (10, 0), (11, 0), (12, 0), (13, 0), (14, 0), (15, 0), (16, 0), (17, 0), (18, 0), (19, 0), (20, 0), (21, 2), (22, 0), (23, 2)] else none }
@[simp] theorem wio100 : cf100.wio = fun f i => (f == 999999 && (i == 0)) := rfl
@[simp] theorem live100 : cf100.live = fun r => if r = 1 then some [0, 1, 2, 3, 10] else none := rfl
@[simp] theorem wr100 : cf100.wr = fun _ => [] := rfl

def cfAll (f : FuncId) : Option Cfg :=
  if f = 3 then some cf3 else
  if f = 4 then some cf4 else
  if f = 5 then some cf5 else
  if f = 6 then some cf6 else
  if f = 8 then some cf8 else
  if f = 9 then some cf9 else
  if f = 10 then some cf10 else
  if f = 11 then some cf11 else
  if f = 12 then some cf12 else
  if f = 13 then some cf13 else
  if f = 14 then some cf14 else
  if f = 15 then some cf15 else
  if f = 16 then some cf16 else
  if f = 17 then some cf17 else
  if f = 18 then some cf18 else
  if f = 19 then some cf19 else
  if f = 20 then some cf20 else
  if f = 21 then some cf21 else
  if f = 22 then some cf22 else
  if f = 23 then some cf23 else
  if f = 24 then some cf24 else
  if f = 25 then some cf25 else
  if f = 26 then some cf26 else
  if f = 27 then some cf27 else
  if f = 28 then some cf28 else
  if f = 29 then some cf29 else
  if f = 30 then some cf30 else
  if f = 31 then some cf31 else
  if f = 32 then some cf32 else
  if f = 33 then some cf33 else
  if f = 34 then some cf34 else
  if f = 35 then some cf35 else
  if f = 36 then some cf36 else
  if f = 37 then some cf37 else
  if f = 38 then some cf38 else
  if f = 39 then some cf39 else
  if f = 40 then some cf40 else
  if f = 41 then some cf41 else
  if f = 42 then some cf42 else
  if f = 43 then some cf43 else
  if f = 44 then some cf44 else
  if f = 45 then some cf45 else
  if f = 46 then some cf46 else
  if f = 47 then some cf47 else
  if f = 48 then some cf48 else
  if f = 49 then some cf49 else
  if f = 50 then some cf50 else
  if f = 51 then some cf51 else
  if f = 52 then some cf52 else
  if f = 53 then some cf53 else
  if f = 54 then some cf54 else
  if f = 55 then some cf55 else
  if f = 56 then some cf56 else
  if f = 57 then some cf57 else
  if f = 58 then some cf58 else
  if f = 59 then some cf59 else
  if f = 60 then some cf60 else
  if f = 61 then some cf61 else
  if f = 62 then some cf62 else
  if f = 63 then some cf63 else
  if f = 65 then some cf65 else
  if f = 66 then some cf66 else
  if f = 67 then some cf67 else
  if f = 68 then some cf68 else
  if f = 69 then some cf69 else
  if f = 70 then some cf70 else
  if f = 71 then some cf71 else
  if f = 72 then some cf72 else
  if f = 73 then some cf73 else
  if f = 74 then some cf74 else
  if f = 76 then some cf76 else
  if f = 77 then some cf77 else
  if f = 78 then some cf78 else
  if f = 79 then some cf79 else
  if f = 80 then some cf80 else
  if f = 88 then some cf88 else
  if f = 89 then some cf89 else
  if f = 90 then some cf90 else
  if f = 91 then some cf91 else
  if f = 92 then some cf92 else
  if f = 98 then some cf98 else
  if f = 100 then some cf100 else none
theorem cfn3 : cfAll 3 = some cf3 := rfl
theorem cfn4 : cfAll 4 = some cf4 := rfl
theorem cfn5 : cfAll 5 = some cf5 := rfl
theorem cfn6 : cfAll 6 = some cf6 := rfl
theorem cfn8 : cfAll 8 = some cf8 := rfl
theorem cfn9 : cfAll 9 = some cf9 := rfl
theorem cfn10 : cfAll 10 = some cf10 := rfl
theorem cfn11 : cfAll 11 = some cf11 := rfl
theorem cfn12 : cfAll 12 = some cf12 := rfl
theorem cfn13 : cfAll 13 = some cf13 := rfl
theorem cfn14 : cfAll 14 = some cf14 := rfl
theorem cfn15 : cfAll 15 = some cf15 := rfl
theorem cfn16 : cfAll 16 = some cf16 := rfl
theorem cfn17 : cfAll 17 = some cf17 := rfl
theorem cfn18 : cfAll 18 = some cf18 := rfl
theorem cfn19 : cfAll 19 = some cf19 := rfl
theorem cfn20 : cfAll 20 = some cf20 := rfl
theorem cfn21 : cfAll 21 = some cf21 := rfl
theorem cfn22 : cfAll 22 = some cf22 := rfl
theorem cfn23 : cfAll 23 = some cf23 := rfl
theorem cfn24 : cfAll 24 = some cf24 := rfl
theorem cfn25 : cfAll 25 = some cf25 := rfl
theorem cfn26 : cfAll 26 = some cf26 := rfl
theorem cfn27 : cfAll 27 = some cf27 := rfl
theorem cfn28 : cfAll 28 = some cf28 := rfl
theorem cfn29 : cfAll 29 = some cf29 := rfl
theorem cfn30 : cfAll 30 = some cf30 := rfl
theorem cfn31 : cfAll 31 = some cf31 := rfl
theorem cfn32 : cfAll 32 = some cf32 := rfl
theorem cfn33 : cfAll 33 = some cf33 := rfl
theorem cfn34 : cfAll 34 = some cf34 := rfl
theorem cfn35 : cfAll 35 = some cf35 := rfl
theorem cfn36 : cfAll 36 = some cf36 := rfl
theorem cfn37 : cfAll 37 = some cf37 := rfl
theorem cfn38 : cfAll 38 = some cf38 := rfl
theorem cfn39 : cfAll 39 = some cf39 := rfl
theorem cfn40 : cfAll 40 = some cf40 := rfl
theorem cfn41 : cfAll 41 = some cf41 := rfl
theorem cfn42 : cfAll 42 = some cf42 := rfl
theorem cfn43 : cfAll 43 = some cf43 := rfl
theorem cfn44 : cfAll 44 = some cf44 := rfl
theorem cfn45 : cfAll 45 = some cf45 := rfl
theorem cfn46 : cfAll 46 = some cf46 := rfl
theorem cfn47 : cfAll 47 = some cf47 := rfl
theorem cfn48 : cfAll 48 = some cf48 := rfl
theorem cfn49 : cfAll 49 = some cf49 := rfl
theorem cfn50 : cfAll 50 = some cf50 := rfl
theorem cfn51 : cfAll 51 = some cf51 := rfl
theorem cfn52 : cfAll 52 = some cf52 := rfl
theorem cfn53 : cfAll 53 = some cf53 := rfl
theorem cfn54 : cfAll 54 = some cf54 := rfl
theorem cfn55 : cfAll 55 = some cf55 := rfl
theorem cfn56 : cfAll 56 = some cf56 := rfl
theorem cfn57 : cfAll 57 = some cf57 := rfl
theorem cfn58 : cfAll 58 = some cf58 := rfl
theorem cfn59 : cfAll 59 = some cf59 := rfl
theorem cfn60 : cfAll 60 = some cf60 := rfl
theorem cfn61 : cfAll 61 = some cf61 := rfl
theorem cfn62 : cfAll 62 = some cf62 := rfl
theorem cfn63 : cfAll 63 = some cf63 := rfl
theorem cfn65 : cfAll 65 = some cf65 := rfl
theorem cfn66 : cfAll 66 = some cf66 := rfl
theorem cfn67 : cfAll 67 = some cf67 := rfl
theorem cfn68 : cfAll 68 = some cf68 := rfl
theorem cfn69 : cfAll 69 = some cf69 := rfl
theorem cfn70 : cfAll 70 = some cf70 := rfl
theorem cfn71 : cfAll 71 = some cf71 := rfl
theorem cfn72 : cfAll 72 = some cf72 := rfl
theorem cfn73 : cfAll 73 = some cf73 := rfl
theorem cfn74 : cfAll 74 = some cf74 := rfl
theorem cfn76 : cfAll 76 = some cf76 := rfl
theorem cfn77 : cfAll 77 = some cf77 := rfl
theorem cfn78 : cfAll 78 = some cf78 := rfl
theorem cfn79 : cfAll 79 = some cf79 := rfl
theorem cfn80 : cfAll 80 = some cf80 := rfl
theorem cfn88 : cfAll 88 = some cf88 := rfl
theorem cfn89 : cfAll 89 = some cf89 := rfl
theorem cfn90 : cfAll 90 = some cf90 := rfl
theorem cfn91 : cfAll 91 = some cf91 := rfl
theorem cfn92 : cfAll 92 = some cf92 := rfl
theorem cfn98 : cfAll 98 = some cf98 := rfl
theorem cfn100 : cfAll 100 = some cf100 := rfl
theorem fn3 : Try.prog.funcs[3]? = some Try.f3 := by kernel_rfl
theorem fn4 : Try.prog.funcs[4]? = some Try.f4 := by kernel_rfl
theorem fn5 : Try.prog.funcs[5]? = some Try.f5 := by kernel_rfl
theorem fn6 : Try.prog.funcs[6]? = some Try.f6 := by kernel_rfl
theorem fn8 : Try.prog.funcs[8]? = some Try.f8 := by kernel_rfl
theorem fn9 : Try.prog.funcs[9]? = some Try.f9 := by kernel_rfl
theorem fn10 : Try.prog.funcs[10]? = some Try.f10 := by kernel_rfl
theorem fn11 : Try.prog.funcs[11]? = some Try.f11 := by kernel_rfl
theorem fn12 : Try.prog.funcs[12]? = some Try.f12 := by kernel_rfl
theorem fn13 : Try.prog.funcs[13]? = some Try.f13 := by kernel_rfl
theorem fn14 : Try.prog.funcs[14]? = some Try.f14 := by kernel_rfl
theorem fn15 : Try.prog.funcs[15]? = some Try.f15 := by kernel_rfl
theorem fn16 : Try.prog.funcs[16]? = some Try.f16 := by kernel_rfl
theorem fn17 : Try.prog.funcs[17]? = some Try.f17 := by kernel_rfl
theorem fn18 : Try.prog.funcs[18]? = some Try.f18 := by kernel_rfl
theorem fn19 : Try.prog.funcs[19]? = some Try.f19 := by kernel_rfl
theorem fn20 : Try.prog.funcs[20]? = some Try.f20 := by kernel_rfl
theorem fn21 : Try.prog.funcs[21]? = some Try.f21 := by kernel_rfl
theorem fn22 : Try.prog.funcs[22]? = some Try.f22 := by kernel_rfl
theorem fn23 : Try.prog.funcs[23]? = some Try.f23 := by kernel_rfl
theorem fn24 : Try.prog.funcs[24]? = some Try.f24 := by kernel_rfl
theorem fn25 : Try.prog.funcs[25]? = some Try.f25 := by kernel_rfl
theorem fn26 : Try.prog.funcs[26]? = some Try.f26 := by kernel_rfl
theorem fn27 : Try.prog.funcs[27]? = some Try.f27 := by kernel_rfl
theorem fn28 : Try.prog.funcs[28]? = some Try.f28 := by kernel_rfl
theorem fn29 : Try.prog.funcs[29]? = some Try.f29 := by kernel_rfl
theorem fn30 : Try.prog.funcs[30]? = some Try.f30 := by kernel_rfl
theorem fn31 : Try.prog.funcs[31]? = some Try.f31 := by kernel_rfl
theorem fn32 : Try.prog.funcs[32]? = some Try.f32 := by kernel_rfl
theorem fn33 : Try.prog.funcs[33]? = some Try.f33 := by kernel_rfl
theorem fn34 : Try.prog.funcs[34]? = some Try.f34 := by kernel_rfl
theorem fn35 : Try.prog.funcs[35]? = some Try.f35 := by kernel_rfl
theorem fn36 : Try.prog.funcs[36]? = some Try.f36 := by kernel_rfl
theorem fn37 : Try.prog.funcs[37]? = some Try.f37 := by kernel_rfl
theorem fn38 : Try.prog.funcs[38]? = some Try.f38 := by kernel_rfl
theorem fn39 : Try.prog.funcs[39]? = some Try.f39 := by kernel_rfl
theorem fn40 : Try.prog.funcs[40]? = some Try.f40 := by kernel_rfl
theorem fn41 : Try.prog.funcs[41]? = some Try.f41 := by kernel_rfl
theorem fn42 : Try.prog.funcs[42]? = some Try.f42 := by kernel_rfl
theorem fn43 : Try.prog.funcs[43]? = some Try.f43 := by kernel_rfl
theorem fn44 : Try.prog.funcs[44]? = some Try.f44 := by kernel_rfl
theorem fn45 : Try.prog.funcs[45]? = some Try.f45 := by kernel_rfl
theorem fn46 : Try.prog.funcs[46]? = some Try.f46 := by kernel_rfl
theorem fn47 : Try.prog.funcs[47]? = some Try.f47 := by kernel_rfl
theorem fn48 : Try.prog.funcs[48]? = some Try.f48 := by kernel_rfl
theorem fn49 : Try.prog.funcs[49]? = some Try.f49 := by kernel_rfl
theorem fn50 : Try.prog.funcs[50]? = some Try.f50 := by kernel_rfl
theorem fn51 : Try.prog.funcs[51]? = some Try.f51 := by kernel_rfl
theorem fn52 : Try.prog.funcs[52]? = some Try.f52 := by kernel_rfl
theorem fn53 : Try.prog.funcs[53]? = some Try.f53 := by kernel_rfl
theorem fn54 : Try.prog.funcs[54]? = some Try.f54 := by kernel_rfl
theorem fn55 : Try.prog.funcs[55]? = some Try.f55 := by kernel_rfl
theorem fn56 : Try.prog.funcs[56]? = some Try.f56 := by kernel_rfl
theorem fn57 : Try.prog.funcs[57]? = some Try.f57 := by kernel_rfl
theorem fn58 : Try.prog.funcs[58]? = some Try.f58 := by kernel_rfl
theorem fn59 : Try.prog.funcs[59]? = some Try.f59 := by kernel_rfl
theorem fn60 : Try.prog.funcs[60]? = some Try.f60 := by kernel_rfl
theorem fn61 : Try.prog.funcs[61]? = some Try.f61 := by kernel_rfl
theorem fn62 : Try.prog.funcs[62]? = some Try.f62 := by kernel_rfl
theorem fn63 : Try.prog.funcs[63]? = some Try.f63 := by kernel_rfl
theorem fn65 : Try.prog.funcs[65]? = some Try.f65 := by kernel_rfl
theorem fn66 : Try.prog.funcs[66]? = some Try.f66 := by kernel_rfl
theorem fn67 : Try.prog.funcs[67]? = some Try.f67 := by kernel_rfl
theorem fn68 : Try.prog.funcs[68]? = some Try.f68 := by kernel_rfl
theorem fn69 : Try.prog.funcs[69]? = some Try.f69 := by kernel_rfl
theorem fn70 : Try.prog.funcs[70]? = some Try.f70 := by kernel_rfl
theorem fn71 : Try.prog.funcs[71]? = some Try.f71 := by kernel_rfl
theorem fn72 : Try.prog.funcs[72]? = some Try.f72 := by kernel_rfl
theorem fn73 : Try.prog.funcs[73]? = some Try.f73 := by kernel_rfl
theorem fn74 : Try.prog.funcs[74]? = some Try.f74 := by kernel_rfl
theorem fn76 : Try.prog.funcs[76]? = some Try.f76 := by kernel_rfl
theorem fn77 : Try.prog.funcs[77]? = some Try.f77 := by kernel_rfl
theorem fn78 : Try.prog.funcs[78]? = some Try.f78 := by kernel_rfl
theorem fn79 : Try.prog.funcs[79]? = some Try.f79 := by kernel_rfl
theorem fn80 : Try.prog.funcs[80]? = some Try.f80 := by kernel_rfl
theorem fn88 : Try.prog.funcs[88]? = some Try.f88 := by kernel_rfl
theorem fn89 : Try.prog.funcs[89]? = some Try.f89 := by kernel_rfl
theorem fn90 : Try.prog.funcs[90]? = some Try.f90 := by kernel_rfl
theorem fn91 : Try.prog.funcs[91]? = some Try.f91 := by kernel_rfl
theorem fn92 : Try.prog.funcs[92]? = some Try.f92 := by kernel_rfl
theorem fn98 : Try.prog.funcs[98]? = some Try.f98 := by kernel_rfl
theorem fn100 : Try.prog.funcs[100]? = some Try.f100 := by kernel_rfl
noncomputable def cd3 : Code := match Try.f3.body with | some c => c | none => .skip
theorem bd3 : Try.f3.body = some cd3 := by kernel_rfl
noncomputable def cd4 : Code := match Try.f4.body with | some c => c | none => .skip
theorem bd4 : Try.f4.body = some cd4 := by kernel_rfl
noncomputable def cd5 : Code := match Try.f5.body with | some c => c | none => .skip
theorem bd5 : Try.f5.body = some cd5 := by kernel_rfl
noncomputable def cd6 : Code := match Try.f6.body with | some c => c | none => .skip
theorem bd6 : Try.f6.body = some cd6 := by kernel_rfl
noncomputable def cd8 : Code := match Try.f8.body with | some c => c | none => .skip
theorem bd8 : Try.f8.body = some cd8 := by kernel_rfl
noncomputable def cd9 : Code := match Try.f9.body with | some c => c | none => .skip
theorem bd9 : Try.f9.body = some cd9 := by kernel_rfl
noncomputable def cd10 : Code := match Try.f10.body with | some c => c | none => .skip
theorem bd10 : Try.f10.body = some cd10 := by kernel_rfl
noncomputable def cd11 : Code := match Try.f11.body with | some c => c | none => .skip
theorem bd11 : Try.f11.body = some cd11 := by kernel_rfl
noncomputable def cd12 : Code := match Try.f12.body with | some c => c | none => .skip
theorem bd12 : Try.f12.body = some cd12 := by kernel_rfl
noncomputable def cd13 : Code := match Try.f13.body with | some c => c | none => .skip
theorem bd13 : Try.f13.body = some cd13 := by kernel_rfl
noncomputable def cd14 : Code := match Try.f14.body with | some c => c | none => .skip
theorem bd14 : Try.f14.body = some cd14 := by kernel_rfl
noncomputable def cd15 : Code := match Try.f15.body with | some c => c | none => .skip
theorem bd15 : Try.f15.body = some cd15 := by kernel_rfl
noncomputable def cd16 : Code := match Try.f16.body with | some c => c | none => .skip
theorem bd16 : Try.f16.body = some cd16 := by kernel_rfl
noncomputable def cd17 : Code := match Try.f17.body with | some c => c | none => .skip
theorem bd17 : Try.f17.body = some cd17 := by kernel_rfl
noncomputable def cd18 : Code := match Try.f18.body with | some c => c | none => .skip
theorem bd18 : Try.f18.body = some cd18 := by kernel_rfl
noncomputable def cd19 : Code := match Try.f19.body with | some c => c | none => .skip
theorem bd19 : Try.f19.body = some cd19 := by kernel_rfl
noncomputable def cd20 : Code := match Try.f20.body with | some c => c | none => .skip
theorem bd20 : Try.f20.body = some cd20 := by kernel_rfl
noncomputable def cd21 : Code := match Try.f21.body with | some c => c | none => .skip
theorem bd21 : Try.f21.body = some cd21 := by kernel_rfl
noncomputable def cd22 : Code := match Try.f22.body with | some c => c | none => .skip
theorem bd22 : Try.f22.body = some cd22 := by kernel_rfl
noncomputable def cd23 : Code := match Try.f23.body with | some c => c | none => .skip
theorem bd23 : Try.f23.body = some cd23 := by kernel_rfl
noncomputable def cd24 : Code := match Try.f24.body with | some c => c | none => .skip
theorem bd24 : Try.f24.body = some cd24 := by kernel_rfl
noncomputable def cd25 : Code := match Try.f25.body with | some c => c | none => .skip
theorem bd25 : Try.f25.body = some cd25 := by kernel_rfl
noncomputable def cd26 : Code := match Try.f26.body with | some c => c | none => .skip
theorem bd26 : Try.f26.body = some cd26 := by kernel_rfl
noncomputable def cd27 : Code := match Try.f27.body with | some c => c | none => .skip
theorem bd27 : Try.f27.body = some cd27 := by kernel_rfl
noncomputable def cd28 : Code := match Try.f28.body with | some c => c | none => .skip
theorem bd28 : Try.f28.body = some cd28 := by kernel_rfl
noncomputable def cd29 : Code := match Try.f29.body with | some c => c | none => .skip
theorem bd29 : Try.f29.body = some cd29 := by kernel_rfl
noncomputable def cd30 : Code := match Try.f30.body with | some c => c | none => .skip
theorem bd30 : Try.f30.body = some cd30 := by kernel_rfl
noncomputable def cd31 : Code := match Try.f31.body with | some c => c | none => .skip
theorem bd31 : Try.f31.body = some cd31 := by kernel_rfl
noncomputable def cd32 : Code := match Try.f32.body with | some c => c | none => .skip
theorem bd32 : Try.f32.body = some cd32 := by kernel_rfl
noncomputable def cd33 : Code := match Try.f33.body with | some c => c | none => .skip
theorem bd33 : Try.f33.body = some cd33 := by kernel_rfl
noncomputable def cd34 : Code := match Try.f34.body with | some c => c | none => .skip
theorem bd34 : Try.f34.body = some cd34 := by kernel_rfl
noncomputable def cd35 : Code := match Try.f35.body with | some c => c | none => .skip
theorem bd35 : Try.f35.body = some cd35 := by kernel_rfl
noncomputable def cd36 : Code := match Try.f36.body with | some c => c | none => .skip
theorem bd36 : Try.f36.body = some cd36 := by kernel_rfl
noncomputable def cd37 : Code := match Try.f37.body with | some c => c | none => .skip
theorem bd37 : Try.f37.body = some cd37 := by kernel_rfl
noncomputable def cd38 : Code := match Try.f38.body with | some c => c | none => .skip
theorem bd38 : Try.f38.body = some cd38 := by kernel_rfl
noncomputable def cd39 : Code := match Try.f39.body with | some c => c | none => .skip
theorem bd39 : Try.f39.body = some cd39 := by kernel_rfl
noncomputable def cd40 : Code := match Try.f40.body with | some c => c | none => .skip
theorem bd40 : Try.f40.body = some cd40 := by kernel_rfl
noncomputable def cd41 : Code := match Try.f41.body with | some c => c | none => .skip
theorem bd41 : Try.f41.body = some cd41 := by kernel_rfl
noncomputable def cd42 : Code := match Try.f42.body with | some c => c | none => .skip
theorem bd42 : Try.f42.body = some cd42 := by kernel_rfl
noncomputable def cd43 : Code := match Try.f43.body with | some c => c | none => .skip
theorem bd43 : Try.f43.body = some cd43 := by kernel_rfl
noncomputable def cd44 : Code := match Try.f44.body with | some c => c | none => .skip
theorem bd44 : Try.f44.body = some cd44 := by kernel_rfl
noncomputable def cd45 : Code := match Try.f45.body with | some c => c | none => .skip
theorem bd45 : Try.f45.body = some cd45 := by kernel_rfl
noncomputable def cd46 : Code := match Try.f46.body with | some c => c | none => .skip
theorem bd46 : Try.f46.body = some cd46 := by kernel_rfl
noncomputable def cd47 : Code := match Try.f47.body with | some c => c | none => .skip
theorem bd47 : Try.f47.body = some cd47 := by kernel_rfl
noncomputable def cd48 : Code := match Try.f48.body with | some c => c | none => .skip
theorem bd48 : Try.f48.body = some cd48 := by kernel_rfl
noncomputable def cd49 : Code := match Try.f49.body with | some c => c | none => .skip
theorem bd49 : Try.f49.body = some cd49 := by kernel_rfl
noncomputable def cd50 : Code := match Try.f50.body with | some c => c | none => .skip
theorem bd50 : Try.f50.body = some cd50 := by kernel_rfl
noncomputable def cd51 : Code := match Try.f51.body with | some c => c | none => .skip
theorem bd51 : Try.f51.body = some cd51 := by kernel_rfl
noncomputable def cd52 : Code := match Try.f52.body with | some c => c | none => .skip
theorem bd52 : Try.f52.body = some cd52 := by kernel_rfl
noncomputable def cd53 : Code := match Try.f53.body with | some c => c | none => .skip
theorem bd53 : Try.f53.body = some cd53 := by kernel_rfl
noncomputable def cd54 : Code := match Try.f54.body with | some c => c | none => .skip
theorem bd54 : Try.f54.body = some cd54 := by kernel_rfl
noncomputable def cd55 : Code := match Try.f55.body with | some c => c | none => .skip
theorem bd55 : Try.f55.body = some cd55 := by kernel_rfl
noncomputable def cd56 : Code := match Try.f56.body with | some c => c | none => .skip
theorem bd56 : Try.f56.body = some cd56 := by kernel_rfl
noncomputable def cd57 : Code := match Try.f57.body with | some c => c | none => .skip
theorem bd57 : Try.f57.body = some cd57 := by kernel_rfl
noncomputable def cd58 : Code := match Try.f58.body with | some c => c | none => .skip
theorem bd58 : Try.f58.body = some cd58 := by kernel_rfl
noncomputable def cd59 : Code := match Try.f59.body with | some c => c | none => .skip
theorem bd59 : Try.f59.body = some cd59 := by kernel_rfl
noncomputable def cd60 : Code := match Try.f60.body with | some c => c | none => .skip
theorem bd60 : Try.f60.body = some cd60 := by kernel_rfl
noncomputable def cd61 : Code := match Try.f61.body with | some c => c | none => .skip
theorem bd61 : Try.f61.body = some cd61 := by kernel_rfl
noncomputable def cd62 : Code := match Try.f62.body with | some c => c | none => .skip
theorem bd62 : Try.f62.body = some cd62 := by kernel_rfl
noncomputable def cd63 : Code := match Try.f63.body with | some c => c | none => .skip
theorem bd63 : Try.f63.body = some cd63 := by kernel_rfl
noncomputable def cd65 : Code := match Try.f65.body with | some c => c | none => .skip
theorem bd65 : Try.f65.body = some cd65 := by kernel_rfl
noncomputable def cd66 : Code := match Try.f66.body with | some c => c | none => .skip
theorem bd66 : Try.f66.body = some cd66 := by kernel_rfl
noncomputable def cd67 : Code := match Try.f67.body with | some c => c | none => .skip
theorem bd67 : Try.f67.body = some cd67 := by kernel_rfl
noncomputable def cd68 : Code := match Try.f68.body with | some c => c | none => .skip
theorem bd68 : Try.f68.body = some cd68 := by kernel_rfl
noncomputable def cd69 : Code := match Try.f69.body with | some c => c | none => .skip
theorem bd69 : Try.f69.body = some cd69 := by kernel_rfl
noncomputable def cd70 : Code := match Try.f70.body with | some c => c | none => .skip
theorem bd70 : Try.f70.body = some cd70 := by kernel_rfl
noncomputable def cd71 : Code := match Try.f71.body with | some c => c | none => .skip
theorem bd71 : Try.f71.body = some cd71 := by kernel_rfl
noncomputable def cd72 : Code := match Try.f72.body with | some c => c | none => .skip
theorem bd72 : Try.f72.body = some cd72 := by kernel_rfl
noncomputable def cd73 : Code := match Try.f73.body with | some c => c | none => .skip
theorem bd73 : Try.f73.body = some cd73 := by kernel_rfl
noncomputable def cd74 : Code := match Try.f74.body with | some c => c | none => .skip
theorem bd74 : Try.f74.body = some cd74 := by kernel_rfl
noncomputable def cd76 : Code := match Try.f76.body with | some c => c | none => .skip
theorem bd76 : Try.f76.body = some cd76 := by kernel_rfl
noncomputable def cd77 : Code := match Try.f77.body with | some c => c | none => .skip
theorem bd77 : Try.f77.body = some cd77 := by kernel_rfl
noncomputable def cd78 : Code := match Try.f78.body with | some c => c | none => .skip
theorem bd78 : Try.f78.body = some cd78 := by kernel_rfl
noncomputable def cd79 : Code := match Try.f79.body with | some c => c | none => .skip
theorem bd79 : Try.f79.body = some cd79 := by kernel_rfl
noncomputable def cd80 : Code := match Try.f80.body with | some c => c | none => .skip
theorem bd80 : Try.f80.body = some cd80 := by kernel_rfl
noncomputable def cd88 : Code := match Try.f88.body with | some c => c | none => .skip
theorem bd88 : Try.f88.body = some cd88 := by kernel_rfl
noncomputable def cd89 : Code := match Try.f89.body with | some c => c | none => .skip
theorem bd89 : Try.f89.body = some cd89 := by kernel_rfl
noncomputable def cd90 : Code := match Try.f90.body with | some c => c | none => .skip
theorem bd90 : Try.f90.body = some cd90 := by kernel_rfl
noncomputable def cd91 : Code := match Try.f91.body with | some c => c | none => .skip
theorem bd91 : Try.f91.body = some cd91 := by kernel_rfl
noncomputable def cd92 : Code := match Try.f92.body with | some c => c | none => .skip
theorem bd92 : Try.f92.body = some cd92 := by kernel_rfl
noncomputable def cd98 : Code := match Try.f98.body with | some c => c | none => .skip
theorem bd98 : Try.f98.body = some cd98 := by kernel_rfl
noncomputable def cd100 : Code := match Try.f100.body with | some c => c | none => .skip
theorem bd100 : Try.f100.body = some cd100 := by kernel_rfl
/-- What is known from elsewhere. -/
def xt : Contract := xtC
/-- What each function answers. -/
noncomputable def L : Contract := Lim Try.prog xt cfAll
theorem L_run {f : FuncId} {c : Cfg} {fn : Func} {args : List T} {o : T × List T} (hc : cfAll f = some c) (hfn : Try.prog.funcs[f]? = some fn) (h : runF Try.prog L c LFm fn args = some o) : L f args = some o := lim_run hc hfn h
end Go.Proofs.Ytbnnipkanechoaa
end
section
/- Views of slices of integers, of rows and of cascade rows: what a slice value reads as. Over any program. -/
namespace Go.Proofs.Ytbnnipkanechoaa
set_option linter.unusedVariables false
set_option linter.unusedSimpArgs false
open Go.RowKit

/-- The first n cells behind an address hold F. -/
def Cells (w : World) (ga : Option Addr) (n : Nat) (F : Nat → Value) : Prop := ∀ j, j < n → ∃ g o, ga = some ⟨g, o, none⟩ ∧ w.cell? ⟨g, o + j, none⟩ = some (F j)

theorem Addr_add_block (a : Addr) (j : Nat) : (a.add j).block = a.block := by unfold Addr.add; split <;> rfl

theorem cell_below {w w' : World} (hb : Below w.heap.size w w') {a : Addr} {v : Value} (h : w.cell? a = some v) : w'.cell? a = some v := by
  rw [hb.cell (World.block_lt_of_cell? w a h)]; exact h

theorem Cells.below {w w' : World} {ga : Option Addr} {n : Nat} {F : Nat → Value} (h : Cells w ga n F) (hb : Below w.heap.size w w') : Cells w' ga n F := fun j hj => by
  obtain ⟨g, o, e, hc⟩ := h j hj
  exact ⟨g, o, e, cell_below hb hc⟩

theorem Cells.mono {w : World} {ga : Option Addr} {n m : Nat} {F : Nat → Value} (h : Cells w ga n F) (hm : m ≤ n) : Cells w ga m F := fun j hj => h j (by omega)
theorem Cells.congr {w : World} {ga : Option Addr} {n : Nat} {F G : Nat → Value} (h : Cells w ga n F) (e : ∀ j, j < n → F j = G j) : Cells w ga n G := fun j hj => by
  obtain ⟨g, o, e1, hc⟩ := h j hj
  exact ⟨g, o, e1, by rw [hc, e j hj]⟩

/-- The value is a slice of integers that reads as xs. -/
def IntsAt (w : World) (v : Value) (xs : List Int) : Prop :=
  ∃ ga cap, v = .slice ga xs.length cap ∧ xs.length ≤ cap ∧ cap ≤ maxLen ∧ Cells w ga xs.length (fun j => .int .i64 (xs.getD j 0))

theorem IntsAt.below {w w' : World} {v : Value} {xs : List Int} (h : IntsAt w v xs) (hb : Below w.heap.size w w') : IntsAt w' v xs := by
  obtain ⟨ga, cap, e, h1, h2, h3⟩ := h
  exact ⟨ga, cap, e, h1, h2, h3.below hb⟩

/-- The value is a slice of slices of integers. -/
def RowsAt (w : World) (v : Value) (rows : List (List Int)) : Prop :=
  ∃ ga cap, ∃ F : Nat → Value, v = .slice ga rows.length cap ∧ rows.length ≤ cap ∧ cap ≤ maxLen ∧ Cells w ga rows.length F ∧ ∀ j, j < rows.length → IntsAt w (F j) (rows.getD j [])

theorem RowsAt.below {w w' : World} {v : Value} {rows : List (List Int)} (h : RowsAt w v rows) (hb : Below w.heap.size w w') : RowsAt w' v rows := by
  obtain ⟨ga, cap, F, e, h1, h2, h3, h4⟩ := h
  exact ⟨ga, cap, F, e, h1, h2, h3.below hb, fun j hj => (h4 j hj).below hb⟩

/-- A cascade's row. -/
structure CRow where
  pre : List Int
  maps : List (List Int)
deriving Inhabited

/-- A cascade. -/
structure Casc where
  letters : Int
  sizes : List Int
  rows : List CRow
deriving Inhabited

/-- The value is a slice of cascade rows. -/
def CRowsAt (w : World) (v : Value) (rows : List CRow) : Prop :=
  ∃ ga cap, ∃ F G : Nat → Value, v = .slice ga rows.length cap ∧ rows.length ≤ cap ∧ cap ≤ maxLen ∧ ∀ j, (h : j < rows.length) → ∃ g o, ga = some ⟨g, o, none⟩ ∧ w.cell? ⟨g, o + j * 2, none⟩ = some (F j) ∧ w.cell? ⟨g, o + j * 2 + 1, none⟩ = some (G j) ∧ IntsAt w (F j) rows[j].pre ∧ RowsAt w (G j) rows[j].maps

theorem CRowsAt.below {w w' : World} {v : Value} {rows : List CRow} (h : CRowsAt w v rows) (hb : Below w.heap.size w w') : CRowsAt w' v rows := by
  obtain ⟨ga, cap, F, G, e, h1, h2, h3⟩ := h
  refine ⟨ga, cap, F, G, e, h1, h2, fun j hj => ?_⟩
  obtain ⟨g, o, e1, c1, c2, i1, i2⟩ := h3 j hj
  exact ⟨g, o, e1, cell_below hb c1, cell_below hb c2, i1.below hb, i2.below hb⟩

/-- The value is a cascade. -/
def CascAt (w : World) (v : Value) (c : Casc) : Prop :=
  ∃ s r, v = .agg #[.int .i64 c.letters, s, r] ∧ IntsAt w s c.sizes ∧ CRowsAt w r c.rows

theorem CascAt.below {w w' : World} {v : Value} {c : Casc} (h : CascAt w v c) (hb : Below w.heap.size w w') : CascAt w' v c := by
  obtain ⟨s, r, e, h1, h2⟩ := h
  exact ⟨s, r, e, h1.below hb, h2.below hb⟩
end Go.Proofs.Ytbnnipkanechoaa
end
section
/- Functions by value: program. -/
namespace Go.Proofs.Ytbnnipkanechoaa
open Go
noncomputable section
set_option maxRecDepth 100000
set_option maxHeartbeats 1000000
set_option linter.unusedVariables false
set_option linter.unusedSimpArgs false

structure Tape where
  l : List Int
  at_ : Int
deriving Inhabited
structure DFA where
  letters : Int
  start : Int
  final : List Bool
  next : List (List Int)
deriving Inhabited

-- semigroup/semigroupmade.Mod
def made_Mod (a0 : Int) (a1 : Int) : Option (Int) :=
  if a1 < 1 then
    some 0
  else
    chk (¬ a1 = 0) <|
    if (Int.tmod a0 a1) < 0 then
      some (IntKind.i64.wrap ((Int.tmod a0 a1) + a1))
    else
      some (Int.tmod a0 a1)
theorem made_Mod_ok {a0 : Int} {a1 : Int} {r : Int} (h0 : made_Mod a0 a1 = some r) : L 21 [.sc (.int .i64 a0), .sc (.int .i64 a1)] = some (.sc (.int .i64 r), [.dead, .dead]) := by
  simp only [made_Mod] at h0
  refine L_run cfn21 fn21 (runF_of bd21 ⟨of_decide_eq_true rfl, of_decide_eq_true rfl⟩ ?_)
  simp only [entryF, entryT, entryO, entryE, isIo]
  refine zq rfl (zr rfl rfl rfl (by simp; rfl) ?_)
  refine thenC_n (zq rfl (zq rfl (zr rfl rfl rfl (by simp; rfl) ?_)))
  refine thenC_n ?_
  by_cases c4 : a1 < 1
  · rw [if_pos c4] at h0
    refine q_ifT rfl (by simp [c4]) (zq rfl (zr rfl rfl rfl (by simp; rfl) ?_))
    refine thenC_n (q_ret rfl (thenC_r ?_))
    cases h0
    simp
  · rw [if_neg c4] at h0
    refine q_ifF rfl (by simp [c4]) (q_skip rfl (thenC_n (zq rfl ?_)))
    obtain ⟨f5, h1⟩ := chk_some h0
    refine zr rfl rfl rfl (by simp [f5]; rfl) ?_
    refine thenC_n (zq rfl (zq rfl (zr rfl rfl rfl (by simp; rfl) ?_)))
    refine thenC_n ?_
    by_cases c6 : (Int.tmod a0 a1) < 0
    · rw [if_pos c6] at h1
      refine q_ifT rfl (by simp [c6]) (zr rfl rfl rfl (by simp; rfl) ?_)
      refine thenC_n (zq rfl (zr rfl rfl rfl (by simp; rfl) ?_))
      refine thenC_n (q_ret rfl ?_)
      cases h1
      simp
    · rw [if_neg c6] at h1
      refine q_ifF rfl (by simp [c6]) (q_skip rfl (thenC_n (zq rfl (zr rfl rfl rfl (by simp; rfl) ?_))))
      refine thenC_n (q_ret rfl ?_)
      cases h1
      simp

-- (*semigroup/semigroupmade.Tape).Next
def made_Tape_Next (a0 : Tape) (a1 : Int) : Option (Int × Tape) :=
  if (a0.l.length : Int) ≤ a0.at_ then
    some (0, a0)
  else
    (atI a0.l (IntKind.i64.wrap ((IntKind.i64.wrap (a0.at_ + 1)) - 1))).bind fun v3 =>
    (made_Mod v3 a1).bind fun v4 =>
    some (v4, (⟨a0.l, IntKind.i64.wrap (a0.at_ + 1)⟩ : Tape))
theorem made_Tape_Next_ok {a0 : Tape} {a1 : Int} {r : Int × Tape} (h0 : made_Tape_Next a0 a1 = some r) : L 30 [.vr [.sl a0.l.length (a0.l.map fun x0 => .sc (.int .i64 x0)), .sc (.int .i64 a0.at_)], .sc (.int .i64 a1)] = some (.sc (.int .i64 r.1), [.vr [.sl r.2.l.length (r.2.l.map fun x0 => .sc (.int .i64 x0)), .sc (.int .i64 r.2.at_)], .dead]) := by
  simp only [made_Tape_Next] at h0
  refine L_run cfn30 fn30 (runF_of bd30 ⟨of_decide_eq_true rfl, of_decide_eq_true rfl⟩ ?_)
  simp only [entryF, entryT, entryO, entryE, isIo]
  refine zq rfl (zr rfl rfl rfl (by simp; rfl) ?_)
  refine thenC_n (zq rfl (zq rfl ?_))
  refine q_drawW rfl rfl rfl rfl ?_; repeat' (first | (refine q_drawW_op rfl rfl fun Q' hQ => ?_; simp; refine hQ.out _ ?_; clear hQ; clear Q') | (refine q_drawW_guard rfl rfl fun Q1 Q2 h1 h2 => ?_; simp [twoB_some]; (first | refine h1.out ?_ | refine h2.out ?_); clear h1 h2; clear Q1 Q2; intro Q' hQ; simp; refine hQ.out _ ?_; clear hQ; clear Q') | (refine q_drawW_nil rfl fun Q' hQ => ?_; simp; refine hQ.out _ ?_; clear hQ; clear Q'))
  refine thenC_n ?_
  by_cases c4 : (a0.l.length : Int) ≤ a0.at_
  · rw [if_pos c4] at h0
    refine q_ifT rfl (by simp [c4]) (zq rfl (zr rfl rfl rfl (by simp; rfl) ?_))
    refine thenC_n (q_ret rfl (thenC_r ?_))
    cases h0
    simp
  · rw [if_neg c4] at h0
    refine q_ifF rfl (by simp [c4]) (q_skip rfl (thenC_n (zq rfl (zr rfl rfl rfl (by simp; rfl) ?_))))
    refine thenC_n (zq rfl ?_)
    obtain ⟨v3, f5, h1⟩ := bnd_some h0
    obtain ⟨f5a, f5b, f5c, f5d, f5e⟩ := atI_some f5
    obtain ⟨v4, f6, h2⟩ := bnd_some h1
    have f6k := made_Mod_ok f6
    try simp at f6k
    refine q_drawW rfl rfl rfl rfl ?_; repeat' (first | (refine q_drawW_op rfl rfl fun Q' hQ => ?_; simp [f5a, f5b, f5c, f5d, f5e, f6k]; refine hQ.out _ ?_; clear hQ; clear Q') | (refine q_drawW_guard rfl rfl fun Q1 Q2 h1 h2 => ?_; simp [f5a, f5b, f5c, f5d, f5e, f6k, twoB_some]; (first | refine h1.out ?_ | refine h2.out ?_); clear h1 h2; clear Q1 Q2; intro Q' hQ; simp [f5a, f5b, f5c, f5d, f5e, f6k]; refine hQ.out _ ?_; clear hQ; clear Q') | (refine q_drawW_nil rfl fun Q' hQ => ?_; simp [f5a, f5b, f5c, f5d, f5e, f6k]; refine hQ.out _ ?_; clear hQ; clear Q'))
    refine thenC_n (q_ret rfl ?_)
    cases h2
    simp

-- semigroup/semigroupmade.New
def made_New (a0 : List Int) : Option (Tape) :=
  if 80 < (a0.length : Int) then
    (pieceL a0 0 80).bind fun v2 =>
    some (⟨v2, 0⟩ : Tape)
  else
    some (⟨a0, 0⟩ : Tape)
theorem made_New_ok {a0 : List Int} {r : Tape} (h0 : made_New a0 = some r) : L 11 [.sl a0.length (a0.map fun x0 => .sc (.int .i64 x0))] = some (.vr [.sl r.l.length (r.l.map fun x0 => .sc (.int .i64 x0)), .sc (.int .i64 r.at_)], [.dead]) := by
  simp only [made_New] at h0
  refine L_run cfn11 fn11 (runF_of bd11 ⟨of_decide_eq_true rfl, of_decide_eq_true rfl⟩ ?_)
  simp only [entryF, entryT, entryO, entryE, isIo]
  refine zq rfl (zr rfl rfl rfl (by simp; rfl) ?_)
  refine thenC_n (zq rfl (zq rfl (zr rfl rfl rfl (by simp; rfl) ?_)))
  refine thenC_n ?_
  by_cases c3 : 80 < (a0.length : Int)
  · rw [if_pos c3] at h0
    refine q_ifT rfl (by simp [c3]) ?_
    obtain ⟨v2, f4, h1⟩ := bnd_some h0
    obtain ⟨f4a, f4b, f4c, -⟩ := pieceL_some f4
    obtain ⟨f4d, f4g⟩ := piece_hi f4a f4b
    have f4e := pieceL_map (g := fun x : Int => (.sc (.int .i64 x) : T)) f4
    try simp at f4e
    have f4f := pieceL_slm f4
    try simp only [Int.reduceToNat, Int.toNat_natCast, Nat.sub_zero] at f4f
    refine zr rfl rfl rfl (by simp [f4a, f4b, f4c, f4d, f4g, f4e, f4f]; rfl) ?_
    refine thenC_n (zq rfl (zr rfl rfl rfl (by simp; rfl) ?_))
    refine thenC_n (q_ret rfl ?_)
    cases h1
    simp
  · rw [if_neg c3] at h0
    refine q_ifF rfl (by simp [c3]) (q_skip rfl (thenC_n (zq rfl (zr rfl rfl rfl (by simp; rfl) ?_))))
    refine thenC_n (q_ret rfl ?_)
    cases h0
    simp

-- (*semigroup/semigroupmade.Tape).Word
def made_Tape_Word_b3 (a1 : Int) : Int × List Int × Int × List Int → Option ((Int × List Int × Int × List Int) ⊕ (ByteArray × Tape))
  | (w11, w12, w13, w14) =>
  if 0 < w11 then
    (made_Tape_Next (⟨w12, w13⟩ : Tape) a1).bind fun v16 =>
    chk (capOk 1 (w14.length + 1)) <|
    nextG (IntKind.i64.wrap (w11 - 1), v16.2.l, v16.2.at_, w14 ++ [IntKind.u8.wrap (IntKind.i64.wrap (97 + v16.1))])
  else
    exitG <|
    some (bytesOf w14, (⟨w12, w13⟩ : Tape))
def made_Tape_Word_h3 (a1 : Int) : Int × List Int × Int × List Int → Fr
  | (w11, w12, w13, w14) => ⟨27, [(0, .one (.a 0 [] (0))), (1, .one (.t none (.sc (.int .i64 a1)))), (7, .one (.h 7 [])), (8, .one (.t none (.sc (.int .i64 w11)))), (1027, .one (.a 0 [] (0)))], [(0, .vr [.sl w12.length (w12.map fun x0 => .sc (.int .i64 x0)), .sc (.int .i64 w13)]), (7, .os 1 w14.length (w14.map fun x0 => .sc (.int .u8 x0)))]⟩
def made_Tape_Word (a0 : Tape) (a1 : Int) (a2 : Int) : Option (ByteArray × Tape) :=
  (made_Tape_Next a0 (IntKind.i64.wrap (a2 + 1))).bind fun v9 =>
  loopG (made_Tape_Word_b3 a1) LFm (v9.1, v9.2.l, v9.2.at_, [])
theorem made_Tape_Word_ok {a0 : Tape} {a1 : Int} {a2 : Int} {r : ByteArray × Tape} (h0 : made_Tape_Word a0 a1 a2 = some r) : L 20 [.vr [.sl a0.l.length (a0.l.map fun x0 => .sc (.int .i64 x0)), .sc (.int .i64 a0.at_)], .sc (.int .i64 a1), .sc (.int .i64 a2)] = some (.sc (.string r.1), [.vr [.sl r.2.l.length (r.2.l.map fun x0 => .sc (.int .i64 x0)), .sc (.int .i64 r.2.at_)], .dead, .dead]) := by
  simp only [made_Tape_Word] at h0
  refine L_run cfn20 fn20 (runF_of bd20 ⟨of_decide_eq_true rfl, of_decide_eq_true rfl⟩ ?_)
  simp only [entryF, entryT, entryO, entryE, isIo]
  refine zq rfl (zr rfl rfl rfl (by simp; rfl) ?_)
  refine thenC_n (zq rfl (zr rfl rfl rfl (by simp; rfl) ?_))
  refine thenC_n (zq rfl (zq rfl ?_))
  obtain ⟨v9, f10, h1⟩ := bnd_some h0
  have f10k := made_Tape_Next_ok f10
  try simp at f10k
  refine zr rfl rfl rfl (by simp [f10k]; rfl) ?_
  refine thenC_n (zb rfl (q_loopG h1 (made_Tape_Word_h3 a1) rfl rfl (by simp [made_Tape_Word_h3]) fun s o1 h2 hr1 => ?_))
  obtain ⟨w11, w12, w13, w14⟩ := s
  simp only [made_Tape_Word_b3] at h2
  simp only [made_Tape_Word_h3]
  refine zq rfl (zq rfl (zr rfl rfl rfl (by simp; rfl) ?_))
  refine thenC_n ?_
  by_cases c16 : 0 < w11
  · rw [if_pos c16] at h2
    refine q_ifT rfl (by simp [c16]) (q_skip rfl (thenC_n (zq rfl (zb rfl ?_))))
    obtain ⟨v16, f17, h3⟩ := bnd_some h2
    have f17k := made_Tape_Next_ok f17
    try simp at f17k
    obtain ⟨f18, h4⟩ := chk_some h3
    obtain ⟨f18a, f18b⟩ := f18
    simp only [Nat.mul_one] at f18a
    refine zr rfl rfl rfl (by simp [f17k, f18a, f18b]; rfl) ?_
    refine blockC_n (thenC_n (zr rfl rfl rfl (by simp; rfl) ?_))
    have ho := next_some h4
    refine roundC_n ho ?_
    simp [made_Tape_Word_h3]
  · rw [if_neg c16] at h2
    refine q_ifF rfl (by simp [c16]) (q_exit rfl (thenC_x ?_))
    obtain ⟨rr1, h3, ho1⟩ := exit_some h2
    have hs1 := hr1 _ ho1
    subst hs1
    refine roundC_x ho1 (blockC_hit2 rfl (thenC_n (zq rfl (zr rfl rfl rfl (by simp; rfl) ?_))))
    refine thenC_n (q_ret rfl ?_)
    cases h3
    simp

-- (*semigroup/semigroupmade.Tape).Letters
def made_Tape_Letters (a0 : Tape) : Option (Int × Tape) :=
  (made_Tape_Next a0 8).bind fun v2 =>
  some (IntKind.i64.wrap (2 - (quoI .i64 v2.1 7)), v2.2)
theorem made_Tape_Letters_ok {a0 : Tape} {r : Int × Tape} (h0 : made_Tape_Letters a0 = some r) : L 13 [.vr [.sl a0.l.length (a0.l.map fun x0 => .sc (.int .i64 x0)), .sc (.int .i64 a0.at_)]] = some (.sc (.int .i64 r.1), [.vr [.sl r.2.l.length (r.2.l.map fun x0 => .sc (.int .i64 x0)), .sc (.int .i64 r.2.at_)]]) := by
  simp only [made_Tape_Letters] at h0
  refine L_run cfn13 fn13 (runF_of bd13 ⟨of_decide_eq_true rfl, of_decide_eq_true rfl⟩ ?_)
  simp only [entryF, entryT, entryO, entryE, isIo]
  refine zq rfl (zr rfl rfl rfl (by simp; rfl) ?_)
  refine thenC_n (zq rfl ?_)
  obtain ⟨v2, f2, h1⟩ := bnd_some h0
  have f2k := made_Tape_Next_ok f2
  try simp at f2k
  refine zr rfl rfl rfl (by simp [f2k]; rfl) ?_
  refine thenC_n (q_ret rfl ?_)
  cases h1
  simp

-- (*semigroup/semigroupmade.Tape).Dfa
def made_Tape_Dfa_b10 (a1 : Int) (v32 : Int × Tape) (w42 : Int) (w45 : List Bool) (w46 : List (List Int)) (v55 : Int × Tape) : Int × List Int × Int × List Int → Option ((Int × List Int × Int × List Int) ⊕ ((Int × List Int × Int × List Bool × List (List Int)) ⊕ (DFA × Tape)))
  | (w57, w58, w59, w60) =>
  if w57 < a1 then
    (made_Tape_Next (⟨w58, w59⟩ : Tape) (IntKind.i64.wrap (1 + v32.1))).bind fun v62 =>
    chk (capOk 8 (w60.length + 1)) <|
    nextG (IntKind.i64.wrap (w57 + 1), v62.2.l, v62.2.at_, w60 ++ [v62.1])
  else
    exitG <|
    chk (capOk 24 (w46.length + 1)) <|
    nextG (IntKind.i64.wrap (w42 + 1), w58, w59, w45 ++ [decide (v55.1 = 1)], w46 ++ [w60])
def made_Tape_Dfa_h10 (a1 : Int) (v32 : Int × Tape) (v33 : Int × Tape) (w42 : Int) (w45 : List Bool) (w46 : List (List Int)) (v55 : Int × Tape) : Int × List Int × Int × List Int → Fr
  | (w57, w58, w59, w60) => ⟨53, [(0, .one (.a 0 [] (0))), (1, .one (.t none (.sc (.int .i64 a1)))), (6, .one (.a 6 [] (0))), (7, .one (.a 7 [] (0))), (8, .one (.t none (.sc (.int .i64 (IntKind.i64.wrap (1 + v32.1)))))), (9, .one (.t none (.sc (.int .i64 w42)))), (10, .one (.h 10 [])), (11, .one (.t none (.sc (.int .i64 w57)))), (1053, .one (.a 0 [] (0)))], [(0, .vr [.sl w58.length (w58.map fun x0 => .sc (.int .i64 x0)), .sc (.int .i64 w59)]), (6, .vr [.sc (.int .i64 0), .sc (.int .i64 0), .os 1 0 [], .os 1 0 []]), (7, .vr [.sc (.int .i64 a1), .sc (.int .i64 v33.1), .os 1 (w45 ++ [decide (v55.1 = 1)]).length ((w45 ++ [decide (v55.1 = 1)]).map fun x0 => .sc (.bool x0)), .os 1 w46.length (w46.map fun x0 => .os 1 x0.length (x0.map fun x1 => .sc (.int .i64 x1)))]), (10, .os 1 w60.length (w60.map fun x0 => .sc (.int .i64 x0)))]⟩
def made_Tape_Dfa_b5 (a1 : Int) (v32 : Int × Tape) (v33 : Int × Tape) : Int × List Int × Int × List Bool × List (List Int) → Option ((Int × List Int × Int × List Bool × List (List Int)) ⊕ (DFA × Tape))
  | (w42, w43, w44, w45, w46) =>
  if w42 < (IntKind.i64.wrap (1 + v32.1)) then
    (made_Tape_Next (⟨w43, w44⟩ : Tape) 2).bind fun v55 =>
    chk (capOk 1 (w45.length + 1)) <|
    loopG (made_Tape_Dfa_b10 a1 v32 w42 w45 w46 v55) LFm (0, v55.2.l, v55.2.at_, [])
  else
    exitG <|
    some ((⟨a1, v33.1, w45, w46⟩ : DFA), (⟨w43, w44⟩ : Tape))
def made_Tape_Dfa_h5 (a1 : Int) (v32 : Int × Tape) (v33 : Int × Tape) : Int × List Int × Int × List Bool × List (List Int) → Fr
  | (w42, w43, w44, w45, w46) => ⟨53, [(0, .one (.a 0 [] (0))), (1, .one (.t none (.sc (.int .i64 a1)))), (6, .one (.a 6 [] (0))), (7, .one (.a 7 [] (0))), (8, .one (.t none (.sc (.int .i64 (IntKind.i64.wrap (1 + v32.1)))))), (9, .one (.t none (.sc (.int .i64 w42)))), (1053, .one (.a 0 [] (0)))], [(0, .vr [.sl w43.length (w43.map fun x0 => .sc (.int .i64 x0)), .sc (.int .i64 w44)]), (6, .vr [.sc (.int .i64 0), .sc (.int .i64 0), .os 1 0 [], .os 1 0 []]), (7, .vr [.sc (.int .i64 a1), .sc (.int .i64 v33.1), .os 1 w45.length (w45.map fun x0 => .sc (.bool x0)), .os 1 w46.length (w46.map fun x0 => .os 1 x0.length (x0.map fun x1 => .sc (.int .i64 x1)))])]⟩
def made_Tape_Dfa (a0 : Tape) (a1 : Int) (a2 : Int) : Option (DFA × Tape) :=
  (made_Tape_Next a0 a2).bind fun v32 =>
  (made_Tape_Next v32.2 (IntKind.i64.wrap (1 + v32.1))).bind fun v33 =>
  loopG (made_Tape_Dfa_b5 a1 v32 v33) LFm (0, v33.2.l, v33.2.at_, [], [])
theorem made_Tape_Dfa_ok {a0 : Tape} {a1 : Int} {a2 : Int} {r : DFA × Tape} (h0 : made_Tape_Dfa a0 a1 a2 = some r) : L 34 [.vr [.sl a0.l.length (a0.l.map fun x0 => .sc (.int .i64 x0)), .sc (.int .i64 a0.at_)], .sc (.int .i64 a1), .sc (.int .i64 a2)] = some (.agg [.sc (.int .i64 r.1.letters), .sc (.int .i64 r.1.start), .os 1 r.1.final.length (r.1.final.map fun x0 => .sc (.bool x0)), .os 1 r.1.next.length (r.1.next.map fun x0 => .os 1 x0.length (x0.map fun x1 => .sc (.int .i64 x1)))], [.vr [.sl r.2.l.length (r.2.l.map fun x0 => .sc (.int .i64 x0)), .sc (.int .i64 r.2.at_)], .dead, .dead]) := by
  simp only [made_Tape_Dfa] at h0
  refine L_run cfn34 fn34 (runF_of bd34 ⟨of_decide_eq_true rfl, of_decide_eq_true rfl⟩ ?_)
  simp only [entryF, entryT, entryO, entryE, isIo]
  refine zq rfl (zr rfl rfl rfl (by simp; rfl) ?_)
  refine thenC_n (zq rfl (zr rfl rfl rfl (by simp; rfl) ?_))
  refine thenC_n (zq rfl ?_)
  obtain ⟨v32, f37, h1⟩ := bnd_some h0
  have f37k := made_Tape_Next_ok f37
  try simp at f37k
  refine zr rfl rfl rfl (by simp [f37k]; rfl) ?_
  refine thenC_n (zq rfl ?_)
  obtain ⟨v33, f38, h2⟩ := bnd_some h1
  have f38k := made_Tape_Next_ok f38
  try simp at f38k
  refine zr rfl rfl rfl (by simp [f38k]; rfl) ?_
  refine thenC_n (zq rfl (zq rfl (zr rfl rfl rfl (by simp; rfl) ?_)))
  refine thenC_n (zb rfl (q_loopG h2 (made_Tape_Dfa_h5 a1 v32 v33) rfl rfl (by simp [made_Tape_Dfa_h5]) fun s o1 h3 hr1 => ?_))
  obtain ⟨w42, w43, w44, w45, w46⟩ := s
  simp only [made_Tape_Dfa_b5] at h3
  simp only [made_Tape_Dfa_h5]
  refine zq rfl (zq rfl (zr rfl rfl rfl (by simp; rfl) ?_))
  refine thenC_n ?_
  by_cases c61 : w42 < (IntKind.i64.wrap (1 + v32.1))
  · rw [if_pos c61] at h3
    refine q_ifT rfl (by simp [c61]) (q_skip rfl (thenC_n (zq rfl (zb rfl (zq rfl ?_)))))
    obtain ⟨v55, f62, h4⟩ := bnd_some h3
    have f62k := made_Tape_Next_ok f62
    try simp at f62k
    obtain ⟨f63, h5⟩ := chk_some h4
    obtain ⟨f63a, f63b⟩ := f63
    simp only [Nat.mul_one] at f63a
    refine q_drawW rfl rfl rfl rfl ?_; repeat' (first | (refine q_drawW_op rfl rfl fun Q' hQ => ?_; simp [f62k, f63a, f63b]; refine hQ.out _ ?_; clear hQ; clear Q') | (refine q_drawW_guard rfl rfl fun Q1 Q2 h1 h2 => ?_; simp [f62k, f63a, f63b, twoB_some]; (first | refine h1.out ?_ | refine h2.out ?_); clear h1 h2; clear Q1 Q2; intro Q' hQ; simp [f62k, f63a, f63b]; refine hQ.out _ ?_; clear hQ; clear Q') | (refine q_drawW_nil rfl fun Q' hQ => ?_; simp [f62k, f63a, f63b]; refine hQ.out _ ?_; clear hQ; clear Q'))
    refine thenC_n (zq rfl (zr rfl rfl rfl (by simp; rfl) ?_))
    refine thenC_n (zq rfl (zq rfl (zr rfl rfl rfl (by simp; rfl) ?_)))
    refine thenC_n (zb rfl (q_loopG h5 (made_Tape_Dfa_h10 a1 v32 v33 w42 w45 w46 v55) rfl rfl (by simp [made_Tape_Dfa_h10]) fun s o2 h6 hr2 => ?_))
    obtain ⟨w57, w58, w59, w60⟩ := s
    simp only [made_Tape_Dfa_b10] at h6
    simp only [made_Tape_Dfa_h10]
    refine zq rfl (zq rfl (zr rfl rfl rfl (by simp; rfl) ?_))
    refine thenC_n ?_
    by_cases c69 : w57 < a1
    · rw [if_pos c69] at h6
      refine q_ifT rfl (by simp [c69]) (q_skip rfl (thenC_n (zq rfl (zb rfl ?_))))
      obtain ⟨v62, f70, h7⟩ := bnd_some h6
      have f70k := made_Tape_Next_ok f70
      try simp at f70k
      obtain ⟨f71, h8⟩ := chk_some h7
      obtain ⟨f71a, f71b⟩ := f71
      refine zr rfl rfl rfl (by simp [f70k, f71a, f71b]; rfl) ?_
      refine blockC_n (thenC_n (zr rfl rfl rfl (by simp; rfl) ?_))
      have ho := next_some h8
      refine roundC_n ho ?_
      simp [made_Tape_Dfa_h10]
    · rw [if_neg c69] at h6
      refine q_ifF rfl (by simp [c69]) (q_exit rfl (thenC_x ?_))
      obtain ⟨rr2, h7, ho2⟩ := exit_some h6
      have hs2 := hr2 _ ho2
      subst hs2
      refine roundC_x ho2 (blockC_hit2 rfl (thenC_n ?_))
      obtain ⟨f72, h8⟩ := chk_some h7
      obtain ⟨f72a, f72b⟩ := f72
      refine zr rfl rfl rfl (by simp [f72a, f72b]; rfl) ?_
      refine blockC_n (thenC_n (zr rfl rfl rfl (by simp; rfl) ?_))
      have ho := next_some h8
      refine roundC_n ho ?_
      simp [made_Tape_Dfa_h5]
  · rw [if_neg c61] at h3
    refine q_ifF rfl (by simp [c61]) (q_exit rfl (thenC_x ?_))
    obtain ⟨rr1, h4, ho1⟩ := exit_some h3
    have hs1 := hr1 _ ho1
    subst hs1
    refine roundC_x ho1 (blockC_hit2 rfl (thenC_n (zq rfl (zr rfl rfl rfl (by simp; rfl) ?_))))
    refine thenC_n (q_ret rfl ?_)
    cases h4
    simp

-- (*semigroup/semigroupmade.Tape).Ordered
def made_Tape_Ordered_b6 (w61 : Int) (v77 : List Int) : Int × List (List Int) → Option ((Int × List (List Int)) ⊕ ((Int × List (List Int)) ⊕ (DFA × Tape)))
  | (w81, w82) =>
  (atI w82 w61).bind fun v87 =>
  if w81 < (v77.length : Int) then
    (atI v87 w81).bind fun v88 =>
    nextG (IntKind.i64.wrap (w81 + 1), (w82.set w61.toNat (v87.set w81.toNat (if w61 < v88 then v88 else w61))))
  else
    exitG <|
    nextG (IntKind.i64.wrap (w61 + 1), w82)
def made_Tape_Ordered_h6 (v46 : DFA × Tape) (w61 : Int) (v77 : List Int) : Int × List (List Int) → Fr
  | (w81, w82) => ⟨46, [(6, .one (.a 6 [] (0))), (7, .one (.a 7 [] (0))), (8, .one (.t none (.sc (.int .i64 w61)))), (17, .one (.t none (.sc (.int .i64 (v46.1.next.length : Int))))), (18, .one (.t none (.sc (.int .i64 w61)))), (25, .one (.h 7 [3, w61.toNat])), (26, .one (.t none (.sc (.int .i64 (v77.length : Int))))), (27, .one (.t none (.sc (.int .i64 w81)))), (1046, .one (.a 0 [] (0)))], [(6, .vr [.sc (.int .i64 0), .sc (.int .i64 0), .os 1 0 [], .os 1 0 []]), (7, .vr [.sc (.int .i64 v46.1.letters), .sc (.int .i64 v46.1.start), .os 1 v46.1.final.length (v46.1.final.map fun x0 => .sc (.bool x0)), .os 1 w82.length (w82.map fun x0 => .os 1 x0.length (x0.map fun x1 => .sc (.int .i64 x1)))]), (0, .vr [.sl v46.2.l.length (v46.2.l.map fun x0 => .sc (.int .i64 x0)), .sc (.int .i64 v46.2.at_)])]⟩
def made_Tape_Ordered_b3 (v46 : DFA × Tape) : Int × List (List Int) → Option ((Int × List (List Int)) ⊕ (DFA × Tape))
  | (w61, w62) =>
  if w61 < (v46.1.next.length : Int) then
    (atI w62 w61).bind fun v77 =>
    loopG (made_Tape_Ordered_b6 w61 v77) LFm (0, w62)
  else
    exitG <|
    some ((⟨v46.1.letters, 0, v46.1.final, w62⟩ : DFA), v46.2)
def made_Tape_Ordered_h3 (v46 : DFA × Tape) : Int × List (List Int) → Fr
  | (w61, w62) => ⟨46, [(6, .one (.a 6 [] (0))), (7, .one (.a 7 [] (0))), (17, .one (.t none (.sc (.int .i64 (v46.1.next.length : Int))))), (18, .one (.t none (.sc (.int .i64 w61)))), (1046, .one (.a 0 [] (0)))], [(6, .vr [.sc (.int .i64 0), .sc (.int .i64 0), .os 1 0 [], .os 1 0 []]), (7, .vr [.sc (.int .i64 v46.1.letters), .sc (.int .i64 v46.1.start), .os 1 v46.1.final.length (v46.1.final.map fun x0 => .sc (.bool x0)), .os 1 w62.length (w62.map fun x0 => .os 1 x0.length (x0.map fun x1 => .sc (.int .i64 x1)))]), (0, .vr [.sl v46.2.l.length (v46.2.l.map fun x0 => .sc (.int .i64 x0)), .sc (.int .i64 v46.2.at_)])]⟩
def made_Tape_Ordered (a0 : Tape) (a1 : Int) (a2 : Int) : Option (DFA × Tape) :=
  (made_Tape_Dfa a0 a1 a2).bind fun v46 =>
  loopG (made_Tape_Ordered_b3 v46) LFm (0, v46.1.next)
theorem made_Tape_Ordered_ok {a0 : Tape} {a1 : Int} {a2 : Int} {r : DFA × Tape} (h0 : made_Tape_Ordered a0 a1 a2 = some r) : L 31 [.vr [.sl a0.l.length (a0.l.map fun x0 => .sc (.int .i64 x0)), .sc (.int .i64 a0.at_)], .sc (.int .i64 a1), .sc (.int .i64 a2)] = some (.agg [.sc (.int .i64 r.1.letters), .sc (.int .i64 r.1.start), .os 1 r.1.final.length (r.1.final.map fun x0 => .sc (.bool x0)), .os 1 r.1.next.length (r.1.next.map fun x0 => .os 1 x0.length (x0.map fun x1 => .sc (.int .i64 x1)))], [.vr [.sl r.2.l.length (r.2.l.map fun x0 => .sc (.int .i64 x0)), .sc (.int .i64 r.2.at_)], .dead, .dead]) := by
  simp only [made_Tape_Ordered] at h0
  refine L_run cfn31 fn31 (runF_of bd31 ⟨of_decide_eq_true rfl, of_decide_eq_true rfl⟩ ?_)
  simp only [entryF, entryT, entryO, entryE, isIo]
  refine zq rfl (zr rfl rfl rfl (by simp; rfl) ?_)
  refine thenC_n (zq rfl ?_)
  obtain ⟨v46, f38, h1⟩ := bnd_some h0
  have f38k := made_Tape_Dfa_ok f38
  try simp at f38k
  refine zr rfl rfl rfl (by simp [f38k]; rfl) ?_
  refine thenC_n (zq rfl (zq rfl (zr rfl rfl rfl (by simp; rfl) ?_)))
  refine thenC_n (zb rfl (q_loopG h1 (made_Tape_Ordered_h3 v46) rfl rfl (by simp [made_Tape_Ordered_h3]) fun s o1 h2 hr1 => ?_))
  obtain ⟨w61, w62⟩ := s
  simp only [made_Tape_Ordered_b3] at h2
  simp only [made_Tape_Ordered_h3]
  refine zq rfl (zr rfl rfl rfl (by simp; rfl) ?_)
  refine thenC_n (zq rfl ?_)
  by_cases c63 : w61 < (v46.1.next.length : Int)
  · rw [if_pos c63] at h2
    refine q_ifT rfl (by simp [c63]) (q_skip rfl (thenC_n (zq rfl (zb rfl (zq rfl (zr rfl rfl rfl (by simp; rfl) ?_))))))
    refine thenC_n (zq rfl ?_)
    obtain ⟨v77, f64, h3⟩ := bnd_some h2
    obtain ⟨f64a, f64b, f64c, f64d, f64e⟩ := atI_some f64
    refine zr rfl rfl rfl (by simp [f64a, f64b, f64c, f64d, f64e]; rfl) ?_
    refine thenC_n (zb rfl (q_loopG h3 (made_Tape_Ordered_h6 v46 w61 v77) rfl rfl (by simp [made_Tape_Ordered_h6]) fun s o2 h4 hr2 => ?_))
    obtain ⟨w81, w82⟩ := s
    simp only [made_Tape_Ordered_b6] at h4
    simp only [made_Tape_Ordered_h6]
    obtain ⟨v87, f72, h5⟩ := bnd_some h4
    obtain ⟨f72a, f72b, f72c, f72d, f72e⟩ := atI_some f72
    refine zq rfl (zr rfl rfl rfl (by simp [f72a, f72b, f72c, f72d, f72e]; rfl) ?_)
    refine thenC_n (zq rfl ?_)
    by_cases c73 : w81 < (v77.length : Int)
    · rw [if_pos c73] at h5
      refine q_ifT rfl (by simp [c73]) (q_skip rfl (thenC_n (zq rfl (zb rfl (zq rfl ?_)))))
      obtain ⟨v88, f74, h6⟩ := bnd_some h5
      obtain ⟨f74a, f74b, f74c, f74d, f74e⟩ := atI_some f74
      refine zr rfl rfl rfl (by simp [f72a, f72b, f72c, f72d, f72e, f74a, f74b, f74c, f74d, f74e]; rfl) ?_
      refine thenC_n (zr rfl rfl rfl (by simp [f72a, f72b, f72c, f72d, f72e, f74a, f74b, f74c, f74d, f74e]; rfl) ?_)
      refine blockC_n (thenC_n (zr rfl rfl rfl (by simp [f72a, f72b, f72c, f72d, f72e]; rfl) ?_))
      have ho := next_some h6
      refine roundC_n ho ?_
      simp [made_Tape_Ordered_h6]
    · rw [if_neg c73] at h5
      refine q_ifF rfl (by simp [c73]) (q_exit rfl (thenC_x ?_))
      obtain ⟨rr2, h6, ho2⟩ := exit_some h5
      have hs2 := hr2 _ ho2
      subst hs2
      refine roundC_x ho2 (blockC_hit2 rfl (blockC_n (thenC_n (zr rfl rfl rfl (by simp [f72a, f72b, f72c, f72d, f72e]; rfl) ?_))))
      have ho := next_some h6
      refine roundC_n ho ?_
      simp [made_Tape_Ordered_h3]
  · rw [if_neg c63] at h2
    refine q_ifF rfl (by simp [c63]) (q_exit rfl (thenC_x ?_))
    obtain ⟨rr1, h3, ho1⟩ := exit_some h2
    have hs1 := hr1 _ ho1
    subst hs1
    refine roundC_x ho1 (blockC_hit2 rfl (thenC_n (zq rfl (zr rfl rfl rfl (by simp; rfl) ?_))))
    refine thenC_n (zq rfl (zr rfl rfl rfl (by simp; rfl) ?_))
    refine thenC_n (q_ret rfl ?_)
    cases h3
    simp

-- (*semigroup/semigroupmade.Tape).Permutations
def made_Tape_Permutations_b17 (v90 : Int × Tape) (w125 : Int) : Int × List Int × Int × List (List Int) × List Int → Option ((Int × List Int × Int × List (List Int) × List Int) ⊕ ((Int × List Int × Int × List (List Int)) ⊕ (DFA × Tape)))
  | (w162, w163, w164, w165, w166) =>
  if w162 < (IntKind.i64.wrap (1 + v90.1)) then
    (made_Tape_Next (⟨w163, w164⟩ : Tape) (w166.length : Int)).bind fun v173 =>
    (atI w165 w162).bind fun v174 =>
    (atI w166 v173.1).bind fun v175 =>
    (atI v174 w125).bind fun v176 =>
    (pieceL w166 0 v173.1).bind fun v177 =>
    (pieceL w166 (IntKind.i64.wrap (v173.1 + 1)) (w166.length : Int)).bind fun v178 =>
    chk (capOk 8 (v177.length)) <|
    chk (capOk 8 (v177.length + v178.length)) <|
    nextG (IntKind.i64.wrap (w162 + 1), v173.2.l, v173.2.at_, (w165.set w162.toNat (v174.set w125.toNat v175)), v177 ++ v178)
  else
    exitG <|
    nextG (IntKind.i64.wrap (w125 + 1), w163, w164, w165)
def made_Tape_Permutations_h17 (a1 : Int) (v90 : Int × Tape) (v91 : Int × Tape) (w96 : List Bool) (w125 : Int) : Int × List Int × Int × List (List Int) × List Int → Fr
  | (w162, w163, w164, w165, w166) => ⟨90, [(0, .one (.a 0 [] (0))), (1, .one (.t none (.sc (.int .i64 a1)))), (6, .one (.a 6 [] (0))), (7, .one (.a 7 [] (0))), (8, .one (.t none (.sc (.int .i64 (IntKind.i64.wrap (1 + v90.1)))))), (10, .one (.t none (.sc (.int .i64 w125)))), (11, .one (.h 11 [])), (13, .one (.t none (.sc (.int .i64 w162)))), (1090, .one (.a 0 [] (0)))], [(0, .vr [.sl w163.length (w163.map fun x0 => .sc (.int .i64 x0)), .sc (.int .i64 w164)]), (6, .vr [.sc (.int .i64 0), .sc (.int .i64 0), .os 1 0 [], .os 1 0 []]), (7, .vr [.sc (.int .i64 a1), .sc (.int .i64 v91.1), .os 1 w96.length (w96.map fun x0 => .sc (.bool x0)), .os 1 w165.length (w165.map fun x0 => .os 1 x0.length (x0.map fun x1 => .sc (.int .i64 x1)))]), (11, .os 1 w166.length (w166.map fun x0 => .sc (.int .i64 x0)))]⟩
def made_Tape_Permutations_b13 (v90 : Int × Tape) (w125 : Int) (w126 : List Int) (w127 : Int) (w128 : List (List Int)) : Int × List Int → Option ((Int × List Int) ⊕ ((Int × List Int × Int × List (List Int)) ⊕ (DFA × Tape)))
  | (w154, w155) =>
  if w154 < (IntKind.i64.wrap (1 + v90.1)) then
    chk (capOk 8 (w155.length + 1)) <|
    nextG (IntKind.i64.wrap (w154 + 1), w155 ++ [w154])
  else
    exitG <|
    loopG (made_Tape_Permutations_b17 v90 w125) LFm (0, w126, w127, w128, w155)
def made_Tape_Permutations_h13 (a1 : Int) (v90 : Int × Tape) (v91 : Int × Tape) (w96 : List Bool) (w125 : Int) (w126 : List Int) (w127 : Int) (w128 : List (List Int)) : Int × List Int → Fr
  | (w154, w155) => ⟨90, [(0, .one (.a 0 [] (0))), (1, .one (.t none (.sc (.int .i64 a1)))), (6, .one (.a 6 [] (0))), (7, .one (.a 7 [] (0))), (8, .one (.t none (.sc (.int .i64 (IntKind.i64.wrap (1 + v90.1)))))), (10, .one (.t none (.sc (.int .i64 w125)))), (11, .one (.h 11 [])), (12, .one (.t none (.sc (.int .i64 w154)))), (1090, .one (.a 0 [] (0)))], [(0, .vr [.sl w126.length (w126.map fun x0 => .sc (.int .i64 x0)), .sc (.int .i64 w127)]), (6, .vr [.sc (.int .i64 0), .sc (.int .i64 0), .os 1 0 [], .os 1 0 []]), (7, .vr [.sc (.int .i64 a1), .sc (.int .i64 v91.1), .os 1 w96.length (w96.map fun x0 => .sc (.bool x0)), .os 1 w128.length (w128.map fun x0 => .os 1 x0.length (x0.map fun x1 => .sc (.int .i64 x1)))]), (11, .os 1 w155.length (w155.map fun x0 => .sc (.int .i64 x0)))]⟩
def made_Tape_Permutations_b9 (a1 : Int) (v90 : Int × Tape) (v91 : Int × Tape) (w96 : List Bool) : Int × List Int × Int × List (List Int) → Option ((Int × List Int × Int × List (List Int)) ⊕ (DFA × Tape))
  | (w125, w126, w127, w128) =>
  if w125 < a1 then
    loopG (made_Tape_Permutations_b13 v90 w125 w126 w127 w128) LFm (0, [])
  else
    exitG <|
    some ((⟨a1, v91.1, w96, w128⟩ : DFA), (⟨w126, w127⟩ : Tape))
def made_Tape_Permutations_h9 (a1 : Int) (v90 : Int × Tape) (v91 : Int × Tape) (w96 : List Bool) : Int × List Int × Int × List (List Int) → Fr
  | (w125, w126, w127, w128) => ⟨90, [(0, .one (.a 0 [] (0))), (1, .one (.t none (.sc (.int .i64 a1)))), (6, .one (.a 6 [] (0))), (7, .one (.a 7 [] (0))), (8, .one (.t none (.sc (.int .i64 (IntKind.i64.wrap (1 + v90.1)))))), (10, .one (.t none (.sc (.int .i64 w125)))), (1090, .one (.a 0 [] (0)))], [(0, .vr [.sl w126.length (w126.map fun x0 => .sc (.int .i64 x0)), .sc (.int .i64 w127)]), (6, .vr [.sc (.int .i64 0), .sc (.int .i64 0), .os 1 0 [], .os 1 0 []]), (7, .vr [.sc (.int .i64 a1), .sc (.int .i64 v91.1), .os 1 w96.length (w96.map fun x0 => .sc (.bool x0)), .os 1 w128.length (w128.map fun x0 => .os 1 x0.length (x0.map fun x1 => .sc (.int .i64 x1)))])]⟩
def made_Tape_Permutations_b5 (a1 : Int) (v90 : Int × Tape) (v91 : Int × Tape) : Int × List Int × Int × List Bool × List (List Int) → Option ((Int × List Int × Int × List Bool × List (List Int)) ⊕ (DFA × Tape))
  | (w93, w94, w95, w96, w97) =>
  if w93 < (IntKind.i64.wrap (1 + v90.1)) then
    (made_Tape_Next (⟨w94, w95⟩ : Tape) 2).bind fun v99 =>
    chk (capOk 1 (w96.length + 1)) <|
    chk (makeOk 8 a1) <|
    chk (capOk 24 (w97.length + 1)) <|
    nextG (IntKind.i64.wrap (w93 + 1), v99.2.l, v99.2.at_, w96 ++ [decide (v99.1 = 1)], w97 ++ [List.replicate a1.toNat (0 : Int)])
  else
    exitG <|
    loopG (made_Tape_Permutations_b9 a1 v90 v91 w96) LFm (0, w94, w95, w97)
def made_Tape_Permutations_h5 (a1 : Int) (v90 : Int × Tape) (v91 : Int × Tape) : Int × List Int × Int × List Bool × List (List Int) → Fr
  | (w93, w94, w95, w96, w97) => ⟨90, [(0, .one (.a 0 [] (0))), (1, .one (.t none (.sc (.int .i64 a1)))), (6, .one (.a 6 [] (0))), (7, .one (.a 7 [] (0))), (8, .one (.t none (.sc (.int .i64 (IntKind.i64.wrap (1 + v90.1)))))), (9, .one (.t none (.sc (.int .i64 w93)))), (1090, .one (.a 0 [] (0)))], [(0, .vr [.sl w94.length (w94.map fun x0 => .sc (.int .i64 x0)), .sc (.int .i64 w95)]), (6, .vr [.sc (.int .i64 0), .sc (.int .i64 0), .os 1 0 [], .os 1 0 []]), (7, .vr [.sc (.int .i64 a1), .sc (.int .i64 v91.1), .os 1 w96.length (w96.map fun x0 => .sc (.bool x0)), .os 1 w97.length (w97.map fun x0 => .os 1 x0.length (x0.map fun x1 => .sc (.int .i64 x1)))])]⟩
def made_Tape_Permutations (a0 : Tape) (a1 : Int) (a2 : Int) : Option (DFA × Tape) :=
  (made_Tape_Next a0 a2).bind fun v90 =>
  (made_Tape_Next v90.2 (IntKind.i64.wrap (1 + v90.1))).bind fun v91 =>
  loopG (made_Tape_Permutations_b5 a1 v90 v91) LFm (0, v91.2.l, v91.2.at_, [], [])
theorem made_Tape_Permutations_ok {a0 : Tape} {a1 : Int} {a2 : Int} {r : DFA × Tape} (h0 : made_Tape_Permutations a0 a1 a2 = some r) : L 32 [.vr [.sl a0.l.length (a0.l.map fun x0 => .sc (.int .i64 x0)), .sc (.int .i64 a0.at_)], .sc (.int .i64 a1), .sc (.int .i64 a2)] = some (.agg [.sc (.int .i64 r.1.letters), .sc (.int .i64 r.1.start), .os 1 r.1.final.length (r.1.final.map fun x0 => .sc (.bool x0)), .os 1 r.1.next.length (r.1.next.map fun x0 => .os 1 x0.length (x0.map fun x1 => .sc (.int .i64 x1)))], [.vr [.sl r.2.l.length (r.2.l.map fun x0 => .sc (.int .i64 x0)), .sc (.int .i64 r.2.at_)], .dead, .dead]) := by
  simp only [made_Tape_Permutations] at h0
  refine L_run cfn32 fn32 (runF_of bd32 ⟨of_decide_eq_true rfl, of_decide_eq_true rfl⟩ ?_)
  simp only [entryF, entryT, entryO, entryE, isIo]
  refine zq rfl (zr rfl rfl rfl (by simp; rfl) ?_)
  refine thenC_n (zq rfl (zr rfl rfl rfl (by simp; rfl) ?_))
  refine thenC_n (zq rfl ?_)
  obtain ⟨v90, f115, h1⟩ := bnd_some h0
  have f115k := made_Tape_Next_ok f115
  try simp at f115k
  refine zr rfl rfl rfl (by simp [f115k]; rfl) ?_
  refine thenC_n (zq rfl ?_)
  obtain ⟨v91, f116, h2⟩ := bnd_some h1
  have f116k := made_Tape_Next_ok f116
  try simp at f116k
  refine zr rfl rfl rfl (by simp [f116k]; rfl) ?_
  refine thenC_n (zq rfl (zq rfl (zr rfl rfl rfl (by simp; rfl) ?_)))
  refine thenC_n (zb rfl (q_loopG h2 (made_Tape_Permutations_h5 a1 v90 v91) rfl rfl (by simp [made_Tape_Permutations_h5]) fun s o1 h3 hr1 => ?_))
  obtain ⟨w93, w94, w95, w96, w97⟩ := s
  simp only [made_Tape_Permutations_b5] at h3
  simp only [made_Tape_Permutations_h5]
  refine zq rfl (zq rfl (zr rfl rfl rfl (by simp; rfl) ?_))
  refine thenC_n ?_
  by_cases c125 : w93 < (IntKind.i64.wrap (1 + v90.1))
  · rw [if_pos c125] at h3
    refine q_ifT rfl (by simp [c125]) (q_skip rfl (thenC_n (zq rfl (zb rfl ?_))))
    obtain ⟨v99, f126, h4⟩ := bnd_some h3
    have f126k := made_Tape_Next_ok f126
    try simp at f126k
    obtain ⟨f127, h5⟩ := chk_some h4
    obtain ⟨f127a, f127b⟩ := f127
    simp only [Nat.mul_one] at f127a
    obtain ⟨f128, h6⟩ := chk_some h5
    obtain ⟨f128a, f128b, f128c⟩ := f128
    have f128d : max a1 0 = a1 := by omega
    obtain ⟨f129, h7⟩ := chk_some h6
    obtain ⟨f129a, f129b⟩ := f129
    refine q_tree rfl rfl rfl rfl ?_
    refine tp_dag [(0, 0, 3, 1), (1, 2, 3, 2), (2, 7, 3, 3), (3, 9, 3, 4), (4, 1, 2, 5), (4, 3, 1, 6), (4, 8, 2, 7), (4, 10, 1, 8), (5, 3, 1, 9), (5, 8, 2, 10), (5, 10, 1, 11), (6, 4, 3, 12), (7, 1, 2, 10), (7, 3, 1, 13), (7, 10, 1, 15), (8, 1, 2, 11), (8, 3, 1, 14), (8, 8, 2, 15), (8, 11, 1, 16), (9, 4, 3, 17), (10, 3, 1, 18), (10, 10, 1, 20), (11, 3, 1, 19), (11, 8, 2, 20), (11, 11, 1, 21), (12, 1, 2, 17), (12, 5, 1, 22), (12, 8, 2, 23), (12, 10, 1, 24), (13, 4, 3, 23), (14, 4, 3, 24), (15, 1, 2, 20), (15, 3, 1, 25), (15, 11, 1, 27), (16, 1, 2, 21), (16, 3, 1, 26), (16, 8, 2, 27), (17, 5, 1, 28), (17, 8, 2, 29), (17, 10, 1, 30), (18, 4, 0, 29), (19, 4, 3, 30), (20, 3, 1, 31), (20, 11, 1, 33), (21, 3, 1, 32), (21, 8, 2, 33), (22, 1, 2, 28), (22, 8, 2, 34), (22, 10, 1, 35), (23, 1, 2, 29), (23, 5, 1, 34), (23, 10, 1, 36), (24, 1, 2, 30), (24, 5, 1, 35), (24, 8, 2, 36), (24, 11, 1, 37), (25, 4, 3, 36), (26, 4, 3, 37), (27, 1, 2, 33), (27, 3, 1, 38), (28, 6, 2, 39), (28, 8, 2, 40), (28, 10, 1, 41), (29, 5, 1, 40), (29, 10, 1, 42), (30, 5, 1, 41), (30, 8, 2, 42), (30, 11, 1, 43), (31, 4, 0, 42), (32, 4, 3, 43), (33, 3, 1, 44), (34, 1, 2, 40), (34, 10, 1, 45), (35, 1, 2, 41), (35, 8, 2, 45), (35, 11, 1, 46), (36, 1, 2, 42), (36, 5, 1, 45), (36, 11, 1, 47), (37, 1, 2, 43), (37, 5, 1, 46), (37, 8, 2, 47), (38, 4, 3, 47), (39, 8, 2, 48), (39, 10, 1, 49), (40, 6, 2, 48), (40, 10, 1, 50), (41, 6, 2, 49), (41, 8, 2, 50), (41, 11, 1, 51), (42, 5, 1, 50), (42, 11, 1, 52), (43, 5, 1, 51), (43, 8, 2, 52), (44, 4, 0, 52), (45, 1, 2, 50), (45, 11, 1, 53), (46, 1, 2, 51), (46, 8, 2, 53), (47, 1, 2, 52), (47, 5, 1, 53), (48, 13, 3, 55), (49, 8, 2, 54), (49, 11, 1, 56), (50, 6, 2, 54), (50, 11, 1, 57), (51, 6, 2, 56), (51, 8, 2, 57), (52, 5, 1, 57), (53, 1, 2, 57), (54, 13, 3, 59), (55, 10, 1, 59), (56, 8, 2, 58), (57, 6, 2, 58), (58, 13, 3, 60), (59, 11, 1, 60), (60, 12, 2, 61), (61, 14, 2, 62), (62, 15, 0, 63), (63, 16, 2, 64)] 64 (by kernel_rfl) ?_
    refine dg_new rfl rfl rfl rfl (by simp [stepN, stepZ, f126k, f127a, f127b, f128a, f128b, f128c, f128d, f129a, f129b]; rfl) ?_
    refine dg_new rfl rfl rfl rfl (by simp [stepN, stepZ, f126k, f127a, f127b, f128a, f128b, f128c, f128d, f129a, f129b]; rfl) ?_
    refine dg_new rfl rfl rfl rfl (by simp [stepN, stepZ, f126k, f127a, f127b, f128a, f128b, f128c, f128d, f129a, f129b]; rfl) ?_
    refine dg_new rfl rfl rfl rfl (by simp [stepN, stepZ, f126k, f127a, f127b, f128a, f128b, f128c, f128d, f129a, f129b]; rfl) ?_
    refine dg_new rfl rfl rfl rfl (by simp [stepN, stepZ, f126k, f127a, f127b, f128a, f128b, f128c, f128d, f129a, f129b]; rfl) ?_
    refine dg_new rfl rfl rfl rfl (by simp [stepN, stepZ, f126k, f127a, f127b, f128a, f128b, f128c, f128d, f129a, f129b]; rfl) ?_
    refine dg_new rfl rfl rfl rfl (by simp [stepN, stepZ, f126k, f127a, f127b, f128a, f128b, f128c, f128d, f129a, f129b]; rfl) ?_
    refine dg_new rfl rfl rfl rfl (by simp [stepN, stepZ, f126k, f127a, f127b, f128a, f128b, f128c, f128d, f129a, f129b]; rfl) ?_
    refine dg_new rfl rfl rfl rfl (by simp [stepN, stepZ, f126k, f127a, f127b, f128a, f128b, f128c, f128d, f129a, f129b]; rfl) ?_
    refine dg_new rfl rfl rfl rfl (by simp [stepN, stepZ, f126k, f127a, f127b, f128a, f128b, f128c, f128d, f129a, f129b]; rfl) ?_
    refine dg_new rfl rfl rfl rfl (by simp [stepN, stepZ, f126k, f127a, f127b, f128a, f128b, f128c, f128d, f129a, f129b]; rfl) ?_
    refine dg_new rfl rfl rfl rfl (by simp [stepN, stepZ, f126k, f127a, f127b, f128a, f128b, f128c, f128d, f129a, f129b]; rfl) ?_
    refine dg_old rfl rfl rfl rfl (by simp [stepN, stepZ, f126k, f127a, f127b, f128a, f128b, f128c, f128d, f129a, f129b]) ?_
    refine dg_new rfl rfl rfl rfl (by simp [stepN, stepZ, f126k, f127a, f127b, f128a, f128b, f128c, f128d, f129a, f129b]; rfl) ?_
    refine dg_new rfl rfl rfl rfl (by simp [stepN, stepZ, f126k, f127a, f127b, f128a, f128b, f128c, f128d, f129a, f129b]; rfl) ?_
    refine dg_old rfl rfl rfl rfl (by simp [stepN, stepZ, f126k, f127a, f127b, f128a, f128b, f128c, f128d, f129a, f129b]) ?_
    refine dg_new rfl rfl rfl rfl (by simp [stepN, stepZ, f126k, f127a, f127b, f128a, f128b, f128c, f128d, f129a, f129b]; rfl) ?_
    refine dg_old rfl rfl rfl rfl (by simp [stepN, stepZ, f126k, f127a, f127b, f128a, f128b, f128c, f128d, f129a, f129b]) ?_
    refine dg_new rfl rfl rfl rfl (by simp [stepN, stepZ, f126k, f127a, f127b, f128a, f128b, f128c, f128d, f129a, f129b]; rfl) ?_
    refine dg_new rfl rfl rfl rfl (by simp [stepN, stepZ, f126k, f127a, f127b, f128a, f128b, f128c, f128d, f129a, f129b]; rfl) ?_
    refine dg_new rfl rfl rfl rfl (by simp [stepN, stepZ, f126k, f127a, f127b, f128a, f128b, f128c, f128d, f129a, f129b]; rfl) ?_
    refine dg_new rfl rfl rfl rfl (by simp [stepN, stepZ, f126k, f127a, f127b, f128a, f128b, f128c, f128d, f129a, f129b]; rfl) ?_
    refine dg_new rfl rfl rfl rfl (by simp [stepN, stepZ, f126k, f127a, f127b, f128a, f128b, f128c, f128d, f129a, f129b]; rfl) ?_
    refine dg_old rfl rfl rfl rfl (by simp [stepN, stepZ, f126k, f127a, f127b, f128a, f128b, f128c, f128d, f129a, f129b]) ?_
    refine dg_new rfl rfl rfl rfl (by simp [stepN, stepZ, f126k, f127a, f127b, f128a, f128b, f128c, f128d, f129a, f129b]; rfl) ?_
    refine dg_old rfl rfl rfl rfl (by simp [stepN, stepZ, f126k, f127a, f127b, f128a, f128b, f128c, f128d, f129a, f129b]) ?_
    refine dg_new rfl rfl rfl rfl (by simp [stepN, stepZ, f126k, f127a, f127b, f128a, f128b, f128c, f128d, f129a, f129b]; rfl) ?_
    refine dg_new rfl rfl rfl rfl (by simp [stepN, stepZ, f126k, f127a, f127b, f128a, f128b, f128c, f128d, f129a, f129b]; rfl) ?_
    refine dg_new rfl rfl rfl rfl (by simp [stepN, stepZ, f126k, f127a, f127b, f128a, f128b, f128c, f128d, f129a, f129b]; rfl) ?_
    refine dg_old rfl rfl rfl rfl (by simp [stepN, stepZ, f126k, f127a, f127b, f128a, f128b, f128c, f128d, f129a, f129b]) ?_
    refine dg_old rfl rfl rfl rfl (by simp [stepN, stepZ, f126k, f127a, f127b, f128a, f128b, f128c, f128d, f129a, f129b]) ?_
    refine dg_old rfl rfl rfl rfl (by simp [stepN, stepZ, f126k, f127a, f127b, f128a, f128b, f128c, f128d, f129a, f129b]) ?_
    refine dg_new rfl rfl rfl rfl (by simp [stepN, stepZ, f126k, f127a, f127b, f128a, f128b, f128c, f128d, f129a, f129b]; rfl) ?_
    refine dg_new rfl rfl rfl rfl (by simp [stepN, stepZ, f126k, f127a, f127b, f128a, f128b, f128c, f128d, f129a, f129b]; rfl) ?_
    refine dg_old rfl rfl rfl rfl (by simp [stepN, stepZ, f126k, f127a, f127b, f128a, f128b, f128c, f128d, f129a, f129b]) ?_
    refine dg_new rfl rfl rfl rfl (by simp [stepN, stepZ, f126k, f127a, f127b, f128a, f128b, f128c, f128d, f129a, f129b]; rfl) ?_
    refine dg_old rfl rfl rfl rfl (by simp [stepN, stepZ, f126k, f127a, f127b, f128a, f128b, f128c, f128d, f129a, f129b]) ?_
    refine dg_new rfl rfl rfl rfl (by simp [stepN, stepZ, f126k, f127a, f127b, f128a, f128b, f128c, f128d, f129a, f129b]; rfl) ?_
    refine dg_new rfl rfl rfl rfl (by simp [stepN, stepZ, f126k, f127a, f127b, f128a, f128b, f128c, f128d, f129a, f129b]; rfl) ?_
    refine dg_new rfl rfl rfl rfl (by simp [stepN, stepZ, f126k, f127a, f127b, f128a, f128b, f128c, f128d, f129a, f129b]; rfl) ?_
    refine dg_old rfl rfl rfl rfl (by simp [stepN, stepZ, f126k, f127a, f127b, f128a, f128b, f128c, f128d, f129a, f129b]) ?_
    refine dg_old rfl rfl rfl rfl (by simp [stepN, stepZ, f126k, f127a, f127b, f128a, f128b, f128c, f128d, f129a, f129b]) ?_
    refine dg_new rfl rfl rfl rfl (by simp [stepN, stepZ, f126k, f127a, f127b, f128a, f128b, f128c, f128d, f129a, f129b]; rfl) ?_
    refine dg_new rfl rfl rfl rfl (by simp [stepN, stepZ, f126k, f127a, f127b, f128a, f128b, f128c, f128d, f129a, f129b]; rfl) ?_
    refine dg_new rfl rfl rfl rfl (by simp [stepN, stepZ, f126k, f127a, f127b, f128a, f128b, f128c, f128d, f129a, f129b]; rfl) ?_
    refine dg_old rfl rfl rfl rfl (by simp [stepN, stepZ, f126k, f127a, f127b, f128a, f128b, f128c, f128d, f129a, f129b]) ?_
    refine dg_old rfl rfl rfl rfl (by simp [stepN, stepZ, f126k, f127a, f127b, f128a, f128b, f128c, f128d, f129a, f129b]) ?_
    refine dg_new rfl rfl rfl rfl (by simp [stepN, stepZ, f126k, f127a, f127b, f128a, f128b, f128c, f128d, f129a, f129b]; rfl) ?_
    refine dg_new rfl rfl rfl rfl (by simp [stepN, stepZ, f126k, f127a, f127b, f128a, f128b, f128c, f128d, f129a, f129b]; rfl) ?_
    refine dg_old rfl rfl rfl rfl (by simp [stepN, stepZ, f126k, f127a, f127b, f128a, f128b, f128c, f128d, f129a, f129b]) ?_
    refine dg_old rfl rfl rfl rfl (by simp [stepN, stepZ, f126k, f127a, f127b, f128a, f128b, f128c, f128d, f129a, f129b]) ?_
    refine dg_new rfl rfl rfl rfl (by simp [stepN, stepZ, f126k, f127a, f127b, f128a, f128b, f128c, f128d, f129a, f129b]; rfl) ?_
    refine dg_old rfl rfl rfl rfl (by simp [stepN, stepZ, f126k, f127a, f127b, f128a, f128b, f128c, f128d, f129a, f129b]) ?_
    refine dg_old rfl rfl rfl rfl (by simp [stepN, stepZ, f126k, f127a, f127b, f128a, f128b, f128c, f128d, f129a, f129b]) ?_
    refine dg_old rfl rfl rfl rfl (by simp [stepN, stepZ, f126k, f127a, f127b, f128a, f128b, f128c, f128d, f129a, f129b]) ?_
    refine dg_new rfl rfl rfl rfl (by simp [stepN, stepZ, f126k, f127a, f127b, f128a, f128b, f128c, f128d, f129a, f129b]; rfl) ?_
    refine dg_old rfl rfl rfl rfl (by simp [stepN, stepZ, f126k, f127a, f127b, f128a, f128b, f128c, f128d, f129a, f129b]) ?_
    refine dg_old rfl rfl rfl rfl (by simp [stepN, stepZ, f126k, f127a, f127b, f128a, f128b, f128c, f128d, f129a, f129b]) ?_
    refine dg_old rfl rfl rfl rfl (by simp [stepN, stepZ, f126k, f127a, f127b, f128a, f128b, f128c, f128d, f129a, f129b]) ?_
    refine dg_new rfl rfl rfl rfl (by simp [stepN, stepZ, f126k, f127a, f127b, f128a, f128b, f128c, f128d, f129a, f129b]; rfl) ?_
    refine dg_new rfl rfl rfl rfl (by simp [stepN, stepZ, f126k, f127a, f127b, f128a, f128b, f128c, f128d, f129a, f129b]; rfl) ?_
    refine dg_new rfl rfl rfl rfl (by simp [stepN, stepZ, f126k, f127a, f127b, f128a, f128b, f128c, f128d, f129a, f129b]; rfl) ?_
    refine dg_new rfl rfl rfl rfl (by simp [stepN, stepZ, f126k, f127a, f127b, f128a, f128b, f128c, f128d, f129a, f129b]; rfl) ?_
    refine dg_old rfl rfl rfl rfl (by simp [stepN, stepZ, f126k, f127a, f127b, f128a, f128b, f128c, f128d, f129a, f129b]) ?_
    refine dg_new rfl rfl rfl rfl (by simp [stepN, stepZ, f126k, f127a, f127b, f128a, f128b, f128c, f128d, f129a, f129b]; rfl) ?_
    refine dg_old rfl rfl rfl rfl (by simp [stepN, stepZ, f126k, f127a, f127b, f128a, f128b, f128c, f128d, f129a, f129b]) ?_
    refine dg_old rfl rfl rfl rfl (by simp [stepN, stepZ, f126k, f127a, f127b, f128a, f128b, f128c, f128d, f129a, f129b]) ?_
    refine dg_new rfl rfl rfl rfl (by simp [stepN, stepZ, f126k, f127a, f127b, f128a, f128b, f128c, f128d, f129a, f129b]; rfl) ?_
    refine dg_old rfl rfl rfl rfl (by simp [stepN, stepZ, f126k, f127a, f127b, f128a, f128b, f128c, f128d, f129a, f129b]) ?_
    refine dg_old rfl rfl rfl rfl (by simp [stepN, stepZ, f126k, f127a, f127b, f128a, f128b, f128c, f128d, f129a, f129b]) ?_
    refine dg_new rfl rfl rfl rfl (by simp [stepN, stepZ, f126k, f127a, f127b, f128a, f128b, f128c, f128d, f129a, f129b]; rfl) ?_
    refine dg_old rfl rfl rfl rfl (by simp [stepN, stepZ, f126k, f127a, f127b, f128a, f128b, f128c, f128d, f129a, f129b]) ?_
    refine dg_new rfl rfl rfl rfl (by simp [stepN, stepZ, f126k, f127a, f127b, f128a, f128b, f128c, f128d, f129a, f129b]; rfl) ?_
    refine dg_old rfl rfl rfl rfl (by simp [stepN, stepZ, f126k, f127a, f127b, f128a, f128b, f128c, f128d, f129a, f129b]) ?_
    refine dg_old rfl rfl rfl rfl (by simp [stepN, stepZ, f126k, f127a, f127b, f128a, f128b, f128c, f128d, f129a, f129b]) ?_
    refine dg_new rfl rfl rfl rfl (by simp [stepN, stepZ, f126k, f127a, f127b, f128a, f128b, f128c, f128d, f129a, f129b]; rfl) ?_
    refine dg_old rfl rfl rfl rfl (by simp [stepN, stepZ, f126k, f127a, f127b, f128a, f128b, f128c, f128d, f129a, f129b]) ?_
    refine dg_old rfl rfl rfl rfl (by simp [stepN, stepZ, f126k, f127a, f127b, f128a, f128b, f128c, f128d, f129a, f129b]) ?_
    refine dg_new rfl rfl rfl rfl (by simp [stepN, stepZ, f126k, f127a, f127b, f128a, f128b, f128c, f128d, f129a, f129b]; rfl) ?_
    refine dg_old rfl rfl rfl rfl (by simp [stepN, stepZ, f126k, f127a, f127b, f128a, f128b, f128c, f128d, f129a, f129b]) ?_
    refine dg_old rfl rfl rfl rfl (by simp [stepN, stepZ, f126k, f127a, f127b, f128a, f128b, f128c, f128d, f129a, f129b]) ?_
    refine dg_old rfl rfl rfl rfl (by simp [stepN, stepZ, f126k, f127a, f127b, f128a, f128b, f128c, f128d, f129a, f129b]) ?_
    refine dg_old rfl rfl rfl rfl (by simp [stepN, stepZ, f126k, f127a, f127b, f128a, f128b, f128c, f128d, f129a, f129b]) ?_
    refine dg_new rfl rfl rfl rfl (by simp [stepN, stepZ, f126k, f127a, f127b, f128a, f128b, f128c, f128d, f129a, f129b]; rfl) ?_
    refine dg_new rfl rfl rfl rfl (by simp [stepN, stepZ, f126k, f127a, f127b, f128a, f128b, f128c, f128d, f129a, f129b]; rfl) ?_
    refine dg_old rfl rfl rfl rfl (by simp [stepN, stepZ, f126k, f127a, f127b, f128a, f128b, f128c, f128d, f129a, f129b]) ?_
    refine dg_new rfl rfl rfl rfl (by simp [stepN, stepZ, f126k, f127a, f127b, f128a, f128b, f128c, f128d, f129a, f129b]; rfl) ?_
    refine dg_old rfl rfl rfl rfl (by simp [stepN, stepZ, f126k, f127a, f127b, f128a, f128b, f128c, f128d, f129a, f129b]) ?_
    refine dg_old rfl rfl rfl rfl (by simp [stepN, stepZ, f126k, f127a, f127b, f128a, f128b, f128c, f128d, f129a, f129b]) ?_
    refine dg_new rfl rfl rfl rfl (by simp [stepN, stepZ, f126k, f127a, f127b, f128a, f128b, f128c, f128d, f129a, f129b]; rfl) ?_
    refine dg_old rfl rfl rfl rfl (by simp [stepN, stepZ, f126k, f127a, f127b, f128a, f128b, f128c, f128d, f129a, f129b]) ?_
    refine dg_new rfl rfl rfl rfl (by simp [stepN, stepZ, f126k, f127a, f127b, f128a, f128b, f128c, f128d, f129a, f129b]; rfl) ?_
    refine dg_old rfl rfl rfl rfl (by simp [stepN, stepZ, f126k, f127a, f127b, f128a, f128b, f128c, f128d, f129a, f129b]) ?_
    refine dg_old rfl rfl rfl rfl (by simp [stepN, stepZ, f126k, f127a, f127b, f128a, f128b, f128c, f128d, f129a, f129b]) ?_
    refine dg_old rfl rfl rfl rfl (by simp [stepN, stepZ, f126k, f127a, f127b, f128a, f128b, f128c, f128d, f129a, f129b]) ?_
    refine dg_old rfl rfl rfl rfl (by simp [stepN, stepZ, f126k, f127a, f127b, f128a, f128b, f128c, f128d, f129a, f129b]) ?_
    refine dg_new rfl rfl rfl rfl (by simp [stepN, stepZ, f126k, f127a, f127b, f128a, f128b, f128c, f128d, f129a, f129b]; rfl) ?_
    refine dg_old rfl rfl rfl rfl (by simp [stepN, stepZ, f126k, f127a, f127b, f128a, f128b, f128c, f128d, f129a, f129b]) ?_
    refine dg_old rfl rfl rfl rfl (by simp [stepN, stepZ, f126k, f127a, f127b, f128a, f128b, f128c, f128d, f129a, f129b]) ?_
    refine dg_old rfl rfl rfl rfl (by simp [stepN, stepZ, f126k, f127a, f127b, f128a, f128b, f128c, f128d, f129a, f129b]) ?_
    refine dg_old rfl rfl rfl rfl (by simp [stepN, stepZ, f126k, f127a, f127b, f128a, f128b, f128c, f128d, f129a, f129b]) ?_
    refine dg_new rfl rfl rfl rfl (by simp [stepN, stepZ, f126k, f127a, f127b, f128a, f128b, f128c, f128d, f129a, f129b]; rfl) ?_
    refine dg_new rfl rfl rfl rfl (by simp [stepN, stepZ, f126k, f127a, f127b, f128a, f128b, f128c, f128d, f129a, f129b]; rfl) ?_
    refine dg_new rfl rfl rfl rfl (by simp [stepN, stepZ, f126k, f127a, f127b, f128a, f128b, f128c, f128d, f129a, f129b]; rfl) ?_
    refine dg_old rfl rfl rfl rfl (by simp [stepN, stepZ, f126k, f127a, f127b, f128a, f128b, f128c, f128d, f129a, f129b]) ?_
    refine dg_new rfl rfl rfl rfl (by simp [stepN, stepZ, f126k, f127a, f127b, f128a, f128b, f128c, f128d, f129a, f129b]; rfl) ?_
    refine dg_old rfl rfl rfl rfl (by simp [stepN, stepZ, f126k, f127a, f127b, f128a, f128b, f128c, f128d, f129a, f129b]) ?_
    refine dg_old rfl rfl rfl rfl (by simp [stepN, stepZ, f126k, f127a, f127b, f128a, f128b, f128c, f128d, f129a, f129b]) ?_
    refine dg_old rfl rfl rfl rfl (by simp [stepN, stepZ, f126k, f127a, f127b, f128a, f128b, f128c, f128d, f129a, f129b]) ?_
    refine dg_old rfl rfl rfl rfl (by simp [stepN, stepZ, f126k, f127a, f127b, f128a, f128b, f128c, f128d, f129a, f129b]) ?_
    refine dg_new rfl rfl rfl rfl (by simp [stepN, stepZ, f126k, f127a, f127b, f128a, f128b, f128c, f128d, f129a, f129b]; rfl) ?_
    refine dg_old rfl rfl rfl rfl (by simp [stepN, stepZ, f126k, f127a, f127b, f128a, f128b, f128c, f128d, f129a, f129b]) ?_
    refine dg_new rfl rfl rfl rfl (by simp [stepN, stepZ, f126k, f127a, f127b, f128a, f128b, f128c, f128d, f129a, f129b]; rfl) ?_
    refine dg_old rfl rfl rfl rfl (by simp [stepN, stepZ, f126k, f127a, f127b, f128a, f128b, f128c, f128d, f129a, f129b]) ?_
    refine dg_new rfl rfl rfl rfl (by simp [stepN, stepZ, f126k, f127a, f127b, f128a, f128b, f128c, f128d, f129a, f129b]; rfl) ?_
    refine dg_old rfl rfl rfl rfl (by simp [stepN, stepZ, f126k, f127a, f127b, f128a, f128b, f128c, f128d, f129a, f129b]) ?_
    refine dg_new rfl rfl rfl rfl (by simp [stepN, stepZ, f126k, f127a, f127b, f128a, f128b, f128c, f128d, f129a, f129b]; rfl) ?_
    refine dg_new rfl rfl rfl rfl (by simp [stepN, stepZ, f126k, f127a, f127b, f128a, f128b, f128c, f128d, f129a, f129b]; rfl) ?_
    refine dg_new rfl rfl rfl rfl (by simp [stepN, stepZ, f126k, f127a, f127b, f128a, f128b, f128c, f128d, f129a, f129b]; rfl) ?_
    refine dg_new rfl rfl rfl rfl (by simp [stepN, stepZ, f126k, f127a, f127b, f128a, f128b, f128c, f128d, f129a, f129b]; rfl) ?_
    refine dg_end rfl ?_
    refine tp_end rfl (by simp [f126k, f127a, f127b, f128a, f128b, f128c, f128d, f129a, f129b]; rfl) ?_
    refine blockC_n (thenC_n (zr rfl rfl rfl (by simp; rfl) ?_))
    have ho := next_some h7
    refine roundC_n ho ?_
    simp [made_Tape_Permutations_h5]
  · rw [if_neg c125] at h3
    refine q_ifF rfl (by simp [c125]) (q_exit rfl (thenC_x ?_))
    obtain ⟨rr1, h4, ho1⟩ := exit_some h3
    have hs1 := hr1 _ ho1
    subst hs1
    refine roundC_x ho1 (blockC_hit2 rfl (thenC_n (zq rfl (zq rfl (zr rfl rfl rfl (by simp; rfl) ?_)))))
    refine thenC_n (zb rfl (q_loopG h4 (made_Tape_Permutations_h9 a1 v90 v91 w96) rfl rfl (by simp [made_Tape_Permutations_h9]) fun s o2 h5 hr2 => ?_))
    obtain ⟨w125, w126, w127, w128⟩ := s
    simp only [made_Tape_Permutations_b9] at h5
    simp only [made_Tape_Permutations_h9]
    refine zq rfl (zq rfl (zr rfl rfl rfl (by simp; rfl) ?_))
    refine thenC_n ?_
    by_cases c196 : w125 < a1
    · rw [if_pos c196] at h5
      refine q_ifT rfl (by simp [c196]) (q_skip rfl (thenC_n (zq rfl (zb rfl (zq rfl (zr rfl rfl rfl (by simp; rfl) ?_))))))
      refine thenC_n (zq rfl (zq rfl (zr rfl rfl rfl (by simp; rfl) ?_)))
      refine thenC_n (zb rfl (q_loopG h5 (made_Tape_Permutations_h13 a1 v90 v91 w96 w125 w126 w127 w128) rfl rfl (by simp [made_Tape_Permutations_h13]) fun s o3 h6 hr3 => ?_))
      obtain ⟨w154, w155⟩ := s
      simp only [made_Tape_Permutations_b13] at h6
      simp only [made_Tape_Permutations_h13]
      refine zq rfl (zq rfl (zr rfl rfl rfl (by simp; rfl) ?_))
      refine thenC_n ?_
      by_cases c200 : w154 < (IntKind.i64.wrap (1 + v90.1))
      · rw [if_pos c200] at h6
        refine q_ifT rfl (by simp [c200]) (q_skip rfl (thenC_n (zq rfl (zb rfl ?_))))
        obtain ⟨f201, h7⟩ := chk_some h6
        obtain ⟨f201a, f201b⟩ := f201
        refine zr rfl rfl rfl (by simp [f201a, f201b]; rfl) ?_
        refine blockC_n (thenC_n (zr rfl rfl rfl (by simp; rfl) ?_))
        have ho := next_some h7
        refine roundC_n ho ?_
        simp [made_Tape_Permutations_h13]
      · rw [if_neg c200] at h6
        refine q_ifF rfl (by simp [c200]) (q_exit rfl (thenC_x ?_))
        obtain ⟨rr3, h7, ho3⟩ := exit_some h6
        have hs3 := hr3 _ ho3
        subst hs3
        refine roundC_x ho3 (blockC_hit2 rfl (thenC_n (zq rfl (zr rfl rfl rfl (by simp; rfl) ?_))))
        refine thenC_n (zb rfl (q_loopG h7 (made_Tape_Permutations_h17 a1 v90 v91 w96 w125) rfl rfl (by simp [made_Tape_Permutations_h17]) fun s o4 h8 hr4 => ?_))
        obtain ⟨w162, w163, w164, w165, w166⟩ := s
        simp only [made_Tape_Permutations_b17] at h8
        simp only [made_Tape_Permutations_h17]
        refine zq rfl (zq rfl (zr rfl rfl rfl (by simp; rfl) ?_))
        refine thenC_n ?_
        by_cases c220 : w162 < (IntKind.i64.wrap (1 + v90.1))
        · rw [if_pos c220] at h8
          refine q_ifT rfl (by simp [c220]) (q_skip rfl (thenC_n (zq rfl (zb rfl (zq rfl ?_)))))
          obtain ⟨v173, f221, h9⟩ := bnd_some h8
          have f221k := made_Tape_Next_ok f221
          try simp at f221k
          refine zr rfl rfl rfl (by simp [f221k]; rfl) ?_
          refine thenC_n (zq rfl ?_)
          obtain ⟨v174, f222, h10⟩ := bnd_some h9
          obtain ⟨f222a, f222b, f222c, f222d, f222e⟩ := atI_some f222
          obtain ⟨v175, f223, h11⟩ := bnd_some h10
          obtain ⟨f223a, f223b, f223c, f223d, f223e⟩ := atI_some f223
          obtain ⟨v176, f224, h12⟩ := bnd_some h11
          obtain ⟨f224a, f224b, f224c, f224d, f224e⟩ := atI_some f224
          refine q_drawW rfl rfl rfl rfl ?_; repeat' (first | (refine q_drawW_op rfl rfl fun Q' hQ => ?_; simp [f222a, f222b, f222c, f222d, f222e, f223a, f223b, f223c, f223d, f223e, f224a, f224b, f224c, f224d, f224e]; refine hQ.out _ ?_; clear hQ; clear Q') | (refine q_drawW_guard rfl rfl fun Q1 Q2 h1 h2 => ?_; simp [f222a, f222b, f222c, f222d, f222e, f223a, f223b, f223c, f223d, f223e, f224a, f224b, f224c, f224d, f224e, twoB_some]; (first | refine h1.out ?_ | refine h2.out ?_); clear h1 h2; clear Q1 Q2; intro Q' hQ; simp [f222a, f222b, f222c, f222d, f222e, f223a, f223b, f223c, f223d, f223e, f224a, f224b, f224c, f224d, f224e]; refine hQ.out _ ?_; clear hQ; clear Q') | (refine q_drawW_nil rfl fun Q' hQ => ?_; simp [f222a, f222b, f222c, f222d, f222e, f223a, f223b, f223c, f223d, f223e, f224a, f224b, f224c, f224d, f224e]; refine hQ.out _ ?_; clear hQ; clear Q'))
          refine thenC_n ?_
          obtain ⟨v177, f225, h13⟩ := bnd_some h12
          obtain ⟨f225a, f225b, f225c, -⟩ := pieceL_some f225
          obtain ⟨f225d, f225g⟩ := piece_hi f225a f225b
          have f225e := pieceL_map (g := fun x : Int => (.sc (.int .i64 x) : T)) f225
          try simp at f225e
          have f225f := pieceL_slm f225
          try simp only [Int.reduceToNat, Int.toNat_natCast, Nat.sub_zero] at f225f
          obtain ⟨v178, f226, h14⟩ := bnd_some h13
          obtain ⟨f226a, f226b, f226c, -⟩ := pieceL_some f226
          obtain ⟨f226d, f226g⟩ := piece_hi f226a f226b
          have f226e := pieceL_map (g := fun x : Int => (.sc (.int .i64 x) : T)) f226
          try simp at f226e
          have f226f := pieceL_slm f226
          try simp only [Int.reduceToNat, Int.toNat_natCast, Nat.sub_zero] at f226f
          obtain ⟨f227, h15⟩ := chk_some h14
          obtain ⟨f227a, f227b⟩ := f227
          obtain ⟨f228, h16⟩ := chk_some h15
          obtain ⟨f228a, f228b⟩ := f228
          refine q_drawW rfl rfl rfl rfl ?_; repeat' (first | (refine q_drawW_op rfl rfl fun Q' hQ => ?_; simp [f222a, f222b, f222c, f222d, f222e, f225a, f225b, f225c, f225d, f225g, f225e, f225f, f226a, f226b, f226c, f226d, f226g, f226e, f226f, f227a, f227b, f228a, f228b]; refine hQ.out _ ?_; clear hQ; clear Q') | (refine q_drawW_guard rfl rfl fun Q1 Q2 h1 h2 => ?_; simp [f222a, f222b, f222c, f222d, f222e, f225a, f225b, f225c, f225d, f225g, f225e, f225f, f226a, f226b, f226c, f226d, f226g, f226e, f226f, f227a, f227b, f228a, f228b, twoB_some]; (first | refine h1.out ?_ | refine h2.out ?_); clear h1 h2; clear Q1 Q2; intro Q' hQ; simp [f222a, f222b, f222c, f222d, f222e, f225a, f225b, f225c, f225d, f225g, f225e, f225f, f226a, f226b, f226c, f226d, f226g, f226e, f226f, f227a, f227b, f228a, f228b]; refine hQ.out _ ?_; clear hQ; clear Q') | (refine q_drawW_nil rfl fun Q' hQ => ?_; simp [f222a, f222b, f222c, f222d, f222e, f225a, f225b, f225c, f225d, f225g, f225e, f225f, f226a, f226b, f226c, f226d, f226g, f226e, f226f, f227a, f227b, f228a, f228b]; refine hQ.out _ ?_; clear hQ; clear Q'))
          refine blockC_n (thenC_n (zr rfl rfl rfl (by simp [f222a, f222b, f222c, f222d, f222e]; rfl) ?_))
          have ho := next_some h16
          refine roundC_n ho ?_
          simp [made_Tape_Permutations_h17]
        · rw [if_neg c220] at h8
          refine q_ifF rfl (by simp [c220]) (q_exit rfl (thenC_x ?_))
          obtain ⟨rr4, h9, ho4⟩ := exit_some h8
          have hs4 := hr4 _ ho4
          subst hs4
          refine roundC_x ho4 (blockC_hit2 rfl (blockC_n (thenC_n (zr rfl rfl rfl (by simp; rfl) ?_))))
          have ho := next_some h9
          refine roundC_n ho ?_
          simp [made_Tape_Permutations_h9]
    · rw [if_neg c196] at h5
      refine q_ifF rfl (by simp [c196]) (q_exit rfl (thenC_x ?_))
      obtain ⟨rr2, h6, ho2⟩ := exit_some h5
      have hs2 := hr2 _ ho2
      subst hs2
      refine roundC_x ho2 (blockC_hit2 rfl (thenC_n (zq rfl (zr rfl rfl rfl (by simp; rfl) ?_))))
      refine thenC_n (q_ret rfl ?_)
      cases h6
      simp

-- semigroup/semigroupmade.Words
def made_Words_b6 (a0 : Int) (a1 : Int) (w31 : Int) : Int × List ByteArray → Option ((Int × List ByteArray) ⊕ ((Int × List ByteArray) ⊕ List ByteArray))
  | (w43, w44) =>
  if w43 < a0 then
    (atI w44 w31).bind fun v47 =>
    if (v47.size : Int) < a1 then
      chk (catOk v47 ⟨#[UInt8.ofNat (IntKind.u8.wrap (IntKind.i64.wrap (97 + w43))).toNat]⟩) <|
      chk (capOk 16 (w44.length + 1)) <|
      nextG (IntKind.i64.wrap (w43 + 1), w44 ++ [v47 ++ ⟨#[UInt8.ofNat (IntKind.u8.wrap (IntKind.i64.wrap (97 + w43))).toNat]⟩])
    else
      exitG <|
      nextG (IntKind.i64.wrap (w31 + 1), w44)
  else
    exitG <|
    nextG (IntKind.i64.wrap (w31 + 1), w44)
def made_Words_h6 (a0 : Int) (a1 : Int) (w31 : Int) : Int × List ByteArray → Fr
  | (w43, w44) => ⟨43, [(0, .one (.t none (.sc (.int .i64 a0)))), (1, .one (.t none (.sc (.int .i64 a1)))), (5, .one (.h 5 [])), (6, .one (.t none (.sc (.int .i64 w31)))), (7, .one (.t none (.sc (.int .i64 w43))))], [(5, .os 1 w44.length (w44.map fun x0 => .sc (.string x0)))]⟩
def made_Words_b3 (a0 : Int) (a1 : Int) : Int × List ByteArray → Option ((Int × List ByteArray) ⊕ List ByteArray)
  | (w31, w32) =>
  if w31 < (w32.length : Int) then
    loopG (made_Words_b6 a0 a1 w31) LFm (0, w32)
  else
    exitG <|
    some w32
def made_Words_h3 (a0 : Int) (a1 : Int) : Int × List ByteArray → Fr
  | (w31, w32) => ⟨43, [(0, .one (.t none (.sc (.int .i64 a0)))), (1, .one (.t none (.sc (.int .i64 a1)))), (5, .one (.h 5 [])), (6, .one (.t none (.sc (.int .i64 w31))))], [(5, .os 1 w32.length (w32.map fun x0 => .sc (.string x0)))]⟩
def made_Words (a0 : Int) (a1 : Int) : Option (List ByteArray) :=
  loopG (made_Words_b3 a0 a1) LFm (0, [ByteArray.empty])
theorem made_Words_ok {a0 : Int} {a1 : Int} {r : List ByteArray} (h0 : made_Words a0 a1 = some r) : L 61 [.sc (.int .i64 a0), .sc (.int .i64 a1)] = some (.os 1 r.length (r.map fun x0 => .sc (.string x0)), [.dead, .dead]) := by
  simp only [made_Words] at h0
  refine L_run cfn61 fn61 (runF_of bd61 ⟨of_decide_eq_true rfl, of_decide_eq_true rfl⟩ ?_)
  simp only [entryF, entryT, entryO, entryE, isIo]
  refine zq rfl (zr rfl rfl rfl (by simp; rfl) ?_)
  refine thenC_n (zq rfl (zr rfl rfl rfl (by simp; rfl) ?_))
  refine thenC_n (zq rfl (zq rfl (zr rfl rfl rfl (by simp; rfl) ?_)))
  refine thenC_n (zb rfl (q_loopG h0 (made_Words_h3 a0 a1) rfl rfl (by simp [made_Words_h3]) fun s o1 h1 hr1 => ?_))
  obtain ⟨w31, w32⟩ := s
  simp only [made_Words_b3] at h1
  simp only [made_Words_h3]
  refine zq rfl (zq rfl (zr rfl rfl rfl (by simp; rfl) ?_))
  refine thenC_n ?_
  by_cases c77 : w31 < (w32.length : Int)
  · rw [if_pos c77] at h1
    refine q_ifT rfl (by simp [c77]) (q_skip rfl (thenC_n (zq rfl (zb rfl (zq rfl (zr rfl rfl rfl (by simp; rfl) ?_))))))
    refine thenC_n (zb rfl (q_loopG h1 (made_Words_h6 a0 a1 w31) rfl rfl (by simp [made_Words_h6]) fun s o2 h2 hr2 => ?_))
    obtain ⟨w43, w44⟩ := s
    simp only [made_Words_b6] at h2
    simp only [made_Words_h6]
    refine zq rfl (zq rfl ?_)
    by_cases c88 : w43 < a0
    · rw [if_pos c88] at h2
      obtain ⟨v47, f89, h3⟩ := bnd_some h2
      obtain ⟨f89a, f89b, f89c, f89d, f89e⟩ := atI_some f89
      refine zr rfl rfl rfl (by simp [c88, f89a, f89b, f89c, f89d, f89e]; rfl) ?_
      refine thenC_n ?_
      by_cases c90 : (v47.size : Int) < a1
      · rw [if_pos c90] at h3
        refine q_ifT rfl (by simp [c90]) (q_skip rfl (thenC_n (zq rfl (zb rfl ?_))))
        obtain ⟨f91, h4⟩ := chk_some h3
        obtain ⟨f92, h5⟩ := chk_some h4
        obtain ⟨f92a, f92b⟩ := f92
        refine q_drawW rfl rfl rfl rfl ?_; repeat' (first | (refine q_drawW_op rfl rfl fun Q' hQ => ?_; simp [f89a, f89b, f89c, f89d, f89e, f91, f92a, f92b]; refine hQ.out _ ?_; clear hQ; clear Q') | (refine q_drawW_guard rfl rfl fun Q1 Q2 h1 h2 => ?_; simp [f89a, f89b, f89c, f89d, f89e, f91, f92a, f92b, twoB_some]; (first | refine h1.out ?_ | refine h2.out ?_); clear h1 h2; clear Q1 Q2; intro Q' hQ; simp [f89a, f89b, f89c, f89d, f89e, f91, f92a, f92b]; refine hQ.out _ ?_; clear hQ; clear Q') | (refine q_drawW_nil rfl fun Q' hQ => ?_; simp [f89a, f89b, f89c, f89d, f89e, f91, f92a, f92b]; refine hQ.out _ ?_; clear hQ; clear Q'))
        refine blockC_n (thenC_n (zr rfl rfl rfl (by simp; rfl) ?_))
        have ho := next_some h5
        refine roundC_n ho ?_
        simp [made_Words_h6]
      · rw [if_neg c90] at h3
        refine q_ifF rfl (by simp [c90]) (q_exit rfl (thenC_x ?_))
        obtain ⟨rr2, h4, ho2⟩ := exit_some h3
        have hs2 := hr2 _ ho2
        subst hs2
        refine roundC_x ho2 (blockC_hit2 rfl (blockC_n (thenC_n (zr rfl rfl rfl (by simp; rfl) ?_))))
        have ho := next_some h4
        refine roundC_n ho ?_
        simp [made_Words_h3]
    · rw [if_neg c88] at h2
      refine zr rfl rfl rfl (by simp [c88]; rfl) ?_
      refine thenC_n (q_ifF rfl (by simp) (q_exit rfl (thenC_x ?_)))
      obtain ⟨rr2, h3, ho2⟩ := exit_some h2
      have hs2 := hr2 _ ho2
      subst hs2
      refine roundC_x ho2 (blockC_hit2 rfl (blockC_n (thenC_n (zr rfl rfl rfl (by simp; rfl) ?_))))
      have ho := next_some h3
      refine roundC_n ho ?_
      simp [made_Words_h3]
  · rw [if_neg c77] at h1
    refine q_ifF rfl (by simp [c77]) (q_exit rfl (thenC_x ?_))
    obtain ⟨rr1, h2, ho1⟩ := exit_some h1
    have hs1 := hr1 _ ho1
    subst hs1
    refine roundC_x ho1 (blockC_hit2 rfl (thenC_n (zq rfl (zr rfl rfl rfl (by simp; rfl) ?_))))
    refine thenC_n (q_ret rfl ?_)
    cases h2
    simp

-- (*semigroup/semigroupmade.Tape).Definite
def made_Tape_Definite_b15 (v201 : List ByteArray) (w385 : ByteArray) : Int × Int → Option ((Int × Int) ⊕ ((ByteArray × Int) ⊕ ((Int × List Int) ⊕ ((Int × List Int × Int × List Bool × List (List Int)) ⊕ (DFA × Tape)))))
  | (w394, w395) =>
  if w395 < (v201.length : Int) then
    (atI v201 w395).bind fun v397 =>
    if v397 = w385 then
      nextG (w395, IntKind.i64.wrap (w395 + 1))
    else
      nextG (w394, IntKind.i64.wrap (w395 + 1))
  else
    exitG <|
    (pieceS w385 1 (w385.size : Int)).bind fun v398 =>
    nextG (v398, w394)
def made_Tape_Definite_h15 (a1 : Int) (v201 : List ByteArray) (w266 : Int) (w269 : List Bool) (w270 : List (List Int)) (v335 : ByteArray) (v336 : Int × Tape) (w357 : Int) (w358 : List Int) (w385 : ByteArray) : Int × Int → Fr
  | (w394, w395) => ⟨76, [(0, .one (.a 0 [] (0))), (1, .one (.t none (.sc (.int .i64 a1)))), (4, .one (.a 4 [] (0))), (5, .one (.a 5 [] (0))), (6, .one (.h 6 [])), (8, .one (.t none (.sc (.string v335)))), (9, .one (.h 9 [])), (10, .one (.t none (.sc (.int .i64 w357)))), (11, .one (.t none (.sc (.string w385)))), (12, .one (.t none (.sc (.int .i64 w394)))), (22, .one (.h 6 [])), (23, .one (.t none (.sc (.int .i64 (v201.length : Int))))), (24, .one (.t none (.sc (.int .i64 w266)))), (50, .one (.h 6 [])), (51, .one (.t none (.sc (.int .i64 (v201.length : Int))))), (52, .one (.t none (.sc (.int .i64 w395)))), (1076, .one (.a 0 [] (0)))], [(0, .vr [.sl v336.2.l.length (v336.2.l.map fun x0 => .sc (.int .i64 x0)), .sc (.int .i64 v336.2.at_)]), (4, .vr [.sc (.int .i64 0), .sc (.int .i64 0), .os 1 0 [], .os 1 0 []]), (5, .vr [.sc (.int .i64 a1), .sc (.int .i64 0), .os 1 (w269 ++ [decide (v336.1 = 1)]).length ((w269 ++ [decide (v336.1 = 1)]).map fun x0 => .sc (.bool x0)), .os 1 w270.length (w270.map fun x0 => .os 1 x0.length (x0.map fun x1 => .sc (.int .i64 x1)))]), (6, .os 1 v201.length (v201.map fun x0 => .sc (.string x0))), (9, .os 1 w358.length (w358.map fun x0 => .sc (.int .i64 x0)))]⟩
def made_Tape_Definite_b13 (v201 : List ByteArray) (w357 : Int) (w358 : List Int) : ByteArray × Int → Option ((ByteArray × Int) ⊕ ((Int × List Int) ⊕ ((Int × List Int × Int × List Bool × List (List Int)) ⊕ (DFA × Tape))))
  | (w385, w386) =>
  if w386 = (-1) then
    loopG (made_Tape_Definite_b15 v201 w385) LFm (w386, 0)
  else
    exitG <|
    chk (capOk 8 (w358.length + 1)) <|
    nextG (IntKind.i64.wrap (w357 + 1), w358 ++ [w386])
def made_Tape_Definite_h13 (a1 : Int) (v201 : List ByteArray) (w266 : Int) (w269 : List Bool) (w270 : List (List Int)) (v335 : ByteArray) (v336 : Int × Tape) (w357 : Int) (w358 : List Int) : ByteArray × Int → Fr
  | (w385, w386) => ⟨76, [(0, .one (.a 0 [] (0))), (1, .one (.t none (.sc (.int .i64 a1)))), (4, .one (.a 4 [] (0))), (5, .one (.a 5 [] (0))), (6, .one (.h 6 [])), (8, .one (.t none (.sc (.string v335)))), (9, .one (.h 9 [])), (10, .one (.t none (.sc (.int .i64 w357)))), (11, .one (.t none (.sc (.string w385)))), (12, .one (.t none (.sc (.int .i64 w386)))), (22, .one (.h 6 [])), (23, .one (.t none (.sc (.int .i64 (v201.length : Int))))), (24, .one (.t none (.sc (.int .i64 w266)))), (1076, .one (.a 0 [] (0)))], [(0, .vr [.sl v336.2.l.length (v336.2.l.map fun x0 => .sc (.int .i64 x0)), .sc (.int .i64 v336.2.at_)]), (4, .vr [.sc (.int .i64 0), .sc (.int .i64 0), .os 1 0 [], .os 1 0 []]), (5, .vr [.sc (.int .i64 a1), .sc (.int .i64 0), .os 1 (w269 ++ [decide (v336.1 = 1)]).length ((w269 ++ [decide (v336.1 = 1)]).map fun x0 => .sc (.bool x0)), .os 1 w270.length (w270.map fun x0 => .os 1 x0.length (x0.map fun x1 => .sc (.int .i64 x1)))]), (6, .os 1 v201.length (v201.map fun x0 => .sc (.string x0))), (9, .os 1 w358.length (w358.map fun x0 => .sc (.int .i64 x0)))]⟩
def made_Tape_Definite_b9 (a1 : Int) (v201 : List ByteArray) (w266 : Int) (w269 : List Bool) (w270 : List (List Int)) (v335 : ByteArray) (v336 : Int × Tape) : Int × List Int → Option ((Int × List Int) ⊕ ((Int × List Int × Int × List Bool × List (List Int)) ⊕ (DFA × Tape)))
  | (w357, w358) =>
  if w357 < a1 then
    chk (catOk v335 ⟨#[UInt8.ofNat (IntKind.u8.wrap (IntKind.i64.wrap (97 + w357))).toNat]⟩) <|
    loopG (made_Tape_Definite_b13 v201 w357 w358) LFm (v335 ++ ⟨#[UInt8.ofNat (IntKind.u8.wrap (IntKind.i64.wrap (97 + w357))).toNat]⟩, (-1))
  else
    exitG <|
    chk (capOk 24 (w270.length + 1)) <|
    nextG (IntKind.i64.wrap (w266 + 1), v336.2.l, v336.2.at_, w269 ++ [decide (v336.1 = 1)], w270 ++ [w358])
def made_Tape_Definite_h9 (a1 : Int) (v201 : List ByteArray) (w266 : Int) (w269 : List Bool) (w270 : List (List Int)) (v335 : ByteArray) (v336 : Int × Tape) : Int × List Int → Fr
  | (w357, w358) => ⟨76, [(0, .one (.a 0 [] (0))), (1, .one (.t none (.sc (.int .i64 a1)))), (4, .one (.a 4 [] (0))), (5, .one (.a 5 [] (0))), (6, .one (.h 6 [])), (8, .one (.t none (.sc (.string v335)))), (9, .one (.h 9 [])), (10, .one (.t none (.sc (.int .i64 w357)))), (22, .one (.h 6 [])), (23, .one (.t none (.sc (.int .i64 (v201.length : Int))))), (24, .one (.t none (.sc (.int .i64 w266)))), (1076, .one (.a 0 [] (0)))], [(0, .vr [.sl v336.2.l.length (v336.2.l.map fun x0 => .sc (.int .i64 x0)), .sc (.int .i64 v336.2.at_)]), (4, .vr [.sc (.int .i64 0), .sc (.int .i64 0), .os 1 0 [], .os 1 0 []]), (5, .vr [.sc (.int .i64 a1), .sc (.int .i64 0), .os 1 (w269 ++ [decide (v336.1 = 1)]).length ((w269 ++ [decide (v336.1 = 1)]).map fun x0 => .sc (.bool x0)), .os 1 w270.length (w270.map fun x0 => .os 1 x0.length (x0.map fun x1 => .sc (.int .i64 x1)))]), (6, .os 1 v201.length (v201.map fun x0 => .sc (.string x0))), (9, .os 1 w358.length (w358.map fun x0 => .sc (.int .i64 x0)))]⟩
def made_Tape_Definite_b4 (a1 : Int) (v201 : List ByteArray) : Int × List Int × Int × List Bool × List (List Int) → Option ((Int × List Int × Int × List Bool × List (List Int)) ⊕ (DFA × Tape))
  | (w266, w267, w268, w269, w270) =>
  if w266 < (v201.length : Int) then
    (atI v201 w266).bind fun v335 =>
    (made_Tape_Next (⟨w267, w268⟩ : Tape) 2).bind fun v336 =>
    chk (capOk 1 (w269.length + 1)) <|
    loopG (made_Tape_Definite_b9 a1 v201 w266 w269 w270 v335 v336) LFm (0, [])
  else
    exitG <|
    some ((⟨a1, 0, w269, w270⟩ : DFA), (⟨w267, w268⟩ : Tape))
def made_Tape_Definite_h4 (a1 : Int) (v201 : List ByteArray) : Int × List Int × Int × List Bool × List (List Int) → Fr
  | (w266, w267, w268, w269, w270) => ⟨76, [(0, .one (.a 0 [] (0))), (1, .one (.t none (.sc (.int .i64 a1)))), (4, .one (.a 4 [] (0))), (5, .one (.a 5 [] (0))), (6, .one (.h 6 [])), (22, .one (.h 6 [])), (23, .one (.t none (.sc (.int .i64 (v201.length : Int))))), (24, .one (.t none (.sc (.int .i64 w266)))), (1076, .one (.a 0 [] (0)))], [(0, .vr [.sl w267.length (w267.map fun x0 => .sc (.int .i64 x0)), .sc (.int .i64 w268)]), (4, .vr [.sc (.int .i64 0), .sc (.int .i64 0), .os 1 0 [], .os 1 0 []]), (5, .vr [.sc (.int .i64 a1), .sc (.int .i64 0), .os 1 w269.length (w269.map fun x0 => .sc (.bool x0)), .os 1 w270.length (w270.map fun x0 => .os 1 x0.length (x0.map fun x1 => .sc (.int .i64 x1)))]), (6, .os 1 v201.length (v201.map fun x0 => .sc (.string x0)))]⟩
def made_Tape_Definite (a0 : Tape) (a1 : Int) : Option (DFA × Tape) :=
  (made_Tape_Next a0 2).bind fun v200 =>
  (made_Words a1 (IntKind.i64.wrap (1 + v200.1))).bind fun v201 =>
  loopG (made_Tape_Definite_b4 a1 v201) LFm (0, v200.2.l, v200.2.at_, [], [])
theorem made_Tape_Definite_ok {a0 : Tape} {a1 : Int} {r : DFA × Tape} (h0 : made_Tape_Definite a0 a1 = some r) : L 33 [.vr [.sl a0.l.length (a0.l.map fun x0 => .sc (.int .i64 x0)), .sc (.int .i64 a0.at_)], .sc (.int .i64 a1)] = some (.agg [.sc (.int .i64 r.1.letters), .sc (.int .i64 r.1.start), .os 1 r.1.final.length (r.1.final.map fun x0 => .sc (.bool x0)), .os 1 r.1.next.length (r.1.next.map fun x0 => .os 1 x0.length (x0.map fun x1 => .sc (.int .i64 x1)))], [.vr [.sl r.2.l.length (r.2.l.map fun x0 => .sc (.int .i64 x0)), .sc (.int .i64 r.2.at_)], .dead]) := by
  simp only [made_Tape_Definite] at h0
  refine L_run cfn33 fn33 (runF_of bd33 ⟨of_decide_eq_true rfl, of_decide_eq_true rfl⟩ ?_)
  simp only [entryF, entryT, entryO, entryE, isIo]
  refine zq rfl (zr rfl rfl rfl (by simp; rfl) ?_)
  refine thenC_n (zq rfl (zr rfl rfl rfl (by simp; rfl) ?_))
  refine thenC_n (zq rfl ?_)
  obtain ⟨v200, f337, h1⟩ := bnd_some h0
  have f337k := made_Tape_Next_ok f337
  try simp at f337k
  obtain ⟨v201, f338, h2⟩ := bnd_some h1
  have f338k := made_Words_ok f338
  try simp at f338k
  refine zr rfl rfl rfl (by simp [f337k, f338k]; rfl) ?_
  refine thenC_n (zq rfl (zq rfl (zr rfl rfl rfl (by simp; rfl) ?_)))
  refine thenC_n (zb rfl (q_loopG h2 (made_Tape_Definite_h4 a1 v201) rfl rfl (by simp [made_Tape_Definite_h4]) fun s o1 h3 hr1 => ?_))
  obtain ⟨w266, w267, w268, w269, w270⟩ := s
  simp only [made_Tape_Definite_b4] at h3
  simp only [made_Tape_Definite_h4]
  refine zq rfl (zr rfl rfl rfl (by simp; rfl) ?_)
  refine thenC_n (zq rfl ?_)
  by_cases c561 : w266 < (v201.length : Int)
  · rw [if_pos c561] at h3
    refine q_ifT rfl (by simp [c561]) (q_skip rfl (thenC_n (zq rfl (zb rfl (zq rfl ?_)))))
    obtain ⟨v335, f562, h4⟩ := bnd_some h3
    obtain ⟨f562a, f562b, f562c, f562d, f562e⟩ := atI_some f562
    refine zr rfl rfl rfl (by simp [f562a, f562b, f562c, f562d, f562e]; rfl) ?_
    refine thenC_n (zq rfl ?_)
    obtain ⟨v336, f563, h5⟩ := bnd_some h4
    have f563k := made_Tape_Next_ok f563
    try simp at f563k
    obtain ⟨f564, h6⟩ := chk_some h5
    obtain ⟨f564a, f564b⟩ := f564
    simp only [Nat.mul_one] at f564a
    refine q_drawW rfl rfl rfl rfl ?_; repeat' (first | (refine q_drawW_op rfl rfl fun Q' hQ => ?_; simp [f563k, f564a, f564b]; refine hQ.out _ ?_; clear hQ; clear Q') | (refine q_drawW_guard rfl rfl fun Q1 Q2 h1 h2 => ?_; simp [f563k, f564a, f564b, twoB_some]; (first | refine h1.out ?_ | refine h2.out ?_); clear h1 h2; clear Q1 Q2; intro Q' hQ; simp [f563k, f564a, f564b]; refine hQ.out _ ?_; clear hQ; clear Q') | (refine q_drawW_nil rfl fun Q' hQ => ?_; simp [f563k, f564a, f564b]; refine hQ.out _ ?_; clear hQ; clear Q'))
    refine thenC_n (zq rfl (zr rfl rfl rfl (by simp; rfl) ?_))
    refine thenC_n (zq rfl (zq rfl (zr rfl rfl rfl (by simp; rfl) ?_)))
    refine thenC_n (zb rfl (q_loopG h6 (made_Tape_Definite_h9 a1 v201 w266 w269 w270 v335 v336) rfl rfl (by simp [made_Tape_Definite_h9]) fun s o2 h7 hr2 => ?_))
    obtain ⟨w357, w358⟩ := s
    simp only [made_Tape_Definite_b9] at h7
    simp only [made_Tape_Definite_h9]
    refine zq rfl (zq rfl (zr rfl rfl rfl (by simp; rfl) ?_))
    refine thenC_n ?_
    by_cases c636 : w357 < a1
    · rw [if_pos c636] at h7
      refine q_ifT rfl (by simp [c636]) (q_skip rfl (thenC_n (zq rfl (zb rfl (zq rfl ?_)))))
      obtain ⟨f637, h8⟩ := chk_some h7
      refine zr rfl rfl rfl (by simp [f637]; rfl) ?_
      refine thenC_n (zq rfl (zr rfl rfl rfl (by simp; rfl) ?_))
      refine thenC_n (zq rfl (zb rfl (q_loopG h8 (made_Tape_Definite_h13 a1 v201 w266 w269 w270 v335 v336 w357 w358) rfl rfl (by simp [made_Tape_Definite_h13]) fun s o3 h9 hr3 => ?_)))
      obtain ⟨w385, w386⟩ := s
      simp only [made_Tape_Definite_b13] at h9
      simp only [made_Tape_Definite_h13]
      refine zq rfl (zq rfl (zr rfl rfl rfl (by simp; rfl) ?_))
      refine thenC_n ?_
      by_cases c660 : w386 = (-1)
      · rw [if_pos c660] at h9
        have c660e := eq_true c660
        refine q_ifT rfl (by simp [c660e]) (q_skip rfl (thenC_n (zb rfl (zq rfl (zq rfl (zr rfl rfl rfl (by simp; rfl) ?_))))))
        refine thenC_n (zb rfl (q_loopG h9 (made_Tape_Definite_h15 a1 v201 w266 w269 w270 v335 v336 w357 w358 w385) rfl rfl (by simp [made_Tape_Definite_h15]) fun s o4 h10 hr4 => ?_))
        obtain ⟨w394, w395⟩ := s
        simp only [made_Tape_Definite_b15] at h10
        simp only [made_Tape_Definite_h15]
        refine zq rfl (zr rfl rfl rfl (by simp; rfl) ?_)
        refine thenC_n (zq rfl ?_)
        by_cases c667 : w395 < (v201.length : Int)
        · rw [if_pos c667] at h10
          refine q_ifT rfl (by simp [c667]) (q_skip rfl (thenC_n (zq rfl (zb rfl (zq rfl ?_)))))
          obtain ⟨v397, f668, h11⟩ := bnd_some h10
          obtain ⟨f668a, f668b, f668c, f668d, f668e⟩ := atI_some f668
          refine zr rfl rfl rfl (by simp [f668a, f668b, f668c, f668d, f668e]; rfl) ?_
          refine thenC_n (zq rfl (zr rfl rfl rfl (by simp; rfl) ?_))
          refine thenC_n ?_
          by_cases c669 : v397 = w385
          · rw [if_pos c669] at h11
            have c669e := eq_true c669
            refine q_ifT rfl (by simp [c669e]) (zr rfl rfl rfl (by simp; rfl) ?_)
            refine blockC_n (thenC_n (zr rfl rfl rfl (by simp; rfl) ?_))
            have ho := next_some h11
            refine roundC_n ho ?_
            simp [made_Tape_Definite_h15]
          · rw [if_neg c669] at h11
            have c669e := eq_false c669
            refine q_ifF rfl (by simp [c669e]) (q_skip rfl (blockC_n (thenC_n (zr rfl rfl rfl (by simp; rfl) ?_))))
            have ho := next_some h11
            refine roundC_n ho ?_
            simp [made_Tape_Definite_h15]
        · rw [if_neg c667] at h10
          refine q_ifF rfl (by simp [c667]) (q_exit rfl (thenC_x ?_))
          obtain ⟨rr4, h11, ho4⟩ := exit_some h10
          have hs4 := hr4 _ ho4
          subst hs4
          refine roundC_x ho4 (blockC_hit2 rfl (thenC_n ?_))
          obtain ⟨v398, f670, h12⟩ := bnd_some h11
          obtain ⟨f670a, f670b, f670c, f670d⟩ := pieceS_some f670
          obtain ⟨f670e, f670f⟩ := piece_hi f670a f670b
          have f670d := f670d.symm
          try simp only [Int.reduceToNat, Int.toNat_natCast] at f670d
          refine zr rfl rfl rfl (by simp [f670a, f670b, f670c, f670d, f670e, f670f]; rfl) ?_
          refine blockC_n ?_
          have ho := next_some h12
          refine roundC_n ho ?_
          simp [made_Tape_Definite_h13]
      · rw [if_neg c660] at h9
        have c660e := eq_false c660
        refine q_ifF rfl (by simp [c660e]) (q_exit rfl (thenC_x ?_))
        obtain ⟨rr3, h10, ho3⟩ := exit_some h9
        have hs3 := hr3 _ ho3
        subst hs3
        refine roundC_x ho3 (blockC_hit2 rfl (thenC_n ?_))
        obtain ⟨f671, h11⟩ := chk_some h10
        obtain ⟨f671a, f671b⟩ := f671
        refine zr rfl rfl rfl (by simp [f671a, f671b]; rfl) ?_
        refine blockC_n (thenC_n (zr rfl rfl rfl (by simp; rfl) ?_))
        have ho := next_some h11
        refine roundC_n ho ?_
        simp [made_Tape_Definite_h9]
    · rw [if_neg c636] at h7
      refine q_ifF rfl (by simp [c636]) (q_exit rfl (thenC_x ?_))
      obtain ⟨rr2, h8, ho2⟩ := exit_some h7
      have hs2 := hr2 _ ho2
      subst hs2
      refine roundC_x ho2 (blockC_hit2 rfl (thenC_n ?_))
      obtain ⟨f672, h9⟩ := chk_some h8
      obtain ⟨f672a, f672b⟩ := f672
      refine zr rfl rfl rfl (by simp [f672a, f672b]; rfl) ?_
      refine blockC_n (thenC_n (zr rfl rfl rfl (by simp; rfl) ?_))
      have ho := next_some h9
      refine roundC_n ho ?_
      simp [made_Tape_Definite_h4]
  · rw [if_neg c561] at h3
    refine q_ifF rfl (by simp [c561]) (q_exit rfl (thenC_x ?_))
    obtain ⟨rr1, h4, ho1⟩ := exit_some h3
    have hs1 := hr1 _ ho1
    subst hs1
    refine roundC_x ho1 (blockC_hit2 rfl (thenC_n (zq rfl (zr rfl rfl rfl (by simp; rfl) ?_))))
    refine thenC_n (q_ret rfl ?_)
    cases h4
    simp

-- (*semigroup/semigroupmade.Tape).Any
def made_Tape_Any (a0 : Tape) (a1 : Int) (a2 : Int) : Option (DFA × Tape) :=
  (made_Tape_Next a0 6).bind fun v6 =>
  if v6.1 = 1 then
    (made_Tape_Ordered v6.2 a1 a2).bind fun v7 =>
    some (v7.1, v7.2)
  else
    if v6.1 = 2 then
      (made_Tape_Permutations v6.2 a1 (if 4 < a2 then 4 else a2)).bind fun v8 =>
      some (v8.1, v8.2)
    else
      if v6.1 = 3 then
        (made_Tape_Definite v6.2 a1).bind fun v9 =>
        some (v9.1, v9.2)
      else
        (made_Tape_Dfa v6.2 a1 a2).bind fun v10 =>
        some (v10.1, v10.2)
theorem made_Tape_Any_ok {a0 : Tape} {a1 : Int} {a2 : Int} {r : DFA × Tape} (h0 : made_Tape_Any a0 a1 a2 = some r) : L 12 [.vr [.sl a0.l.length (a0.l.map fun x0 => .sc (.int .i64 x0)), .sc (.int .i64 a0.at_)], .sc (.int .i64 a1), .sc (.int .i64 a2)] = some (.agg [.sc (.int .i64 r.1.letters), .sc (.int .i64 r.1.start), .os 1 r.1.final.length (r.1.final.map fun x0 => .sc (.bool x0)), .os 1 r.1.next.length (r.1.next.map fun x0 => .os 1 x0.length (x0.map fun x1 => .sc (.int .i64 x1)))], [.vr [.sl r.2.l.length (r.2.l.map fun x0 => .sc (.int .i64 x0)), .sc (.int .i64 r.2.at_)], .dead, .dead]) := by
  simp only [made_Tape_Any] at h0
  refine L_run cfn12 fn12 (runF_of bd12 ⟨of_decide_eq_true rfl, of_decide_eq_true rfl⟩ ?_)
  simp only [entryF, entryT, entryO, entryE, isIo]
  refine zq rfl (zr rfl rfl rfl (by simp; rfl) ?_)
  refine thenC_n (zq rfl (zq rfl ?_))
  obtain ⟨v6, f9, h1⟩ := bnd_some h0
  have f9k := made_Tape_Next_ok f9
  try simp at f9k
  refine zr rfl rfl rfl (by simp [f9k]; rfl) ?_
  refine thenC_n (zb rfl (zq rfl (zr rfl rfl rfl (by simp; rfl) ?_)))
  refine thenC_n ?_
  by_cases c10 : v6.1 = 1
  · rw [if_pos c10] at h1
    have c10e := eq_true c10
    refine q_ifT rfl (by simp [c10e]) (zq rfl ?_)
    obtain ⟨v7, f11, h2⟩ := bnd_some h1
    have f11k := made_Tape_Ordered_ok f11
    try simp at f11k
    refine zr rfl rfl rfl (by simp [f11k]; rfl) ?_
    refine thenC_n (q_ret rfl (blockC_r (thenC_r ?_)))
    cases h2
    simp
  · rw [if_neg c10] at h1
    have c10e := eq_false c10
    refine q_ifF rfl (by simp [c10e]) (zq rfl (zr rfl rfl rfl (by simp; rfl) ?_))
    refine thenC_n ?_
    by_cases c12 : v6.1 = 2
    · rw [if_pos c12] at h1
      have c12e := eq_true c12
      refine q_ifT rfl (by simp [c12e]) (zq rfl ?_)
      obtain ⟨v8, f13, h2⟩ := bnd_some h1
      have f13k := made_Tape_Permutations_ok f13
      try simp at f13k
      refine zr rfl rfl rfl (by simp [f13k]; rfl) ?_
      refine thenC_n (q_ret rfl (blockC_r (thenC_r ?_)))
      cases h2
      simp
    · rw [if_neg c12] at h1
      have c12e := eq_false c12
      refine q_ifF rfl (by simp [c12e]) (zq rfl (zr rfl rfl rfl (by simp; rfl) ?_))
      refine thenC_n ?_
      by_cases c14 : v6.1 = 3
      · rw [if_pos c14] at h1
        have c14e := eq_true c14
        refine q_ifT rfl (by simp [c14e]) (zq rfl ?_)
        obtain ⟨v9, f15, h2⟩ := bnd_some h1
        have f15k := made_Tape_Definite_ok f15
        try simp at f15k
        refine zr rfl rfl rfl (by simp [f15k]; rfl) ?_
        refine thenC_n (q_ret rfl (blockC_r (thenC_r ?_)))
        cases h2
        simp
      · rw [if_neg c14] at h1
        have c14e := eq_false c14
        refine q_ifF rfl (by simp [c14e]) (q_skip rfl (blockC_n (thenC_n (zq rfl ?_))))
        obtain ⟨v10, f16, h2⟩ := bnd_some h1
        have f16k := made_Tape_Dfa_ok f16
        try simp at f16k
        refine zr rfl rfl rfl (by simp [f16k]; rfl) ?_
        refine thenC_n (q_ret rfl ?_)
        cases h2
        simp

-- semigroup/semigroupmade.Few
def made_Few_b4 (a0 : DFA) : Int → Option (Int ⊕ Bool)
  | w6 =>
  if w6 < (a0.next.length : Int) then
    (atI a0.next w6).bind fun v8 =>
    if 10 < (v8.length : Int) then
      exitG <|
      some false
    else
      nextG (IntKind.i64.wrap (w6 + 1))
  else
    exitG <|
    some true
def made_Few_h4 (a0 : DFA) : Int → Fr
  | w6 => ⟨26, [(16, .one (.t none (.sl a0.next.length (a0.next.map fun x0 => .sl x0.length (x0.map fun x1 => .sc (.int .i64 x1)))))), (17, .one (.t none (.sc (.int .i64 (a0.next.length : Int))))), (18, .one (.t none (.sc (.int .i64 w6))))], []⟩
def made_Few (a0 : DFA) : Option (Bool) :=
  if 40 < (a0.final.length : Int) then
    some false
  else
    if 40 < (a0.next.length : Int) then
      some false
    else
      loopG (made_Few_b4 a0) LFm 0
theorem made_Few_ok {a0 : DFA} {r : Bool} (h0 : made_Few a0 = some r) : L 28 [.agg [.sc (.int .i64 a0.letters), .sc (.int .i64 a0.start), .sl a0.final.length (a0.final.map fun x0 => .sc (.bool x0)), .sl a0.next.length (a0.next.map fun x0 => .sl x0.length (x0.map fun x1 => .sc (.int .i64 x1)))]] = some (.sc (.bool r), [.dead]) := by
  simp only [made_Few] at h0
  refine L_run cfn28 fn28 (runF_of bd28 ⟨of_decide_eq_true rfl, of_decide_eq_true rfl⟩ ?_)
  simp only [entryF, entryT, entryO, entryE, isIo]
  refine zq rfl (zr rfl rfl rfl (by simp; rfl) ?_)
  refine thenC_n (zq rfl (zq rfl ?_))
  by_cases c12 : 40 < (a0.final.length : Int)
  · rw [if_pos c12] at h0
    refine zr rfl rfl rfl (by simp [c12]; rfl) ?_
    refine thenC_n (q_ifT rfl (by simp) (zq rfl (zr rfl rfl rfl (by simp; rfl) ?_)))
    refine thenC_n (q_ret rfl (thenC_r ?_))
    cases h0
    simp
  · rw [if_neg c12] at h0
    refine zr rfl rfl rfl (by simp [c12]; rfl) ?_
    refine thenC_n ?_
    by_cases c13 : 40 < (a0.next.length : Int)
    · rw [if_pos c13] at h0
      refine q_ifT rfl (by simp [c13]) (zq rfl (zr rfl rfl rfl (by simp; rfl) ?_))
      refine thenC_n (q_ret rfl (thenC_r ?_))
      cases h0
      simp
    · rw [if_neg c13] at h0
      refine q_ifF rfl (by simp [c13]) (q_skip rfl (thenC_n (zq rfl (zq rfl (zr rfl rfl rfl (by simp; rfl) ?_)))))
      refine thenC_n (zb rfl (q_loopG h0 (made_Few_h4 a0) rfl rfl (by simp [made_Few_h4]) fun s o1 h1 hr1 => ?_))
      obtain ⟨w6, hs1⟩ : ∃ y, y = s := ⟨_, rfl⟩
      subst hs1
      simp only [made_Few_b4] at h1
      simp only [made_Few_h4]
      refine zq rfl (zr rfl rfl rfl (by simp; rfl) ?_)
      refine thenC_n (zq rfl ?_)
      by_cases c20 : w6 < (a0.next.length : Int)
      · rw [if_pos c20] at h1
        refine q_ifT rfl (by simp [c20]) (q_skip rfl (thenC_n (zq rfl (zb rfl (zq rfl ?_)))))
        obtain ⟨v8, f21, h2⟩ := bnd_some h1
        obtain ⟨f21a, f21b, f21c, f21d, f21e⟩ := atI_some f21
        refine zr rfl rfl rfl (by simp [f21a, f21b, f21c, f21d, f21e]; rfl) ?_
        refine thenC_n (zq rfl (zr rfl rfl rfl (by simp; rfl) ?_))
        refine thenC_n ?_
        by_cases c22 : 10 < (v8.length : Int)
        · rw [if_pos c22] at h2
          refine q_ifT rfl (by simp [c22]) (zq rfl (zr rfl rfl rfl (by simp; rfl) ?_))
          refine thenC_n (q_ret rfl (blockC_r (thenC_r ?_)))
          obtain ⟨rr1, h3, ho1⟩ := exit_some h2
          have hs1 := hr1 _ ho1
          subst hs1
          refine roundC_r ho1 (blockC_r (thenC_r ?_))
          cases h3
          simp
        · rw [if_neg c22] at h2
          refine q_ifF rfl (by simp [c22]) (q_skip rfl (blockC_n (thenC_n (zr rfl rfl rfl (by simp; rfl) ?_))))
          have ho := next_some h2
          refine roundC_n ho ?_
          simp [made_Few_h4]
      · rw [if_neg c20] at h1
        refine q_ifF rfl (by simp [c20]) (q_exit rfl (thenC_x ?_))
        obtain ⟨rr1, h2, ho1⟩ := exit_some h1
        have hs1 := hr1 _ ho1
        subst hs1
        refine roundC_x ho1 (blockC_hit2 rfl (thenC_n (zq rfl (zr rfl rfl rfl (by simp; rfl) ?_))))
        refine thenC_n (q_ret rfl ?_)
        cases h2
        simp
end
end Go.Proofs.Ytbnnipkanechoaa
end
section
/- Plain: the tape. -/
namespace Go.Proofs.Ytbnnipkanechoaa
open Go
set_option linter.unusedVariables false
set_option linter.unusedSimpArgs false

/-- A tape at a place of it. -/
structure TapeOk (t : Tape) : Prop where
  a0 : 0 ≤ t.at_
  a1 : t.at_ ≤ t.l.length
  a2 : t.l.length ≤ 80
theorem made_Mod_in (x n : Int) (h1 : 1 ≤ n) (h2 : n < 4611686018427387904) : ∃ v, made_Mod x n = some v ∧ 0 ≤ v ∧ v < n := by
  have hx : x.tmod n < n := Int.tmod_lt_of_pos _ (by omega)
  have hy : -n < x.tmod n := Int.lt_tmod_of_pos x (by omega)
  unfold made_Mod
  rw [if_neg (by omega), chk_pos _ (by omega)]
  split
  · rw [wrapI (by omega) (by omega)]; exact ⟨_, rfl, by omega, by omega⟩
  · exact ⟨_, rfl, by omega, by omega⟩
theorem next_in {t : Tape} (ht : TapeOk t) (n : Int) (h1 : 1 ≤ n) (h2 : n < 4611686018427387904) : ∃ v t', made_Tape_Next t n = some (v, t') ∧ 0 ≤ v ∧ v < n ∧ TapeOk t' := by
  obtain ⟨a0, a1, a2⟩ := ht
  unfold made_Tape_Next
  split
  · exact ⟨_, _, rfl, by omega, by omega, a0, a1, a2⟩
  · rename_i hlt
    rw [wrapI (x := t.at_ + 1) (by omega) (by omega), wrapI (by omega) (by omega)]
    obtain ⟨k, hk⟩ := Int.eq_ofNat_of_zero_le a0
    have e : t.at_ + 1 - 1 = (k : Int) := by omega
    rw [e, atI_nat (by omega)]
    obtain ⟨v, hv, h3, h4⟩ := made_Mod_in t.l[k] n h1 h2
    simp only [Option.bind_some, hv]
    exact ⟨_, _, rfl, h3, h4, by simp only; omega, by simp only; omega, a2⟩
theorem new_in (l : List Int) : ∃ t, made_New l = some t ∧ TapeOk t := by
  unfold made_New
  split
  · rename_i h
    have := pieceL_to (xs := l) (k := 80) (by omega)
    simp only [Int.cast_ofNat_Int] at this
    rw [this]
    exact ⟨_, rfl, by simp, by simp, by simp only [List.length_take]; omega⟩
  · exact ⟨_, rfl, by simp, by simp, by simp; omega⟩
/-- Letters of a word. -/
def lettersB (m : Int) (w : ByteArray) : Prop := ∀ k, ∀ h : k < w.size, 97 ≤ (w[k].toNat : Int) ∧ (w[k].toNat : Int) < 97 + m
theorem bytesOf_size (l : List Int) : (bytesOf l).size = l.length := by simp [bytesOf, ByteArray.size]
theorem bytesOf_get (l : List Int) (k : Nat) (h : k < (bytesOf l).size) : (bytesOf l)[k] = UInt8.ofNat (l[k]'(by rw [bytesOf_size] at h; exact h)).toNat := by
  simp [bytesOf, ByteArray.getElem_eq_getElem_data]
theorem word_in {t : Tape} (ht : TapeOk t) (m most : Int) (hm : 1 ≤ m ∧ m ≤ 26) (hk : 0 ≤ most ∧ most < 1000) : ∃ w t', made_Tape_Word t m most = some (w, t') ∧ lettersB m w ∧ (w.size : Int) ≤ most ∧ TapeOk t' := by
  unfold made_Tape_Word
  rw [wrapI (by omega) (by omega)]
  obtain ⟨n, t1, e1, n0, n1, ht1⟩ := next_in ht (most + 1) (by omega) (by omega)
  simp only [e1, Option.bind_some]
  refine Exists.elim (loopG_rule (b := made_Tape_Word_b3 m) (fun s => 0 ≤ s.1 ∧ s.1 + s.2.2.2.length = n ∧ TapeOk ⟨s.2.1, s.2.2.1⟩ ∧ ∀ x ∈ s.2.2.2, 97 ≤ x ∧ x < 97 + m) (fun s => s.1.toNat) (fun r => lettersB m r.1 ∧ (r.1.size : Int) ≤ most ∧ TapeOk r.2) ?_ LFm (n, t1.l, t1.at_, []) ⟨n0, by simp, ht1, by simp⟩ (by simp only [LFm]; omega)) fun r h => ⟨r.1, r.2, h⟩
  rintro ⟨q, l, a, b⟩ ⟨i1, i2, i3, i4⟩
  simp only at i1 i2 i3 i4 ⊢
  simp only [made_Tape_Word_b3]
  by_cases hq : 0 < q
  · left
    obtain ⟨v, t2, e2, v0, v1, ht2⟩ := next_in i3 m (by omega) (by omega)
    rw [if_pos hq, e2]
    simp only [Option.bind_some]
    rw [chk_pos _ (by unfold capOk; omega), wrapI (x := q - 1) (by omega) (by omega), wrapI (x := 97 + v) (by omega) (by omega), wrap8 (by omega) (by omega)]
    refine ⟨_, rfl, ⟨by simp only; omega, by simp only [List.length_append, List.length_singleton]; omega, ht2, ?_⟩, by simp only; omega⟩
    intro x hx
    rcases List.mem_append.1 hx with h | h
    · exact i4 x h
    · have : x = 97 + v := by simpa using h
      omega
  · right
    rw [if_neg hq]
    refine ⟨_, rfl, fun k hk => ?_, by rw [bytesOf_size]; omega, i3⟩
    rw [bytesOf_get]
    have := i4 _ (List.getElem_mem (by rw [bytesOf_size] at hk; exact hk))
    generalize b[k]'_ = z at this
    simp only [UInt8.toNat_ofNat']
    omega
end Go.Proofs.Ytbnnipkanechoaa
end
section
/- Plain: the tape makes valid automata. -/
namespace Go.Proofs.Ytbnnipkanechoaa
open Go
set_option linter.unusedVariables false
set_option linter.unusedSimpArgs false

/-- Rows of n states over m letters. -/
def RowOk (m n : Nat) (r : List Int) : Prop := r.length = m ∧ ∀ x ∈ r, 0 ≤ x ∧ x < n
/-- A valid automaton of n states over m letters. -/
structure DfaOk (d : DFA) (m n : Nat) : Prop where
  lt : d.letters = m
  m1 : 1 ≤ m
  m6 : m ≤ 6
  n1 : 1 ≤ n
  fin : d.final.length = n
  nl : d.next.length = n
  s0 : 0 ≤ d.start
  s1 : d.start < n
  row : ∀ r ∈ d.next, RowOk m n r
/-- One loop in another's round. -/
theorem loop_in {σ τ ρ : Type} {b : σ → Option (σ ⊕ (τ ⊕ ρ))} (I : σ → Prop) (m : σ → Nat) (Post : τ → Prop) {s : σ} (hI : I s) (hm : m s < LFm)
    (step : ∀ s, I s → (∃ s', b s = some (.inl s') ∧ I s' ∧ m s' < m s) ∨ (∃ r, b s = some (.inr (.inl r)) ∧ Post r)) : ∃ r, loopG b LFm s = some (.inl r) ∧ Post r := by
  obtain ⟨r, h1, r', h2, h3⟩ := loopG_rule I m (fun r => ∃ t, r = .inl t ∧ Post t) (fun s hs => (step s hs).imp id fun ⟨r, h, hp⟩ => ⟨_, h, r, rfl, hp⟩) LFm s hI hm
  exact ⟨r', by rw [h1, h2], h3⟩
theorem mem_snoc {α : Type} {l : List α} {x y : α} : y ∈ l ++ [x] ↔ y ∈ l ∨ y = x := by simp
theorem toM (m : Nat) (i : Int) (h : 0 ≤ i) : (m - i.toNat : Nat) < LFm ∨ LFm ≤ m := by omega
theorem dfa_in {t : Tape} (ht : TapeOk t) (m most : Nat) (hm : 1 ≤ m ∧ m ≤ 6) (hk : 1 ≤ most ∧ most ≤ 1000) : ∃ d t' n, made_Tape_Dfa t m most = some (d, t') ∧ DfaOk d m n ∧ n ≤ most ∧ TapeOk t' := by
  unfold made_Tape_Dfa
  obtain ⟨v, t1, e1, v0, v1, ht1⟩ := next_in ht (most : Int) (by omega) (by omega)
  simp only [e1, Option.bind_some]
  obtain ⟨k, rfl⟩ := Int.eq_ofNat_of_zero_le v0
  have hw : IntKind.i64.wrap (1 + (k : Int)) = ((k + 1 : Nat) : Int) := by rw [wrapI (by omega) (by omega)]; omega
  rw [hw]
  obtain ⟨s, t2, e2, s0, s1, ht2⟩ := next_in ht1 ((k + 1 : Nat) : Int) (by omega) (by omega)
  simp only [e2, Option.bind_some]
  refine Exists.elim (loopG_rule (b := made_Tape_Dfa_b5 m ((k : Int), t1) (s, t2)) (fun z => 0 ≤ z.1 ∧ z.1 ≤ (k + 1 : Nat) ∧ TapeOk ⟨z.2.1, z.2.2.1⟩ ∧ (z.2.2.2.1.length : Int) = z.1 ∧ (z.2.2.2.2.length : Int) = z.1 ∧ ∀ r ∈ z.2.2.2.2, RowOk m (k + 1) r) (fun z => k + 2 - z.1.toNat)
    (fun r => DfaOk r.1 m (k + 1) ∧ TapeOk r.2) ?_ LFm (0, t2.l, t2.at_, [], []) ⟨by simp, by simp; omega, ht2, by simp, by simp, by simp⟩ (by simp only [LFm]; omega)) fun r h => ⟨r.1, r.2, k + 1, h.1, h.2.1, by omega, h.2.2⟩
  rintro ⟨i, tl, ta, fs, rs⟩ ⟨i0, i1, i2, i3, i4, i5⟩
  simp only at i0 i1 i2 i3 i4 i5 ⊢
  simp only [made_Tape_Dfa_b5, hw]
  by_cases hi : i < ((k + 1 : Nat) : Int)
  · left
    rw [if_pos hi]
    obtain ⟨u, t3, e3, u0, u1, ht3⟩ := next_in i2 2 (by omega) (by omega)
    simp only [e3, Option.bind_some]
    rw [chk_pos _ (by unfold capOk; omega)]
    refine Exists.elim (loop_in (b := made_Tape_Dfa_b10 m ((k : Int), t1) i fs rs (u, t3)) (fun z => 0 ≤ z.1 ∧ z.1 ≤ m ∧ TapeOk ⟨z.2.1, z.2.2.1⟩ ∧ (z.2.2.2.length : Int) = z.1 ∧ ∀ x ∈ z.2.2.2, 0 ≤ x ∧ x < (k + 1 : Nat)) (fun z => m + 1 - z.1.toNat)
      (fun z => z.1 = i + 1 ∧ TapeOk ⟨z.2.1, z.2.2.1⟩ ∧ (z.2.2.2.1.length : Int) = i + 1 ∧ (z.2.2.2.2.length : Int) = i + 1 ∧ ∀ r ∈ z.2.2.2.2, RowOk m (k + 1) r) (s := (0, t3.l, t3.at_, [])) ⟨by simp, by simp, ht3, by simp, by simp⟩ (by simp only [LFm]; omega) ?_) fun r h => ⟨_, h.1, ⟨by have := h.2.1; omega, by have := h.2.1; omega, h.2.2.1, by have := h.2.1; have := h.2.2.2.1; omega, by have := h.2.1; have := h.2.2.2.2.1; omega, h.2.2.2.2.2⟩, by have := h.2.1; omega⟩
    rintro ⟨j, ul, ua, row⟩ ⟨j0, j1, j2, j3, j4⟩
    simp only at j0 j1 j2 j3 j4 ⊢
    simp only [made_Tape_Dfa_b10, hw]
    by_cases hj : j < (m : Int)
    · left
      rw [if_pos hj]
      obtain ⟨x, t4, e4, x0, x1, ht4⟩ := next_in j2 ((k + 1 : Nat) : Int) (by omega) (by omega)
      simp only [e4, Option.bind_some]
      rw [chk_pos _ (by unfold capOk; omega), wrapI (by omega) (by omega)]
      refine ⟨_, rfl, ⟨by simp only; omega, by simp only; omega, ht4, by simp only [List.length_append, List.length_singleton]; omega, fun y hy => ?_⟩, by simp only; omega⟩
      rcases mem_snoc.1 hy with h | rfl
      · exact j4 y h
      · exact ⟨x0, x1⟩
    · right
      rw [if_neg hj, chk_pos _ (by unfold capOk; omega), wrapI (by omega) (by omega)]
      refine ⟨_, rfl, by simp only, j2, by simp only [List.length_append, List.length_singleton]; omega, by simp only [List.length_append, List.length_singleton]; omega, fun y hy => ?_⟩
      rcases mem_snoc.1 hy with h | rfl
      · exact i5 y h
      · exact ⟨by omega, j4⟩
  · right
    rw [if_neg hi]
    exact ⟨_, rfl, ⟨rfl, hm.1, hm.2, by omega, by simp only; omega, by simp only; omega, s0, s1, i5⟩, i2⟩
theorem letters_in {t : Tape} (ht : TapeOk t) : ∃ m t', made_Tape_Letters t = some (((m : Nat) : Int), t') ∧ 1 ≤ m ∧ m ≤ 2 ∧ TapeOk t' := by
  unfold made_Tape_Letters
  obtain ⟨v, t1, e1, v0, v1, ht1⟩ := next_in ht 8 (by omega) (by omega)
  simp only [e1, Option.bind_some]
  obtain ⟨k, rfl⟩ := Int.eq_ofNat_of_zero_le v0
  have : quoI .i64 (k : Int) 7 = ((k / 7 : Nat) : Int) := by
    unfold quoI
    rw [show ((k : Int).tdiv 7) = ((k / 7 : Nat) : Int) by rfl, wrapI (by omega) (by omega)]
  rw [this, wrapI (by omega) (by omega)]
  exact ⟨2 - k / 7, t1, by congr 2; omega, by omega, by omega, ht1⟩
end Go.Proofs.Ytbnnipkanechoaa
end
section
/- Plain: the tape makes valid automata of all its kinds. -/
namespace Go.Proofs.Ytbnnipkanechoaa
open Go
set_option linter.unusedVariables false
set_option linter.unusedSimpArgs false
set_option maxRecDepth 100000

theorem rows_set {m n : Nat} {rs : List (List Int)} (h : ∀ r ∈ rs, RowOk m n r) {r' : List Int} (hr : RowOk m n r') (i : Nat) : ∀ r ∈ rs.set i r', RowOk m n r := fun r hm => by
  rcases List.mem_or_eq_of_mem_set hm with h' | rfl
  · exact h r h'
  · exact hr
theorem row_set {m n : Nat} {r : List Int} (h : RowOk m n r) {x : Int} (hx : 0 ≤ x ∧ x < n) (j : Nat) : RowOk m n (r.set j x) := ⟨by simp [h.1], fun y hy => by
  rcases List.mem_or_eq_of_mem_set hy with h' | rfl
  · exact h.2 y h'
  · exact hx⟩
theorem row_at {m n : Nat} {rs : List (List Int)} (h : ∀ r ∈ rs, RowOk m n r) {k : Nat} (hk : k < rs.length) : RowOk m n rs[k] := h _ (List.getElem_mem hk)
theorem ordered_in {t : Tape} (ht : TapeOk t) (m most : Nat) (hm : 1 ≤ m ∧ m ≤ 6) (hk : 1 ≤ most ∧ most ≤ 1000) : ∃ d t' n, made_Tape_Ordered t m most = some (d, t') ∧ DfaOk d m n ∧ n ≤ most ∧ TapeOk t' := by
  unfold made_Tape_Ordered
  obtain ⟨d, t1, n, e1, hd, hn, ht1⟩ := dfa_in ht m most hm hk
  simp only [e1, Option.bind_some]
  refine Exists.elim (loopG_rule (b := made_Tape_Ordered_b3 (d, t1)) (fun z => 0 ≤ z.1 ∧ z.1 ≤ n ∧ z.2.length = n ∧ ∀ r ∈ z.2, RowOk m n r) (fun z => n + 1 - z.1.toNat) (fun r => DfaOk r.1 m n ∧ TapeOk r.2) ?_ LFm (0, d.next) ⟨by simp, by simp, hd.nl, hd.row⟩ (by simp only [LFm]; omega)) fun r h => ⟨r.1, r.2, n, h.1, h.2.1, hn, h.2.2⟩
  rintro ⟨i, rs⟩ ⟨i0, i1, i2, i3⟩
  simp only at i0 i1 i2 i3 ⊢
  simp only [made_Tape_Ordered_b3, hd.nl]
  obtain ⟨i, rfl⟩ := Int.eq_ofNat_of_zero_le i0
  by_cases hi : (i : Int) < n
  · left
    rw [if_pos hi, atI_nat (by omega)]
    simp only [Option.bind_some]
    have hri := row_at i3 (show i < rs.length by omega)
    refine Exists.elim (loop_in (b := made_Tape_Ordered_b6 (i : Int) rs[i]) (fun z => 0 ≤ z.1 ∧ z.1 ≤ m ∧ z.2.length = n ∧ ∀ r ∈ z.2, RowOk m n r) (fun z => m + 1 - z.1.toNat) (fun z => z.1 = (i : Int) + 1 ∧ z.2.length = n ∧ ∀ r ∈ z.2, RowOk m n r) (s := (0, rs)) ⟨by simp, by simp, i2, i3⟩ (by simp only [LFm]; omega) ?_) fun r h => ⟨_, h.1, ⟨by have := h.2.1; omega, by have := h.2.1; omega, h.2.2.1, h.2.2.2⟩, by have := h.2.1; omega⟩
    rintro ⟨j, us⟩ ⟨j0, j1, j2, j3⟩
    simp only at j0 j1 j2 j3 ⊢
    obtain ⟨j, rfl⟩ := Int.eq_ofNat_of_zero_le j0
    simp only [made_Tape_Ordered_b6, hri.1]
    rw [atI_nat (by omega)]
    simp only [Option.bind_some]
    have hui := row_at j3 (show i < us.length by omega)
    by_cases hj : (j : Int) < m
    · left
      rw [if_pos hj, atI_nat (by rw [hui.1]; omega), wrapI (by omega) (by omega)]
      simp only [Option.bind_some]
      refine ⟨_, rfl, ⟨by simp only; omega, by simp only; omega, by simp only [List.length_set]; exact j2, rows_set j3 (row_set hui ?_ _) _⟩, by simp only; omega⟩
      have := hui.2 _ (List.getElem_mem (show j < us[i].length by rw [hui.1]; omega))
      split <;> omega
    · right
      rw [if_neg hj, wrapI (by omega) (by omega)]
      exact ⟨_, rfl, rfl, j2, j3⟩
  · right
    rw [if_neg hi]
    exact ⟨_, rfl, ⟨hd.lt, hd.m1, hd.m6, hd.n1, hd.fin, by simp only; omega, by simp, by simp only; have := hd.n1; omega, i3⟩, ht1⟩
theorem row_zero (m n : Nat) (hn : 1 ≤ n) : RowOk m n (List.replicate m 0) := ⟨by simp, fun x hx => by rw [(List.mem_replicate.1 hx).2]; omega⟩
theorem piece_a {xs : List Int} {k : Nat} (h : k < xs.length) : pieceL xs 0 (k : Int) = some (xs.take k) := pieceL_to (by omega)
theorem piece_b {xs : List Int} {k : Nat} (h : k < xs.length) : pieceL xs ((k : Int) + 1) (xs.length : Int) = some (xs.drop (k + 1)) := by
  have := pieceL_from (xs := xs) (k := k + 1) (by omega)
  rwa [show ((k + 1 : Nat) : Int) = (k : Int) + 1 by omega] at this
theorem perms_in {t : Tape} (ht : TapeOk t) (m most : Nat) (hm : 1 ≤ m ∧ m ≤ 6) (hk : 1 ≤ most ∧ most ≤ 1000) : ∃ d t' n, made_Tape_Permutations t m most = some (d, t') ∧ DfaOk d m n ∧ n ≤ most ∧ TapeOk t' := by
  unfold made_Tape_Permutations
  obtain ⟨v, t1, e1, v0, v1, ht1⟩ := next_in ht (most : Int) (by omega) (by omega)
  simp only [e1, Option.bind_some]
  obtain ⟨k, rfl⟩ := Int.eq_ofNat_of_zero_le v0
  have hw : IntKind.i64.wrap (1 + (k : Int)) = ((k + 1 : Nat) : Int) := by rw [wrapI (by omega) (by omega)]; omega
  rw [hw]
  obtain ⟨s, t2, e2, s0, s1, ht2⟩ := next_in ht1 ((k + 1 : Nat) : Int) (by omega) (by omega)
  simp only [e2, Option.bind_some]
  refine Exists.elim (loopG_rule (b := made_Tape_Permutations_b5 m ((k : Int), t1) (s, t2)) (fun z => 0 ≤ z.1 ∧ z.1 ≤ (k + 1 : Nat) ∧ TapeOk ⟨z.2.1, z.2.2.1⟩ ∧ (z.2.2.2.1.length : Int) = z.1 ∧ (z.2.2.2.2.length : Int) = z.1 ∧ ∀ r ∈ z.2.2.2.2, RowOk m (k + 1) r) (fun z => k + 2 - z.1.toNat)
    (fun r => DfaOk r.1 m (k + 1) ∧ TapeOk r.2) ?_ LFm (0, t2.l, t2.at_, [], []) ⟨by simp, by simp; omega, ht2, by simp, by simp, by simp⟩ (by simp only [LFm]; omega)) fun r h => ⟨r.1, r.2, k + 1, h.1, h.2.1, by omega, h.2.2⟩
  rintro ⟨i, tl, ta, fs, rs⟩ ⟨i0, i1, i2, i3, i4, i5⟩
  simp only at i0 i1 i2 i3 i4 i5 ⊢
  simp only [made_Tape_Permutations_b5, hw]
  by_cases hi : i < ((k + 1 : Nat) : Int)
  · left
    rw [if_pos hi]
    obtain ⟨u, t3, e3, u0, u1, ht3⟩ := next_in i2 2 (by omega) (by omega)
    simp only [e3, Option.bind_some]
    rw [chk_pos _ (by unfold capOk; omega), chk_pos _ (by unfold makeOk; omega), chk_pos _ (by unfold capOk; omega), wrapI (by omega) (by omega)]
    refine ⟨_, rfl, ⟨by simp only; omega, by simp only; omega, ht3, by simp only [List.length_append, List.length_singleton]; omega, by simp only [List.length_append, List.length_singleton]; omega, fun y hy => ?_⟩, by simp only; omega⟩
    rcases mem_snoc.1 hy with h | rfl
    · exact i5 y h
    · exact row_zero m (k + 1) (by omega)
  · right
    rw [if_neg hi]
    refine Exists.elim (loopG_rule (b := made_Tape_Permutations_b9 m ((k : Int), t1) (s, t2) fs) (fun z => 0 ≤ z.1 ∧ z.1 ≤ m ∧ TapeOk ⟨z.2.1, z.2.2.1⟩ ∧ z.2.2.2.length = k + 1 ∧ ∀ r ∈ z.2.2.2, RowOk m (k + 1) r) (fun z => m + 1 - z.1.toNat)
      (fun r => DfaOk r.1 m (k + 1) ∧ TapeOk r.2) ?_ LFm (0, tl, ta, rs) ⟨by simp, by simp, i2, by simp only; omega, i5⟩ (by simp only [LFm]; omega)) fun r h => ⟨r, by rw [h.1]; rfl, h.2⟩
    rintro ⟨a, ul, ua, us⟩ ⟨a0, a1, a2, a3, a4⟩
    simp only at a0 a1 a2 a3 a4 ⊢
    obtain ⟨a, rfl⟩ := Int.eq_ofNat_of_zero_le a0
    simp only [made_Tape_Permutations_b9]
    by_cases ha : (a : Int) < m
    · left
      rw [if_pos ha]
      refine Exists.elim (loop_in (b := made_Tape_Permutations_b13 ((k : Int), t1) (a : Int) ul ua us) (fun z => 0 ≤ z.1 ∧ z.1 ≤ (k + 1 : Nat) ∧ (z.2.length : Int) = z.1 ∧ ∀ x ∈ z.2, 0 ≤ x ∧ x < (k + 1 : Nat)) (fun z => k + 2 - z.1.toNat)
        (fun z => z.1 = (a : Int) + 1 ∧ TapeOk ⟨z.2.1, z.2.2.1⟩ ∧ z.2.2.2.length = k + 1 ∧ ∀ r ∈ z.2.2.2, RowOk m (k + 1) r) (s := (0, [])) ⟨by simp, by simp; omega, by simp, by simp⟩ (by simp only [LFm]; omega) ?_) fun r h => ⟨_, h.1, ⟨by have := h.2.1; omega, by have := h.2.1; omega, h.2.2.1, h.2.2.2.1, h.2.2.2.2⟩, by have := h.2.1; omega⟩
      rintro ⟨q, left⟩ ⟨q0, q1, q2, q3⟩
      simp only at q0 q1 q2 q3 ⊢
      simp only [made_Tape_Permutations_b13, hw]
      by_cases hq : q < ((k + 1 : Nat) : Int)
      · left
        rw [if_pos hq, chk_pos _ (by unfold capOk; omega), wrapI (by omega) (by omega)]
        refine ⟨_, rfl, ⟨by simp only; omega, by simp only; omega, by simp only [List.length_append, List.length_singleton]; omega, fun y hy => ?_⟩, by simp only; omega⟩
        rcases mem_snoc.1 hy with h | rfl
        · exact q3 y h
        · omega
      · right
        rw [if_neg hq]
        refine Exists.elim (loop_in (b := made_Tape_Permutations_b17 ((k : Int), t1) (a : Int)) (fun z => 0 ≤ z.1 ∧ z.1 ≤ (k + 1 : Nat) ∧ TapeOk ⟨z.2.1, z.2.2.1⟩ ∧ z.2.2.2.1.length = k + 1 ∧ (∀ r ∈ z.2.2.2.1, RowOk m (k + 1) r) ∧ (z.2.2.2.2.length : Int) = (k + 1 : Nat) - z.1 ∧ ∀ x ∈ z.2.2.2.2, 0 ≤ x ∧ x < (k + 1 : Nat)) (fun z => k + 2 - z.1.toNat)
          (fun z => z.1 = (a : Int) + 1 ∧ TapeOk ⟨z.2.1, z.2.2.1⟩ ∧ z.2.2.2.length = k + 1 ∧ ∀ r ∈ z.2.2.2, RowOk m (k + 1) r) (s := (0, ul, ua, us, left)) ⟨by simp, by simp; omega, a2, a3, a4, by simp only; omega, q3⟩ (by simp only [LFm]; omega) ?_) fun r h => ⟨r, by rw [h.1]; rfl, h.2⟩
        rintro ⟨p, xl, xa, xs, lf⟩ ⟨p0, p1, p2, p3, p4, p5, p6⟩
        simp only at p0 p1 p2 p3 p4 p5 p6 ⊢
        obtain ⟨p, rfl⟩ := Int.eq_ofNat_of_zero_le p0
        simp only [made_Tape_Permutations_b17, hw]
        by_cases hp : (p : Int) < ((k + 1 : Nat) : Int)
        · left
          rw [if_pos hp]
          obtain ⟨x, t4, e4, x0, x1, ht4⟩ := next_in p2 (lf.length : Int) (by omega) (by omega)
          obtain ⟨x, rfl⟩ := Int.eq_ofNat_of_zero_le x0
          have hrp := row_at p4 (show p < xs.length by omega)
          have hlx : x < lf.length := by omega
          simp only [e4, Option.bind_some]
          rw [atI_nat (show p < xs.length by omega)]
          simp only [Option.bind_some]
          rw [atI_nat hlx]
          simp only [Option.bind_some]
          rw [atI_nat (show a < xs[p].length by rw [hrp.1]; omega), wrapI (x := (x : Int) + 1) (by omega) (by omega), piece_a hlx]
          simp only [Option.bind_some]
          rw [piece_b hlx]
          simp only [Option.bind_some]
          rw [chk_pos _ (by unfold capOk; simp only [List.length_take]; omega), chk_pos _ (by unfold capOk; simp only [List.length_take, List.length_drop]; omega), wrapI (by omega) (by omega)]
          refine ⟨_, rfl, ⟨by simp only; omega, by simp only; omega, ht4, by simp only [List.length_set]; exact p3, rows_set p4 (row_set hrp (p6 _ (List.getElem_mem hlx)) _) _, by simp only [List.length_append, List.length_take, List.length_drop]; omega, fun y hy => ?_⟩, by simp only; omega⟩
          rcases List.mem_append.1 hy with h | h
          · exact p6 y (List.mem_of_mem_take h)
          · exact p6 y (List.mem_of_mem_drop h)
        · right
          rw [if_neg hp, wrapI (by omega) (by omega)]
          exact ⟨_, rfl, rfl, p2, p3, p4⟩
    · right
      rw [if_neg ha]
      exact ⟨_, rfl, ⟨rfl, hm.1, hm.2, by omega, by simp only; omega, a3, s0, s1, a4⟩, a2⟩
end Go.Proofs.Ytbnnipkanechoaa
end

/- Proved here: a part of the proof of the law at hand, in one text: no condition. -/
import Derived.Test.YtbnnipkanechoaaTImagesHeights2
import Derived.Test.YtbnnipkanechoaaProg
import Derived.KernelRfl
import Derived.WalkKit
import Derived.Below
set_option linter.unusedVariables false
set_option linter.unusedSimpArgs false
section
namespace Go.Proofs.Ytbnnipkanechoaa
open Go
theorem zkc {σ ρ : Type} {b : σ → Option (σ ⊕ ρ)} {x : Option ρ} : ∀ (n : Nat) (f : Nat → σ) (m : Nat), n < m → (∀ k, k < n → b (f k) = z0Y (f (k + 1))) → b (f n) = z1n x → z1j b m (f 0) = x
  | 0, f, m + 1, _, _, hl => by
    simp only [z1j, hl]
    cases x <;> rfl
  | n + 1, f, m + 1, hm, hs, hl => by
    simp only [z1j, hs 0 (by omega), z0Y]
    exact zkc n (fun k => f (k + 1)) m (by omega) (fun k hk => hs (k + 1) (by omega)) hl
theorem z2j {σ ρ : Type} {b : σ → Option (σ ⊕ ρ)} {x : Option ρ} (n : Nat) (f : Nat → σ) {s : σ} (h0 : s = f 0) (hn : n < LFm) (step : ∀ k, k < n → b (f k) = z0Y (f (k + 1))) (last : b (f n) = z1n x) : z1j b LFm s = x := by
  subst h0; exact zkc n f LFm hn step last
theorem zfD {σ ρ : Type} {b : σ → Option (σ ⊕ ρ)} {x : Option ρ} {p : Nat → Bool} {A : Nat → Option ρ} : ∀ (n : Nat) (f : Nat → σ) (m i : Nat), n < m → (∀ k, k < n → b (f k) = if p (i + k) = true then z1n (A (i + k)) else z0Y (f (k + 1))) → b (f n) = z1n x →
    z1j b m (f 0) = match ((List.range n).map (i + ·)).find? p with | some k => A k | none => x
  | 0, f, m + 1, i, _, _, hl => by
    simp only [z1j, hl]
    cases x <;> rfl
  | n + 1, f, m + 1, i, hm, hs, hl => by
    have h0 := hs 0 (by omega)
    have hmap : (List.range (n + 1)).map (i + ·) = i :: (List.range n).map (i + 1 + ·) := by
      rw [List.range_succ_eq_map, List.map_cons, List.map_map]
      congr 1
      apply List.map_congr_left
      intro k _
      simp only [Function.comp]
      omega
    rw [hmap, List.find?_cons]
    simp only [Nat.add_zero] at h0
    by_cases hp : p i = true
    · rw [if_pos hp] at h0
      rw [hp]
      simp only [z1j, h0]
      generalize A i = y
      cases y <;> rfl
    · rw [if_neg hp] at h0
      have hp' : p i = false := by simpa using hp
      rw [hp']
      simp only [z1j, h0, z0Y]
      exact zfD n (fun k => f (k + 1)) m (i + 1) (by omega) (fun k hk => by rw [hs (k + 1) (by omega), show i + (k + 1) = i + 1 + k by omega]) hl
theorem z6E {σ ρ : Type} {b : σ → Option (σ ⊕ ρ)} {x : Option ρ} (n : Nat) (f : Nat → σ) (p : Nat → Bool) (A : Nat → Option ρ) {s : σ} (h0 : s = f 0) (hn : n < LFm) (step : ∀ k, k < n → b (f k) = if p k = true then z1n (A k) else z0Y (f (k + 1))) (last : b (f n) = z1n x) :
    z1j b LFm s = match (List.range n).find? p with | some k => A k | none => x := by
  subst h0
  have := zfD n f LFm 0 hn (p := p) (A := A) (fun k hk => by rw [step k hk]; simp) last
  simpa using this
theorem z3f {k : Nat} (h : k < 4611686018427387904) : IntKind.i64.wrap ((k : Int) + 1) = ((k + 1 : Nat) : Int) := by
  rw [IntWalk.i64_in _ (by omega)]; omega
theorem z2m {x : Int} (h : -9223372036854775808 ≤ x) (h2 : x < 9223372036854775808) : IntKind.i64.wrap x = x := IntWalk.i64_in _ (by omega)
theorem zqo {x : Int} (h : 0 ≤ x) (h2 : x < 256) : IntKind.u8.wrap x = x := by rw [IntKind.wrap_u8]; omega
theorem z2V {α : Type} {xs : List α} {k : Nat} (h : k < xs.length) : atI xs (k : Int) = some xs[k] := by
  unfold atI; rw [if_pos (by omega), Int.toNat_natCast, List.getElem?_eq_getElem h]
theorem atI_q {α : Type} (xs : List α) (k : Nat) : atI xs (k : Int) = xs[k]? := by
  unfold atI; rw [if_pos (by omega), Int.toNat_natCast]
theorem zeg {s : ByteArray} {k : Nat} (h : k < s.size) : zij s (k : Int) = some (s[k].toNat : Int) := by
  unfold zij; rw [if_pos (by omega), Int.toNat_natCast, getElem?_pos s k h]; rfl
theorem zhK {α : Type} {xs : List α} {k : Nat} (h : k ≤ xs.length) : z6D xs 0 (k : Int) = some (xs.take k) := by
  unfold z6D; rw [if_pos (by omega)]; simp
theorem zj6 {α : Type} {xs : List α} {k : Nat} (h : k ≤ xs.length) : z6D xs (k : Int) (xs.length : Int) = some (xs.drop k) := by
  unfold z6D; rw [if_pos (by omega)]; simp [List.take_of_length_le]
theorem z1i {α : Type} {p : Prop} [Decidable p] (x : Option α) (h : p) : chk p x = x := by unfold chk; rw [if_pos h]
theorem ze9 {p : Nat → Bool} {n : Nat} : (List.range n).find? p = none ↔ ∀ k, k < n → p k = false := by simp
theorem zaR {p : Nat → Bool} {n k : Nat} : (List.range n).find? p = some k ↔ k < n ∧ p k = true ∧ ∀ j, j < k → p j = false := by
  rw [List.find?_range_eq_some]; simp; constructor
  · rintro ⟨a, b, c⟩; exact ⟨b, a, c⟩
  · rintro ⟨a, b, c⟩; exact ⟨b, a, c⟩
theorem zgi {ρ : Type} {p : Nat → Bool} {n : Nat} (a b : ρ) : (match (List.range n).find? p with | some _ => a | none => b) = if (List.range n).all (fun k => !p k) then b else a := by
  cases h : (List.range n).find? p with
  | none => rw [ze9] at h; rw [if_pos (by simpa using h)]
  | some k =>
    rw [zaR] at h
    rw [if_neg]
    simp only [List.all_eq_true, List.mem_range, Bool.not_eq_true']
    intro hh
    have := hh k h.1
    rw [h.2.1] at this
    cases this
theorem zdM {α : Type} (p : α → Bool) (l : List α) (d : α) : (List.range l.length).all (fun k => p (l.getD k d)) = l.all p := by
  rw [Bool.eq_iff_iff, List.all_eq_true, List.all_eq_true]
  constructor
  · intro h x hx
    obtain ⟨i, hi, rfl⟩ := List.getElem_of_mem hx
    have := h i (List.mem_range.2 hi)
    simpa only [List.getD, List.getElem?_eq_getElem hi, Option.getD_some] using this
  · intro h i hi
    have hi := List.mem_range.1 hi
    have := h _ (List.getElem_mem hi)
    simpa only [List.getD, List.getElem?_eq_getElem hi, Option.getD_some] using this
theorem zhW {α ρ : Type} {b : Int → Option (Int ⊕ ρ)} {l : List α} (d : α) (p : α → Bool) {A B : Option ρ} (h : l.length < 4611686018427387904) (step : ∀ k, k < l.length → b (k : Int) = if p (l.getD k d) = true then z0Y ((k + 1 : Nat) : Int) else z1n A) (last : b (l.length : Int) = z1n B) :
    z1j b LFm 0 = if l.all p = true then B else A := by
  rw [z6E (s := (0 : Int)) l.length (fun k => (k : Int)) (fun k => !p (l.getD k d)) (fun _ => A) (x := B) rfl (by simp only [LFm]; omega) (fun k hk => ?_) last]
  · rw [zgi]
    simp only [Bool.not_not]
    rw [zdM]
  · rw [step k hk]
    cases p (l.getD k d) <;> simp
def zsi {α β : Type} (E : α → β → Prop) : Option α → Option β → Prop
  | some a, some b => E a b
  | none, none => True
  | _, _ => False
def zyL {σ τ α β : Type} (R : σ → τ → Prop) (E : α → β → Prop) : σ ⊕ α → τ ⊕ β → Prop
  | .inl a, .inl b => R a b
  | .inr a, .inr b => E a b
  | _, _ => False
abbrev zvb {σ τ α β : Type} (R : σ → τ → Prop) (E : α → β → Prop) : Option (σ ⊕ α) → Option (τ ⊕ β) → Prop := zsi (zyL R E)
theorem rnd_next {σ τ α β : Type} {R : σ → τ → Prop} {E : α → β → Prop} {s : σ} {t : τ} (h : R s t) : zvb R E (z0Y s) (z0Y t) := h
theorem rnd_exit {σ τ α β : Type} {R : σ → τ → Prop} {E : α → β → Prop} {x : Option α} {y : Option β} (h : zsi E x y) : zvb R E (z1n x) (z1n y) := by
  cases x <;> cases y <;> first | exact h | exact absurd h id
theorem zpm {σ τ α β : Type} {b : σ → Option (σ ⊕ α)} {d : τ → Option (τ ⊕ β)} (R : σ → τ → Prop) (E : α → β → Prop) (step : ∀ s t, R s t → zvb R E (b s) (d t)) : ∀ (n : Nat) (s : σ) (t : τ), R s t → zsi E (z1j b n s) (z1j d n t)
  | 0, s, t, _ => trivial
  | n + 1, s, t, h => by
    have h1 := step s t h
    simp only [z1j]
    revert h1
    cases b s with
    | none => cases d t with
      | none => intro _; trivial
      | some y => intro h1; exact absurd h1 (by cases y <;> exact id)
    | some x => cases d t with
      | none => intro h1; exact absurd h1 (by cases x <;> exact id)
      | some y =>
        cases x with
        | inl s' => cases y with
          | inl t' => intro h1; exact zpm R E step n s' t' h1
          | inr r => intro h1; exact absurd h1 id
        | inr r => cases y with
          | inl t' => intro h1; exact absurd h1 id
          | inr r' => intro h1; exact h1
theorem optR_eq {α : Type} {x y : Option α} (h : zsi (· = ·) x y) : x = y := by
  cases x <;> cases y <;> first | rfl | (exact congrArg some h) | exact absurd h id
theorem optR_rfl {α : Type} (x : Option α) : zsi (· = ·) x x := by cases x <;> first | rfl | trivial
end Go.Proofs.Ytbnnipkanechoaa
end
section
namespace Go.Proofs.Ytbnnipkanechoaa
attribute [simp] undef scB ext z3h z4W Function.comp_def zfL zit zcu zjg nav sub upd z4v z4X z3d zfX z2b zmF z6p zrW z6W z9I zkL zmE onA kill z4k zfv zes z2Y zai zc5 zqY z5j zi1 zaD zpn za9 zcb setT moveT zm3 zk4 plugL' zmz zm8 z6Q zrO zrN zq7 zs2 zs1 nrmO? plugL putR z8E explode cellsE z4F rdV scE zpM zpL zoE zms zmh zml zmj zmi zmr zo7 zmg zgb zmq zmk zmm zmn zmo zmp zlX zlU zlV zlW zlY zkD zkE zkF zkG znt znu znv znw zpu zod zp6 zp7 List.map_flatMap zk6 zhO zkR zad zs0 unS zsN zsO zkM opE zrm zjx zmc zm4 zoP zvz z9m zko zoT zjX zcG zsp z9J zo6 zpD zr5 z8r z8w z9s z6V zcv zoS zpi zkZ zsz zet zo4 z8v z9y z7Y z4R z5A z6r znl zhr z7Z zoH zeD zvg zrz znK zqb zen zgr zqR zpl zkS zsw zmK zsg opn zep z2X zjU zr9 zoK zsB z3X zeE z8c ze6 clB ioF zsF zsk zaX z8s putF opF zjG z5p zqV zgx z9A z5M onE ids zez zey z7V zmu z5r z5S z1A z1w z1s z1z zrC znD zhu z9w zcn zrI zm5 zhN zjh znL zsq zrH zek zrG zeB zin zvv zvx zvu zvw zpA z8D z0e wrF zaE noM zsC zss zs7 zrl zkj zrD zg8 zg4 zi2 zdR zqU zcC zsy zox zaG zac zjb zju zfK zs9 zs8 Option.map_some zgl zom
end Go.Proofs.Ytbnnipkanechoaa
end
section
namespace Go.Proofs.Ytbnnipkanechoaa
open Go
def zji : List T → Option (List Int)
  | [] => some []
  | .sc (.int .i64 x) :: l => (zji l).map (x :: ·)
  | _ => none
theorem zi5 : ∀ xs : List Int, zji (xs.map fun x => .sc (.int .i64 x)) = some xs
  | [] => rfl
  | x :: xs => by simp [zji, zi5 xs]
theorem zi6 : ∀ {cs : List T} {xs : List Int}, zji cs = some xs → cs = xs.map fun x => .sc (.int .i64 x)
  | [], xs, h => by simp [zji] at h; subst h; rfl
  | c :: cs, xs, h => by
    unfold zji at h
    split at h
    · rename_i he; cases he
    · rename_i x l he
      cases he
      simp only [Option.map_eq_some_iff] at h
      obtain ⟨ys, hy, rfl⟩ := h
      simp [← zi6 hy]
    · cases h
def szN (s : Nat) : Nat := (List.range 7).countP fun q => s.testBit q
def zpO (p r : Nat) : Bool := decide (szN r < szN p) || (decide (szN p = szN r) && decide (p ≤ r))
def leI (a b : Int) : Bool := zpO a.toNat b.toNat
def zpq (x : Int) : List Int → List Int
  | [] => [x]
  | y :: l => if leI x y = true then x :: y :: l else y :: zpq x l
def zax : List Int → List Int
  | [] => []
  | x :: l => zpq x (zax l)
def zl4 (xs : List Int) : Option (List Int) := if xs ≠ [] ∧ xs.length < 4611686018427387904 ∧ xs.all (fun x => decide (0 ≤ x ∧ x < 128)) = true then some (zax xs) else none
def zqn (fn : FuncId) (args : List T) : Option (T × List T) := match args with
  | [.os 1 n cs, .sc (.func (.func f) fs gs)] => if f = fn ∧ fs.isEmpty ∧ gs.isEmpty then (match zji cs with | some xs => if xs.length = n then (zl4 xs).map fun ys => (.tup [], [.os 1 ys.length (ys.map fun x => .sc (.int .i64 x)), .dead]) else none | none => none) else none
  | _ => none
def xtC : z0A := fun f args => if f = 64 then zqn 65 args else none
end Go.Proofs.Ytbnnipkanechoaa
end
section
namespace Go.Proofs.Ytbnnipkanechoaa
open Go
set_option maxRecDepth 100000
@[simp] theorem ty3 : z3z Try.prog 3 = some ⟨.int .i64, 1, 8, (some [(.sc (.int .i64 0))])⟩ := by kernel_rfl
@[simp] theorem ty4 : z3z Try.prog 4 = some ⟨.bool, 1, 1, (some [(.sc (.bool false))])⟩ := by kernel_rfl
@[simp] theorem ty5 : z3z Try.prog 5 = some ⟨.int .u8, 1, 1, (some [(.sc (.int .u8 0))])⟩ := by kernel_rfl
@[simp] theorem ty9 : z3z Try.prog 9 = some ⟨.string, 1, 16, (some [(.sc (.string ByteArray.empty))])⟩ := by kernel_rfl
@[simp] theorem ty22 : z3z Try.prog 22 = some ⟨.slice 3, 1, 24, (some [(.os 1 0 [])])⟩ := by kernel_rfl
@[simp] theorem ty23 : z3z Try.prog 23 = some ⟨.pointer 60, 1, 8, (some [(.sc (.pointer none))])⟩ := by kernel_rfl
@[simp] theorem ty25 : z3z Try.prog 25 = some ⟨.slice 4, 1, 24, (some [(.os 1 0 [])])⟩ := by kernel_rfl
@[simp] theorem ty26 : z3z Try.prog 26 = some ⟨.slice 22, 1, 24, (some [(.os 1 0 [])])⟩ := by kernel_rfl
noncomputable def zvD : Array Field := match Try.prog.underlying 28 with | some (.struct fs) => fs | _ => #[]
@[simp] theorem ty28 : z3z Try.prog 28 = some ⟨.struct zvD, 4, 64, (some [(.sc (.int .i64 0)), (.sc (.int .i64 0)), (.os 1 0 []), (.os 1 0 [])])⟩ := by kernel_rfl
@[simp] theorem fi28_0 : z3Q Try.prog 28 0 = some (0, 1, false) := by kernel_rfl
@[simp] theorem fi28_1 : z3Q Try.prog 28 1 = some (1, 1, false) := by kernel_rfl
@[simp] theorem fi28_2 : z3Q Try.prog 28 2 = some (2, 1, false) := by kernel_rfl
@[simp] theorem fi28_3 : z3Q Try.prog 28 3 = some (3, 1, false) := by kernel_rfl
@[simp] theorem zvs : zbT Try.prog 28 = (some [(.sc (.int .i64 0)), (.sc (.int .i64 0)), (.os 1 0 []), (.os 1 0 [])]) := by kernel_rfl
@[simp] theorem bs28 (fr : Fr) (parts : List (Nat × Operand)) : zaZ Try.prog fr 28 parts = match z9y fr (z3Q Try.prog 28) ([(.sc (.int .i64 0)), (.sc (.int .i64 0)), (.os 1 0 []), (.os 1 0 [])].map (A.t none)) parts with | some xs => some (E.ag xs) | none => none := z6o zvs fr parts
@[simp] theorem ty31 : z3z Try.prog 31 = some ⟨.slice 9, 1, 24, (some [(.os 1 0 [])])⟩ := by kernel_rfl
noncomputable def zvC : Array Field := match Try.prog.underlying 33 with | some (.struct fs) => fs | _ => #[]
@[simp] theorem ty33 : z3z Try.prog 33 = some ⟨.struct zvC, 6, 144, (some [(.os 1 0 []), (.os 1 0 []), (.os 1 0 []), (.os 1 0 []), (.os 1 0 []), (.os 1 0 [])])⟩ := by kernel_rfl
@[simp] theorem fi33_0 : z3Q Try.prog 33 0 = some (0, 1, false) := by kernel_rfl
@[simp] theorem fi33_1 : z3Q Try.prog 33 1 = some (1, 1, false) := by kernel_rfl
@[simp] theorem fi33_2 : z3Q Try.prog 33 2 = some (2, 1, false) := by kernel_rfl
@[simp] theorem fi33_3 : z3Q Try.prog 33 3 = some (3, 1, false) := by kernel_rfl
@[simp] theorem fi33_4 : z3Q Try.prog 33 4 = some (4, 1, false) := by kernel_rfl
@[simp] theorem fi33_5 : z3Q Try.prog 33 5 = some (5, 1, false) := by kernel_rfl
@[simp] theorem zvr : zbT Try.prog 33 = (some [(.os 1 0 []), (.os 1 0 []), (.os 1 0 []), (.os 1 0 []), (.os 1 0 []), (.os 1 0 [])]) := by kernel_rfl
@[simp] theorem bs33 (fr : Fr) (parts : List (Nat × Operand)) : zaZ Try.prog fr 33 parts = match z9y fr (z3Q Try.prog 33) ([(.os 1 0 []), (.os 1 0 []), (.os 1 0 []), (.os 1 0 []), (.os 1 0 []), (.os 1 0 [])].map (A.t none)) parts with | some xs => some (E.ag xs) | none => none := z6o zvr fr parts
@[simp] theorem ty34 : z3z Try.prog 34 = some ⟨.int .i64, 1, 8, (some [(.sc (.int .i64 0))])⟩ := by kernel_rfl
@[simp] theorem ty41 : z3z Try.prog 41 = some ⟨.map 3 3, 1, 8, (some [(.sc (.map none))])⟩ := by kernel_rfl
@[simp] theorem mt41 : zhU Try.prog 41 = some ((some .i64), 3) := by kernel_rfl
@[simp] theorem zv41 : zmT Try.prog 3 = some (.int .i64 0) := by kernel_rfl
@[simp] theorem ty51 : z3z Try.prog 51 = some ⟨.int .u64, 1, 8, (some [(.sc (.int .u64 0))])⟩ := by kernel_rfl
noncomputable def zvB : Array Field := match Try.prog.underlying 60 with | some (.struct fs) => fs | _ => #[]
@[simp] theorem ty60 : z3z Try.prog 60 = some ⟨.struct zvB, 2, 32, (some [(.os 1 0 []), (.sc (.int .i64 0))])⟩ := by kernel_rfl
@[simp] theorem fi60_0 : z3Q Try.prog 60 0 = some (0, 1, false) := by kernel_rfl
@[simp] theorem fi60_1 : z3Q Try.prog 60 1 = some (1, 1, false) := by kernel_rfl
@[simp] theorem zvq : zbT Try.prog 60 = (some [(.os 1 0 []), (.sc (.int .i64 0))]) := by kernel_rfl
@[simp] theorem bs60 (fr : Fr) (parts : List (Nat × Operand)) : zaZ Try.prog fr 60 parts = match z9y fr (z3Q Try.prog 60) ([(.os 1 0 []), (.sc (.int .i64 0))].map (A.t none)) parts with | some xs => some (E.ag xs) | none => none := z6o zvq fr parts
@[simp] theorem ty63 : z3z Try.prog 63 = some ⟨.slice 25, 1, 24, (some [(.os 1 0 [])])⟩ := by kernel_rfl
noncomputable def zvA : Array Field := match Try.prog.underlying 65 with | some (.struct fs) => fs | _ => #[]
@[simp] theorem ty65 : z3z Try.prog 65 = some ⟨.struct zvA, 3, 72, (some [(.os 1 0 []), (.os 1 0 []), (.os 1 0 [])])⟩ := by kernel_rfl
@[simp] theorem fi65_0 : z3Q Try.prog 65 0 = some (0, 1, false) := by kernel_rfl
@[simp] theorem fi65_1 : z3Q Try.prog 65 1 = some (1, 1, false) := by kernel_rfl
@[simp] theorem fi65_2 : z3Q Try.prog 65 2 = some (2, 1, false) := by kernel_rfl
@[simp] theorem zvp : zbT Try.prog 65 = (some [(.os 1 0 []), (.os 1 0 []), (.os 1 0 [])]) := by kernel_rfl
@[simp] theorem bs65 (fr : Fr) (parts : List (Nat × Operand)) : zaZ Try.prog fr 65 parts = match z9y fr (z3Q Try.prog 65) ([(.os 1 0 []), (.os 1 0 []), (.os 1 0 [])].map (A.t none)) parts with | some xs => some (E.ag xs) | none => none := z6o zvp fr parts
@[simp] theorem ty80 : z3z Try.prog 80 = some ⟨.slice 5, 1, 24, (some [(.os 1 0 [])])⟩ := by kernel_rfl
@[simp] theorem ty89 : z3z Try.prog 89 = some ⟨.map 3 4, 1, 8, (some [(.sc (.map none))])⟩ := by kernel_rfl
@[simp] theorem mt89 : zhU Try.prog 89 = some ((some .i64), 4) := by kernel_rfl
@[simp] theorem zv89 : zmT Try.prog 4 = some (.bool false) := by kernel_rfl
@[simp] theorem ty102 : z3z Try.prog 102 = some ⟨.int .u32, 1, 4, (some [(.sc (.int .u32 0))])⟩ := by kernel_rfl
@[simp] theorem ty104 : z3z Try.prog 104 = some ⟨.int .u64, 1, 8, (some [(.sc (.int .u64 0))])⟩ := by kernel_rfl
def cf3 : Cfg := { wio := fun f i => (f == 30 && (i == 0)) || (f == 12 && (i == 0)) || (f == 13 && (i == 0)) || (f == 20 && (i == 0)) || (f == 999999 && (i == 0)), live := fun r => none, dr := fun r => none, fz := fun r => if r = 3 then some [4] else none }
@[simp] theorem wio3 : cf3.wio = fun f i => (f == 30 && (i == 0)) || (f == 12 && (i == 0)) || (f == 13 && (i == 0)) || (f == 20 && (i == 0)) || (f == 999999 && (i == 0)) := rfl
@[simp] theorem live3 : cf3.live = fun r => none := rfl
@[simp] theorem wr3 : cf3.wr = fun _ => [] := rfl
def cf4 : Cfg := { wio := fun f i => (f == 30 && (i == 0)) || (f == 12 && (i == 0)) || (f == 13 && (i == 0)) || (f == 20 && (i == 0)) || (f == 999999 && (i == 0)), live := fun r => if r = 7 then some [5, 35, 36, 37] else if r = 11 then some [5, 7, 8, 9, 35, 36, 37, 46, 47, 48] else none, dr := fun r => if r = 13 then some [(0, 0), (1, 0), (2, 0), (3, 0), (4, 0), (5, 0), (6, 0), (7, 0), (8, 0), (9, 0), (10, 0), (11, 0), (12, 0), (13, 0), (14, 0), (15, 0), (16, 0), (17, 0), (18, 0), (19, 0), (20, 0), (21, 0), (22, 0), (23, 0), (24, 0), (25, 0), (26, 0), (27, 0), (28, 0), (29, 0), (30, 0), (31, 0), (32, 0), (33, 0)] else none, fz := fun r => if r = 3 then some [4] else none }
@[simp] theorem wio4 : cf4.wio = fun f i => (f == 30 && (i == 0)) || (f == 12 && (i == 0)) || (f == 13 && (i == 0)) || (f == 20 && (i == 0)) || (f == 999999 && (i == 0)) := rfl
@[simp] theorem live4 : cf4.live = fun r => if r = 7 then some [5, 35, 36, 37] else if r = 11 then some [5, 7, 8, 9, 35, 36, 37, 46, 47, 48] else none := rfl
@[simp] theorem wr4 : cf4.wr = fun _ => [] := rfl
def cf5 : Cfg := { wio := fun f i => (f == 30 && (i == 0)) || (f == 12 && (i == 0)) || (f == 13 && (i == 0)) || (f == 20 && (i == 0)) || (f == 999999 && (i == 0)), live := fun r => if r = 9 then some [4, 5, 7, 8, 78, 79, 80] else if r = 20 then some [4, 5, 7, 8, 9, 78, 79, 80, 189, 190, 191] else if r = 27 then some [4, 5, 7, 8, 9, 20, 22, 78, 79, 80, 189, 190, 191, 221, 222, 223] else none, dr := fun r => if r = 15 then some [(0, 0), (1, 0), (2, 0), (3, 0), (4, 0), (5, 0), (6, 0), (7, 0), (8, 0), (9, 0), (10, 0), (11, 1), (12, 0), (13, 0), (14, 0), (15, 0), (16, 0)] else if r = 16 then some [(0, 0), (1, 0), (2, 0), (3, 0), (4, 0), (5, 0), (6, 0), (7, 1), (8, 0), (9, 0), (10, 0), (11, 0), (12, 0)] else if r = 17 then some [(0, 0), (1, 0), (2, 0), (3, 0), (4, 0), (5, 0), (6, 0), (7, 0), (8, 0), (9, 0), (10, 0), (11, 0), (12, 0), (13, 0), (14, 0), (15, 0), (16, 0), (17, 0), (18, 0), (19, 0), (20, 0), (21, 0), (22, 0), (23, 0), (24, 0), (25, 0), (26, 0), (27, 0), (28, 0), (29, 0), (30, 0), (31, 0), (32, 0), (33, 0), (34, 0), (35, 0), (36, 0), (37, 0), (38, 0), (39, 0), (40, 0), (41, 0), (42, 0), (43, 0), (44, 0), (45, 0), (46, 0), (47, 0)] else if r = 24 then some [(0, 0), (1, 0), (2, 0), (3, 0), (4, 0), (5, 0), (6, 0), (7, 0), (8, 0), (9, 0), (10, 0), (11, 1), (12, 0), (13, 0), (14, 0), (15, 0), (16, 0)] else none, fz := fun r => if r = 3 then some [4] else none }
@[simp] theorem wio5 : cf5.wio = fun f i => (f == 30 && (i == 0)) || (f == 12 && (i == 0)) || (f == 13 && (i == 0)) || (f == 20 && (i == 0)) || (f == 999999 && (i == 0)) := rfl
@[simp] theorem live5 : cf5.live = fun r => if r = 9 then some [4, 5, 7, 8, 78, 79, 80] else if r = 20 then some [4, 5, 7, 8, 9, 78, 79, 80, 189, 190, 191] else if r = 27 then some [4, 5, 7, 8, 9, 20, 22, 78, 79, 80, 189, 190, 191, 221, 222, 223] else none := rfl
@[simp] theorem wr5 : cf5.wr = fun _ => [] := rfl
def cf6 : Cfg := { wio := fun f i => (f == 30 && (i == 0)) || (f == 12 && (i == 0)) || (f == 13 && (i == 0)) || (f == 20 && (i == 0)) || (f == 999999 && (i == 0)), live := fun r => if r = 10 then some [8, 10, 11, 12, 64, 65, 66] else none, dr := fun r => if r = 8 then some [(0, 0), (1, 0), (2, 0), (3, 0), (4, 0), (5, 0), (6, 0), (7, 1), (8, 0), (9, 0), (10, 0), (11, 0), (12, 0)] else if r = 13 then some [(0, 0), (1, 0), (2, 0), (3, 0), (4, 0), (5, 0), (6, 0), (7, 0), (8, 0), (9, 0), (10, 0), (11, 0), (12, 0), (13, 0), (14, 0), (15, 0), (16, 1), (17, 0), (18, 0)] else none, fz := fun r => if r = 4 then some [6] else none }
@[simp] theorem wio6 : cf6.wio = fun f i => (f == 30 && (i == 0)) || (f == 12 && (i == 0)) || (f == 13 && (i == 0)) || (f == 20 && (i == 0)) || (f == 999999 && (i == 0)) := rfl
@[simp] theorem live6 : cf6.live = fun r => if r = 10 then some [8, 10, 11, 12, 64, 65, 66] else none := rfl
@[simp] theorem wr6 : cf6.wr = fun _ => [] := rfl
def cf8 : Cfg := { wio := fun f i => (f == 30 && (i == 0)) || (f == 12 && (i == 0)) || (f == 13 && (i == 0)) || (f == 20 && (i == 0)) || (f == 999999 && (i == 0)), live := fun r => none, dr := fun r => none }
@[simp] theorem wio8 : cf8.wio = fun f i => (f == 30 && (i == 0)) || (f == 12 && (i == 0)) || (f == 13 && (i == 0)) || (f == 20 && (i == 0)) || (f == 999999 && (i == 0)) := rfl
@[simp] theorem live8 : cf8.live = fun r => none := rfl
@[simp] theorem wr8 : cf8.wr = fun _ => [] := rfl
def cf9 : Cfg := { wio := fun f i => (f == 30 && (i == 0)) || (f == 12 && (i == 0)) || (f == 13 && (i == 0)) || (f == 20 && (i == 0)) || (f == 999999 && (i == 0)), live := fun r => none, dr := fun r => none }
@[simp] theorem wio9 : cf9.wio = fun f i => (f == 30 && (i == 0)) || (f == 12 && (i == 0)) || (f == 13 && (i == 0)) || (f == 20 && (i == 0)) || (f == 999999 && (i == 0)) := rfl
@[simp] theorem live9 : cf9.live = fun r => none := rfl
@[simp] theorem wr9 : cf9.wr = fun _ => [] := rfl
def cf10 : Cfg := { wio := fun f i => (f == 30 && (i == 0)) || (f == 12 && (i == 0)) || (f == 13 && (i == 0)) || (f == 20 && (i == 0)) || (f == 999999 && (i == 0)), live := fun r => none, dr := fun r => none }
@[simp] theorem wio10 : cf10.wio = fun f i => (f == 30 && (i == 0)) || (f == 12 && (i == 0)) || (f == 13 && (i == 0)) || (f == 20 && (i == 0)) || (f == 999999 && (i == 0)) := rfl
@[simp] theorem live10 : cf10.live = fun r => none := rfl
@[simp] theorem wr10 : cf10.wr = fun _ => [] := rfl
def cf11 : Cfg := { wio := fun f i => (f == 999999 && (i == 0)), live := fun r => none, dr := fun r => none }
@[simp] theorem wio11 : cf11.wio = fun f i => (f == 999999 && (i == 0)) := rfl
@[simp] theorem live11 : cf11.live = fun r => none := rfl
@[simp] theorem wr11 : cf11.wr = fun _ => [] := rfl
def cf12 : Cfg := { wio := fun f i => (f == 30 && (i == 0)) || (f == 34 && (i == 0)) || (f == 31 && (i == 0)) || (f == 32 && (i == 0)) || (f == 33 && (i == 0)) || (f == 999999 && (i == 0)), live := fun r => none, dr := fun r => none }
@[simp] theorem wio12 : cf12.wio = fun f i => (f == 30 && (i == 0)) || (f == 34 && (i == 0)) || (f == 31 && (i == 0)) || (f == 32 && (i == 0)) || (f == 33 && (i == 0)) || (f == 999999 && (i == 0)) := rfl
@[simp] theorem live12 : cf12.live = fun r => none := rfl
@[simp] theorem wr12 : cf12.wr = fun _ => [] := rfl
def cf13 : Cfg := { wio := fun f i => (f == 30 && (i == 0)) || (f == 999999 && (i == 0)), live := fun r => none, dr := fun r => none }
@[simp] theorem wio13 : cf13.wio = fun f i => (f == 30 && (i == 0)) || (f == 999999 && (i == 0)) := rfl
@[simp] theorem live13 : cf13.live = fun r => none := rfl
@[simp] theorem wr13 : cf13.wr = fun _ => [] := rfl
def zfm : SchT := .nil
def zbH : SchT := .op 13 2 zfm
def z7g : SchT := .op 11 0 zbH
def zfn : SchT := .op 12 1 zbH
def z7h : SchT := .op 4 1 z7g
def z7i : SchT := .op 6 1 z7g
def z7j : SchT := .op 8 1 z7g
def z7k : SchT := .op 10 1 z7g
def z7l : SchT := .op 11 0 zfn
def z8W : SchT := .alt (.op 4 1 z7i) (.op 6 1 z7h)
def z8X : SchT := .alt (.op 4 1 z7j) (.op 8 1 z7h)
def z8Y : SchT := .alt (.op 4 1 z7k) (.op 10 1 z7h)
def z8Z : SchT := .alt (.op 4 1 z7l) (.op 12 1 z7h)
def z9a : SchT := .alt (.op 6 1 z7j) (.op 8 1 z7i)
def z9b : SchT := .alt (.op 6 1 z7k) (.op 10 1 z7i)
def z9c : SchT := .alt (.op 6 1 z7l) (.op 12 1 z7i)
def z9d : SchT := .alt (.op 8 1 z7k) (.op 10 1 z7j)
def z9e : SchT := .alt (.op 8 1 z7l) (.op 12 1 z7j)
def z9f : SchT := .alt (.op 10 1 z7l) (.op 12 1 z7k)
def zbI : SchT := .alt (.op 4 1 z9a) (.alt (.op 6 1 z8X) (.op 8 1 z8W))
def zbJ : SchT := .alt (.op 4 1 z9b) (.alt (.op 6 1 z8Y) (.op 10 1 z8W))
def zbK : SchT := .alt (.op 4 1 z9c) (.alt (.op 6 1 z8Z) (.op 12 1 z8W))
def zbL : SchT := .alt (.op 4 1 z9d) (.alt (.op 8 1 z8Y) (.op 10 1 z8X))
def zbM : SchT := .alt (.op 4 1 z9e) (.alt (.op 8 1 z8Z) (.op 12 1 z8X))
def zbN : SchT := .alt (.op 4 1 z9f) (.alt (.op 10 1 z8Z) (.op 12 1 z8Y))
def zbO : SchT := .alt (.op 6 1 z9d) (.alt (.op 8 1 z9b) (.op 10 1 z9a))
def zbP : SchT := .alt (.op 6 1 z9e) (.alt (.op 8 1 z9c) (.op 12 1 z9a))
def zbQ : SchT := .alt (.op 6 1 z9f) (.alt (.op 10 1 z9c) (.op 12 1 z9b))
def zbR : SchT := .alt (.op 8 1 z9f) (.alt (.op 10 1 z9e) (.op 12 1 z9d))
def zfo : SchT := .alt (.op 4 1 zbO) (.alt (.op 6 1 zbL) (.alt (.op 8 1 zbJ) (.op 10 1 zbI)))
def zfp : SchT := .alt (.op 4 1 zbP) (.alt (.op 6 1 zbM) (.alt (.op 8 1 zbK) (.op 12 1 zbI)))
def zfq : SchT := .alt (.op 4 1 zbQ) (.alt (.op 6 1 zbN) (.alt (.op 10 1 zbK) (.op 12 1 zbJ)))
def zhe : SchT := .alt (.op 4 1 zbR) (.alt (.op 8 1 zbN) (.alt (.op 10 1 zbM) (.op 12 1 zbL)))
def zhf : SchT := .alt (.op 6 1 zbR) (.alt (.op 8 1 zbQ) (.alt (.op 10 1 zbP) (.op 12 1 zbO)))
def zhg : SchT := .alt (.op 4 1 zhf) (.alt (.op 6 1 zhe) (.alt (.op 8 1 zfq) (.alt (.op 10 1 zfp) (.op 12 1 zfo))))
def zhh : SchT := .op 9 0 zhg
def zhi : SchT := .op 7 0 zhh
def zhj : SchT := .op 5 0 zhi
def zhk : SchT := .op 3 0 zhj
def zhl : SchT := .op 2 0 zhk
def zhm : SchT := .op 1 0 zhl
def zhn : SchT := .op 0 0 zhm
def cf14 : Cfg := { wio := fun f i => (f == 999999 && (i == 0)), live := fun r => if r = 12 then some [2, 5, 7, 8, 9, 10, 53, 54] else if r = 19 then some [2, 5, 7, 8, 10, 85, 86, 87] else if r = 23 then some [2, 5, 7, 8, 10, 14, 17, 85, 86, 87, 99, 100] else none, dr := fun r => if r = 14 then some [(0, 0), (1, 0), (2, 0), (3, 0), (4, 0), (5, 1), (6, 0), (7, 2)] else if r = 16 then some [(0, 0), (1, 0), (2, 0), (3, 0), (4, 0), (5, 0), (6, 0), (7, 0), (8, 0), (9, 0), (10, 0), (11, 0), (12, 0), (13, 0), (14, 2)] else if r = 26 then some [(0, 0), (1, 0), (2, 0), (3, 0), (4, 0), (5, 0), (6, 0), (7, 0), (8, 2)] else none, fz := fun r => if r = 8 then some [5] else if r = 10 then some [8] else if r = 999998 then some [] else none, dt := fun r => if r = 10 then some (zhn) else none }
@[simp] theorem wio14 : cf14.wio = fun f i => (f == 999999 && (i == 0)) := rfl
@[simp] theorem live14 : cf14.live = fun r => if r = 12 then some [2, 5, 7, 8, 9, 10, 53, 54] else if r = 19 then some [2, 5, 7, 8, 10, 85, 86, 87] else if r = 23 then some [2, 5, 7, 8, 10, 14, 17, 85, 86, 87, 99, 100] else none := rfl
@[simp] theorem wr14 : cf14.wr = fun _ => [] := rfl
def zf8 : SchT := .nil
def zf9 : SchT := .op 15 2 zf8
def zbo : SchT := .op 14 0 zf9
def zfa : SchT := .op 7 1 zbo
def zbp : SchT := .op 13 2 zbo
def zfb : SchT := .alt (.op 7 1 zbp) (.op 13 2 zfa)
def zbq : SchT := .op 12 0 zbp
def zbr : SchT := .op 5 1 zbq
def zbs : SchT := .op 12 0 zfb
def z8Q : SchT := .op 11 2 zbq
def zfc : SchT := .alt (.op 5 1 zbs) (.op 7 1 zbr)
def zbt : SchT := .alt (.op 5 1 z8Q) (.op 11 2 zbr)
def zbu : SchT := .alt (.op 7 1 z8Q) (.op 11 2 zbs)
def zbv : SchT := .op 10 0 z8Q
def z8R : SchT := .op 3 1 zbv
def zfd : SchT := .alt (.op 5 1 zbu) (.alt (.op 7 1 zbt) (.op 11 2 zfc))
def zbw : SchT := .op 10 0 zbt
def zbx : SchT := .op 10 0 zbu
def z7f : SchT := .op 9 2 zbv
def zby : SchT := .alt (.op 3 1 zbw) (.op 5 1 z8R)
def zbz : SchT := .alt (.op 3 1 zbx) (.op 7 1 z8R)
def z8S : SchT := .alt (.op 3 1 z7f) (.op 9 2 z8R)
def zbA : SchT := .op 10 0 zfd
def z8T : SchT := .alt (.op 5 1 z7f) (.op 9 2 zbw)
def z8U : SchT := .alt (.op 7 1 z7f) (.op 9 2 zbx)
def zfe : SchT := .op 8 0 z7f
def z8V : SchT := .op 1 1 zfe
def zff : SchT := .alt (.op 3 1 zbA) (.alt (.op 5 1 zbz) (.op 7 1 zby))
def zbB : SchT := .alt (.op 3 1 z8T) (.alt (.op 5 1 z8S) (.op 9 2 zby))
def zbC : SchT := .alt (.op 3 1 z8U) (.alt (.op 7 1 z8S) (.op 9 2 zbz))
def zfg : SchT := .op 8 0 z8S
def zbD : SchT := .alt (.op 5 1 z8U) (.alt (.op 7 1 z8T) (.op 9 2 zbA))
def zfh : SchT := .op 8 0 z8T
def zfi : SchT := .op 8 0 z8U
def zbE : SchT := .alt (.op 1 1 zfg) (.op 3 1 z8V)
def zbF : SchT := .alt (.op 1 1 zfh) (.op 5 1 z8V)
def zbG : SchT := .alt (.op 1 1 zfi) (.op 7 1 z8V)
def zfj : SchT := .alt (.op 3 1 zbD) (.alt (.op 5 1 zbC) (.alt (.op 7 1 zbB) (.op 9 2 zff)))
def zfk : SchT := .op 8 0 zbB
def zfl : SchT := .op 8 0 zbC
def zh4 : SchT := .op 8 0 zbD
def zh5 : SchT := .alt (.op 1 1 zfk) (.alt (.op 3 1 zbF) (.op 5 1 zbE))
def zh6 : SchT := .alt (.op 1 1 zfl) (.alt (.op 3 1 zbG) (.op 7 1 zbE))
def zh7 : SchT := .alt (.op 1 1 zh4) (.alt (.op 5 1 zbG) (.op 7 1 zbF))
def zh8 : SchT := .op 8 0 zfj
def zh9 : SchT := .alt (.op 1 1 zh8) (.alt (.op 3 1 zh7) (.alt (.op 5 1 zh6) (.op 7 1 zh5)))
def zha : SchT := .op 6 3 zh9
def zhb : SchT := .op 4 3 zha
def zhc : SchT := .op 2 3 zhb
def zhd : SchT := .op 0 0 zhc
def zf1 : SchT := .nil
def zf2 : SchT := .op 12 2 zf1
def zbi : SchT := .op 11 0 zf2
def zf3 : SchT := .op 1 2 zbi
def z8O : SchT := .op 10 2 zbi
def zbj : SchT := .alt (.op 1 2 z8O) (.op 10 2 zf3)
def z8P : SchT := .op 7 2 z8O
def zbk : SchT := .op 9 1 z8O
def zbl : SchT := .alt (.op 1 2 z8P) (.op 7 2 zbj)
def zf4 : SchT := .alt (.op 1 2 zbk) (.op 9 1 zbj)
def zf5 : SchT := .op 6 0 z8P
def zbm : SchT := .alt (.op 7 2 zbk) (.op 9 1 z8P)
def zf6 : SchT := .op 6 3 zbl
def zf7 : SchT := .alt (.op 1 2 zbm) (.alt (.op 7 2 zf4) (.op 9 1 zbl))
def zbn : SchT := .op 4 2 zf5
def zgU : SchT := .op 6 0 zbm
def zgV : SchT := .alt (.op 1 2 zbn) (.op 4 2 zf6)
def zgW : SchT := .op 6 3 zf7
def zgX : SchT := .alt (.op 4 2 zgU) (.op 9 1 zbn)
def zgY : SchT := .alt (.op 1 2 zgX) (.alt (.op 4 2 zgW) (.op 9 1 zgV))
def zgZ : SchT := .op 8 3 zgY
def zh0 : SchT := .op 5 3 zgZ
def zh1 : SchT := .op 3 3 zh0
def zh2 : SchT := .op 2 3 zh1
def zh3 : SchT := .op 0 3 zh2
def cf15 : Cfg := { wio := fun f i => (f == 999999 && (i == 0)), live := fun r => if r = 10 then some [1, 2, 5, 6, 7, 57, 58, 59] else if r = 16 then some [1, 2, 5, 6, 10, 71, 72] else if r = 21 then some [1, 2, 5, 6, 10, 82, 83, 84] else if r = 25 then some [1, 2, 5, 6, 10, 12, 82, 83, 84, 95, 96, 97] else if r = 28 then some [1, 2, 5, 6, 10, 12, 17, 82, 83, 84, 95, 96, 97, 102, 103, 104] else if r = 37 then some [1, 2, 5, 6, 10, 20, 126, 127] else if r = 41 then some [1, 2, 5, 6, 10, 20, 21, 22, 126, 127] else if r = 49 then some [1, 2, 5, 10, 23] else if r = 52 then some [1, 2, 5, 10, 23, 181, 182] else if r = 55 then some [1, 2, 5, 10, 23, 24, 181, 182, 187, 188] else if r = 63 then some [1, 2, 5, 244, 245] else if r = 67 then some [1, 2, 5, 26, 244, 245, 256, 257, 258] else if r = 72 then some [1, 2, 5, 26, 27, 28, 29, 244, 245, 256, 257, 258, 278, 279, 280] else if r = 81 then some [1, 2, 5, 333, 334] else if r = 84 then some [1, 2, 5, 32, 33, 333, 334] else if r = 88 then some [1, 2, 5, 32, 33, 35, 333, 334, 360, 361, 362] else if r = 95 then some [1, 2, 5, 32, 33, 35, 333, 334, 393, 394, 395] else none, dr := fun r => if r = 57 then some [(0, 0), (1, 0), (2, 0), (3, 0), (4, 0), (5, 1), (6, 0), (7, 0), (8, 0), (9, 0), (10, 0), (11, 0), (12, 0), (13, 0), (14, 0), (15, 0), (16, 0), (17, 0), (18, 0), (19, 0), (20, 0), (21, 0), (22, 0), (23, 0), (24, 0), (25, 0), (26, 0), (27, 0), (28, 0), (29, 0), (30, 0), (31, 0), (32, 0), (33, 0), (34, 0), (35, 0), (36, 0), (37, 0), (38, 0)] else if r = 58 then some [(0, 0), (1, 0), (2, 0), (3, 0), (4, 0), (5, 0), (6, 0), (7, 0), (8, 0), (9, 0), (10, 2)] else if r = 84 then some [(0, 0), (1, 0), (2, 0), (3, 0), (4, 0), (5, 0), (6, 0), (7, 0), (8, 0), (9, 0), (10, 0)] else if r = 86 then some [(0, 0), (1, 0), (2, 0), (3, 0), (4, 0), (5, 0), (6, 1), (7, 0), (8, 0), (9, 0), (10, 0), (11, 0)] else if r = 91 then some [(0, 0), (1, 0), (2, 0), (3, 0), (4, 0), (5, 0), (6, 0), (7, 0), (8, 2)] else if r = 93 then some [(0, 0), (1, 0), (2, 0), (3, 0), (4, 0), (5, 0), (6, 1), (7, 0), (8, 0), (9, 0), (10, 0), (11, 0)] else if r = 98 then some [(0, 0), (1, 0), (2, 0), (3, 0), (4, 0), (5, 0), (6, 0), (7, 0), (8, 2)] else none, dt := fun r => if r = 47 then some (zhd) else if r = 77 then some (zh3) else none }
@[simp] theorem wio15 : cf15.wio = fun f i => (f == 999999 && (i == 0)) := rfl
@[simp] theorem live15 : cf15.live = fun r => if r = 10 then some [1, 2, 5, 6, 7, 57, 58, 59] else if r = 16 then some [1, 2, 5, 6, 10, 71, 72] else if r = 21 then some [1, 2, 5, 6, 10, 82, 83, 84] else if r = 25 then some [1, 2, 5, 6, 10, 12, 82, 83, 84, 95, 96, 97] else if r = 28 then some [1, 2, 5, 6, 10, 12, 17, 82, 83, 84, 95, 96, 97, 102, 103, 104] else if r = 37 then some [1, 2, 5, 6, 10, 20, 126, 127] else if r = 41 then some [1, 2, 5, 6, 10, 20, 21, 22, 126, 127] else if r = 49 then some [1, 2, 5, 10, 23] else if r = 52 then some [1, 2, 5, 10, 23, 181, 182] else if r = 55 then some [1, 2, 5, 10, 23, 24, 181, 182, 187, 188] else if r = 63 then some [1, 2, 5, 244, 245] else if r = 67 then some [1, 2, 5, 26, 244, 245, 256, 257, 258] else if r = 72 then some [1, 2, 5, 26, 27, 28, 29, 244, 245, 256, 257, 258, 278, 279, 280] else if r = 81 then some [1, 2, 5, 333, 334] else if r = 84 then some [1, 2, 5, 32, 33, 333, 334] else if r = 88 then some [1, 2, 5, 32, 33, 35, 333, 334, 360, 361, 362] else if r = 95 then some [1, 2, 5, 32, 33, 35, 333, 334, 393, 394, 395] else none := rfl
@[simp] theorem wr15 : cf15.wr = fun _ => [] := rfl
def cf16 : Cfg := { wio := fun f i => (f == 999999 && (i == 0)), live := fun r => none, dr := fun r => none }
@[simp] theorem wio16 : cf16.wio = fun f i => (f == 999999 && (i == 0)) := rfl
@[simp] theorem live16 : cf16.live = fun r => none := rfl
@[simp] theorem wr16 : cf16.wr = fun _ => [] := rfl
def cf17 : Cfg := { wio := fun f i => (f == 999999 && (i == 0)), live := fun r => none, dr := fun r => none }
@[simp] theorem wio17 : cf17.wio = fun f i => (f == 999999 && (i == 0)) := rfl
@[simp] theorem live17 : cf17.live = fun r => none := rfl
@[simp] theorem wr17 : cf17.wr = fun _ => [] := rfl
def cf18 : Cfg := { wio := fun f i => (f == 999999 && (i == 0)), live := fun r => if r = 2 then some [0, 3] else none, dr := fun r => none }
@[simp] theorem wio18 : cf18.wio = fun f i => (f == 999999 && (i == 0)) := rfl
@[simp] theorem live18 : cf18.live = fun r => if r = 2 then some [0, 3] else none := rfl
@[simp] theorem wr18 : cf18.wr = fun _ => [] := rfl
def cf19 : Cfg := { wio := fun f i => (f == 999999 && (i == 0)), live := fun r => if r = 7 then some [1, 2, 3, 27, 28] else none, dr := fun r => if r = 9 then some [(0, 0), (1, 0), (2, 0), (3, 0), (4, 0), (5, 0), (6, 0), (7, 1), (8, 0)] else none }
@[simp] theorem wio19 : cf19.wio = fun f i => (f == 999999 && (i == 0)) := rfl
@[simp] theorem live19 : cf19.live = fun r => if r = 7 then some [1, 2, 3, 27, 28] else none := rfl
@[simp] theorem wr19 : cf19.wr = fun _ => [] := rfl
def cf20 : Cfg := { wio := fun f i => (f == 30 && (i == 0)) || (f == 999999 && (i == 0)), live := fun r => if r = 3 then some [0, 1, 7, 8] else none, dr := fun r => none }
@[simp] theorem wio20 : cf20.wio = fun f i => (f == 30 && (i == 0)) || (f == 999999 && (i == 0)) := rfl
@[simp] theorem live20 : cf20.live = fun r => if r = 3 then some [0, 1, 7, 8] else none := rfl
@[simp] theorem wr20 : cf20.wr = fun _ => [] := rfl
def cf21 : Cfg := { wio := fun f i => (f == 999999 && (i == 0)), live := fun r => none, dr := fun r => none }
@[simp] theorem wio21 : cf21.wio = fun f i => (f == 999999 && (i == 0)) := rfl
@[simp] theorem live21 : cf21.live = fun r => none := rfl
@[simp] theorem wr21 : cf21.wr = fun _ => [] := rfl
def cf22 : Cfg := { wio := fun f i => (f == 999999 && (i == 0)), live := fun r => none, dr := fun r => none }
@[simp] theorem wio22 : cf22.wio = fun f i => (f == 999999 && (i == 0)) := rfl
@[simp] theorem live22 : cf22.live = fun r => none := rfl
@[simp] theorem wr22 : cf22.wr = fun _ => [] := rfl
def cf23 : Cfg := { wio := fun f i => (f == 999999 && (i == 0)), live := fun r => if r = 3 then some [3, 6, 7, 8] else none, dr := fun r => none }
@[simp] theorem wio23 : cf23.wio = fun f i => (f == 999999 && (i == 0)) := rfl
@[simp] theorem live23 : cf23.live = fun r => if r = 3 then some [3, 6, 7, 8] else none := rfl
@[simp] theorem wr23 : cf23.wr = fun _ => [] := rfl
def cf24 : Cfg := { wio := fun f i => (f == 999999 && (i == 0)), live := fun r => none, dr := fun r => none }
@[simp] theorem wio24 : cf24.wio = fun f i => (f == 999999 && (i == 0)) := rfl
@[simp] theorem live24 : cf24.live = fun r => none := rfl
@[simp] theorem wr24 : cf24.wr = fun _ => [] := rfl
def cf25 : Cfg := { wio := fun f i => (f == 999999 && (i == 0)), live := fun r => if r = 8 then some [1, 11, 35, 36, 37] else none, dr := fun r => none }
@[simp] theorem wio25 : cf25.wio = fun f i => (f == 999999 && (i == 0)) := rfl
@[simp] theorem live25 : cf25.live = fun r => if r = 8 then some [1, 11, 35, 36, 37] else none := rfl
@[simp] theorem wr25 : cf25.wr = fun _ => [] := rfl
def cf26 : Cfg := { wio := fun f i => (f == 999999 && (i == 0)), live := fun r => if r = 8 then some [1, 11, 35, 36, 37] else none, dr := fun r => none }
@[simp] theorem wio26 : cf26.wio = fun f i => (f == 999999 && (i == 0)) := rfl
@[simp] theorem live26 : cf26.live = fun r => if r = 8 then some [1, 11, 35, 36, 37] else none := rfl
@[simp] theorem wr26 : cf26.wr = fun _ => [] := rfl
def cf27 : Cfg := { wio := fun f i => (f == 999999 && (i == 0)), live := fun r => if r = 4 then some [0, 1, 5] else none, dr := fun r => none }
@[simp] theorem wio27 : cf27.wio = fun f i => (f == 999999 && (i == 0)) := rfl
@[simp] theorem live27 : cf27.live = fun r => if r = 4 then some [0, 1, 5] else none := rfl
@[simp] theorem wr27 : cf27.wr = fun _ => [] := rfl
def cf28 : Cfg := { wio := fun f i => (f == 999999 && (i == 0)), live := fun r => if r = 4 then some [16, 17, 18] else none, dr := fun r => none }
@[simp] theorem wio28 : cf28.wio = fun f i => (f == 999999 && (i == 0)) := rfl
@[simp] theorem live28 : cf28.live = fun r => if r = 4 then some [16, 17, 18] else none := rfl
@[simp] theorem wr28 : cf28.wr = fun _ => [] := rfl
def cf29 : Cfg := { wio := fun f i => (f == 999999 && (i == 0)), live := fun r => none, dr := fun r => none }
@[simp] theorem wio29 : cf29.wio = fun f i => (f == 999999 && (i == 0)) := rfl
@[simp] theorem live29 : cf29.live = fun r => none := rfl
@[simp] theorem wr29 : cf29.wr = fun _ => [] := rfl
def cf30 : Cfg := { wio := fun f i => (f == 999999 && (i == 0)), live := fun r => none, dr := fun r => if r = 1 then some [(0, 0), (1, 0), (2, 0), (3, 0), (4, 0), (5, 0), (6, 0), (7, 0), (8, 0), (9, 0)] else if r = 4 then some [(0, 0), (1, 0), (2, 0), (3, 0), (4, 0), (5, 0), (6, 0), (7, 0), (8, 0), (9, 0), (10, 0), (11, 0), (12, 1), (13, 0)] else none }
@[simp] theorem wio30 : cf30.wio = fun f i => (f == 999999 && (i == 0)) := rfl
@[simp] theorem live30 : cf30.live = fun r => none := rfl
@[simp] theorem wr30 : cf30.wr = fun _ => [] := rfl
def cf31 : Cfg := { wio := fun f i => (f == 34 && (i == 0)) || (f == 999999 && (i == 0)), live := fun r => if r = 3 then some [6, 7, 17, 18] else if r = 6 then some [6, 7, 8, 17, 18, 25, 26, 27] else none, dr := fun r => none }
@[simp] theorem wio31 : cf31.wio = fun f i => (f == 34 && (i == 0)) || (f == 999999 && (i == 0)) := rfl
@[simp] theorem live31 : cf31.live = fun r => if r = 3 then some [6, 7, 17, 18] else if r = 6 then some [6, 7, 8, 17, 18, 25, 26, 27] else none := rfl
@[simp] theorem wr31 : cf31.wr = fun _ => [] := rfl
def zgB : SchT := .nil
def zgC : SchT := .op 16 2 zgB
def zgD : SchT := .op 15 0 zgC
def zgE : SchT := .op 14 2 zgD
def zcM : SchT := .op 12 2 zgE
def zcN : SchT := .op 11 1 zcM
def zcO : SchT := .op 13 3 zcM
def z8h : SchT := .op 6 2 zcO
def zcP : SchT := .op 8 2 zcO
def zgF : SchT := .op 10 1 zcN
def zcQ : SchT := .op 13 3 zcN
def zak : SchT := .op 1 2 z8h
def z8i : SchT := .op 5 1 z8h
def zal : SchT := .alt (.op 6 2 zcP) (.op 8 2 z8h)
def z8j : SchT := .alt (.op 6 2 zcQ) (.op 11 1 z8h)
def zcR : SchT := .alt (.op 8 2 zcQ) (.op 11 1 zcP)
def zcS : SchT := .op 13 3 zgF
def zam : SchT := .alt (.op 1 2 z8i) (.op 5 1 zak)
def zcT : SchT := .alt (.op 1 2 zal) (.op 8 2 zak)
def zan : SchT := .alt (.op 1 2 z8j) (.op 11 1 zak)
def zgG : SchT := .op 4 0 z8i
def zao : SchT := .alt (.op 5 1 zal) (.op 8 2 z8i)
def z8k : SchT := .alt (.op 5 1 z8j) (.op 11 1 z8i)
def zap : SchT := .alt (.op 6 2 zcR) (.alt (.op 8 2 z8j) (.op 11 1 zal))
def zaq : SchT := .alt (.op 6 2 zcS) (.op 10 1 z8j)
def zgH : SchT := .alt (.op 8 2 zcS) (.op 10 1 zcR)
def zgI : SchT := .op 4 3 zam
def zcU : SchT := .alt (.op 1 2 zao) (.alt (.op 5 1 zcT) (.op 8 2 zam))
def zar : SchT := .alt (.op 1 2 z8k) (.alt (.op 5 1 zan) (.op 11 1 zam))
def zcV : SchT := .alt (.op 1 2 zap) (.alt (.op 8 2 zan) (.op 11 1 zcT))
def zcW : SchT := .alt (.op 1 2 zaq) (.op 10 1 zan)
def zas : SchT := .op 3 1 zgG
def zgJ : SchT := .op 4 3 zao
def zgK : SchT := .op 4 0 z8k
def zat : SchT := .alt (.op 5 1 zap) (.alt (.op 8 2 z8k) (.op 11 1 zao))
def zau : SchT := .alt (.op 5 1 zaq) (.op 10 1 z8k)
def zcX : SchT := .alt (.op 6 2 zgH) (.alt (.op 8 2 zaq) (.op 10 1 zap))
def zcY : SchT := .alt (.op 1 2 zas) (.op 3 1 zgI)
def zgL : SchT := .op 4 3 zcU
def zgM : SchT := .op 4 3 zar
def zcZ : SchT := .alt (.op 1 2 zat) (.alt (.op 5 1 zcV) (.alt (.op 8 2 zar) (.op 11 1 zcU)))
def zd0 : SchT := .alt (.op 1 2 zau) (.alt (.op 5 1 zcW) (.op 10 1 zar))
def zgN : SchT := .alt (.op 1 2 zcX) (.alt (.op 8 2 zcW) (.op 10 1 zcV))
def zd1 : SchT := .alt (.op 3 1 zgJ) (.op 8 2 zas)
def zav : SchT := .alt (.op 3 1 zgK) (.op 11 1 zas)
def zgO : SchT := .op 4 3 zat
def zgP : SchT := .op 4 0 zau
def zd2 : SchT := .alt (.op 5 1 zcX) (.alt (.op 8 2 zau) (.op 10 1 zat))
def zgQ : SchT := .alt (.op 1 2 zd1) (.alt (.op 3 1 zgL) (.op 8 2 zcY))
def zd3 : SchT := .alt (.op 1 2 zav) (.alt (.op 3 1 zgM) (.op 11 1 zcY))
def zgR : SchT := .op 4 3 zcZ
def zgS : SchT := .op 4 3 zd0
def zgT : SchT := .alt (.op 1 2 zd2) (.alt (.op 5 1 zgN) (.alt (.op 8 2 zd0) (.op 10 1 zcZ)))
def zd4 : SchT := .alt (.op 3 1 zgO) (.alt (.op 8 2 zav) (.op 11 1 zd1))
def zd5 : SchT := .alt (.op 3 1 zgP) (.op 10 1 zav)
def zjJ : SchT := .op 4 3 zd2
def zjK : SchT := .alt (.op 1 2 zd4) (.alt (.op 3 1 zgR) (.alt (.op 8 2 zd3) (.op 11 1 zgQ)))
def zjL : SchT := .alt (.op 1 2 zd5) (.alt (.op 3 1 zgS) (.op 10 1 zd3))
def zjM : SchT := .op 4 3 zgT
def zjN : SchT := .alt (.op 3 1 zjJ) (.alt (.op 8 2 zd5) (.op 10 1 zd4))
def zjO : SchT := .alt (.op 1 2 zjN) (.alt (.op 3 1 zjM) (.alt (.op 8 2 zjL) (.op 10 1 zjK)))
def zjP : SchT := .op 9 3 zjO
def zjQ : SchT := .op 7 3 zjP
def zjR : SchT := .op 2 3 zjQ
def zjS : SchT := .op 0 3 zjR
def cf32 : Cfg := { wio := fun f i => (f == 30 && (i == 0)) || (f == 999999 && (i == 0)), live := fun r => if r = 5 then some [0, 1, 6, 7, 8, 9] else if r = 9 then some [0, 1, 6, 7, 8, 10] else if r = 13 then some [0, 1, 6, 7, 8, 10, 11, 12] else if r = 17 then some [0, 1, 6, 7, 8, 10, 11, 13] else none, dr := fun r => if r = 20 then some [(0, 0), (1, 0), (2, 0), (3, 0), (4, 0), (5, 0), (6, 0), (7, 0), (8, 0), (9, 0), (10, 0), (11, 2)] else if r = 21 then some [(1, 0), (2, 0), (3, 0), (5, 3), (6, 3), (7, 3), (8, 3), (0, 1), (4, 2), (9, 2), (10, 0)] else none, wr := fun r => if r = 7 then [0] else [], dt := fun r => if r = 7 then some (zjS) else none }
@[simp] theorem wio32 : cf32.wio = fun f i => (f == 30 && (i == 0)) || (f == 999999 && (i == 0)) := rfl
@[simp] theorem live32 : cf32.live = fun r => if r = 5 then some [0, 1, 6, 7, 8, 9] else if r = 9 then some [0, 1, 6, 7, 8, 10] else if r = 13 then some [0, 1, 6, 7, 8, 10, 11, 12] else if r = 17 then some [0, 1, 6, 7, 8, 10, 11, 13] else none := rfl
@[simp] theorem wr32 : cf32.wr = fun r => if r = 7 then [0] else [] := rfl
def cf33 : Cfg := { wio := fun f i => (f == 30 && (i == 0)) || (f == 999999 && (i == 0)), live := fun r => if r = 4 then some [0, 1, 4, 5, 6, 22, 23, 24] else if r = 9 then some [0, 1, 4, 5, 6, 8, 9, 10, 22, 23, 24] else if r = 13 then some [0, 1, 4, 5, 6, 8, 9, 10, 11, 12, 22, 23, 24] else if r = 15 then some [0, 1, 4, 5, 6, 8, 9, 10, 11, 12, 22, 23, 24, 50, 51, 52] else none, dr := fun r => if r = 6 then some [(0, 0), (1, 0), (2, 0), (3, 1), (4, 0), (5, 1), (6, 2), (7, 0), (8, 2)] else none, wr := fun r => if r = 6 then [0] else [] }
@[simp] theorem wio33 : cf33.wio = fun f i => (f == 30 && (i == 0)) || (f == 999999 && (i == 0)) := rfl
@[simp] theorem live33 : cf33.live = fun r => if r = 4 then some [0, 1, 4, 5, 6, 22, 23, 24] else if r = 9 then some [0, 1, 4, 5, 6, 8, 9, 10, 22, 23, 24] else if r = 13 then some [0, 1, 4, 5, 6, 8, 9, 10, 11, 12, 22, 23, 24] else if r = 15 then some [0, 1, 4, 5, 6, 8, 9, 10, 11, 12, 22, 23, 24, 50, 51, 52] else none := rfl
@[simp] theorem wr33 : cf33.wr = fun r => if r = 6 then [0] else [] := rfl
def cf34 : Cfg := { wio := fun f i => (f == 30 && (i == 0)) || (f == 999999 && (i == 0)), live := fun r => if r = 5 then some [0, 1, 6, 7, 8, 9] else if r = 10 then some [0, 1, 6, 7, 8, 9, 10, 11] else none, dr := fun r => if r = 7 then some [(0, 0), (1, 0), (2, 0), (3, 1), (4, 0), (5, 1), (6, 2), (7, 0), (8, 2)] else none, wr := fun r => if r = 7 then [0] else [] }
@[simp] theorem wio34 : cf34.wio = fun f i => (f == 30 && (i == 0)) || (f == 999999 && (i == 0)) := rfl
@[simp] theorem live34 : cf34.live = fun r => if r = 5 then some [0, 1, 6, 7, 8, 9] else if r = 10 then some [0, 1, 6, 7, 8, 9, 10, 11] else none := rfl
@[simp] theorem wr34 : cf34.wr = fun r => if r = 7 then [0] else [] := rfl
def cf35 : Cfg := { wio := fun f i => (f == 999999 && (i == 0)), live := fun r => none, dr := fun r => none }
@[simp] theorem wio35 : cf35.wio = fun f i => (f == 999999 && (i == 0)) := rfl
@[simp] theorem live35 : cf35.live = fun r => none := rfl
@[simp] theorem wr35 : cf35.wr = fun _ => [] := rfl
def cf36 : Cfg := { wio := fun f i => (f == 64 && (i == 0)) || (f == 999999 && (i == 0)), live := fun r => if r = 3 then some [3, 18, 19] else none, dr := fun r => if r = 1 then some [(0, 0), (1, 0), (2, 0), (3, 0), (4, 0), (5, 0), (6, 1), (7, 0), (8, 0), (9, 0), (10, 0), (11, 0)] else none }
@[simp] theorem wio36 : cf36.wio = fun f i => (f == 64 && (i == 0)) || (f == 999999 && (i == 0)) := rfl
@[simp] theorem live36 : cf36.live = fun r => if r = 3 then some [3, 18, 19] else none := rfl
@[simp] theorem wr36 : cf36.wr = fun _ => [] := rfl
def cf37 : Cfg := { wio := fun f i => (f == 999999 && (i == 0)), live := fun r => if r = 3 then some [1, 2, 4, 5, 24, 25, 26] else if r = 9 then some [1, 2, 4, 5, 8, 44, 45, 46] else if r = 13 then some [1, 2, 4, 5, 8, 9, 10, 44, 45, 46, 59, 60] else if r = 20 then some [1, 4, 8, 87, 88] else if r = 24 then some [1, 4, 8, 12, 13, 87, 88, 97, 98, 99] else if r = 27 then some [1, 4, 8, 12, 13, 15, 16, 87, 88, 97, 98, 99, 104, 105, 106] else none, dr := fun r => if r = 11 then some [(0, 0), (1, 0), (2, 0), (3, 0), (4, 0), (5, 1), (6, 0), (7, 2)] else if r = 15 then some [(0, 0), (1, 0), (2, 0), (3, 0), (4, 0), (5, 0), (6, 0), (7, 0), (8, 0), (9, 0), (10, 1), (11, 0), (12, 0), (13, 0), (14, 2)] else if r = 17 then some [(0, 0), (1, 0), (2, 0), (3, 0), (4, 0), (5, 1), (6, 0), (7, 2)] else none, dt := fun r => if r = 7 then some (.op 0 0 (.op 1 0 (.op 2 0 (.op 4 0 (.op 5 0 (.alt (.op 3 1 (.alt (.op 6 1 (.op 7 0 (.op 8 1 (.op 9 2 .nil)))) (.op 8 1 (.op 6 1 (.op 7 0 (.op 9 2 .nil)))))) (.alt (.op 6 1 (.alt (.op 3 1 (.op 7 0 (.op 8 1 (.op 9 2 .nil)))) (.op 8 1 (.op 3 1 (.op 7 0 (.op 9 2 .nil)))))) (.op 8 1 (.alt (.op 3 1 (.op 6 1 (.op 7 0 (.op 9 2 .nil)))) (.op 6 1 (.op 3 1 (.op 7 0 (.op 9 2 .nil))))))))))))) else none }
@[simp] theorem wio37 : cf37.wio = fun f i => (f == 999999 && (i == 0)) := rfl
@[simp] theorem live37 : cf37.live = fun r => if r = 3 then some [1, 2, 4, 5, 24, 25, 26] else if r = 9 then some [1, 2, 4, 5, 8, 44, 45, 46] else if r = 13 then some [1, 2, 4, 5, 8, 9, 10, 44, 45, 46, 59, 60] else if r = 20 then some [1, 4, 8, 87, 88] else if r = 24 then some [1, 4, 8, 12, 13, 87, 88, 97, 98, 99] else if r = 27 then some [1, 4, 8, 12, 13, 15, 16, 87, 88, 97, 98, 99, 104, 105, 106] else none := rfl
@[simp] theorem wr37 : cf37.wr = fun _ => [] := rfl
def cf38 : Cfg := { wio := fun f i => (f == 999999 && (i == 0)), live := fun r => if r = 4 then some [1, 4, 5, 15, 16] else if r = 8 then some [1, 4, 5, 6, 15, 16, 24, 25, 26] else none, dr := fun r => none }
@[simp] theorem wio38 : cf38.wio = fun f i => (f == 999999 && (i == 0)) := rfl
@[simp] theorem live38 : cf38.live = fun r => if r = 4 then some [1, 4, 5, 15, 16] else if r = 8 then some [1, 4, 5, 6, 15, 16, 24, 25, 26] else none := rfl
@[simp] theorem wr38 : cf38.wr = fun _ => [] := rfl
def cf39 : Cfg := { wio := fun f i => (f == 69 && (i == 0)) || (f == 999999 && (i == 0)), live := fun r => if r = 4 then some [1, 2, 5, 6, 23, 24] else if r = 8 then some [1, 2, 5, 6, 7, 23, 24, 33, 34] else if r = 17 then some [1, 2, 9, 60, 61, 62] else if r = 21 then some [1, 2, 9, 11, 60, 61, 62, 75, 76] else none, dr := fun r => if r = 23 then some [(0, 0), (1, 0), (2, 0), (3, 0), (4, 0), (5, 0), (6, 0), (7, 0), (8, 0), (9, 0), (10, 0), (11, 0), (12, 0), (13, 0), (14, 0), (15, 0), (16, 0), (17, 0), (18, 0)] else if r = 24 then some [(0, 0), (1, 0), (2, 0), (3, 0), (4, 0), (5, 0), (6, 0), (7, 0), (8, 0), (9, 0), (10, 0), (11, 0), (12, 0), (13, 2)] else none, fz := fun r => if r = 14 then some [5] else none }
@[simp] theorem wio39 : cf39.wio = fun f i => (f == 69 && (i == 0)) || (f == 999999 && (i == 0)) := rfl
@[simp] theorem live39 : cf39.live = fun r => if r = 4 then some [1, 2, 5, 6, 23, 24] else if r = 8 then some [1, 2, 5, 6, 7, 23, 24, 33, 34] else if r = 17 then some [1, 2, 9, 60, 61, 62] else if r = 21 then some [1, 2, 9, 11, 60, 61, 62, 75, 76] else none := rfl
@[simp] theorem wr39 : cf39.wr = fun _ => [] := rfl
def cf40 : Cfg := { wio := fun f i => (f == 999999 && (i == 0)), live := fun r => if r = 5 then some [1, 2, 5, 21, 22, 23] else if r = 12 then some [2, 5, 8, 45, 46, 47] else if r = 15 then some [2, 5, 8, 10, 45, 46, 47, 51, 52, 53] else none, dr := fun r => if r = 17 then some [(0, 0), (1, 0), (2, 0), (3, 0), (4, 0), (5, 0), (6, 0), (7, 0), (8, 0), (9, 0), (10, 0), (11, 0), (12, 0), (13, 0), (14, 1), (15, 0)] else none }
@[simp] theorem wio40 : cf40.wio = fun f i => (f == 999999 && (i == 0)) := rfl
@[simp] theorem live40 : cf40.live = fun r => if r = 5 then some [1, 2, 5, 21, 22, 23] else if r = 12 then some [2, 5, 8, 45, 46, 47] else if r = 15 then some [2, 5, 8, 10, 45, 46, 47, 51, 52, 53] else none := rfl
@[simp] theorem wr40 : cf40.wr = fun _ => [] := rfl
def cf41 : Cfg := { wio := fun f i => (f == 999999 && (i == 0)), live := fun r => if r = 6 then some [2, 6, 7, 8, 9] else if r = 9 then some [2, 6, 7, 8, 9, 38, 39, 40] else none, dr := fun r => if r = 8 then some [(0, 0), (1, 0), (2, 0), (3, 0), (4, 0), (5, 0), (6, 0), (7, 0), (8, 0), (9, 0)] else if r = 13 then some [(0, 0), (1, 0), (2, 0), (3, 0), (4, 0), (5, 0), (6, 0), (7, 0), (8, 0), (9, 0), (10, 0), (11, 0), (12, 1), (13, 0), (14, 0), (15, 0), (16, 2)] else none }
@[simp] theorem wio41 : cf41.wio = fun f i => (f == 999999 && (i == 0)) := rfl
@[simp] theorem live41 : cf41.live = fun r => if r = 6 then some [2, 6, 7, 8, 9] else if r = 9 then some [2, 6, 7, 8, 9, 38, 39, 40] else none := rfl
@[simp] theorem wr41 : cf41.wr = fun _ => [] := rfl
def cf42 : Cfg := { wio := fun f i => (f == 999999 && (i == 0)), live := fun r => if r = 3 then some [3, 22, 23] else if r = 8 then some [3, 6, 7, 22, 23, 29, 30, 31] else if r = 17 then some [10, 53, 54] else if r = 20 then some [10, 12, 53, 54] else none, dr := fun r => if r = 1 then some [(0, 0), (1, 0), (2, 1), (3, 1), (4, 0), (5, 0), (6, 0), (7, 0), (8, 0)] else if r = 20 then some [(0, 0), (1, 0), (2, 0), (3, 0), (4, 0), (5, 0), (6, 0), (7, 0), (8, 0), (9, 0), (10, 0), (11, 0), (12, 1), (13, 0)] else if r = 22 then some [(0, 0), (1, 0), (2, 3), (3, 3), (4, 3), (5, 0), (6, 0), (7, 0), (8, 0), (9, 0), (10, 0), (11, 0), (12, 0), (13, 0), (14, 0), (15, 2), (16, 0), (17, 2)] else none }
@[simp] theorem wio42 : cf42.wio = fun f i => (f == 999999 && (i == 0)) := rfl
@[simp] theorem live42 : cf42.live = fun r => if r = 3 then some [3, 22, 23] else if r = 8 then some [3, 6, 7, 22, 23, 29, 30, 31] else if r = 17 then some [10, 53, 54] else if r = 20 then some [10, 12, 53, 54] else none := rfl
@[simp] theorem wr42 : cf42.wr = fun _ => [] := rfl
def cf43 : Cfg := { wio := fun f i => (f == 999999 && (i == 0)), live := fun r => if r = 4 then some [2, 6, 7, 8, 9] else if r = 7 then some [2, 6, 7, 8, 9, 10] else none, dr := fun r => if r = 9 then some [(0, 0), (1, 0), (2, 0), (3, 0), (4, 0), (5, 0), (6, 1), (7, 0)] else none, wr := fun r => if r = 12 then [6, 46] else [], dt := fun r => if r = 12 then some (.op 0 0 (.op 1 0 (.op 4 0 (.op 5 0 (.op 6 0 (.op 7 0 (.op 8 0 (.op 9 0 (.op 10 0 (.op 11 0 (.alt (.op 2 1 (.alt (.op 3 1 (.op 12 1 (.op 13 0 (.op 14 0 (.op 15 1 (.op 16 2 (.op 17 0 (.op 18 0 .nil)))))))) (.op 12 1 (.op 13 0 (.op 14 0 (.alt (.op 3 1 (.op 15 1 (.op 16 2 (.op 17 0 (.op 18 0 .nil))))) (.op 15 1 (.op 3 1 (.op 16 2 (.op 17 0 (.op 18 0 .nil))))))))))) (.op 12 1 (.op 13 0 (.op 14 0 (.alt (.op 2 1 (.alt (.op 3 1 (.op 15 1 (.op 16 2 (.op 17 0 (.op 18 0 .nil))))) (.op 15 1 (.op 3 1 (.op 16 2 (.op 17 0 (.op 18 0 .nil))))))) (.op 15 1 (.op 2 1 (.op 3 1 (.op 16 2 (.op 17 0 (.op 18 0 .nil))))))))))))))))))))) else none }
@[simp] theorem wio43 : cf43.wio = fun f i => (f == 999999 && (i == 0)) := rfl
@[simp] theorem live43 : cf43.live = fun r => if r = 4 then some [2, 6, 7, 8, 9] else if r = 7 then some [2, 6, 7, 8, 9, 10] else none := rfl
@[simp] theorem wr43 : cf43.wr = fun r => if r = 12 then [6, 46] else [] := rfl
def cf44 : Cfg := { wio := fun f i => (f == 999999 && (i == 0)), live := fun r => if r = 7 then some [3, 4, 5, 17, 18, 19] else none, dr := fun r => none }
@[simp] theorem wio44 : cf44.wio = fun f i => (f == 999999 && (i == 0)) := rfl
@[simp] theorem live44 : cf44.live = fun r => if r = 7 then some [3, 4, 5, 17, 18, 19] else none := rfl
@[simp] theorem wr44 : cf44.wr = fun _ => [] := rfl
def cf45 : Cfg := { wio := fun f i => (f == 999999 && (i == 0)), live := fun r => if r = 4 then some [0, 1, 12, 13] else none, dr := fun r => if r = 6 then some [(0, 0), (1, 0), (2, 0), (3, 0), (4, 0), (5, 0), (6, 0), (7, 0), (8, 0)] else none }
@[simp] theorem wio45 : cf45.wio = fun f i => (f == 999999 && (i == 0)) := rfl
@[simp] theorem live45 : cf45.live = fun r => if r = 4 then some [0, 1, 12, 13] else none := rfl
@[simp] theorem wr45 : cf45.wr = fun _ => [] := rfl
def cf46 : Cfg := { wio := fun f i => (f == 999999 && (i == 0)), live := fun r => if r = 4 then some [0, 1, 12, 13] else none, dr := fun r => if r = 6 then some [(0, 0), (1, 0), (2, 0), (3, 0), (4, 0), (5, 0), (6, 0), (7, 0), (8, 1), (9, 0)] else none }
@[simp] theorem wio46 : cf46.wio = fun f i => (f == 999999 && (i == 0)) := rfl
@[simp] theorem live46 : cf46.live = fun r => if r = 4 then some [0, 1, 12, 13] else none := rfl
@[simp] theorem wr46 : cf46.wr = fun _ => [] := rfl
def cf47 : Cfg := { wio := fun f i => (f == 999999 && (i == 0)), live := fun r => if r = 4 then some [0, 1, 12, 13] else none, dr := fun r => if r = 6 then some [(0, 0), (1, 0), (2, 0), (3, 0), (4, 0), (5, 0), (6, 0), (7, 0), (8, 0)] else none }
@[simp] theorem wio47 : cf47.wio = fun f i => (f == 999999 && (i == 0)) := rfl
@[simp] theorem live47 : cf47.live = fun r => if r = 4 then some [0, 1, 12, 13] else none := rfl
@[simp] theorem wr47 : cf47.wr = fun _ => [] := rfl
def cf48 : Cfg := { wio := fun f i => (f == 999999 && (i == 0)), live := fun r => none, dr := fun r => none }
@[simp] theorem wio48 : cf48.wio = fun f i => (f == 999999 && (i == 0)) := rfl
@[simp] theorem live48 : cf48.live = fun r => none := rfl
@[simp] theorem wr48 : cf48.wr = fun _ => [] := rfl
def cf49 : Cfg := { wio := fun f i => (f == 999999 && (i == 0)), live := fun r => none, dr := fun r => none }
@[simp] theorem wio49 : cf49.wio = fun f i => (f == 999999 && (i == 0)) := rfl
@[simp] theorem live49 : cf49.live = fun r => none := rfl
@[simp] theorem wr49 : cf49.wr = fun _ => [] := rfl
def cf50 : Cfg := { wio := fun f i => (f == 999999 && (i == 0)), live := fun r => if r = 4 then some [0, 1, 18, 19] else none, dr := fun r => none }
@[simp] theorem wio50 : cf50.wio = fun f i => (f == 999999 && (i == 0)) := rfl
@[simp] theorem live50 : cf50.live = fun r => if r = 4 then some [0, 1, 18, 19] else none := rfl
@[simp] theorem wr50 : cf50.wr = fun _ => [] := rfl
def cf51 : Cfg := { wio := fun f i => (f == 999999 && (i == 0)), live := fun r => if r = 3 then some [1, 2, 7, 11, 12, 13] else none, dr := fun r => none }
@[simp] theorem wio51 : cf51.wio = fun f i => (f == 999999 && (i == 0)) := rfl
@[simp] theorem live51 : cf51.live = fun r => if r = 3 then some [1, 2, 7, 11, 12, 13] else none := rfl
@[simp] theorem wr51 : cf51.wr = fun _ => [] := rfl
def cf52 : Cfg := { wio := fun f i => (f == 999999 && (i == 0)), live := fun r => if r = 4 then some [0, 1, 12, 13] else none, dr := fun r => if r = 6 then some [(0, 0), (1, 0), (2, 0), (3, 0), (4, 0), (5, 0), (6, 0), (7, 0), (8, 0)] else none }
@[simp] theorem wio52 : cf52.wio = fun f i => (f == 999999 && (i == 0)) := rfl
@[simp] theorem live52 : cf52.live = fun r => if r = 4 then some [0, 1, 12, 13] else none := rfl
@[simp] theorem wr52 : cf52.wr = fun _ => [] := rfl
def cf53 : Cfg := { wio := fun f i => (f == 999999 && (i == 0)), live := fun r => if r = 4 then some [1, 2, 15, 16, 17] else none, dr := fun r => none }
@[simp] theorem wio53 : cf53.wio = fun f i => (f == 999999 && (i == 0)) := rfl
@[simp] theorem live53 : cf53.live = fun r => if r = 4 then some [1, 2, 15, 16, 17] else none := rfl
@[simp] theorem wr53 : cf53.wr = fun _ => [] := rfl
def cf54 : Cfg := { wio := fun f i => (f == 999999 && (i == 0)), live := fun r => if r = 4 then some [0, 1, 12, 13] else none, dr := fun r => if r = 6 then some [(0, 0), (1, 0), (2, 0), (3, 0), (4, 0), (5, 0), (6, 0), (7, 0), (8, 0)] else none }
@[simp] theorem wio54 : cf54.wio = fun f i => (f == 999999 && (i == 0)) := rfl
@[simp] theorem live54 : cf54.live = fun r => if r = 4 then some [0, 1, 12, 13] else none := rfl
@[simp] theorem wr54 : cf54.wr = fun _ => [] := rfl
def cf55 : Cfg := { wio := fun f i => (f == 999999 && (i == 0)), live := fun r => none, dr := fun r => none }
@[simp] theorem wio55 : cf55.wio = fun f i => (f == 999999 && (i == 0)) := rfl
@[simp] theorem live55 : cf55.live = fun r => none := rfl
@[simp] theorem wr55 : cf55.wr = fun _ => [] := rfl
def cf56 : Cfg := { wio := fun f i => (f == 999999 && (i == 0)), live := fun r => if r = 2 then some [1, 2, 3, 7] else none, dr := fun r => if r = 4 then some [(0, 0), (1, 0), (2, 0), (3, 0), (4, 0), (5, 0), (6, 0), (7, 1), (8, 0)] else none }
@[simp] theorem wio56 : cf56.wio = fun f i => (f == 999999 && (i == 0)) := rfl
@[simp] theorem live56 : cf56.live = fun r => if r = 2 then some [1, 2, 3, 7] else none := rfl
@[simp] theorem wr56 : cf56.wr = fun _ => [] := rfl
def cf57 : Cfg := { wio := fun f i => (f == 999999 && (i == 0)), live := fun r => if r = 5 then some [2, 6, 7, 8, 9] else if r = 8 then some [2, 6, 7, 8, 9, 30, 31] else none, dr := fun r => if r = 10 then some [(0, 0), (1, 0), (2, 0), (3, 0), (4, 0), (5, 0), (6, 1), (7, 0)] else if r = 14 then some [(0, 0), (1, 0), (2, 0), (3, 0), (4, 0), (5, 0), (6, 0), (7, 0), (8, 1), (9, 0), (10, 0), (11, 1), (12, 2), (13, 0)] else none }
@[simp] theorem wio57 : cf57.wio = fun f i => (f == 999999 && (i == 0)) := rfl
@[simp] theorem live57 : cf57.live = fun r => if r = 5 then some [2, 6, 7, 8, 9] else if r = 8 then some [2, 6, 7, 8, 9, 30, 31] else none := rfl
@[simp] theorem wr57 : cf57.wr = fun _ => [] := rfl
def cf58 : Cfg := { wio := fun f i => (f == 999999 && (i == 0)), live := fun r => none, dr := fun r => none }
@[simp] theorem wio58 : cf58.wio = fun f i => (f == 999999 && (i == 0)) := rfl
@[simp] theorem live58 : cf58.live = fun r => none := rfl
@[simp] theorem wr58 : cf58.wr = fun _ => [] := rfl
def cf59 : Cfg := { wio := fun f i => (f == 999999 && (i == 0)), live := fun r => none, dr := fun r => none }
@[simp] theorem wio59 : cf59.wio = fun f i => (f == 999999 && (i == 0)) := rfl
@[simp] theorem live59 : cf59.live = fun r => none := rfl
@[simp] theorem wr59 : cf59.wr = fun _ => [] := rfl
def cf60 : Cfg := { wio := fun f i => (f == 999999 && (i == 0)), live := fun r => if r = 9 then some [1, 3, 38, 39, 40] else if r = 14 then some [1, 3, 38, 39, 40, 49, 50, 51] else none, dr := fun r => none }
@[simp] theorem wio60 : cf60.wio = fun f i => (f == 999999 && (i == 0)) := rfl
@[simp] theorem live60 : cf60.live = fun r => if r = 9 then some [1, 3, 38, 39, 40] else if r = 14 then some [1, 3, 38, 39, 40, 49, 50, 51] else none := rfl
@[simp] theorem wr60 : cf60.wr = fun _ => [] := rfl
def cf61 : Cfg := { wio := fun f i => (f == 999999 && (i == 0)), live := fun r => if r = 3 then some [0, 1, 5, 6] else if r = 6 then some [0, 1, 5, 6, 7] else none, dr := fun r => if r = 8 then some [(0, 0), (1, 0), (2, 0), (3, 0), (4, 0), (5, 0), (6, 0), (7, 0), (8, 1), (9, 0), (10, 0), (11, 1), (12, 2), (13, 0)] else none }
@[simp] theorem wio61 : cf61.wio = fun f i => (f == 999999 && (i == 0)) := rfl
@[simp] theorem live61 : cf61.live = fun r => if r = 3 then some [0, 1, 5, 6] else if r = 6 then some [0, 1, 5, 6, 7] else none := rfl
@[simp] theorem wr61 : cf61.wr = fun _ => [] := rfl
def cf62 : Cfg := { wio := fun f i => (f == 999999 && (i == 0)), live := fun r => if r = 9 then some [1, 3, 38, 39, 40] else if r = 14 then some [1, 3, 38, 39, 40, 49, 50, 51] else none, dr := fun r => none }
@[simp] theorem wio62 : cf62.wio = fun f i => (f == 999999 && (i == 0)) := rfl
@[simp] theorem live62 : cf62.live = fun r => if r = 9 then some [1, 3, 38, 39, 40] else if r = 14 then some [1, 3, 38, 39, 40, 49, 50, 51] else none := rfl
@[simp] theorem wr62 : cf62.wr = fun _ => [] := rfl
def cf63 : Cfg := { wio := fun f i => (f == 999999 && (i == 0)), live := fun r => none, dr := fun r => none }
@[simp] theorem wio63 : cf63.wio = fun f i => (f == 999999 && (i == 0)) := rfl
@[simp] theorem live63 : cf63.live = fun r => none := rfl
@[simp] theorem wr63 : cf63.wr = fun _ => [] := rfl
def cf65 : Cfg := { wio := fun f i => (f == 999999 && (i == 0)), live := fun r => none, dr := fun r => none }
@[simp] theorem wio65 : cf65.wio = fun f i => (f == 999999 && (i == 0)) := rfl
@[simp] theorem live65 : cf65.live = fun r => none := rfl
@[simp] theorem wr65 : cf65.wr = fun _ => [] := rfl
def cf66 : Cfg := { wio := fun f i => (f == 999999 && (i == 0)), live := fun r => if r = 3 then some [3, 6, 7, 8] else none, dr := fun r => none }
@[simp] theorem wio66 : cf66.wio = fun f i => (f == 999999 && (i == 0)) := rfl
@[simp] theorem live66 : cf66.live = fun r => if r = 3 then some [3, 6, 7, 8] else none := rfl
@[simp] theorem wr66 : cf66.wr = fun _ => [] := rfl
def cf67 : Cfg := { wio := fun f i => (f == 999999 && (i == 0)), live := fun r => none, dr := fun r => none }
@[simp] theorem wio67 : cf67.wio = fun f i => (f == 999999 && (i == 0)) := rfl
@[simp] theorem live67 : cf67.live = fun r => none := rfl
@[simp] theorem wr67 : cf67.wr = fun _ => [] := rfl
def cf68 : Cfg := { wio := fun f i => (f == 999999 && (i == 0)), live := fun r => none, dr := fun r => none }
@[simp] theorem wio68 : cf68.wio = fun f i => (f == 999999 && (i == 0)) := rfl
@[simp] theorem live68 : cf68.live = fun r => none := rfl
@[simp] theorem wr68 : cf68.wr = fun _ => [] := rfl
def cf69 : Cfg := { wio := fun f i => (f == 79 && (i == 0)) || (f == 999999 && (i == 0)), live := fun r => none, dr := fun r => none }
@[simp] theorem wio69 : cf69.wio = fun f i => (f == 79 && (i == 0)) || (f == 999999 && (i == 0)) := rfl
@[simp] theorem live69 : cf69.live = fun r => none := rfl
@[simp] theorem wr69 : cf69.wr = fun _ => [] := rfl
def cf70 : Cfg := { wio := fun f i => (f == 999999 && (i == 0)), live := fun r => none, dr := fun r => if r = 1 then some [(0, 0), (1, 0), (2, 0), (3, 0), (4, 0), (5, 0), (6, 0), (7, 0), (8, 1), (9, 0)] else none }
@[simp] theorem wio70 : cf70.wio = fun f i => (f == 999999 && (i == 0)) := rfl
@[simp] theorem live70 : cf70.live = fun r => none := rfl
@[simp] theorem wr70 : cf70.wr = fun _ => [] := rfl
def cf71 : Cfg := { wio := fun f i => (f == 999999 && (i == 0)), live := fun r => none, dr := fun r => none }
@[simp] theorem wio71 : cf71.wio = fun f i => (f == 999999 && (i == 0)) := rfl
@[simp] theorem live71 : cf71.live = fun r => none := rfl
@[simp] theorem wr71 : cf71.wr = fun _ => [] := rfl
def cf72 : Cfg := { wio := fun f i => (f == 999999 && (i == 0)), live := fun r => none, dr := fun r => none }
@[simp] theorem wio72 : cf72.wio = fun f i => (f == 999999 && (i == 0)) := rfl
@[simp] theorem live72 : cf72.live = fun r => none := rfl
@[simp] theorem wr72 : cf72.wr = fun _ => [] := rfl
def cf73 : Cfg := { wio := fun f i => (f == 999999 && (i == 0)), live := fun r => if r = 3 then some [1, 2, 3, 7, 11, 12] else none, dr := fun r => none }
@[simp] theorem wio73 : cf73.wio = fun f i => (f == 999999 && (i == 0)) := rfl
@[simp] theorem live73 : cf73.live = fun r => if r = 3 then some [1, 2, 3, 7, 11, 12] else none := rfl
@[simp] theorem wr73 : cf73.wr = fun _ => [] := rfl
def cf74 : Cfg := { wio := fun f i => (f == 999999 && (i == 0)), live := fun r => if r = 2 then some [0, 1, 7, 8] else none, dr := fun r => none }
@[simp] theorem wio74 : cf74.wio = fun f i => (f == 999999 && (i == 0)) := rfl
@[simp] theorem live74 : cf74.live = fun r => if r = 2 then some [0, 1, 7, 8] else none := rfl
@[simp] theorem wr74 : cf74.wr = fun _ => [] := rfl
def cf76 : Cfg := { wio := fun f i => (f == 999999 && (i == 0)), live := fun r => none, dr := fun r => none }
@[simp] theorem wio76 : cf76.wio = fun f i => (f == 999999 && (i == 0)) := rfl
@[simp] theorem live76 : cf76.live = fun r => none := rfl
@[simp] theorem wr76 : cf76.wr = fun _ => [] := rfl
def cf77 : Cfg := { wio := fun f i => (f == 999999 && (i == 0)), live := fun r => none, dr := fun r => none }
@[simp] theorem wio77 : cf77.wio = fun f i => (f == 999999 && (i == 0)) := rfl
@[simp] theorem live77 : cf77.live = fun r => none := rfl
@[simp] theorem wr77 : cf77.wr = fun _ => [] := rfl
def cf78 : Cfg := { wio := fun f i => (f == 999999 && (i == 0)), live := fun r => none, dr := fun r => none }
@[simp] theorem wio78 : cf78.wio = fun f i => (f == 999999 && (i == 0)) := rfl
@[simp] theorem live78 : cf78.live = fun r => none := rfl
@[simp] theorem wr78 : cf78.wr = fun _ => [] := rfl
def cf79 : Cfg := { wio := fun f i => (f == 80 && (i == 0)) || (f == 92 && (i == 0)) || (f == 999999 && (i == 0)), live := fun r => if r = 2 then some [0, 1, 2, 6, 7, 8] else if r = 7 then some [0, 1, 2, 6] else if r = 9 then some [0, 1, 2, 6, 7, 8] else none, dr := fun r => none }
@[simp] theorem wio79 : cf79.wio = fun f i => (f == 80 && (i == 0)) || (f == 92 && (i == 0)) || (f == 999999 && (i == 0)) := rfl
@[simp] theorem live79 : cf79.live = fun r => if r = 2 then some [0, 1, 2, 6, 7, 8] else if r = 7 then some [0, 1, 2, 6] else if r = 9 then some [0, 1, 2, 6, 7, 8] else none := rfl
@[simp] theorem wr79 : cf79.wr = fun _ => [] := rfl
def cf80 : Cfg := { wio := fun f i => (f == 999999 && (i == 0)), live := fun r => if r = 1 then some [0, 1, 2, 3, 8] else if r = 4 then some [0, 1, 2, 3, 8, 9] else none, dr := fun r => if r = 4 then some [(0, 0), (1, 0), (2, 0), (3, 0), (4, 0), (5, 0), (6, 0), (7, 0), (8, 0), (9, 0), (10, 0), (11, 0), (12, 0), (13, 0), (14, 1), (15, 0), (16, 0)] else if r = 6 then some [(0, 0), (1, 0), (2, 3), (3, 3), (4, 3), (5, 0), (6, 0), (7, 0), (8, 0), (9, 0), (10, 0), (11, 0), (12, 0), (13, 0), (14, 0), (15, 2), (16, 0), (17, 2)] else none }
@[simp] theorem wio80 : cf80.wio = fun f i => (f == 999999 && (i == 0)) := rfl
@[simp] theorem live80 : cf80.live = fun r => if r = 1 then some [0, 1, 2, 3, 8] else if r = 4 then some [0, 1, 2, 3, 8, 9] else none := rfl
@[simp] theorem wr80 : cf80.wr = fun _ => [] := rfl
def cf88 : Cfg := { wio := fun f i => (f == 999999 && (i == 0)), live := fun r => none, dr := fun r => none }
@[simp] theorem wio88 : cf88.wio = fun f i => (f == 999999 && (i == 0)) := rfl
@[simp] theorem live88 : cf88.live = fun r => none := rfl
@[simp] theorem wr88 : cf88.wr = fun _ => [] := rfl
def cf89 : Cfg := { wio := fun f i => (f == 999999 && (i == 0)), live := fun r => none, dr := fun r => none }
@[simp] theorem wio89 : cf89.wio = fun f i => (f == 999999 && (i == 0)) := rfl
@[simp] theorem live89 : cf89.live = fun r => none := rfl
@[simp] theorem wr89 : cf89.wr = fun _ => [] := rfl
def cf90 : Cfg := { wio := fun f i => (f == 999999 && (i == 0)), live := fun r => none, dr := fun r => if r = 1 then some [(0, 0), (1, 0), (2, 0), (3, 0), (4, 0), (5, 0), (6, 0), (7, 0), (8, 0), (9, 0), (10, 0), (11, 0), (12, 0), (13, 0), (14, 0), (15, 0), (16, 0), (17, 0), (18, 0)] else none }
@[simp] theorem wio90 : cf90.wio = fun f i => (f == 999999 && (i == 0)) := rfl
@[simp] theorem live90 : cf90.live = fun r => none := rfl
@[simp] theorem wr90 : cf90.wr = fun _ => [] := rfl
def cf91 : Cfg := { wio := fun f i => (f == 999999 && (i == 0)), live := fun r => none, dr := fun r => none }
@[simp] theorem wio91 : cf91.wio = fun f i => (f == 999999 && (i == 0)) := rfl
@[simp] theorem live91 : cf91.live = fun r => none := rfl
@[simp] theorem wr91 : cf91.wr = fun _ => [] := rfl
def cf92 : Cfg := { wio := fun f i => (f == 98 && (i == 0)) || (f == 92 && (i == 0)) || (f == 999999 && (i == 0)), live := fun r => if r = 3 then some [0, 1, 4, 10, 11] else if r = 9 then some [0, 10, 13] else if r = 15 then some [0, 2, 4, 14, 15] else if r = 21 then some [0, 14, 17] else if r = 33 then some [0, 1, 2, 3, 4, 18, 19, 20, 21, 22] else none, dr := fun r => if r = 5 then some [(0, 0), (1, 0), (2, 0), (3, 0), (4, 0), (5, 0), (6, 0), (7, 0), (8, 0), (9, 1), (10, 0)] else if r = 11 then some [(0, 0), (1, 0), (2, 3), (3, 3), (4, 3), (5, 0), (6, 0), (7, 0), (8, 0), (9, 0), (10, 0), (11, 0), (12, 0), (13, 0), (14, 0), (15, 2), (16, 0), (17, 2)] else if r = 17 then some [(0, 0), (1, 0), (2, 0), (3, 0), (4, 0), (5, 0), (6, 0), (7, 0), (8, 0), (9, 1), (10, 0), (11, 0)] else if r = 23 then some [(0, 0), (1, 0), (2, 3), (3, 3), (4, 3), (5, 0), (6, 0), (7, 0), (8, 0), (9, 0), (10, 0), (11, 0), (12, 0), (13, 0), (14, 0), (15, 2), (16, 0), (17, 2)] else if r = 35 then some [(0, 0), (1, 0), (2, 0), (3, 0), (4, 0), (5, 0), (6, 0), (7, 0), (8, 0), (9, 0), (10, 0), (11, 1), (12, 0), (13, 0)] else none }
@[simp] theorem wio92 : cf92.wio = fun f i => (f == 98 && (i == 0)) || (f == 92 && (i == 0)) || (f == 999999 && (i == 0)) := rfl
@[simp] theorem live92 : cf92.live = fun r => if r = 3 then some [0, 1, 4, 10, 11] else if r = 9 then some [0, 10, 13] else if r = 15 then some [0, 2, 4, 14, 15] else if r = 21 then some [0, 14, 17] else if r = 33 then some [0, 1, 2, 3, 4, 18, 19, 20, 21, 22] else none := rfl
@[simp] theorem wr92 : cf92.wr = fun _ => [] := rfl
def cf98 : Cfg := { wio := fun f i => (f == 100 && (i == 0)) || (f == 999999 && (i == 0)), live := fun r => if r = 2 then some [0, 2, 4, 10, 11] else none, dr := fun r => none }
@[simp] theorem wio98 : cf98.wio = fun f i => (f == 100 && (i == 0)) || (f == 999999 && (i == 0)) := rfl
@[simp] theorem live98 : cf98.live = fun r => if r = 2 then some [0, 2, 4, 10, 11] else none := rfl
@[simp] theorem wr98 : cf98.wr = fun _ => [] := rfl
def cf100 : Cfg := { wio := fun f i => (f == 999999 && (i == 0)), live := fun r => if r = 1 then some [0, 1, 2, 3, 10] else none, dr := fun r => if r = 3 then some [(0, 0), (1, 0), (2, 0), (3, 0), (4, 3), (5, 3), (6, 3), (7, 3), (8, 0), (9, 0), (10, 0), (11, 0), (12, 0), (13, 0), (14, 0), (15, 0), (16, 0), (17, 0), (18, 0), (19, 0), (20, 0), (21, 2), (22, 0), (23, 2)] else none }
@[simp] theorem wio100 : cf100.wio = fun f i => (f == 999999 && (i == 0)) := rfl
@[simp] theorem live100 : cf100.live = fun r => if r = 1 then some [0, 1, 2, 3, 10] else none := rfl
@[simp] theorem wr100 : cf100.wr = fun _ => [] := rfl
def z1C (f : FuncId) : Option Cfg :=
  if f = 3 then some cf3 else
  if f = 4 then some cf4 else
  if f = 5 then some cf5 else
  if f = 6 then some cf6 else
  if f = 8 then some cf8 else
  if f = 9 then some cf9 else
  if f = 10 then some cf10 else
  if f = 11 then some cf11 else
  if f = 12 then some cf12 else
  if f = 13 then some cf13 else
  if f = 14 then some cf14 else
  if f = 15 then some cf15 else
  if f = 16 then some cf16 else
  if f = 17 then some cf17 else
  if f = 18 then some cf18 else
  if f = 19 then some cf19 else
  if f = 20 then some cf20 else
  if f = 21 then some cf21 else
  if f = 22 then some cf22 else
  if f = 23 then some cf23 else
  if f = 24 then some cf24 else
  if f = 25 then some cf25 else
  if f = 26 then some cf26 else
  if f = 27 then some cf27 else
  if f = 28 then some cf28 else
  if f = 29 then some cf29 else
  if f = 30 then some cf30 else
  if f = 31 then some cf31 else
  if f = 32 then some cf32 else
  if f = 33 then some cf33 else
  if f = 34 then some cf34 else
  if f = 35 then some cf35 else
  if f = 36 then some cf36 else
  if f = 37 then some cf37 else
  if f = 38 then some cf38 else
  if f = 39 then some cf39 else
  if f = 40 then some cf40 else
  if f = 41 then some cf41 else
  if f = 42 then some cf42 else
  if f = 43 then some cf43 else
  if f = 44 then some cf44 else
  if f = 45 then some cf45 else
  if f = 46 then some cf46 else
  if f = 47 then some cf47 else
  if f = 48 then some cf48 else
  if f = 49 then some cf49 else
  if f = 50 then some cf50 else
  if f = 51 then some cf51 else
  if f = 52 then some cf52 else
  if f = 53 then some cf53 else
  if f = 54 then some cf54 else
  if f = 55 then some cf55 else
  if f = 56 then some cf56 else
  if f = 57 then some cf57 else
  if f = 58 then some cf58 else
  if f = 59 then some cf59 else
  if f = 60 then some cf60 else
  if f = 61 then some cf61 else
  if f = 62 then some cf62 else
  if f = 63 then some cf63 else
  if f = 65 then some cf65 else
  if f = 66 then some cf66 else
  if f = 67 then some cf67 else
  if f = 68 then some cf68 else
  if f = 69 then some cf69 else
  if f = 70 then some cf70 else
  if f = 71 then some cf71 else
  if f = 72 then some cf72 else
  if f = 73 then some cf73 else
  if f = 74 then some cf74 else
  if f = 76 then some cf76 else
  if f = 77 then some cf77 else
  if f = 78 then some cf78 else
  if f = 79 then some cf79 else
  if f = 80 then some cf80 else
  if f = 88 then some cf88 else
  if f = 89 then some cf89 else
  if f = 90 then some cf90 else
  if f = 91 then some cf91 else
  if f = 92 then some cf92 else
  if f = 98 then some cf98 else
  if f = 100 then some cf100 else none
theorem cfn3 : z1C 3 = some cf3 := rfl
theorem cfn4 : z1C 4 = some cf4 := rfl
theorem cfn5 : z1C 5 = some cf5 := rfl
theorem zwE : z1C 6 = some cf6 := rfl
theorem cfn8 : z1C 8 = some cf8 := rfl
theorem cfn9 : z1C 9 = some cf9 := rfl
theorem cfn10 : z1C 10 = some cf10 := rfl
theorem zv8 : z1C 11 = some cf11 := rfl
theorem zv7 : z1C 12 = some cf12 := rfl
theorem zv6 : z1C 13 = some cf13 := rfl
theorem zv5 : z1C 14 = some cf14 := rfl
theorem cfn15 : z1C 15 = some cf15 := rfl
theorem zv4 : z1C 16 = some cf16 := rfl
theorem cfn17 : z1C 17 = some cf17 := rfl
theorem zv3 : z1C 18 = some cf18 := rfl
theorem zv2 : z1C 19 = some cf19 := rfl
theorem zv1 : z1C 20 = some cf20 := rfl
theorem zv0 : z1C 21 = some cf21 := rfl
theorem cfn22 : z1C 22 = some cf22 := rfl
theorem cfn23 : z1C 23 = some cf23 := rfl
theorem zuZ : z1C 24 = some cf24 := rfl
theorem zuY : z1C 25 = some cf25 := rfl
theorem zuX : z1C 26 = some cf26 := rfl
theorem zuW : z1C 27 = some cf27 := rfl
theorem zuV : z1C 28 = some cf28 := rfl
theorem zuU : z1C 29 = some cf29 := rfl
theorem zuT : z1C 30 = some cf30 := rfl
theorem zuS : z1C 31 = some cf31 := rfl
theorem zuR : z1C 32 = some cf32 := rfl
theorem zuQ : z1C 33 = some cf33 := rfl
theorem zuP : z1C 34 = some cf34 := rfl
theorem zuO : z1C 35 = some cf35 := rfl
theorem zuN : z1C 36 = some cf36 := rfl
theorem zuM : z1C 37 = some cf37 := rfl
theorem zuL : z1C 38 = some cf38 := rfl
theorem zuK : z1C 39 = some cf39 := rfl
theorem zuJ : z1C 40 = some cf40 := rfl
theorem zuI : z1C 41 = some cf41 := rfl
theorem cfn42 : z1C 42 = some cf42 := rfl
theorem zuH : z1C 43 = some cf43 := rfl
theorem cfn44 : z1C 44 = some cf44 := rfl
theorem zuG : z1C 45 = some cf45 := rfl
theorem zuF : z1C 46 = some cf46 := rfl
theorem zuE : z1C 47 = some cf47 := rfl
theorem cfn48 : z1C 48 = some cf48 := rfl
theorem zuD : z1C 49 = some cf49 := rfl
theorem zuC : z1C 50 = some cf50 := rfl
theorem zuB : z1C 51 = some cf51 := rfl
theorem cfn52 : z1C 52 = some cf52 := rfl
theorem cfn53 : z1C 53 = some cf53 := rfl
theorem cfn54 : z1C 54 = some cf54 := rfl
theorem zuA : z1C 55 = some cf55 := rfl
theorem zuz : z1C 56 = some cf56 := rfl
theorem zuy : z1C 57 = some cf57 := rfl
theorem zux : z1C 58 = some cf58 := rfl
theorem zuw : z1C 59 = some cf59 := rfl
theorem zuv : z1C 60 = some cf60 := rfl
theorem zuu : z1C 61 = some cf61 := rfl
theorem zut : z1C 62 = some cf62 := rfl
theorem zus : z1C 63 = some cf63 := rfl
theorem cfn65 : z1C 65 = some cf65 := rfl
theorem cfn66 : z1C 66 = some cf66 := rfl
theorem zur : z1C 67 = some cf67 := rfl
theorem zuq : z1C 68 = some cf68 := rfl
theorem zup : z1C 69 = some cf69 := rfl
theorem zuo : z1C 70 = some cf70 := rfl
theorem zun : z1C 71 = some cf71 := rfl
theorem cfn72 : z1C 72 = some cf72 := rfl
theorem zum : z1C 73 = some cf73 := rfl
theorem zul : z1C 74 = some cf74 := rfl
theorem cfn76 : z1C 76 = some cf76 := rfl
theorem zuk : z1C 77 = some cf77 := rfl
theorem zuj : z1C 78 = some cf78 := rfl
theorem zui : z1C 79 = some cf79 := rfl
theorem zuh : z1C 80 = some cf80 := rfl
theorem cfn88 : z1C 88 = some cf88 := rfl
theorem cfn89 : z1C 89 = some cf89 := rfl
theorem cfn90 : z1C 90 = some cf90 := rfl
theorem zug : z1C 91 = some cf91 := rfl
theorem zuf : z1C 92 = some cf92 := rfl
theorem zue : z1C 98 = some cf98 := rfl
theorem zse : z1C 100 = some cf100 := rfl
theorem fn3 : Try.prog.funcs[3]? = some Try.f3 := by kernel_rfl
theorem fn4 : Try.prog.funcs[4]? = some Try.f4 := by kernel_rfl
theorem fn5 : Try.prog.funcs[5]? = some Try.f5 := by kernel_rfl
theorem fn6 : Try.prog.funcs[6]? = some Try.f6 := by kernel_rfl
theorem fn8 : Try.prog.funcs[8]? = some Try.f8 := by kernel_rfl
theorem fn9 : Try.prog.funcs[9]? = some Try.f9 := by kernel_rfl
theorem fn10 : Try.prog.funcs[10]? = some Try.f10 := by kernel_rfl
theorem zwx : Try.prog.funcs[11]? = some Try.f11 := by kernel_rfl
theorem zww : Try.prog.funcs[12]? = some Try.f12 := by kernel_rfl
theorem zwv : Try.prog.funcs[13]? = some Try.f13 := by kernel_rfl
theorem zvi : Try.prog.funcs[14]? = some Try.f14 := by kernel_rfl
theorem zwu : Try.prog.funcs[15]? = some Try.f15 := by kernel_rfl
theorem zwt : Try.prog.funcs[16]? = some Try.f16 := by kernel_rfl
theorem fn17 : Try.prog.funcs[17]? = some Try.f17 := by kernel_rfl
theorem zws : Try.prog.funcs[18]? = some Try.f18 := by kernel_rfl
theorem zwr : Try.prog.funcs[19]? = some Try.f19 := by kernel_rfl
theorem zwq : Try.prog.funcs[20]? = some Try.f20 := by kernel_rfl
theorem zwp : Try.prog.funcs[21]? = some Try.f21 := by kernel_rfl
theorem fn22 : Try.prog.funcs[22]? = some Try.f22 := by kernel_rfl
theorem fn23 : Try.prog.funcs[23]? = some Try.f23 := by kernel_rfl
theorem zwo : Try.prog.funcs[24]? = some Try.f24 := by kernel_rfl
theorem zwn : Try.prog.funcs[25]? = some Try.f25 := by kernel_rfl
theorem zwm : Try.prog.funcs[26]? = some Try.f26 := by kernel_rfl
theorem zwl : Try.prog.funcs[27]? = some Try.f27 := by kernel_rfl
theorem zwk : Try.prog.funcs[28]? = some Try.f28 := by kernel_rfl
theorem zwj : Try.prog.funcs[29]? = some Try.f29 := by kernel_rfl
theorem zwi : Try.prog.funcs[30]? = some Try.f30 := by kernel_rfl
theorem zwh : Try.prog.funcs[31]? = some Try.f31 := by kernel_rfl
theorem zvh : Try.prog.funcs[32]? = some Try.f32 := by kernel_rfl
theorem zwg : Try.prog.funcs[33]? = some Try.f33 := by kernel_rfl
theorem zwf : Try.prog.funcs[34]? = some Try.f34 := by kernel_rfl
theorem zwe : Try.prog.funcs[35]? = some Try.f35 := by kernel_rfl
theorem zwd : Try.prog.funcs[36]? = some Try.f36 := by kernel_rfl
theorem zwc : Try.prog.funcs[37]? = some Try.f37 := by kernel_rfl
theorem zwb : Try.prog.funcs[38]? = some Try.f38 := by kernel_rfl
theorem zwa : Try.prog.funcs[39]? = some Try.f39 := by kernel_rfl
theorem zw9 : Try.prog.funcs[40]? = some Try.f40 := by kernel_rfl
theorem zw8 : Try.prog.funcs[41]? = some Try.f41 := by kernel_rfl
theorem fn42 : Try.prog.funcs[42]? = some Try.f42 := by kernel_rfl
theorem zw7 : Try.prog.funcs[43]? = some Try.f43 := by kernel_rfl
theorem fn44 : Try.prog.funcs[44]? = some Try.f44 := by kernel_rfl
theorem zw6 : Try.prog.funcs[45]? = some Try.f45 := by kernel_rfl
theorem zw5 : Try.prog.funcs[46]? = some Try.f46 := by kernel_rfl
theorem zw4 : Try.prog.funcs[47]? = some Try.f47 := by kernel_rfl
theorem fn48 : Try.prog.funcs[48]? = some Try.f48 := by kernel_rfl
theorem zw3 : Try.prog.funcs[49]? = some Try.f49 := by kernel_rfl
theorem zw2 : Try.prog.funcs[50]? = some Try.f50 := by kernel_rfl
theorem zw1 : Try.prog.funcs[51]? = some Try.f51 := by kernel_rfl
theorem fn52 : Try.prog.funcs[52]? = some Try.f52 := by kernel_rfl
theorem fn53 : Try.prog.funcs[53]? = some Try.f53 := by kernel_rfl
theorem fn54 : Try.prog.funcs[54]? = some Try.f54 := by kernel_rfl
theorem zw0 : Try.prog.funcs[55]? = some Try.f55 := by kernel_rfl
theorem zvZ : Try.prog.funcs[56]? = some Try.f56 := by kernel_rfl
theorem zvY : Try.prog.funcs[57]? = some Try.f57 := by kernel_rfl
theorem zvX : Try.prog.funcs[58]? = some Try.f58 := by kernel_rfl
theorem zvW : Try.prog.funcs[59]? = some Try.f59 := by kernel_rfl
theorem zvV : Try.prog.funcs[60]? = some Try.f60 := by kernel_rfl
theorem zvU : Try.prog.funcs[61]? = some Try.f61 := by kernel_rfl
theorem zvT : Try.prog.funcs[62]? = some Try.f62 := by kernel_rfl
theorem zvS : Try.prog.funcs[63]? = some Try.f63 := by kernel_rfl
theorem fn65 : Try.prog.funcs[65]? = some Try.f65 := by kernel_rfl
theorem fn66 : Try.prog.funcs[66]? = some Try.f66 := by kernel_rfl
theorem zvR : Try.prog.funcs[67]? = some Try.f67 := by kernel_rfl
theorem zvQ : Try.prog.funcs[68]? = some Try.f68 := by kernel_rfl
theorem zvP : Try.prog.funcs[69]? = some Try.f69 := by kernel_rfl
theorem zvO : Try.prog.funcs[70]? = some Try.f70 := by kernel_rfl
theorem zvN : Try.prog.funcs[71]? = some Try.f71 := by kernel_rfl
theorem fn72 : Try.prog.funcs[72]? = some Try.f72 := by kernel_rfl
theorem zvM : Try.prog.funcs[73]? = some Try.f73 := by kernel_rfl
theorem zvL : Try.prog.funcs[74]? = some Try.f74 := by kernel_rfl
theorem fn76 : Try.prog.funcs[76]? = some Try.f76 := by kernel_rfl
theorem zvK : Try.prog.funcs[77]? = some Try.f77 := by kernel_rfl
theorem zvJ : Try.prog.funcs[78]? = some Try.f78 := by kernel_rfl
theorem zvI : Try.prog.funcs[79]? = some Try.f79 := by kernel_rfl
theorem zvH : Try.prog.funcs[80]? = some Try.f80 := by kernel_rfl
theorem fn88 : Try.prog.funcs[88]? = some Try.f88 := by kernel_rfl
theorem fn89 : Try.prog.funcs[89]? = some Try.f89 := by kernel_rfl
theorem fn90 : Try.prog.funcs[90]? = some Try.f90 := by kernel_rfl
theorem zvG : Try.prog.funcs[91]? = some Try.f91 := by kernel_rfl
theorem zvF : Try.prog.funcs[92]? = some Try.f92 := by kernel_rfl
theorem zvE : Try.prog.funcs[98]? = some Try.f98 := by kernel_rfl
theorem zsQ : Try.prog.funcs[100]? = some Try.f100 := by kernel_rfl
noncomputable def cd3 : Code := match Try.f3.body with | some c => c | none => .skip
theorem bd3 : Try.f3.body = some cd3 := by kernel_rfl
noncomputable def cd4 : Code := match Try.f4.body with | some c => c | none => .skip
theorem bd4 : Try.f4.body = some cd4 := by kernel_rfl
noncomputable def cd5 : Code := match Try.f5.body with | some c => c | none => .skip
theorem bd5 : Try.f5.body = some cd5 := by kernel_rfl
noncomputable def cd6 : Code := match Try.f6.body with | some c => c | none => .skip
theorem bd6 : Try.f6.body = some cd6 := by kernel_rfl
noncomputable def cd8 : Code := match Try.f8.body with | some c => c | none => .skip
theorem bd8 : Try.f8.body = some cd8 := by kernel_rfl
noncomputable def cd9 : Code := match Try.f9.body with | some c => c | none => .skip
theorem bd9 : Try.f9.body = some cd9 := by kernel_rfl
noncomputable def zxP : Code := match Try.f10.body with | some c => c | none => .skip
theorem bd10 : Try.f10.body = some zxP := by kernel_rfl
noncomputable def zxO : Code := match Try.f11.body with | some c => c | none => .skip
theorem zyK : Try.f11.body = some zxO := by kernel_rfl
noncomputable def zxN : Code := match Try.f12.body with | some c => c | none => .skip
theorem zyJ : Try.f12.body = some zxN := by kernel_rfl
noncomputable def zxM : Code := match Try.f13.body with | some c => c | none => .skip
theorem zyI : Try.f13.body = some zxM := by kernel_rfl
noncomputable def z7d : Code := match Try.f14.body with | some c => c | none => .skip
theorem zvm : Try.f14.body = some z7d := by kernel_rfl
noncomputable def z3U : Code := match Try.f15.body with | some c => c | none => .skip
theorem zyH : Try.f15.body = some z3U := by kernel_rfl
noncomputable def zxL : Code := match Try.f16.body with | some c => c | none => .skip
theorem zyG : Try.f16.body = some zxL := by kernel_rfl
noncomputable def zxK : Code := match Try.f17.body with | some c => c | none => .skip
theorem bd17 : Try.f17.body = some zxK := by kernel_rfl
noncomputable def zxJ : Code := match Try.f18.body with | some c => c | none => .skip
theorem zyF : Try.f18.body = some zxJ := by kernel_rfl
noncomputable def zxI : Code := match Try.f19.body with | some c => c | none => .skip
theorem zyE : Try.f19.body = some zxI := by kernel_rfl
noncomputable def zxH : Code := match Try.f20.body with | some c => c | none => .skip
theorem zyD : Try.f20.body = some zxH := by kernel_rfl
noncomputable def zxG : Code := match Try.f21.body with | some c => c | none => .skip
theorem zyC : Try.f21.body = some zxG := by kernel_rfl
noncomputable def zxF : Code := match Try.f22.body with | some c => c | none => .skip
theorem bd22 : Try.f22.body = some zxF := by kernel_rfl
noncomputable def zxE : Code := match Try.f23.body with | some c => c | none => .skip
theorem bd23 : Try.f23.body = some zxE := by kernel_rfl
noncomputable def zxD : Code := match Try.f24.body with | some c => c | none => .skip
theorem zyB : Try.f24.body = some zxD := by kernel_rfl
noncomputable def zxC : Code := match Try.f25.body with | some c => c | none => .skip
theorem zyA : Try.f25.body = some zxC := by kernel_rfl
noncomputable def zxB : Code := match Try.f26.body with | some c => c | none => .skip
theorem zyz : Try.f26.body = some zxB := by kernel_rfl
noncomputable def zxA : Code := match Try.f27.body with | some c => c | none => .skip
theorem zyy : Try.f27.body = some zxA := by kernel_rfl
noncomputable def zxz : Code := match Try.f28.body with | some c => c | none => .skip
theorem zyx : Try.f28.body = some zxz := by kernel_rfl
noncomputable def zxy : Code := match Try.f29.body with | some c => c | none => .skip
theorem zyw : Try.f29.body = some zxy := by kernel_rfl
noncomputable def zxx : Code := match Try.f30.body with | some c => c | none => .skip
theorem zyv : Try.f30.body = some zxx := by kernel_rfl
noncomputable def zxw : Code := match Try.f31.body with | some c => c | none => .skip
theorem zyu : Try.f31.body = some zxw := by kernel_rfl
noncomputable def z4w : Code := match Try.f32.body with | some c => c | none => .skip
theorem zvl : Try.f32.body = some z4w := by kernel_rfl
noncomputable def zxv : Code := match Try.f33.body with | some c => c | none => .skip
theorem zyt : Try.f33.body = some zxv := by kernel_rfl
noncomputable def zxu : Code := match Try.f34.body with | some c => c | none => .skip
theorem zys : Try.f34.body = some zxu := by kernel_rfl
noncomputable def zxt : Code := match Try.f35.body with | some c => c | none => .skip
theorem zyr : Try.f35.body = some zxt := by kernel_rfl
noncomputable def zxs : Code := match Try.f36.body with | some c => c | none => .skip
theorem zyq : Try.f36.body = some zxs := by kernel_rfl
noncomputable def zxr : Code := match Try.f37.body with | some c => c | none => .skip
theorem zyp : Try.f37.body = some zxr := by kernel_rfl
noncomputable def zxq : Code := match Try.f38.body with | some c => c | none => .skip
theorem zyo : Try.f38.body = some zxq := by kernel_rfl
noncomputable def zxp : Code := match Try.f39.body with | some c => c | none => .skip
theorem zyn : Try.f39.body = some zxp := by kernel_rfl
noncomputable def zxo : Code := match Try.f40.body with | some c => c | none => .skip
theorem zym : Try.f40.body = some zxo := by kernel_rfl
noncomputable def zxn : Code := match Try.f41.body with | some c => c | none => .skip
theorem zyl : Try.f41.body = some zxn := by kernel_rfl
noncomputable def zxm : Code := match Try.f42.body with | some c => c | none => .skip
theorem bd42 : Try.f42.body = some zxm := by kernel_rfl
noncomputable def zxl : Code := match Try.f43.body with | some c => c | none => .skip
theorem zyk : Try.f43.body = some zxl := by kernel_rfl
noncomputable def zxk : Code := match Try.f44.body with | some c => c | none => .skip
theorem bd44 : Try.f44.body = some zxk := by kernel_rfl
noncomputable def zxj : Code := match Try.f45.body with | some c => c | none => .skip
theorem zyj : Try.f45.body = some zxj := by kernel_rfl
noncomputable def zxi : Code := match Try.f46.body with | some c => c | none => .skip
theorem zyi : Try.f46.body = some zxi := by kernel_rfl
noncomputable def zxh : Code := match Try.f47.body with | some c => c | none => .skip
theorem zyh : Try.f47.body = some zxh := by kernel_rfl
noncomputable def zxg : Code := match Try.f48.body with | some c => c | none => .skip
theorem bd48 : Try.f48.body = some zxg := by kernel_rfl
noncomputable def zxf : Code := match Try.f49.body with | some c => c | none => .skip
theorem zyg : Try.f49.body = some zxf := by kernel_rfl
noncomputable def zxe : Code := match Try.f50.body with | some c => c | none => .skip
theorem zyf : Try.f50.body = some zxe := by kernel_rfl
noncomputable def zxd : Code := match Try.f51.body with | some c => c | none => .skip
theorem zye : Try.f51.body = some zxd := by kernel_rfl
noncomputable def zxc : Code := match Try.f52.body with | some c => c | none => .skip
theorem bd52 : Try.f52.body = some zxc := by kernel_rfl
noncomputable def zxb : Code := match Try.f53.body with | some c => c | none => .skip
theorem bd53 : Try.f53.body = some zxb := by kernel_rfl
noncomputable def zxa : Code := match Try.f54.body with | some c => c | none => .skip
theorem bd54 : Try.f54.body = some zxa := by kernel_rfl
noncomputable def zx9 : Code := match Try.f55.body with | some c => c | none => .skip
theorem zyd : Try.f55.body = some zx9 := by kernel_rfl
noncomputable def zx8 : Code := match Try.f56.body with | some c => c | none => .skip
theorem zyc : Try.f56.body = some zx8 := by kernel_rfl
noncomputable def zx7 : Code := match Try.f57.body with | some c => c | none => .skip
theorem zyb : Try.f57.body = some zx7 := by kernel_rfl
noncomputable def zx6 : Code := match Try.f58.body with | some c => c | none => .skip
theorem zya : Try.f58.body = some zx6 := by kernel_rfl
noncomputable def zx5 : Code := match Try.f59.body with | some c => c | none => .skip
theorem zy9 : Try.f59.body = some zx5 := by kernel_rfl
noncomputable def zx4 : Code := match Try.f60.body with | some c => c | none => .skip
theorem zy8 : Try.f60.body = some zx4 := by kernel_rfl
noncomputable def zx3 : Code := match Try.f61.body with | some c => c | none => .skip
theorem zy7 : Try.f61.body = some zx3 := by kernel_rfl
noncomputable def zx2 : Code := match Try.f62.body with | some c => c | none => .skip
theorem zy6 : Try.f62.body = some zx2 := by kernel_rfl
noncomputable def zx1 : Code := match Try.f63.body with | some c => c | none => .skip
theorem zy5 : Try.f63.body = some zx1 := by kernel_rfl
noncomputable def zx0 : Code := match Try.f65.body with | some c => c | none => .skip
theorem bd65 : Try.f65.body = some zx0 := by kernel_rfl
noncomputable def zwZ : Code := match Try.f66.body with | some c => c | none => .skip
theorem bd66 : Try.f66.body = some zwZ := by kernel_rfl
noncomputable def zwY : Code := match Try.f67.body with | some c => c | none => .skip
theorem zy4 : Try.f67.body = some zwY := by kernel_rfl
noncomputable def zwX : Code := match Try.f68.body with | some c => c | none => .skip
theorem zy3 : Try.f68.body = some zwX := by kernel_rfl
noncomputable def zwW : Code := match Try.f69.body with | some c => c | none => .skip
theorem zy2 : Try.f69.body = some zwW := by kernel_rfl
noncomputable def zwV : Code := match Try.f70.body with | some c => c | none => .skip
theorem zy1 : Try.f70.body = some zwV := by kernel_rfl
noncomputable def zwU : Code := match Try.f71.body with | some c => c | none => .skip
theorem zy0 : Try.f71.body = some zwU := by kernel_rfl
noncomputable def zwT : Code := match Try.f72.body with | some c => c | none => .skip
theorem bd72 : Try.f72.body = some zwT := by kernel_rfl
noncomputable def zwS : Code := match Try.f73.body with | some c => c | none => .skip
theorem zxZ : Try.f73.body = some zwS := by kernel_rfl
noncomputable def zwR : Code := match Try.f74.body with | some c => c | none => .skip
theorem zxY : Try.f74.body = some zwR := by kernel_rfl
noncomputable def zwQ : Code := match Try.f76.body with | some c => c | none => .skip
theorem bd76 : Try.f76.body = some zwQ := by kernel_rfl
noncomputable def zwP : Code := match Try.f77.body with | some c => c | none => .skip
theorem zxX : Try.f77.body = some zwP := by kernel_rfl
noncomputable def zwO : Code := match Try.f78.body with | some c => c | none => .skip
theorem zxW : Try.f78.body = some zwO := by kernel_rfl
noncomputable def zwN : Code := match Try.f79.body with | some c => c | none => .skip
theorem zxV : Try.f79.body = some zwN := by kernel_rfl
noncomputable def zwM : Code := match Try.f80.body with | some c => c | none => .skip
theorem zxU : Try.f80.body = some zwM := by kernel_rfl
noncomputable def zwL : Code := match Try.f88.body with | some c => c | none => .skip
theorem bd88 : Try.f88.body = some zwL := by kernel_rfl
noncomputable def zwK : Code := match Try.f89.body with | some c => c | none => .skip
theorem bd89 : Try.f89.body = some zwK := by kernel_rfl
noncomputable def zwJ : Code := match Try.f90.body with | some c => c | none => .skip
theorem bd90 : Try.f90.body = some zwJ := by kernel_rfl
noncomputable def zwI : Code := match Try.f91.body with | some c => c | none => .skip
theorem zxT : Try.f91.body = some zwI := by kernel_rfl
noncomputable def zwH : Code := match Try.f92.body with | some c => c | none => .skip
theorem zxS : Try.f92.body = some zwH := by kernel_rfl
noncomputable def zwG : Code := match Try.f98.body with | some c => c | none => .skip
theorem zxR : Try.f98.body = some zwG := by kernel_rfl
noncomputable def zv9 : Code := match Try.f100.body with | some c => c | none => .skip
theorem zva : Try.f100.body = some zv9 := by kernel_rfl
def xt : z0A := xtC
noncomputable def L : z0A := Lim Try.prog xt z1C
theorem z2l {f : FuncId} {c : Cfg} {fn : Func} {args : List T} {o : T × List T} (hc : z1C f = some c) (hfn : Try.prog.funcs[f]? = some fn) (h : zgw Try.prog L c LFm fn args = some o) : L f args = some o := znX hc hfn h
end Go.Proofs.Ytbnnipkanechoaa
end
section
namespace Go.Proofs.Ytbnnipkanechoaa
open Go.RowKit
def Cells (w : World) (ga : Option Addr) (n : Nat) (F : Nat → Value) : Prop := ∀ j, j < n → ∃ g o, ga = some ⟨g, o, none⟩ ∧ w.cell? ⟨g, o + j, none⟩ = some (F j)
theorem Addr_add_block (a : Addr) (j : Nat) : (a.add j).block = a.block := by unfold Addr.add; split <;> rfl
theorem zca {w w' : World} (hb : Below w.heap.size w w') {a : Addr} {v : Value} (h : w.cell? a = some v) : w'.cell? a = some v := by
  rw [hb.cell (World.block_lt_of_cell? w a h)]; exact h
theorem Cells.below {w w' : World} {ga : Option Addr} {n : Nat} {F : Nat → Value} (h : Cells w ga n F) (hb : Below w.heap.size w w') : Cells w' ga n F := fun j hj => by
  obtain ⟨g, o, e, hc⟩ := h j hj
  exact ⟨g, o, e, zca hb hc⟩
theorem Cells.mono {w : World} {ga : Option Addr} {n m : Nat} {F : Nat → Value} (h : Cells w ga n F) (hm : m ≤ n) : Cells w ga m F := fun j hj => h j (by omega)
theorem Cells.congr {w : World} {ga : Option Addr} {n : Nat} {F G : Nat → Value} (h : Cells w ga n F) (e : ∀ j, j < n → F j = G j) : Cells w ga n G := fun j hj => by
  obtain ⟨g, o, e1, hc⟩ := h j hj
  exact ⟨g, o, e1, by rw [hc, e j hj]⟩
def IntsAt (w : World) (v : Value) (xs : List Int) : Prop :=
  ∃ ga cap, v = .slice ga xs.length cap ∧ xs.length ≤ cap ∧ cap ≤ maxLen ∧ Cells w ga xs.length (fun j => .int .i64 (xs.getD j 0))
theorem IntsAt.below {w w' : World} {v : Value} {xs : List Int} (h : IntsAt w v xs) (hb : Below w.heap.size w w') : IntsAt w' v xs := by
  obtain ⟨ga, cap, e, h1, h2, h3⟩ := h
  exact ⟨ga, cap, e, h1, h2, h3.below hb⟩
def RowsAt (w : World) (v : Value) (rows : List (List Int)) : Prop :=
  ∃ ga cap, ∃ F : Nat → Value, v = .slice ga rows.length cap ∧ rows.length ≤ cap ∧ cap ≤ maxLen ∧ Cells w ga rows.length F ∧ ∀ j, j < rows.length → IntsAt w (F j) (rows.getD j [])
theorem RowsAt.below {w w' : World} {v : Value} {rows : List (List Int)} (h : RowsAt w v rows) (hb : Below w.heap.size w w') : RowsAt w' v rows := by
  obtain ⟨ga, cap, F, e, h1, h2, h3, h4⟩ := h
  exact ⟨ga, cap, F, e, h1, h2, h3.below hb, fun j hj => (h4 j hj).below hb⟩
structure CRow where
  pre : List Int
  maps : List (List Int)
deriving Inhabited
structure Casc where
  letters : Int
  sizes : List Int
  rows : List CRow
deriving Inhabited
def CRowsAt (w : World) (v : Value) (rows : List CRow) : Prop :=
  ∃ ga cap, ∃ F G : Nat → Value, v = .slice ga rows.length cap ∧ rows.length ≤ cap ∧ cap ≤ maxLen ∧ ∀ j, (h : j < rows.length) → ∃ g o, ga = some ⟨g, o, none⟩ ∧ w.cell? ⟨g, o + j * 2, none⟩ = some (F j) ∧ w.cell? ⟨g, o + j * 2 + 1, none⟩ = some (G j) ∧ IntsAt w (F j) rows[j].pre ∧ RowsAt w (G j) rows[j].maps
theorem CRowsAt.below {w w' : World} {v : Value} {rows : List CRow} (h : CRowsAt w v rows) (hb : Below w.heap.size w w') : CRowsAt w' v rows := by
  obtain ⟨ga, cap, F, G, e, h1, h2, h3⟩ := h
  refine ⟨ga, cap, F, G, e, h1, h2, fun j hj => ?_⟩
  obtain ⟨g, o, e1, c1, c2, i1, i2⟩ := h3 j hj
  exact ⟨g, o, e1, zca hb c1, zca hb c2, i1.below hb, i2.below hb⟩
def CascAt (w : World) (v : Value) (c : Casc) : Prop :=
  ∃ s r, v = .agg #[.int .i64 c.letters, s, r] ∧ IntsAt w s c.sizes ∧ CRowsAt w r c.rows
theorem CascAt.below {w w' : World} {v : Value} {c : Casc} (h : CascAt w v c) (hb : Below w.heap.size w w') : CascAt w' v c := by
  obtain ⟨s, r, e, h1, h2⟩ := h
  exact ⟨s, r, e, h1.below hb, h2.below hb⟩
end Go.Proofs.Ytbnnipkanechoaa
end
section
namespace Go.Proofs.Ytbnnipkanechoaa
open Go
noncomputable section
set_option maxRecDepth 100000
set_option maxHeartbeats 1000000
structure Tape where
  l : List Int
  at_ : Int
deriving Inhabited
structure DFA where
  letters : Int
  start : Int
  final : List Bool
  next : List (List Int)
deriving Inhabited
def z9l (a0 : Int) (a1 : Int) : Option (Int) :=
  if a1 < 1 then
    some 0
  else
    chk (¬ a1 = 0) <|
    if (Int.tmod a0 a1) < 0 then
      some (IntKind.i64.wrap ((Int.tmod a0 a1) + a1))
    else
      some (Int.tmod a0 a1)
theorem zdS {a0 : Int} {a1 : Int} {r : Int} (h0 : z9l a0 a1 = some r) : L 21 [.sc (.int .i64 a0), .sc (.int .i64 a1)] = some (.sc (.int .i64 r), [.dead, .dead]) := by
  simp only [z9l] at h0
  refine z2l zv0 zwp (z1l zyC ⟨of_decide_eq_true rfl, of_decide_eq_true rfl⟩ ?_)
  simp only [z1z, z1w, z1s, z1A, z2X]
  refine zq rfl (zr rfl rfl rfl (by simp; rfl) ?_)
  refine z0a (zq rfl (zq rfl (zr rfl rfl rfl (by simp; rfl) ?_)))
  refine z0a ?_
  by_cases c4 : a1 < 1
  ·rw [if_pos c4] at h0
   refine z0p rfl (by simp [c4]) (zq rfl (zr rfl rfl rfl (by simp; rfl) ?_))
   refine z0a (z0U rfl (z0n ?_))
   cases h0
   simp
  ·rw [if_neg c4] at h0
   refine z0m rfl (by simp [c4]) (z0h rfl (z0a (zq rfl ?_)))
   obtain ⟨f5, h1⟩ := z1E h0
   refine zr rfl rfl rfl (by simp [f5]; rfl) ?_
   refine z0a (zq rfl (zq rfl (zr rfl rfl rfl (by simp; rfl) ?_)))
   refine z0a ?_
   by_cases c6 : (Int.tmod a0 a1) < 0
   ·rw [if_pos c6] at h1
    refine z0p rfl (by simp [c6]) (zr rfl rfl rfl (by simp; rfl) ?_)
    refine z0a (zq rfl (zr rfl rfl rfl (by simp; rfl) ?_))
    refine z0a (z0U rfl ?_)
    cases h1
    simp
   ·rw [if_neg c6] at h1
    refine z0m rfl (by simp [c6]) (z0h rfl (z0a (zq rfl (zr rfl rfl rfl (by simp; rfl) ?_))))
    refine z0a (z0U rfl ?_)
    cases h1
    simp
def z1x (a0 : Tape) (a1 : Int) : Option (Int × Tape) :=
  if (a0.l.length : Int) ≤ a0.at_ then
    some (0, a0)
  else
    (atI a0.l (IntKind.i64.wrap ((IntKind.i64.wrap (a0.at_ + 1)) - 1))).bind fun v3 =>
    (z9l v3 a1).bind fun v4 =>
    some (v4, (⟨a0.l, IntKind.i64.wrap (a0.at_ + 1)⟩ : Tape))
theorem z1u {a0 : Tape} {a1 : Int} {r : Int × Tape} (h0 : z1x a0 a1 = some r) : L 30 [.vr [.sl a0.l.length (a0.l.map fun x0 => .sc (.int .i64 x0)), .sc (.int .i64 a0.at_)], .sc (.int .i64 a1)] = some (.sc (.int .i64 r.1), [.vr [.sl r.2.l.length (r.2.l.map fun x0 => .sc (.int .i64 x0)), .sc (.int .i64 r.2.at_)], .dead]) := by
  simp only [z1x] at h0
  refine z2l zuT zwi (z1l zyv ⟨of_decide_eq_true rfl, of_decide_eq_true rfl⟩ ?_)
  simp only [z1z, z1w, z1s, z1A, z2X]
  refine zq rfl (zr rfl rfl rfl (by simp; rfl) ?_)
  refine z0a (zq rfl (zq rfl ?_))
  refine z1D rfl rfl rfl rfl ?_; repeat' ((first | refine z0F rfl rfl fun Q' hQ => ?_ | refine z0w rfl fun Q' hQ => ?_); simp; refine hQ.out _ ?_; clear hQ; clear Q')
  refine z0a ?_
  by_cases c4 : (a0.l.length : Int) ≤ a0.at_
  ·rw [if_pos c4] at h0
   refine z0p rfl (by simp [c4]) (zq rfl (zr rfl rfl rfl (by simp; rfl) ?_))
   refine z0a (z0U rfl (z0n ?_))
   cases h0
   simp
  ·rw [if_neg c4] at h0
   refine z0m rfl (by simp [c4]) (z0h rfl (z0a (zq rfl (zr rfl rfl rfl (by simp; rfl) ?_))))
   refine z0a (zq rfl ?_)
   obtain ⟨v3, f5, h1⟩ := z1r h0
   obtain ⟨v4, f6, h2⟩ := z0b h1
   have f6k := zdS f6
   try simp at f6k
   refine z1D rfl rfl rfl rfl ?_; repeat' ((first | refine z0F rfl rfl fun Q' hQ => ?_ | refine z0w rfl fun Q' hQ => ?_); simp [f5, f6k]; refine hQ.out _ ?_; clear hQ; clear Q')
   refine z0a (z0U rfl ?_)
   cases h2
   simp
def zaJ (a0 : List Int) : Option (Tape) :=
  if 80 < (a0.length : Int) then
    (z6D a0 0 80).bind fun v2 =>
    some (⟨v2, 0⟩ : Tape)
  else
    some (⟨a0, 0⟩ : Tape)
theorem zjd {a0 : List Int} {r : Tape} (h0 : zaJ a0 = some r) : L 11 [.sl a0.length (a0.map fun x0 => .sc (.int .i64 x0))] = some (.vr [.sl r.l.length (r.l.map fun x0 => .sc (.int .i64 x0)), .sc (.int .i64 r.at_)], [.dead]) := by
  simp only [zaJ] at h0
  refine z2l zv8 zwx (z1l zyK ⟨of_decide_eq_true rfl, of_decide_eq_true rfl⟩ ?_)
  simp only [z1z, z1w, z1s, z1A, z2X]
  refine zq rfl (zr rfl rfl rfl (by simp; rfl) ?_)
  refine z0a (zq rfl (zq rfl (zr rfl rfl rfl (by simp; rfl) ?_)))
  refine z0a ?_
  by_cases c3 : 80 < (a0.length : Int)
  ·rw [if_pos c3] at h0
   refine z0p rfl (by simp [c3]) ?_
   obtain ⟨v2, f4, h1⟩ := z0b h0
   obtain ⟨f4a, f4b, f4c, -⟩ := z4P f4
   obtain ⟨f4d, f4g⟩ := zcA f4a f4b
   have f4e := zc1 (g := fun x : Int => (.sc (.int .i64 x) : T)) f4
   try simp at f4e
   have f4f := zc0 f4
   try simp only [Int.reduceToNat, Int.toNat_natCast, Nat.sub_zero] at f4f
   refine zr rfl rfl rfl (by simp [f4a, f4b, f4c, f4d, f4g, f4e, f4f]; rfl) ?_
   refine z0a (zq rfl (zr rfl rfl rfl (by simp; rfl) ?_))
   refine z0a (z0U rfl ?_)
   cases h1
   simp
  ·rw [if_neg c3] at h0
   refine z0m rfl (by simp [c3]) (z0h rfl (z0a (zq rfl (zr rfl rfl rfl (by simp; rfl) ?_))))
   refine z0a (z0U rfl ?_)
   cases h0
   simp
def z4o (a1 : Int) : Int × List Int × Int × List Int → Option ((Int × List Int × Int × List Int) ⊕ (ByteArray × Tape))
  | (w11, w12, w13, w14) =>
  if 0 < w11 then
    (z1x (⟨w12, w13⟩ : Tape) a1).bind fun v16 =>
    chk (z3i 1 (w14.length + 1)) <|
    z0Y (IntKind.i64.wrap (w11 - 1), v16.2.l, v16.2.at_, w14 ++ [IntKind.u8.wrap (IntKind.i64.wrap (97 + v16.1))])
  else
    z1n <|
    some (zad w14, (⟨w12, w13⟩ : Tape))
def z4n (a1 : Int) : Int × List Int × Int × List Int → Fr
  | (w11, w12, w13, w14) => ⟨27, [(0, .one (.a 0 [] (0))), (1, .one (.t none (.sc (.int .i64 a1)))), (7, .one (.h 7 [])), (8, .one (.t none (.sc (.int .i64 w11)))), (1027, .one (.a 0 [] (0)))], [(0, .vr [.sl w12.length (w12.map fun x0 => .sc (.int .i64 x0)), .sc (.int .i64 w13)]), (7, .os 1 w14.length (w14.map fun x0 => .sc (.int .u8 x0)))]⟩
def z4E (a0 : Tape) (a1 : Int) (a2 : Int) : Option (ByteArray × Tape) :=
  (z1x a0 (IntKind.i64.wrap (a2 + 1))).bind fun v9 =>
  z1j (z4o a1) LFm (v9.1, v9.2.l, v9.2.at_, [])
theorem zc4 {a0 : Tape} {a1 : Int} {a2 : Int} {r : ByteArray × Tape} (h0 : z4E a0 a1 a2 = some r) : L 20 [.vr [.sl a0.l.length (a0.l.map fun x0 => .sc (.int .i64 x0)), .sc (.int .i64 a0.at_)], .sc (.int .i64 a1), .sc (.int .i64 a2)] = some (.sc (.string r.1), [.vr [.sl r.2.l.length (r.2.l.map fun x0 => .sc (.int .i64 x0)), .sc (.int .i64 r.2.at_)], .dead, .dead]) := by
  simp only [z4E] at h0
  refine z2l zv1 zwq (z1l zyD ⟨of_decide_eq_true rfl, of_decide_eq_true rfl⟩ ?_)
  simp only [z1z, z1w, z1s, z1A, z2X]
  refine zq rfl (zr rfl rfl rfl (by simp; rfl) ?_)
  refine z0a (zq rfl (zr rfl rfl rfl (by simp; rfl) ?_))
  refine z0a (zq rfl (zq rfl ?_))
  obtain ⟨v9, f10, h1⟩ := z0b h0
  have f10k := z1u f10
  try simp at f10k
  refine zr rfl rfl rfl (by simp [f10k]; rfl) ?_
  refine z0a (zb rfl (z0S h1 (z4n a1) rfl rfl (by simp [z4n]) fun s o1 h2 hr1 => ?_))
  obtain ⟨w11, w12, w13, w14⟩ := s
  simp only [z4o] at h2
  simp only [z4n]
  refine zq rfl (zq rfl (zr rfl rfl rfl (by simp; rfl) ?_))
  refine z0a ?_
  by_cases c16 : 0 < w11
  ·rw [if_pos c16] at h2
   refine z0p rfl (by simp [c16]) (z0h rfl (z0a (zq rfl (zb rfl ?_))))
   obtain ⟨v16, f17, h3⟩ := z0b h2
   have f17k := z1u f17
   try simp at f17k
   obtain ⟨f18, h4⟩ := zpH h3
   refine zr rfl rfl rfl (by simp [f17k, f18]; rfl) ?_
   refine z0k (z0a (zr rfl rfl rfl (by simp; rfl) ?_))
   have ho := z0f h4
   refine z0j ho ?_
   simp [z4n]
  ·rw [if_neg c16] at h2
   refine z0m rfl (by simp [c16]) (z1m rfl (z0E ?_))
   obtain ⟨rr1, h3, ho1⟩ := z0g h2
   have hs1 := hr1 _ ho1
   subst hs1
   refine z0r ho1 (z0c rfl (z0a (zq rfl (zr rfl rfl rfl (by simp; rfl) ?_))))
   refine z0a (z0U rfl ?_)
   cases h3
   simp
def z3L (a0 : Tape) : Option (Int × Tape) :=
  (z1x a0 8).bind fun v2 =>
  some (IntKind.i64.wrap (2 - (zsl .i64 v2.1 7)), v2.2)
theorem z9u {a0 : Tape} {r : Int × Tape} (h0 : z3L a0 = some r) : L 13 [.vr [.sl a0.l.length (a0.l.map fun x0 => .sc (.int .i64 x0)), .sc (.int .i64 a0.at_)]] = some (.sc (.int .i64 r.1), [.vr [.sl r.2.l.length (r.2.l.map fun x0 => .sc (.int .i64 x0)), .sc (.int .i64 r.2.at_)]]) := by
  simp only [z3L] at h0
  refine z2l zv6 zwv (z1l zyI ⟨of_decide_eq_true rfl, of_decide_eq_true rfl⟩ ?_)
  simp only [z1z, z1w, z1s, z1A, z2X]
  refine zq rfl (zr rfl rfl rfl (by simp; rfl) ?_)
  refine z0a (zq rfl ?_)
  obtain ⟨v2, f2, h1⟩ := z0b h0
  have f2k := z1u f2
  try simp at f2k
  refine zr rfl rfl rfl (by simp [f2k]; rfl) ?_
  refine z0a (z0U rfl ?_)
  cases h1
  simp
def z4q (a1 : Int) (v32 : Int × Tape) (w42 : Int) (w45 : List Bool) (w46 : List (List Int)) (v55 : Int × Tape) : Int × List Int × Int × List Int → Option ((Int × List Int × Int × List Int) ⊕ ((Int × List Int × Int × List Bool × List (List Int)) ⊕ (DFA × Tape)))
  | (w57, w58, w59, w60) =>
  if w57 < a1 then
    (z1x (⟨w58, w59⟩ : Tape) (IntKind.i64.wrap (1 + v32.1))).bind fun v62 =>
    chk (z3i 8 (w60.length + 1)) <|
    z0Y (IntKind.i64.wrap (w57 + 1), v62.2.l, v62.2.at_, w60 ++ [v62.1])
  else
    z1n <|
    chk (z3i 24 (w46.length + 1)) <|
    z0Y (IntKind.i64.wrap (w42 + 1), w58, w59, w45 ++ [decide (v55.1 = 1)], w46 ++ [w60])
def z4p (a1 : Int) (v32 : Int × Tape) (v33 : Int × Tape) (w42 : Int) (w45 : List Bool) (w46 : List (List Int)) (v55 : Int × Tape) : Int × List Int × Int × List Int → Fr
  | (w57, w58, w59, w60) => ⟨53, [(0, .one (.a 0 [] (0))), (1, .one (.t none (.sc (.int .i64 a1)))), (6, .one (.a 6 [] (0))), (7, .one (.a 7 [] (0))), (8, .one (.t none (.sc (.int .i64 (IntKind.i64.wrap (1 + v32.1)))))), (9, .one (.t none (.sc (.int .i64 w42)))), (10, .one (.h 10 [])), (11, .one (.t none (.sc (.int .i64 w57)))), (1053, .one (.a 0 [] (0)))], [(0, .vr [.sl w58.length (w58.map fun x0 => .sc (.int .i64 x0)), .sc (.int .i64 w59)]), (6, .vr [.sc (.int .i64 0), .sc (.int .i64 0), .os 1 0 [], .os 1 0 []]), (7, .vr [.sc (.int .i64 a1), .sc (.int .i64 v33.1), .os 1 (w45 ++ [decide (v55.1 = 1)]).length ((w45 ++ [decide (v55.1 = 1)]).map fun x0 => .sc (.bool x0)), .os 1 w46.length (w46.map fun x0 => .os 1 x0.length (x0.map fun x1 => .sc (.int .i64 x1)))]), (10, .os 1 w60.length (w60.map fun x0 => .sc (.int .i64 x0)))]⟩
def z4L (a1 : Int) (v32 : Int × Tape) (v33 : Int × Tape) : Int × List Int × Int × List Bool × List (List Int) → Option ((Int × List Int × Int × List Bool × List (List Int)) ⊕ (DFA × Tape))
  | (w42, w43, w44, w45, w46) =>
  if w42 < (IntKind.i64.wrap (1 + v32.1)) then
    (z1x (⟨w43, w44⟩ : Tape) 2).bind fun v55 =>
    chk (z3i 1 (w45.length + 1)) <|
    z1j (z4q a1 v32 w42 w45 w46 v55) LFm (0, v55.2.l, v55.2.at_, [])
  else
    z1n <|
    some ((⟨a1, v33.1, w45, w46⟩ : DFA), (⟨w43, w44⟩ : Tape))
def z4K (a1 : Int) (v32 : Int × Tape) (v33 : Int × Tape) : Int × List Int × Int × List Bool × List (List Int) → Fr
  | (w42, w43, w44, w45, w46) => ⟨53, [(0, .one (.a 0 [] (0))), (1, .one (.t none (.sc (.int .i64 a1)))), (6, .one (.a 6 [] (0))), (7, .one (.a 7 [] (0))), (8, .one (.t none (.sc (.int .i64 (IntKind.i64.wrap (1 + v32.1)))))), (9, .one (.t none (.sc (.int .i64 w42)))), (1053, .one (.a 0 [] (0)))], [(0, .vr [.sl w43.length (w43.map fun x0 => .sc (.int .i64 x0)), .sc (.int .i64 w44)]), (6, .vr [.sc (.int .i64 0), .sc (.int .i64 0), .os 1 0 [], .os 1 0 []]), (7, .vr [.sc (.int .i64 a1), .sc (.int .i64 v33.1), .os 1 w45.length (w45.map fun x0 => .sc (.bool x0)), .os 1 w46.length (w46.map fun x0 => .os 1 x0.length (x0.map fun x1 => .sc (.int .i64 x1)))])]⟩
def z4r (a0 : Tape) (a1 : Int) (a2 : Int) : Option (DFA × Tape) :=
  (z1x a0 a2).bind fun v32 =>
  (z1x v32.2 (IntKind.i64.wrap (1 + v32.1))).bind fun v33 =>
  z1j (z4L a1 v32 v33) LFm (0, v33.2.l, v33.2.at_, [], [])
theorem z7U {a0 : Tape} {a1 : Int} {a2 : Int} {r : DFA × Tape} (h0 : z4r a0 a1 a2 = some r) : L 34 [.vr [.sl a0.l.length (a0.l.map fun x0 => .sc (.int .i64 x0)), .sc (.int .i64 a0.at_)], .sc (.int .i64 a1), .sc (.int .i64 a2)] = some (.agg [.sc (.int .i64 r.1.letters), .sc (.int .i64 r.1.start), .os 1 r.1.final.length (r.1.final.map fun x0 => .sc (.bool x0)), .os 1 r.1.next.length (r.1.next.map fun x0 => .os 1 x0.length (x0.map fun x1 => .sc (.int .i64 x1)))], [.vr [.sl r.2.l.length (r.2.l.map fun x0 => .sc (.int .i64 x0)), .sc (.int .i64 r.2.at_)], .dead, .dead]) := by
  simp only [z4r] at h0
  refine z2l zuP zwf (z1l zys ⟨of_decide_eq_true rfl, of_decide_eq_true rfl⟩ ?_)
  simp only [z1z, z1w, z1s, z1A, z2X]
  refine zq rfl (zr rfl rfl rfl (by simp; rfl) ?_)
  refine z0a (zq rfl (zr rfl rfl rfl (by simp; rfl) ?_))
  refine z0a (zq rfl ?_)
  obtain ⟨v32, f37, h1⟩ := z0b h0
  have f37k := z1u f37
  try simp at f37k
  refine zr rfl rfl rfl (by simp [f37k]; rfl) ?_
  refine z0a (zq rfl ?_)
  obtain ⟨v33, f38, h2⟩ := z0b h1
  have f38k := z1u f38
  try simp at f38k
  refine zr rfl rfl rfl (by simp [f38k]; rfl) ?_
  refine z0a (zq rfl (zq rfl (zr rfl rfl rfl (by simp; rfl) ?_)))
  refine z0a (zb rfl (z0S h2 (z4K a1 v32 v33) rfl rfl (by simp [z4K]) fun s o1 h3 hr1 => ?_))
  obtain ⟨w42, w43, w44, w45, w46⟩ := s
  simp only [z4L] at h3
  simp only [z4K]
  refine zq rfl (zq rfl (zr rfl rfl rfl (by simp; rfl) ?_))
  refine z0a ?_
  by_cases c61 : w42 < (IntKind.i64.wrap (1 + v32.1))
  ·rw [if_pos c61] at h3
   refine z0p rfl (by simp [c61]) (z0h rfl (z0a (zq rfl (zb rfl (zq rfl ?_)))))
   obtain ⟨v55, f62, h4⟩ := z0b h3
   have f62k := z1u f62
   try simp at f62k
   obtain ⟨f63, h5⟩ := zpH h4
   refine z1D rfl rfl rfl rfl ?_; repeat' ((first | refine z0F rfl rfl fun Q' hQ => ?_ | refine z0w rfl fun Q' hQ => ?_); simp [f62k, f63]; refine hQ.out _ ?_; clear hQ; clear Q')
   refine z0a (zq rfl (zr rfl rfl rfl (by simp; rfl) ?_))
   refine z0a (zq rfl (zq rfl (zr rfl rfl rfl (by simp; rfl) ?_)))
   refine z0a (zb rfl (z0S h5 (z4p a1 v32 v33 w42 w45 w46 v55) rfl rfl (by simp [z4p]) fun s o2 h6 hr2 => ?_))
   obtain ⟨w57, w58, w59, w60⟩ := s
   simp only [z4q] at h6
   simp only [z4p]
   refine zq rfl (zq rfl (zr rfl rfl rfl (by simp; rfl) ?_))
   refine z0a ?_
   by_cases c69 : w57 < a1
   ·rw [if_pos c69] at h6
    refine z0p rfl (by simp [c69]) (z0h rfl (z0a (zq rfl (zb rfl ?_))))
    obtain ⟨v62, f70, h7⟩ := z0b h6
    have f70k := z1u f70
    try simp at f70k
    obtain ⟨f71, h8⟩ := z8f h7
    refine zr rfl rfl rfl (by simp [f70k, f71]; rfl) ?_
    refine z0k (z0a (zr rfl rfl rfl (by simp; rfl) ?_))
    have ho := z0f h8
    refine z0j ho ?_
    simp [z4p]
   ·rw [if_neg c69] at h6
    refine z0m rfl (by simp [c69]) (z1m rfl (z0E ?_))
    obtain ⟨rr2, h7, ho2⟩ := z0g h6
    have hs2 := hr2 _ ho2
    subst hs2
    refine z0r ho2 (z0c rfl (z0a ?_))
    obtain ⟨f72, h8⟩ := z8f h7
    refine zr rfl rfl rfl (by simp [f72]; rfl) ?_
    refine z0k (z0a (zr rfl rfl rfl (by simp; rfl) ?_))
    have ho := z0f h8
    refine z0j ho ?_
    simp [z4K]
  ·rw [if_neg c61] at h3
   refine z0m rfl (by simp [c61]) (z1m rfl (z0E ?_))
   obtain ⟨rr1, h4, ho1⟩ := z0g h3
   have hs1 := hr1 _ ho1
   subst hs1
   refine z0r ho1 (z0c rfl (z0a (zq rfl (zr rfl rfl rfl (by simp; rfl) ?_))))
   refine z0a (z0U rfl ?_)
   cases h4
   simp
def z3D (w61 : Int) (v77 : List Int) : Int × List (List Int) → Option ((Int × List (List Int)) ⊕ ((Int × List (List Int)) ⊕ (DFA × Tape)))
  | (w81, w82) =>
  (atI w82 w61).bind fun v87 =>
  if w81 < (v77.length : Int) then
    (atI v87 w81).bind fun v88 =>
    z0Y (IntKind.i64.wrap (w81 + 1), (w82.set w61.toNat (v87.set w81.toNat (if w61 < v88 then v88 else w61))))
  else
    z1n <|
    z0Y (IntKind.i64.wrap (w61 + 1), w82)
def z3B (v46 : DFA × Tape) (w61 : Int) (v77 : List Int) : Int × List (List Int) → Fr
  | (w81, w82) => ⟨46, [(6, .one (.a 6 [] (0))), (7, .one (.a 7 [] (0))), (8, .one (.t none (.sc (.int .i64 w61)))), (17, .one (.t none (.sc (.int .i64 (v46.1.next.length : Int))))), (18, .one (.t none (.sc (.int .i64 w61)))), (25, .one (.h 7 [3, w61.toNat])), (26, .one (.t none (.sc (.int .i64 (v77.length : Int))))), (27, .one (.t none (.sc (.int .i64 w81)))), (1046, .one (.a 0 [] (0)))], [(6, .vr [.sc (.int .i64 0), .sc (.int .i64 0), .os 1 0 [], .os 1 0 []]), (7, .vr [.sc (.int .i64 v46.1.letters), .sc (.int .i64 v46.1.start), .os 1 v46.1.final.length (v46.1.final.map fun x0 => .sc (.bool x0)), .os 1 w82.length (w82.map fun x0 => .os 1 x0.length (x0.map fun x1 => .sc (.int .i64 x1)))]), (0, .vr [.sl v46.2.l.length (v46.2.l.map fun x0 => .sc (.int .i64 x0)), .sc (.int .i64 v46.2.at_)])]⟩
def z3E (v46 : DFA × Tape) : Int × List (List Int) → Option ((Int × List (List Int)) ⊕ (DFA × Tape))
  | (w61, w62) =>
  if w61 < (v46.1.next.length : Int) then
    (atI w62 w61).bind fun v77 =>
    z1j (z3D w61 v77) LFm (0, w62)
  else
    z1n <|
    some ((⟨v46.1.letters, 0, v46.1.final, w62⟩ : DFA), v46.2)
def z3C (v46 : DFA × Tape) : Int × List (List Int) → Fr
  | (w61, w62) => ⟨46, [(6, .one (.a 6 [] (0))), (7, .one (.a 7 [] (0))), (17, .one (.t none (.sc (.int .i64 (v46.1.next.length : Int))))), (18, .one (.t none (.sc (.int .i64 w61)))), (1046, .one (.a 0 [] (0)))], [(6, .vr [.sc (.int .i64 0), .sc (.int .i64 0), .os 1 0 [], .os 1 0 []]), (7, .vr [.sc (.int .i64 v46.1.letters), .sc (.int .i64 v46.1.start), .os 1 v46.1.final.length (v46.1.final.map fun x0 => .sc (.bool x0)), .os 1 w62.length (w62.map fun x0 => .os 1 x0.length (x0.map fun x1 => .sc (.int .i64 x1)))]), (0, .vr [.sl v46.2.l.length (v46.2.l.map fun x0 => .sc (.int .i64 x0)), .sc (.int .i64 v46.2.at_)])]⟩
def z3K (a0 : Tape) (a1 : Int) (a2 : Int) : Option (DFA × Tape) :=
  (z4r a0 a1 a2).bind fun v46 =>
  z1j (z3E v46) LFm (0, v46.1.next)
theorem z9t {a0 : Tape} {a1 : Int} {a2 : Int} {r : DFA × Tape} (h0 : z3K a0 a1 a2 = some r) : L 31 [.vr [.sl a0.l.length (a0.l.map fun x0 => .sc (.int .i64 x0)), .sc (.int .i64 a0.at_)], .sc (.int .i64 a1), .sc (.int .i64 a2)] = some (.agg [.sc (.int .i64 r.1.letters), .sc (.int .i64 r.1.start), .os 1 r.1.final.length (r.1.final.map fun x0 => .sc (.bool x0)), .os 1 r.1.next.length (r.1.next.map fun x0 => .os 1 x0.length (x0.map fun x1 => .sc (.int .i64 x1)))], [.vr [.sl r.2.l.length (r.2.l.map fun x0 => .sc (.int .i64 x0)), .sc (.int .i64 r.2.at_)], .dead, .dead]) := by
  simp only [z3K] at h0
  refine z2l zuS zwh (z1l zyu ⟨of_decide_eq_true rfl, of_decide_eq_true rfl⟩ ?_)
  simp only [z1z, z1w, z1s, z1A, z2X]
  refine zq rfl (zr rfl rfl rfl (by simp; rfl) ?_)
  refine z0a (zq rfl ?_)
  obtain ⟨v46, f38, h1⟩ := z0b h0
  have f38k := z7U f38
  try simp at f38k
  refine zr rfl rfl rfl (by simp [f38k]; rfl) ?_
  refine z0a (zq rfl (zq rfl (zr rfl rfl rfl (by simp; rfl) ?_)))
  refine z0a (zb rfl (z0S h1 (z3C v46) rfl rfl (by simp [z3C]) fun s o1 h2 hr1 => ?_))
  obtain ⟨w61, w62⟩ := s
  simp only [z3E] at h2
  simp only [z3C]
  refine zq rfl (zr rfl rfl rfl (by simp; rfl) ?_)
  refine z0a (zq rfl ?_)
  by_cases c63 : w61 < (v46.1.next.length : Int)
  ·rw [if_pos c63] at h2
   refine z0p rfl (by simp [c63]) (z0h rfl (z0a (zq rfl (zb rfl (zq rfl (zr rfl rfl rfl (by simp; rfl) ?_))))))
   refine z0a (zq rfl ?_)
   obtain ⟨v77, f64, h3⟩ := z1r h2
   refine zr rfl rfl rfl (by simp [f64]; rfl) ?_
   refine z0a (zb rfl (z0S h3 (z3B v46 w61 v77) rfl rfl (by simp [z3B]) fun s o2 h4 hr2 => ?_))
   obtain ⟨w81, w82⟩ := s
   simp only [z3D] at h4
   simp only [z3B]
   obtain ⟨v87, f72, h5⟩ := z1r h4
   refine zq rfl (zr rfl rfl rfl (by simp [f72]; rfl) ?_)
   refine z0a (zq rfl ?_)
   by_cases c73 : w81 < (v77.length : Int)
   ·rw [if_pos c73] at h5
    refine z0p rfl (by simp [c73]) (z0h rfl (z0a (zq rfl (zb rfl (zq rfl ?_)))))
    obtain ⟨v88, f74, h6⟩ := z1r h5
    refine zr rfl rfl rfl (by simp [f72, f74]; rfl) ?_
    refine z0a (zr rfl rfl rfl (by simp [f72, f74]; rfl) ?_)
    refine z0k (z0a (zr rfl rfl rfl (by simp [f72]; rfl) ?_))
    have ho := z0f h6
    refine z0j ho ?_
    simp [z3B]
   ·rw [if_neg c73] at h5
    refine z0m rfl (by simp [c73]) (z1m rfl (z0E ?_))
    obtain ⟨rr2, h6, ho2⟩ := z0g h5
    have hs2 := hr2 _ ho2
    subst hs2
    refine z0r ho2 (z0c rfl (z0k (z0a (zr rfl rfl rfl (by simp [f72]; rfl) ?_))))
    have ho := z0f h6
    refine z0j ho ?_
    simp [z3C]
  ·rw [if_neg c63] at h2
   refine z0m rfl (by simp [c63]) (z1m rfl (z0E ?_))
   obtain ⟨rr1, h3, ho1⟩ := z0g h2
   have hs1 := hr1 _ ho1
   subst hs1
   refine z0r ho1 (z0c rfl (z0a (zq rfl (zr rfl rfl rfl (by simp; rfl) ?_))))
   refine z0a (zq rfl (zr rfl rfl rfl (by simp; rfl) ?_))
   refine z0a (z0U rfl ?_)
   cases h3
   simp
def z2q (v90 : Int × Tape) (w125 : Int) : Int × List Int × Int × List (List Int) × List Int → Option ((Int × List Int × Int × List (List Int) × List Int) ⊕ ((Int × List Int × Int × List (List Int)) ⊕ (DFA × Tape)))
  | (w162, w163, w164, w165, w166) =>
  if w162 < (IntKind.i64.wrap (1 + v90.1)) then
    (z1x (⟨w163, w164⟩ : Tape) (w166.length : Int)).bind fun v173 =>
    (atI w165 w162).bind fun v174 =>
    (atI w166 v173.1).bind fun v175 =>
    (atI v174 w125).bind fun v176 =>
    (z6D w166 0 v173.1).bind fun v177 =>
    (z6D w166 (IntKind.i64.wrap (v173.1 + 1)) (w166.length : Int)).bind fun v178 =>
    chk (z3i 8 (v177.length)) <|
    chk (z3i 8 (v177.length + v178.length)) <|
    z0Y (IntKind.i64.wrap (w162 + 1), v173.2.l, v173.2.at_, (w165.set w162.toNat (v174.set w125.toNat v175)), v177 ++ v178)
  else
    z1n <|
    z0Y (IntKind.i64.wrap (w125 + 1), w163, w164, w165)
def z2o (a1 : Int) (v90 : Int × Tape) (v91 : Int × Tape) (w96 : List Bool) (w125 : Int) : Int × List Int × Int × List (List Int) × List Int → Fr
  | (w162, w163, w164, w165, w166) => ⟨90, [(0, .one (.a 0 [] (0))), (1, .one (.t none (.sc (.int .i64 a1)))), (6, .one (.a 6 [] (0))), (7, .one (.a 7 [] (0))), (8, .one (.t none (.sc (.int .i64 (IntKind.i64.wrap (1 + v90.1)))))), (10, .one (.t none (.sc (.int .i64 w125)))), (11, .one (.h 11 [])), (13, .one (.t none (.sc (.int .i64 w162)))), (1090, .one (.a 0 [] (0)))], [(0, .vr [.sl w163.length (w163.map fun x0 => .sc (.int .i64 x0)), .sc (.int .i64 w164)]), (6, .vr [.sc (.int .i64 0), .sc (.int .i64 0), .os 1 0 [], .os 1 0 []]), (7, .vr [.sc (.int .i64 a1), .sc (.int .i64 v91.1), .os 1 w96.length (w96.map fun x0 => .sc (.bool x0)), .os 1 w165.length (w165.map fun x0 => .os 1 x0.length (x0.map fun x1 => .sc (.int .i64 x1)))]), (11, .os 1 w166.length (w166.map fun x0 => .sc (.int .i64 x0)))]⟩
def z2r (v90 : Int × Tape) (w125 : Int) (w126 : List Int) (w127 : Int) (w128 : List (List Int)) : Int × List Int → Option ((Int × List Int) ⊕ ((Int × List Int × Int × List (List Int)) ⊕ (DFA × Tape)))
  | (w154, w155) =>
  if w154 < (IntKind.i64.wrap (1 + v90.1)) then
    chk (z3i 8 (w155.length + 1)) <|
    z0Y (IntKind.i64.wrap (w154 + 1), w155 ++ [w154])
  else
    z1n <|
    z1j (z2q v90 w125) LFm (0, w126, w127, w128, w155)
def z2p (a1 : Int) (v90 : Int × Tape) (v91 : Int × Tape) (w96 : List Bool) (w125 : Int) (w126 : List Int) (w127 : Int) (w128 : List (List Int)) : Int × List Int → Fr
  | (w154, w155) => ⟨90, [(0, .one (.a 0 [] (0))), (1, .one (.t none (.sc (.int .i64 a1)))), (6, .one (.a 6 [] (0))), (7, .one (.a 7 [] (0))), (8, .one (.t none (.sc (.int .i64 (IntKind.i64.wrap (1 + v90.1)))))), (10, .one (.t none (.sc (.int .i64 w125)))), (11, .one (.h 11 [])), (12, .one (.t none (.sc (.int .i64 w154)))), (1090, .one (.a 0 [] (0)))], [(0, .vr [.sl w126.length (w126.map fun x0 => .sc (.int .i64 x0)), .sc (.int .i64 w127)]), (6, .vr [.sc (.int .i64 0), .sc (.int .i64 0), .os 1 0 [], .os 1 0 []]), (7, .vr [.sc (.int .i64 a1), .sc (.int .i64 v91.1), .os 1 w96.length (w96.map fun x0 => .sc (.bool x0)), .os 1 w128.length (w128.map fun x0 => .os 1 x0.length (x0.map fun x1 => .sc (.int .i64 x1)))]), (11, .os 1 w155.length (w155.map fun x0 => .sc (.int .i64 x0)))]⟩
def z2C (a1 : Int) (v90 : Int × Tape) (v91 : Int × Tape) (w96 : List Bool) : Int × List Int × Int × List (List Int) → Option ((Int × List Int × Int × List (List Int)) ⊕ (DFA × Tape))
  | (w125, w126, w127, w128) =>
  if w125 < a1 then
    z1j (z2r v90 w125 w126 w127 w128) LFm (0, [])
  else
    z1n <|
    some ((⟨a1, v91.1, w96, w128⟩ : DFA), (⟨w126, w127⟩ : Tape))
def z2A (a1 : Int) (v90 : Int × Tape) (v91 : Int × Tape) (w96 : List Bool) : Int × List Int × Int × List (List Int) → Fr
  | (w125, w126, w127, w128) => ⟨90, [(0, .one (.a 0 [] (0))), (1, .one (.t none (.sc (.int .i64 a1)))), (6, .one (.a 6 [] (0))), (7, .one (.a 7 [] (0))), (8, .one (.t none (.sc (.int .i64 (IntKind.i64.wrap (1 + v90.1)))))), (10, .one (.t none (.sc (.int .i64 w125)))), (1090, .one (.a 0 [] (0)))], [(0, .vr [.sl w126.length (w126.map fun x0 => .sc (.int .i64 x0)), .sc (.int .i64 w127)]), (6, .vr [.sc (.int .i64 0), .sc (.int .i64 0), .os 1 0 [], .os 1 0 []]), (7, .vr [.sc (.int .i64 a1), .sc (.int .i64 v91.1), .os 1 w96.length (w96.map fun x0 => .sc (.bool x0)), .os 1 w128.length (w128.map fun x0 => .os 1 x0.length (x0.map fun x1 => .sc (.int .i64 x1)))])]⟩
def z2D (a1 : Int) (v90 : Int × Tape) (v91 : Int × Tape) : Int × List Int × Int × List Bool × List (List Int) → Option ((Int × List Int × Int × List Bool × List (List Int)) ⊕ (DFA × Tape))
  | (w93, w94, w95, w96, w97) =>
  if w93 < (IntKind.i64.wrap (1 + v90.1)) then
    (z1x (⟨w94, w95⟩ : Tape) 2).bind fun v99 =>
    chk (z3i 1 (w96.length + 1)) <|
    chk (z3l 8 a1) <|
    chk (z3i 24 (w97.length + 1)) <|
    z0Y (IntKind.i64.wrap (w93 + 1), v99.2.l, v99.2.at_, w96 ++ [decide (v99.1 = 1)], w97 ++ [List.replicate a1.toNat (0 : Int)])
  else
    z1n <|
    z1j (z2C a1 v90 v91 w96) LFm (0, w94, w95, w97)
def z2B (a1 : Int) (v90 : Int × Tape) (v91 : Int × Tape) : Int × List Int × Int × List Bool × List (List Int) → Fr
  | (w93, w94, w95, w96, w97) => ⟨90, [(0, .one (.a 0 [] (0))), (1, .one (.t none (.sc (.int .i64 a1)))), (6, .one (.a 6 [] (0))), (7, .one (.a 7 [] (0))), (8, .one (.t none (.sc (.int .i64 (IntKind.i64.wrap (1 + v90.1)))))), (9, .one (.t none (.sc (.int .i64 w93)))), (1090, .one (.a 0 [] (0)))], [(0, .vr [.sl w94.length (w94.map fun x0 => .sc (.int .i64 x0)), .sc (.int .i64 w95)]), (6, .vr [.sc (.int .i64 0), .sc (.int .i64 0), .os 1 0 [], .os 1 0 []]), (7, .vr [.sc (.int .i64 a1), .sc (.int .i64 v91.1), .os 1 w96.length (w96.map fun x0 => .sc (.bool x0)), .os 1 w97.length (w97.map fun x0 => .os 1 x0.length (x0.map fun x1 => .sc (.int .i64 x1)))])]⟩
def z2t (a0 : Tape) (a1 : Int) (a2 : Int) : Option (DFA × Tape) :=
  (z1x a0 a2).bind fun v90 =>
  (z1x v90.2 (IntKind.i64.wrap (1 + v90.1))).bind fun v91 =>
  z1j (z2D a1 v90 v91) LFm (0, v91.2.l, v91.2.at_, [], [])
theorem z6X {a0 : Tape} {a1 : Int} {a2 : Int} {r : DFA × Tape} (h0 : z2t a0 a1 a2 = some r) : L 32 [.vr [.sl a0.l.length (a0.l.map fun x0 => .sc (.int .i64 x0)), .sc (.int .i64 a0.at_)], .sc (.int .i64 a1), .sc (.int .i64 a2)] = some (.agg [.sc (.int .i64 r.1.letters), .sc (.int .i64 r.1.start), .os 1 r.1.final.length (r.1.final.map fun x0 => .sc (.bool x0)), .os 1 r.1.next.length (r.1.next.map fun x0 => .os 1 x0.length (x0.map fun x1 => .sc (.int .i64 x1)))], [.vr [.sl r.2.l.length (r.2.l.map fun x0 => .sc (.int .i64 x0)), .sc (.int .i64 r.2.at_)], .dead, .dead]) := by
  simp only [z2t] at h0
  refine z2l zuR zvh (z1l zvl ⟨of_decide_eq_true rfl, of_decide_eq_true rfl⟩ ?_)
  simp only [z1z, z1w, z1s, z1A, z2X]
  refine zq rfl (zr rfl rfl rfl (by simp; rfl) ?_)
  refine z0a (zq rfl (zr rfl rfl rfl (by simp; rfl) ?_))
  refine z0a (zq rfl ?_)
  obtain ⟨v90, f115, h1⟩ := z0b h0
  have f115k := z1u f115
  try simp at f115k
  refine zr rfl rfl rfl (by simp [f115k]; rfl) ?_
  refine z0a (zq rfl ?_)
  obtain ⟨v91, f116, h2⟩ := z0b h1
  have f116k := z1u f116
  try simp at f116k
  refine zr rfl rfl rfl (by simp [f116k]; rfl) ?_
  refine z0a (zq rfl (zq rfl (zr rfl rfl rfl (by simp; rfl) ?_)))
  refine z0a (zb rfl (z0S h2 (z2B a1 v90 v91) rfl rfl (by simp [z2B]) fun s o1 h3 hr1 => ?_))
  obtain ⟨w93, w94, w95, w96, w97⟩ := s
  simp only [z2D] at h3
  simp only [z2B]
  refine zq rfl (zq rfl (zr rfl rfl rfl (by simp; rfl) ?_))
  refine z0a ?_
  by_cases c125 : w93 < (IntKind.i64.wrap (1 + v90.1))
  ·rw [if_pos c125] at h3
   refine z0p rfl (by simp [c125]) (z0h rfl (z0a (zq rfl (zb rfl ?_))))
   obtain ⟨v99, f126, h4⟩ := z0b h3
   have f126k := z1u f126
   try simp at f126k
   obtain ⟨f127, h5⟩ := zpH h4
   obtain ⟨f128, h6⟩ := zoQ h5
   obtain ⟨f129, h7⟩ := z8f h6
   refine zk3 rfl rfl rfl rfl ?_
   refine zq0 [(0, 0, 3, 1), (1, 2, 3, 2), (2, 7, 3, 3), (3, 9, 3, 4), (4, 1, 2, 5), (4, 3, 1, 6), (4, 8, 2, 7), (4, 10, 1, 8), (5, 3, 1, 9), (5, 8, 2, 10), (5, 10, 1, 11), (6, 4, 3, 12), (7, 1, 2, 10), (7, 3, 1, 13), (7, 10, 1, 15), (8, 1, 2, 11), (8, 3, 1, 14), (8, 8, 2, 15), (8, 11, 1, 16), (9, 4, 3, 17), (10, 3, 1, 18), (10, 10, 1, 20), (11, 3, 1, 19), (11, 8, 2, 20), (11, 11, 1, 21), (12, 1, 2, 17), (12, 5, 1, 22), (12, 8, 2, 23), (12, 10, 1, 24), (13, 4, 3, 23), (14, 4, 3, 24), (15, 1, 2, 20), (15, 3, 1, 25), (15, 11, 1, 27), (16, 1, 2, 21), (16, 3, 1, 26), (16, 8, 2, 27), (17, 5, 1, 28), (17, 8, 2, 29), (17, 10, 1, 30), (18, 4, 0, 29), (19, 4, 3, 30), (20, 3, 1, 31), (20, 11, 1, 33), (21, 3, 1, 32), (21, 8, 2, 33), (22, 1, 2, 28), (22, 8, 2, 34), (22, 10, 1, 35), (23, 1, 2, 29), (23, 5, 1, 34), (23, 10, 1, 36), (24, 1, 2, 30), (24, 5, 1, 35), (24, 8, 2, 36), (24, 11, 1, 37), (25, 4, 3, 36), (26, 4, 3, 37), (27, 1, 2, 33), (27, 3, 1, 38), (28, 6, 2, 39), (28, 8, 2, 40), (28, 10, 1, 41), (29, 5, 1, 40), (29, 10, 1, 42), (30, 5, 1, 41), (30, 8, 2, 42), (30, 11, 1, 43), (31, 4, 0, 42), (32, 4, 3, 43), (33, 3, 1, 44), (34, 1, 2, 40), (34, 10, 1, 45), (35, 1, 2, 41), (35, 8, 2, 45), (35, 11, 1, 46), (36, 1, 2, 42), (36, 5, 1, 45), (36, 11, 1, 47), (37, 1, 2, 43), (37, 5, 1, 46), (37, 8, 2, 47), (38, 4, 3, 47), (39, 8, 2, 48), (39, 10, 1, 49), (40, 6, 2, 48), (40, 10, 1, 50), (41, 6, 2, 49), (41, 8, 2, 50), (41, 11, 1, 51), (42, 5, 1, 50), (42, 11, 1, 52), (43, 5, 1, 51), (43, 8, 2, 52), (44, 4, 0, 52), (45, 1, 2, 50), (45, 11, 1, 53), (46, 1, 2, 51), (46, 8, 2, 53), (47, 1, 2, 52), (47, 5, 1, 53), (48, 13, 3, 55), (49, 8, 2, 54), (49, 11, 1, 56), (50, 6, 2, 54), (50, 11, 1, 57), (51, 6, 2, 56), (51, 8, 2, 57), (52, 5, 1, 57), (53, 1, 2, 57), (54, 13, 3, 59), (55, 10, 1, 59), (56, 8, 2, 58), (57, 6, 2, 58), (58, 13, 3, 60), (59, 11, 1, 60), (60, 12, 2, 61), (61, 14, 2, 62), (62, 15, 0, 63), (63, 16, 2, 64)] 64 (by kernel_rfl) ?_
   refine z0D rfl rfl rfl rfl (by simp [z0d, z0e, f126k, f127, f128, f129]; rfl) ?_
   refine z0D rfl rfl rfl rfl (by simp [z0d, z0e, f126k, f127, f128, f129]; rfl) ?_
   refine z0D rfl rfl rfl rfl (by simp [z0d, z0e, f126k, f127, f128, f129]; rfl) ?_
   refine z0D rfl rfl rfl rfl (by simp [z0d, z0e, f126k, f127, f128, f129]; rfl) ?_
   refine z0D rfl rfl rfl rfl (by simp [z0d, z0e, f126k, f127, f128, f129]; rfl) ?_
   refine z0D rfl rfl rfl rfl (by simp [z0d, z0e, f126k, f127, f128, f129]; rfl) ?_
   refine z0D rfl rfl rfl rfl (by simp [z0d, z0e, f126k, f127, f128, f129]; rfl) ?_
   refine z0D rfl rfl rfl rfl (by simp [z0d, z0e, f126k, f127, f128, f129]; rfl) ?_
   refine z0D rfl rfl rfl rfl (by simp [z0d, z0e, f126k, f127, f128, f129]; rfl) ?_
   refine z0D rfl rfl rfl rfl (by simp [z0d, z0e, f126k, f127, f128, f129]; rfl) ?_
   refine z0D rfl rfl rfl rfl (by simp [z0d, z0e, f126k, f127, f128, f129]; rfl) ?_
   refine z0D rfl rfl rfl rfl (by simp [z0d, z0e, f126k, f127, f128, f129]; rfl) ?_
   refine z0C rfl rfl rfl rfl (by simp [z0d, z0e, f126k, f127, f128, f129]) ?_
   refine z0D rfl rfl rfl rfl (by simp [z0d, z0e, f126k, f127, f128, f129]; rfl) ?_
   refine z0D rfl rfl rfl rfl (by simp [z0d, z0e, f126k, f127, f128, f129]; rfl) ?_
   refine z0C rfl rfl rfl rfl (by simp [z0d, z0e, f126k, f127, f128, f129]) ?_
   refine z0D rfl rfl rfl rfl (by simp [z0d, z0e, f126k, f127, f128, f129]; rfl) ?_
   refine z0C rfl rfl rfl rfl (by simp [z0d, z0e, f126k, f127, f128, f129]) ?_
   refine z0D rfl rfl rfl rfl (by simp [z0d, z0e, f126k, f127, f128, f129]; rfl) ?_
   refine z0D rfl rfl rfl rfl (by simp [z0d, z0e, f126k, f127, f128, f129]; rfl) ?_
   refine z0D rfl rfl rfl rfl (by simp [z0d, z0e, f126k, f127, f128, f129]; rfl) ?_
   refine z0D rfl rfl rfl rfl (by simp [z0d, z0e, f126k, f127, f128, f129]; rfl) ?_
   refine z0D rfl rfl rfl rfl (by simp [z0d, z0e, f126k, f127, f128, f129]; rfl) ?_
   refine z0C rfl rfl rfl rfl (by simp [z0d, z0e, f126k, f127, f128, f129]) ?_
   refine z0D rfl rfl rfl rfl (by simp [z0d, z0e, f126k, f127, f128, f129]; rfl) ?_
   refine z0C rfl rfl rfl rfl (by simp [z0d, z0e, f126k, f127, f128, f129]) ?_
   refine z0D rfl rfl rfl rfl (by simp [z0d, z0e, f126k, f127, f128, f129]; rfl) ?_
   refine z0D rfl rfl rfl rfl (by simp [z0d, z0e, f126k, f127, f128, f129]; rfl) ?_
   refine z0D rfl rfl rfl rfl (by simp [z0d, z0e, f126k, f127, f128, f129]; rfl) ?_
   refine z0C rfl rfl rfl rfl (by simp [z0d, z0e, f126k, f127, f128, f129]) ?_
   refine z0C rfl rfl rfl rfl (by simp [z0d, z0e, f126k, f127, f128, f129]) ?_
   refine z0C rfl rfl rfl rfl (by simp [z0d, z0e, f126k, f127, f128, f129]) ?_
   refine z0D rfl rfl rfl rfl (by simp [z0d, z0e, f126k, f127, f128, f129]; rfl) ?_
   refine z0D rfl rfl rfl rfl (by simp [z0d, z0e, f126k, f127, f128, f129]; rfl) ?_
   refine z0C rfl rfl rfl rfl (by simp [z0d, z0e, f126k, f127, f128, f129]) ?_
   refine z0D rfl rfl rfl rfl (by simp [z0d, z0e, f126k, f127, f128, f129]; rfl) ?_
   refine z0C rfl rfl rfl rfl (by simp [z0d, z0e, f126k, f127, f128, f129]) ?_
   refine z0D rfl rfl rfl rfl (by simp [z0d, z0e, f126k, f127, f128, f129]; rfl) ?_
   refine z0D rfl rfl rfl rfl (by simp [z0d, z0e, f126k, f127, f128, f129]; rfl) ?_
   refine z0D rfl rfl rfl rfl (by simp [z0d, z0e, f126k, f127, f128, f129]; rfl) ?_
   refine z0C rfl rfl rfl rfl (by simp [z0d, z0e, f126k, f127, f128, f129]) ?_
   refine z0C rfl rfl rfl rfl (by simp [z0d, z0e, f126k, f127, f128, f129]) ?_
   refine z0D rfl rfl rfl rfl (by simp [z0d, z0e, f126k, f127, f128, f129]; rfl) ?_
   refine z0D rfl rfl rfl rfl (by simp [z0d, z0e, f126k, f127, f128, f129]; rfl) ?_
   refine z0D rfl rfl rfl rfl (by simp [z0d, z0e, f126k, f127, f128, f129]; rfl) ?_
   refine z0C rfl rfl rfl rfl (by simp [z0d, z0e, f126k, f127, f128, f129]) ?_
   refine z0C rfl rfl rfl rfl (by simp [z0d, z0e, f126k, f127, f128, f129]) ?_
   refine z0D rfl rfl rfl rfl (by simp [z0d, z0e, f126k, f127, f128, f129]; rfl) ?_
   refine z0D rfl rfl rfl rfl (by simp [z0d, z0e, f126k, f127, f128, f129]; rfl) ?_
   refine z0C rfl rfl rfl rfl (by simp [z0d, z0e, f126k, f127, f128, f129]) ?_
   refine z0C rfl rfl rfl rfl (by simp [z0d, z0e, f126k, f127, f128, f129]) ?_
   refine z0D rfl rfl rfl rfl (by simp [z0d, z0e, f126k, f127, f128, f129]; rfl) ?_
   refine z0C rfl rfl rfl rfl (by simp [z0d, z0e, f126k, f127, f128, f129]) ?_
   refine z0C rfl rfl rfl rfl (by simp [z0d, z0e, f126k, f127, f128, f129]) ?_
   refine z0C rfl rfl rfl rfl (by simp [z0d, z0e, f126k, f127, f128, f129]) ?_
   refine z0D rfl rfl rfl rfl (by simp [z0d, z0e, f126k, f127, f128, f129]; rfl) ?_
   refine z0C rfl rfl rfl rfl (by simp [z0d, z0e, f126k, f127, f128, f129]) ?_
   refine z0C rfl rfl rfl rfl (by simp [z0d, z0e, f126k, f127, f128, f129]) ?_
   refine z0C rfl rfl rfl rfl (by simp [z0d, z0e, f126k, f127, f128, f129]) ?_
   refine z0D rfl rfl rfl rfl (by simp [z0d, z0e, f126k, f127, f128, f129]; rfl) ?_
   refine z0D rfl rfl rfl rfl (by simp [z0d, z0e, f126k, f127, f128, f129]; rfl) ?_
   refine z0D rfl rfl rfl rfl (by simp [z0d, z0e, f126k, f127, f128, f129]; rfl) ?_
   refine z0D rfl rfl rfl rfl (by simp [z0d, z0e, f126k, f127, f128, f129]; rfl) ?_
   refine z0C rfl rfl rfl rfl (by simp [z0d, z0e, f126k, f127, f128, f129]) ?_
   refine z0D rfl rfl rfl rfl (by simp [z0d, z0e, f126k, f127, f128, f129]; rfl) ?_
   refine z0C rfl rfl rfl rfl (by simp [z0d, z0e, f126k, f127, f128, f129]) ?_
   refine z0C rfl rfl rfl rfl (by simp [z0d, z0e, f126k, f127, f128, f129]) ?_
   refine z0D rfl rfl rfl rfl (by simp [z0d, z0e, f126k, f127, f128, f129]; rfl) ?_
   refine z0C rfl rfl rfl rfl (by simp [z0d, z0e, f126k, f127, f128, f129]) ?_
   refine z0C rfl rfl rfl rfl (by simp [z0d, z0e, f126k, f127, f128, f129]) ?_
   refine z0D rfl rfl rfl rfl (by simp [z0d, z0e, f126k, f127, f128, f129]; rfl) ?_
   refine z0C rfl rfl rfl rfl (by simp [z0d, z0e, f126k, f127, f128, f129]) ?_
   refine z0D rfl rfl rfl rfl (by simp [z0d, z0e, f126k, f127, f128, f129]; rfl) ?_
   refine z0C rfl rfl rfl rfl (by simp [z0d, z0e, f126k, f127, f128, f129]) ?_
   refine z0C rfl rfl rfl rfl (by simp [z0d, z0e, f126k, f127, f128, f129]) ?_
   refine z0D rfl rfl rfl rfl (by simp [z0d, z0e, f126k, f127, f128, f129]; rfl) ?_
   refine z0C rfl rfl rfl rfl (by simp [z0d, z0e, f126k, f127, f128, f129]) ?_
   refine z0C rfl rfl rfl rfl (by simp [z0d, z0e, f126k, f127, f128, f129]) ?_
   refine z0D rfl rfl rfl rfl (by simp [z0d, z0e, f126k, f127, f128, f129]; rfl) ?_
   refine z0C rfl rfl rfl rfl (by simp [z0d, z0e, f126k, f127, f128, f129]) ?_
   refine z0C rfl rfl rfl rfl (by simp [z0d, z0e, f126k, f127, f128, f129]) ?_
   refine z0C rfl rfl rfl rfl (by simp [z0d, z0e, f126k, f127, f128, f129]) ?_
   refine z0C rfl rfl rfl rfl (by simp [z0d, z0e, f126k, f127, f128, f129]) ?_
   refine z0D rfl rfl rfl rfl (by simp [z0d, z0e, f126k, f127, f128, f129]; rfl) ?_
   refine z0D rfl rfl rfl rfl (by simp [z0d, z0e, f126k, f127, f128, f129]; rfl) ?_
   refine z0C rfl rfl rfl rfl (by simp [z0d, z0e, f126k, f127, f128, f129]) ?_
   refine z0D rfl rfl rfl rfl (by simp [z0d, z0e, f126k, f127, f128, f129]; rfl) ?_
   refine z0C rfl rfl rfl rfl (by simp [z0d, z0e, f126k, f127, f128, f129]) ?_
   refine z0C rfl rfl rfl rfl (by simp [z0d, z0e, f126k, f127, f128, f129]) ?_
   refine z0D rfl rfl rfl rfl (by simp [z0d, z0e, f126k, f127, f128, f129]; rfl) ?_
   refine z0C rfl rfl rfl rfl (by simp [z0d, z0e, f126k, f127, f128, f129]) ?_
   refine z0D rfl rfl rfl rfl (by simp [z0d, z0e, f126k, f127, f128, f129]; rfl) ?_
   refine z0C rfl rfl rfl rfl (by simp [z0d, z0e, f126k, f127, f128, f129]) ?_
   refine z0C rfl rfl rfl rfl (by simp [z0d, z0e, f126k, f127, f128, f129]) ?_
   refine z0C rfl rfl rfl rfl (by simp [z0d, z0e, f126k, f127, f128, f129]) ?_
   refine z0C rfl rfl rfl rfl (by simp [z0d, z0e, f126k, f127, f128, f129]) ?_
   refine z0D rfl rfl rfl rfl (by simp [z0d, z0e, f126k, f127, f128, f129]; rfl) ?_
   refine z0C rfl rfl rfl rfl (by simp [z0d, z0e, f126k, f127, f128, f129]) ?_
   refine z0C rfl rfl rfl rfl (by simp [z0d, z0e, f126k, f127, f128, f129]) ?_
   refine z0C rfl rfl rfl rfl (by simp [z0d, z0e, f126k, f127, f128, f129]) ?_
   refine z0C rfl rfl rfl rfl (by simp [z0d, z0e, f126k, f127, f128, f129]) ?_
   refine z0D rfl rfl rfl rfl (by simp [z0d, z0e, f126k, f127, f128, f129]; rfl) ?_
   refine z0D rfl rfl rfl rfl (by simp [z0d, z0e, f126k, f127, f128, f129]; rfl) ?_
   refine z0D rfl rfl rfl rfl (by simp [z0d, z0e, f126k, f127, f128, f129]; rfl) ?_
   refine z0C rfl rfl rfl rfl (by simp [z0d, z0e, f126k, f127, f128, f129]) ?_
   refine z0D rfl rfl rfl rfl (by simp [z0d, z0e, f126k, f127, f128, f129]; rfl) ?_
   refine z0C rfl rfl rfl rfl (by simp [z0d, z0e, f126k, f127, f128, f129]) ?_
   refine z0C rfl rfl rfl rfl (by simp [z0d, z0e, f126k, f127, f128, f129]) ?_
   refine z0C rfl rfl rfl rfl (by simp [z0d, z0e, f126k, f127, f128, f129]) ?_
   refine z0C rfl rfl rfl rfl (by simp [z0d, z0e, f126k, f127, f128, f129]) ?_
   refine z0D rfl rfl rfl rfl (by simp [z0d, z0e, f126k, f127, f128, f129]; rfl) ?_
   refine z0C rfl rfl rfl rfl (by simp [z0d, z0e, f126k, f127, f128, f129]) ?_
   refine z0D rfl rfl rfl rfl (by simp [z0d, z0e, f126k, f127, f128, f129]; rfl) ?_
   refine z0C rfl rfl rfl rfl (by simp [z0d, z0e, f126k, f127, f128, f129]) ?_
   refine z0D rfl rfl rfl rfl (by simp [z0d, z0e, f126k, f127, f128, f129]; rfl) ?_
   refine z0C rfl rfl rfl rfl (by simp [z0d, z0e, f126k, f127, f128, f129]) ?_
   refine z0D rfl rfl rfl rfl (by simp [z0d, z0e, f126k, f127, f128, f129]; rfl) ?_
   refine z0D rfl rfl rfl rfl (by simp [z0d, z0e, f126k, f127, f128, f129]; rfl) ?_
   refine z0D rfl rfl rfl rfl (by simp [z0d, z0e, f126k, f127, f128, f129]; rfl) ?_
   refine z0D rfl rfl rfl rfl (by simp [z0d, z0e, f126k, f127, f128, f129]; rfl) ?_
   refine zqh rfl ?_
   refine zjT rfl (by simp [f126k, f127, f128, f129]; rfl) ?_
   refine z0k (z0a (zr rfl rfl rfl (by simp; rfl) ?_))
   have ho := z0f h7
   refine z0j ho ?_
   simp [z2B]
  ·rw [if_neg c125] at h3
   refine z0m rfl (by simp [c125]) (z1m rfl (z0E ?_))
   obtain ⟨rr1, h4, ho1⟩ := z0g h3
   have hs1 := hr1 _ ho1
   subst hs1
   refine z0r ho1 (z0c rfl (z0a (zq rfl (zq rfl (zr rfl rfl rfl (by simp; rfl) ?_)))))
   refine z0a (zb rfl (z0S h4 (z2A a1 v90 v91 w96) rfl rfl (by simp [z2A]) fun s o2 h5 hr2 => ?_))
   obtain ⟨w125, w126, w127, w128⟩ := s
   simp only [z2C] at h5
   simp only [z2A]
   refine zq rfl (zq rfl (zr rfl rfl rfl (by simp; rfl) ?_))
   refine z0a ?_
   by_cases c196 : w125 < a1
   ·rw [if_pos c196] at h5
    refine z0p rfl (by simp [c196]) (z0h rfl (z0a (zq rfl (zb rfl (zq rfl (zr rfl rfl rfl (by simp; rfl) ?_))))))
    refine z0a (zq rfl (zq rfl (zr rfl rfl rfl (by simp; rfl) ?_)))
    refine z0a (zb rfl (z0S h5 (z2p a1 v90 v91 w96 w125 w126 w127 w128) rfl rfl (by simp [z2p]) fun s o3 h6 hr3 => ?_))
    obtain ⟨w154, w155⟩ := s
    simp only [z2r] at h6
    simp only [z2p]
    refine zq rfl (zq rfl (zr rfl rfl rfl (by simp; rfl) ?_))
    refine z0a ?_
    by_cases c200 : w154 < (IntKind.i64.wrap (1 + v90.1))
    ·rw [if_pos c200] at h6
     refine z0p rfl (by simp [c200]) (z0h rfl (z0a (zq rfl (zb rfl ?_))))
     obtain ⟨f201, h7⟩ := z8f h6
     refine zr rfl rfl rfl (by simp [f201]; rfl) ?_
     refine z0k (z0a (zr rfl rfl rfl (by simp; rfl) ?_))
     have ho := z0f h7
     refine z0j ho ?_
     simp [z2p]
    ·rw [if_neg c200] at h6
     refine z0m rfl (by simp [c200]) (z1m rfl (z0E ?_))
     obtain ⟨rr3, h7, ho3⟩ := z0g h6
     have hs3 := hr3 _ ho3
     subst hs3
     refine z0r ho3 (z0c rfl (z0a (zq rfl (zr rfl rfl rfl (by simp; rfl) ?_))))
     refine z0a (zb rfl (z0S h7 (z2o a1 v90 v91 w96 w125) rfl rfl (by simp [z2o]) fun s o4 h8 hr4 => ?_))
     obtain ⟨w162, w163, w164, w165, w166⟩ := s
     simp only [z2q] at h8
     simp only [z2o]
     refine zq rfl (zq rfl (zr rfl rfl rfl (by simp; rfl) ?_))
     refine z0a ?_
     by_cases c220 : w162 < (IntKind.i64.wrap (1 + v90.1))
     ·rw [if_pos c220] at h8
      refine z0p rfl (by simp [c220]) (z0h rfl (z0a (zq rfl (zb rfl (zq rfl ?_)))))
      obtain ⟨v173, f221, h9⟩ := z0b h8
      have f221k := z1u f221
      try simp at f221k
      refine zr rfl rfl rfl (by simp [f221k]; rfl) ?_
      refine z0a (zq rfl ?_)
      obtain ⟨v174, f222, h10⟩ := z1r h9
      obtain ⟨v175, f223, h11⟩ := z1r h10
      obtain ⟨v176, f224, h12⟩ := z1r h11
      refine z1D rfl rfl rfl rfl ?_; repeat' ((first | refine z0F rfl rfl fun Q' hQ => ?_ | refine z0w rfl fun Q' hQ => ?_); simp [f222, f223, f224]; refine hQ.out _ ?_; clear hQ; clear Q')
      refine z0a ?_
      obtain ⟨v177, f225, h13⟩ := z0b h12
      obtain ⟨f225a, f225b, f225c, -⟩ := z4P f225
      obtain ⟨f225d, f225g⟩ := zcA f225a f225b
      have f225e := zc1 (g := fun x : Int => (.sc (.int .i64 x) : T)) f225
      try simp at f225e
      have f225f := zc0 f225
      try simp only [Int.reduceToNat, Int.toNat_natCast, Nat.sub_zero] at f225f
      obtain ⟨v178, f226, h14⟩ := z0b h13
      obtain ⟨f226a, f226b, f226c, -⟩ := z4P f226
      obtain ⟨f226d, f226g⟩ := zcA f226a f226b
      have f226e := zc1 (g := fun x : Int => (.sc (.int .i64 x) : T)) f226
      try simp at f226e
      have f226f := zc0 f226
      try simp only [Int.reduceToNat, Int.toNat_natCast, Nat.sub_zero] at f226f
      obtain ⟨f227, h15⟩ := z8f h14
      obtain ⟨f228, h16⟩ := z8f h15
      refine z1D rfl rfl rfl rfl ?_; repeat' ((first | refine z0F rfl rfl fun Q' hQ => ?_ | refine z0w rfl fun Q' hQ => ?_); simp [f222, f225a, f225b, f225c, f225d, f225g, f225e, f225f, f226a, f226b, f226c, f226d, f226g, f226e, f226f, f227, f228]; refine hQ.out _ ?_; clear hQ; clear Q')
      refine z0k (z0a (zr rfl rfl rfl (by simp [f222]; rfl) ?_))
      have ho := z0f h16
      refine z0j ho ?_
      simp [z2o]
     ·rw [if_neg c220] at h8
      refine z0m rfl (by simp [c220]) (z1m rfl (z0E ?_))
      obtain ⟨rr4, h9, ho4⟩ := z0g h8
      have hs4 := hr4 _ ho4
      subst hs4
      refine z0r ho4 (z0c rfl (z0k (z0a (zr rfl rfl rfl (by simp; rfl) ?_))))
      have ho := z0f h9
      refine z0j ho ?_
      simp [z2A]
   ·rw [if_neg c196] at h5
    refine z0m rfl (by simp [c196]) (z1m rfl (z0E ?_))
    obtain ⟨rr2, h6, ho2⟩ := z0g h5
    have hs2 := hr2 _ ho2
    subst hs2
    refine z0r ho2 (z0c rfl (z0a (zq rfl (zr rfl rfl rfl (by simp; rfl) ?_))))
    refine z0a (z0U rfl ?_)
    cases h6
    simp
def zaH (a0 : Int) (a1 : Int) (w31 : Int) : Int × List ByteArray → Option ((Int × List ByteArray) ⊕ ((Int × List ByteArray) ⊕ List ByteArray))
  | (w43, w44) =>
  if w43 < a0 then
    (atI w44 w31).bind fun v47 =>
    if (v47.size : Int) < a1 then
      chk (z9z v47 ⟨#[UInt8.ofNat (IntKind.u8.wrap (IntKind.i64.wrap (97 + w43))).toNat]⟩) <|
      chk (z3i 16 (w44.length + 1)) <|
      z0Y (IntKind.i64.wrap (w43 + 1), w44 ++ [v47 ++ ⟨#[UInt8.ofNat (IntKind.u8.wrap (IntKind.i64.wrap (97 + w43))).toNat]⟩])
    else
      z1n <|
      z0Y (IntKind.i64.wrap (w31 + 1), w44)
  else
    z1n <|
    z0Y (IntKind.i64.wrap (w31 + 1), w44)
def z6f (a0 : Int) (a1 : Int) (w31 : Int) : Int × List ByteArray → Fr
  | (w43, w44) => ⟨43, [(0, .one (.t none (.sc (.int .i64 a0)))), (1, .one (.t none (.sc (.int .i64 a1)))), (5, .one (.h 5 [])), (6, .one (.t none (.sc (.int .i64 w31)))), (7, .one (.t none (.sc (.int .i64 w43))))], [(5, .os 1 w44.length (w44.map fun x0 => .sc (.string x0)))]⟩
def zaI (a0 : Int) (a1 : Int) : Int × List ByteArray → Option ((Int × List ByteArray) ⊕ List ByteArray)
  | (w31, w32) =>
  if w31 < (w32.length : Int) then
    z1j (zaH a0 a1 w31) LFm (0, w32)
  else
    z1n <|
    some w32
def z5c (a0 : Int) (a1 : Int) : Int × List ByteArray → Fr
  | (w31, w32) => ⟨43, [(0, .one (.t none (.sc (.int .i64 a0)))), (1, .one (.t none (.sc (.int .i64 a1)))), (5, .one (.h 5 [])), (6, .one (.t none (.sc (.int .i64 w31))))], [(5, .os 1 w32.length (w32.map fun x0 => .sc (.string x0)))]⟩
def z9k (a0 : Int) (a1 : Int) : Option (List ByteArray) :=
  z1j (zaI a0 a1) LFm (0, [ByteArray.empty])
theorem zg6 {a0 : Int} {a1 : Int} {r : List ByteArray} (h0 : z9k a0 a1 = some r) : L 61 [.sc (.int .i64 a0), .sc (.int .i64 a1)] = some (.os 1 r.length (r.map fun x0 => .sc (.string x0)), [.dead, .dead]) := by
  simp only [z9k] at h0
  refine z2l zuu zvU (z1l zy7 ⟨of_decide_eq_true rfl, of_decide_eq_true rfl⟩ ?_)
  simp only [z1z, z1w, z1s, z1A, z2X]
  refine zq rfl (zr rfl rfl rfl (by simp; rfl) ?_)
  refine z0a (zq rfl (zr rfl rfl rfl (by simp; rfl) ?_))
  refine z0a (zq rfl (zq rfl (zr rfl rfl rfl (by simp; rfl) ?_)))
  refine z0a (zb rfl (z0S h0 (z5c a0 a1) rfl rfl (by simp [z5c]) fun s o1 h1 hr1 => ?_))
  obtain ⟨w31, w32⟩ := s
  simp only [zaI] at h1
  simp only [z5c]
  refine zq rfl (zq rfl (zr rfl rfl rfl (by simp; rfl) ?_))
  refine z0a ?_
  by_cases c77 : w31 < (w32.length : Int)
  ·rw [if_pos c77] at h1
   refine z0p rfl (by simp [c77]) (z0h rfl (z0a (zq rfl (zb rfl (zq rfl (zr rfl rfl rfl (by simp; rfl) ?_))))))
   refine z0a (zb rfl (z0S h1 (z6f a0 a1 w31) rfl rfl (by simp [z6f]) fun s o2 h2 hr2 => ?_))
   obtain ⟨w43, w44⟩ := s
   simp only [zaH] at h2
   simp only [z6f]
   refine zq rfl (zq rfl ?_)
   by_cases c88 : w43 < a0
   ·rw [if_pos c88] at h2
    obtain ⟨v47, f89, h3⟩ := z1r h2
    refine zr rfl rfl rfl (by simp [c88, f89]; rfl) ?_
    refine z0a ?_
    by_cases c90 : (v47.size : Int) < a1
    ·rw [if_pos c90] at h3
     refine z0p rfl (by simp [c90]) (z0h rfl (z0a (zq rfl (zb rfl ?_))))
     obtain ⟨f91, h4⟩ := z1E h3
     obtain ⟨f92, h5⟩ := z8f h4
     refine z1D rfl rfl rfl rfl ?_; repeat' ((first | refine z0F rfl rfl fun Q' hQ => ?_ | refine z0w rfl fun Q' hQ => ?_); simp [f89, f91, f92]; refine hQ.out _ ?_; clear hQ; clear Q')
     refine z0k (z0a (zr rfl rfl rfl (by simp; rfl) ?_))
     have ho := z0f h5
     refine z0j ho ?_
     simp [z6f]
    ·rw [if_neg c90] at h3
     refine z0m rfl (by simp [c90]) (z1m rfl (z0E ?_))
     obtain ⟨rr2, h4, ho2⟩ := z0g h3
     have hs2 := hr2 _ ho2
     subst hs2
     refine z0r ho2 (z0c rfl (z0k (z0a (zr rfl rfl rfl (by simp; rfl) ?_))))
     have ho := z0f h4
     refine z0j ho ?_
     simp [z5c]
   ·rw [if_neg c88] at h2
    refine zr rfl rfl rfl (by simp [c88]; rfl) ?_
    refine z0a (z0m rfl (by simp) (z1m rfl (z0E ?_)))
    obtain ⟨rr2, h3, ho2⟩ := z0g h2
    have hs2 := hr2 _ ho2
    subst hs2
    refine z0r ho2 (z0c rfl (z0k (z0a (zr rfl rfl rfl (by simp; rfl) ?_))))
    have ho := z0f h3
    refine z0j ho ?_
    simp [z5c]
  ·rw [if_neg c77] at h1
   refine z0m rfl (by simp [c77]) (z1m rfl (z0E ?_))
   obtain ⟨rr1, h2, ho1⟩ := z0g h1
   have hs1 := hr1 _ ho1
   subst hs1
   refine z0r ho1 (z0c rfl (z0a (zq rfl (zr rfl rfl rfl (by simp; rfl) ?_))))
   refine z0a (z0U rfl ?_)
   cases h2
   simp
def z5n (v201 : List ByteArray) (w385 : ByteArray) : Int × Int → Option ((Int × Int) ⊕ ((ByteArray × Int) ⊕ ((Int × List Int) ⊕ ((Int × List Int × Int × List Bool × List (List Int)) ⊕ (DFA × Tape)))))
  | (w394, w395) =>
  if w395 < (v201.length : Int) then
    (atI v201 w395).bind fun v397 =>
    if v397 = w385 then
      z0Y (w395, IntKind.i64.wrap (w395 + 1))
    else
      z0Y (w394, IntKind.i64.wrap (w395 + 1))
  else
    z1n <|
    (znI w385 1 (w385.size : Int)).bind fun v398 =>
    z0Y (v398, w394)
def z2u (a1 : Int) (v201 : List ByteArray) (w266 : Int) (w269 : List Bool) (w270 : List (List Int)) (v335 : ByteArray) (v336 : Int × Tape) (w357 : Int) (w358 : List Int) (w385 : ByteArray) : Int × Int → Fr
  | (w394, w395) => ⟨76, [(0, .one (.a 0 [] (0))), (1, .one (.t none (.sc (.int .i64 a1)))), (4, .one (.a 4 [] (0))), (5, .one (.a 5 [] (0))), (6, .one (.h 6 [])), (8, .one (.t none (.sc (.string v335)))), (9, .one (.h 9 [])), (10, .one (.t none (.sc (.int .i64 w357)))), (11, .one (.t none (.sc (.string w385)))), (12, .one (.t none (.sc (.int .i64 w394)))), (22, .one (.h 6 [])), (23, .one (.t none (.sc (.int .i64 (v201.length : Int))))), (24, .one (.t none (.sc (.int .i64 w266)))), (50, .one (.h 6 [])), (51, .one (.t none (.sc (.int .i64 (v201.length : Int))))), (52, .one (.t none (.sc (.int .i64 w395)))), (1076, .one (.a 0 [] (0)))], [(0, .vr [.sl v336.2.l.length (v336.2.l.map fun x0 => .sc (.int .i64 x0)), .sc (.int .i64 v336.2.at_)]), (4, .vr [.sc (.int .i64 0), .sc (.int .i64 0), .os 1 0 [], .os 1 0 []]), (5, .vr [.sc (.int .i64 a1), .sc (.int .i64 0), .os 1 (w269 ++ [decide (v336.1 = 1)]).length ((w269 ++ [decide (v336.1 = 1)]).map fun x0 => .sc (.bool x0)), .os 1 w270.length (w270.map fun x0 => .os 1 x0.length (x0.map fun x1 => .sc (.int .i64 x1)))]), (6, .os 1 v201.length (v201.map fun x0 => .sc (.string x0))), (9, .os 1 w358.length (w358.map fun x0 => .sc (.int .i64 x0)))]⟩
def z3k (v201 : List ByteArray) (w357 : Int) (w358 : List Int) : ByteArray × Int → Option ((ByteArray × Int) ⊕ ((Int × List Int) ⊕ ((Int × List Int × Int × List Bool × List (List Int)) ⊕ (DFA × Tape))))
  | (w385, w386) =>
  if w386 = (-1) then
    z1j (z5n v201 w385) LFm (w386, 0)
  else
    z1n <|
    chk (z3i 8 (w358.length + 1)) <|
    z0Y (IntKind.i64.wrap (w357 + 1), w358 ++ [w386])
def z3j (a1 : Int) (v201 : List ByteArray) (w266 : Int) (w269 : List Bool) (w270 : List (List Int)) (v335 : ByteArray) (v336 : Int × Tape) (w357 : Int) (w358 : List Int) : ByteArray × Int → Fr
  | (w385, w386) => ⟨76, [(0, .one (.a 0 [] (0))), (1, .one (.t none (.sc (.int .i64 a1)))), (4, .one (.a 4 [] (0))), (5, .one (.a 5 [] (0))), (6, .one (.h 6 [])), (8, .one (.t none (.sc (.string v335)))), (9, .one (.h 9 [])), (10, .one (.t none (.sc (.int .i64 w357)))), (11, .one (.t none (.sc (.string w385)))), (12, .one (.t none (.sc (.int .i64 w386)))), (22, .one (.h 6 [])), (23, .one (.t none (.sc (.int .i64 (v201.length : Int))))), (24, .one (.t none (.sc (.int .i64 w266)))), (1076, .one (.a 0 [] (0)))], [(0, .vr [.sl v336.2.l.length (v336.2.l.map fun x0 => .sc (.int .i64 x0)), .sc (.int .i64 v336.2.at_)]), (4, .vr [.sc (.int .i64 0), .sc (.int .i64 0), .os 1 0 [], .os 1 0 []]), (5, .vr [.sc (.int .i64 a1), .sc (.int .i64 0), .os 1 (w269 ++ [decide (v336.1 = 1)]).length ((w269 ++ [decide (v336.1 = 1)]).map fun x0 => .sc (.bool x0)), .os 1 w270.length (w270.map fun x0 => .os 1 x0.length (x0.map fun x1 => .sc (.int .i64 x1)))]), (6, .os 1 v201.length (v201.map fun x0 => .sc (.string x0))), (9, .os 1 w358.length (w358.map fun x0 => .sc (.int .i64 x0)))]⟩
def z2J (a1 : Int) (v201 : List ByteArray) (w266 : Int) (w269 : List Bool) (w270 : List (List Int)) (v335 : ByteArray) (v336 : Int × Tape) : Int × List Int → Option ((Int × List Int) ⊕ ((Int × List Int × Int × List Bool × List (List Int)) ⊕ (DFA × Tape)))
  | (w357, w358) =>
  if w357 < a1 then
    chk (z9z v335 ⟨#[UInt8.ofNat (IntKind.u8.wrap (IntKind.i64.wrap (97 + w357))).toNat]⟩) <|
    z1j (z3k v201 w357 w358) LFm (v335 ++ ⟨#[UInt8.ofNat (IntKind.u8.wrap (IntKind.i64.wrap (97 + w357))).toNat]⟩, (-1))
  else
    z1n <|
    chk (z3i 24 (w270.length + 1)) <|
    z0Y (IntKind.i64.wrap (w266 + 1), v336.2.l, v336.2.at_, w269 ++ [decide (v336.1 = 1)], w270 ++ [w358])
def z3q (a1 : Int) (v201 : List ByteArray) (w266 : Int) (w269 : List Bool) (w270 : List (List Int)) (v335 : ByteArray) (v336 : Int × Tape) : Int × List Int → Fr
  | (w357, w358) => ⟨76, [(0, .one (.a 0 [] (0))), (1, .one (.t none (.sc (.int .i64 a1)))), (4, .one (.a 4 [] (0))), (5, .one (.a 5 [] (0))), (6, .one (.h 6 [])), (8, .one (.t none (.sc (.string v335)))), (9, .one (.h 9 [])), (10, .one (.t none (.sc (.int .i64 w357)))), (22, .one (.h 6 [])), (23, .one (.t none (.sc (.int .i64 (v201.length : Int))))), (24, .one (.t none (.sc (.int .i64 w266)))), (1076, .one (.a 0 [] (0)))], [(0, .vr [.sl v336.2.l.length (v336.2.l.map fun x0 => .sc (.int .i64 x0)), .sc (.int .i64 v336.2.at_)]), (4, .vr [.sc (.int .i64 0), .sc (.int .i64 0), .os 1 0 [], .os 1 0 []]), (5, .vr [.sc (.int .i64 a1), .sc (.int .i64 0), .os 1 (w269 ++ [decide (v336.1 = 1)]).length ((w269 ++ [decide (v336.1 = 1)]).map fun x0 => .sc (.bool x0)), .os 1 w270.length (w270.map fun x0 => .os 1 x0.length (x0.map fun x1 => .sc (.int .i64 x1)))]), (6, .os 1 v201.length (v201.map fun x0 => .sc (.string x0))), (9, .os 1 w358.length (w358.map fun x0 => .sc (.int .i64 x0)))]⟩
def z3s (a1 : Int) (v201 : List ByteArray) : Int × List Int × Int × List Bool × List (List Int) → Option ((Int × List Int × Int × List Bool × List (List Int)) ⊕ (DFA × Tape))
  | (w266, w267, w268, w269, w270) =>
  if w266 < (v201.length : Int) then
    (atI v201 w266).bind fun v335 =>
    (z1x (⟨w267, w268⟩ : Tape) 2).bind fun v336 =>
    chk (z3i 1 (w269.length + 1)) <|
    z1j (z2J a1 v201 w266 w269 w270 v335 v336) LFm (0, [])
  else
    z1n <|
    some ((⟨a1, 0, w269, w270⟩ : DFA), (⟨w267, w268⟩ : Tape))
def z3r (a1 : Int) (v201 : List ByteArray) : Int × List Int × Int × List Bool × List (List Int) → Fr
  | (w266, w267, w268, w269, w270) => ⟨76, [(0, .one (.a 0 [] (0))), (1, .one (.t none (.sc (.int .i64 a1)))), (4, .one (.a 4 [] (0))), (5, .one (.a 5 [] (0))), (6, .one (.h 6 [])), (22, .one (.h 6 [])), (23, .one (.t none (.sc (.int .i64 (v201.length : Int))))), (24, .one (.t none (.sc (.int .i64 w266)))), (1076, .one (.a 0 [] (0)))], [(0, .vr [.sl w267.length (w267.map fun x0 => .sc (.int .i64 x0)), .sc (.int .i64 w268)]), (4, .vr [.sc (.int .i64 0), .sc (.int .i64 0), .os 1 0 [], .os 1 0 []]), (5, .vr [.sc (.int .i64 a1), .sc (.int .i64 0), .os 1 w269.length (w269.map fun x0 => .sc (.bool x0)), .os 1 w270.length (w270.map fun x0 => .os 1 x0.length (x0.map fun x1 => .sc (.int .i64 x1)))]), (6, .os 1 v201.length (v201.map fun x0 => .sc (.string x0)))]⟩
def z3t (a0 : Tape) (a1 : Int) : Option (DFA × Tape) :=
  (z1x a0 2).bind fun v200 =>
  (z9k a1 (IntKind.i64.wrap (1 + v200.1))).bind fun v201 =>
  z1j (z3s a1 v201) LFm (0, v200.2.l, v200.2.at_, [], [])
theorem z8t {a0 : Tape} {a1 : Int} {r : DFA × Tape} (h0 : z3t a0 a1 = some r) : L 33 [.vr [.sl a0.l.length (a0.l.map fun x0 => .sc (.int .i64 x0)), .sc (.int .i64 a0.at_)], .sc (.int .i64 a1)] = some (.agg [.sc (.int .i64 r.1.letters), .sc (.int .i64 r.1.start), .os 1 r.1.final.length (r.1.final.map fun x0 => .sc (.bool x0)), .os 1 r.1.next.length (r.1.next.map fun x0 => .os 1 x0.length (x0.map fun x1 => .sc (.int .i64 x1)))], [.vr [.sl r.2.l.length (r.2.l.map fun x0 => .sc (.int .i64 x0)), .sc (.int .i64 r.2.at_)], .dead]) := by
  simp only [z3t] at h0
  refine z2l zuQ zwg (z1l zyt ⟨of_decide_eq_true rfl, of_decide_eq_true rfl⟩ ?_)
  simp only [z1z, z1w, z1s, z1A, z2X]
  refine zq rfl (zr rfl rfl rfl (by simp; rfl) ?_)
  refine z0a (zq rfl (zr rfl rfl rfl (by simp; rfl) ?_))
  refine z0a (zq rfl ?_)
  obtain ⟨v200, f337, h1⟩ := z0b h0
  have f337k := z1u f337
  try simp at f337k
  obtain ⟨v201, f338, h2⟩ := z0b h1
  have f338k := zg6 f338
  try simp at f338k
  refine zr rfl rfl rfl (by simp [f337k, f338k]; rfl) ?_
  refine z0a (zq rfl (zq rfl (zr rfl rfl rfl (by simp; rfl) ?_)))
  refine z0a (zb rfl (z0S h2 (z3r a1 v201) rfl rfl (by simp [z3r]) fun s o1 h3 hr1 => ?_))
  obtain ⟨w266, w267, w268, w269, w270⟩ := s
  simp only [z3s] at h3
  simp only [z3r]
  refine zq rfl (zr rfl rfl rfl (by simp; rfl) ?_)
  refine z0a (zq rfl ?_)
  by_cases c561 : w266 < (v201.length : Int)
  ·rw [if_pos c561] at h3
   refine z0p rfl (by simp [c561]) (z0h rfl (z0a (zq rfl (zb rfl (zq rfl ?_)))))
   obtain ⟨v335, f562, h4⟩ := z1r h3
   refine zr rfl rfl rfl (by simp [f562]; rfl) ?_
   refine z0a (zq rfl ?_)
   obtain ⟨v336, f563, h5⟩ := z0b h4
   have f563k := z1u f563
   try simp at f563k
   obtain ⟨f564, h6⟩ := zpH h5
   refine z1D rfl rfl rfl rfl ?_; repeat' ((first | refine z0F rfl rfl fun Q' hQ => ?_ | refine z0w rfl fun Q' hQ => ?_); simp [f563k, f564]; refine hQ.out _ ?_; clear hQ; clear Q')
   refine z0a (zq rfl (zr rfl rfl rfl (by simp; rfl) ?_))
   refine z0a (zq rfl (zq rfl (zr rfl rfl rfl (by simp; rfl) ?_)))
   refine z0a (zb rfl (z0S h6 (z3q a1 v201 w266 w269 w270 v335 v336) rfl rfl (by simp [z3q]) fun s o2 h7 hr2 => ?_))
   obtain ⟨w357, w358⟩ := s
   simp only [z2J] at h7
   simp only [z3q]
   refine zq rfl (zq rfl (zr rfl rfl rfl (by simp; rfl) ?_))
   refine z0a ?_
   by_cases c636 : w357 < a1
   ·rw [if_pos c636] at h7
    refine z0p rfl (by simp [c636]) (z0h rfl (z0a (zq rfl (zb rfl (zq rfl ?_)))))
    obtain ⟨f637, h8⟩ := z1E h7
    refine zr rfl rfl rfl (by simp [f637]; rfl) ?_
    refine z0a (zq rfl (zr rfl rfl rfl (by simp; rfl) ?_))
    refine z0a (zq rfl (zb rfl (z0S h8 (z3j a1 v201 w266 w269 w270 v335 v336 w357 w358) rfl rfl (by simp [z3j]) fun s o3 h9 hr3 => ?_)))
    obtain ⟨w385, w386⟩ := s
    simp only [z3k] at h9
    simp only [z3j]
    refine zq rfl (zq rfl (zr rfl rfl rfl (by simp; rfl) ?_))
    refine z0a ?_
    by_cases c660 : w386 = (-1)
    ·rw [if_pos c660] at h9
     have c660e := eq_true c660
     refine z0p rfl (by simp [c660e]) (z0h rfl (z0a (zb rfl (zq rfl (zq rfl (zr rfl rfl rfl (by simp; rfl) ?_))))))
     refine z0a (zb rfl (z0S h9 (z2u a1 v201 w266 w269 w270 v335 v336 w357 w358 w385) rfl rfl (by simp [z2u]) fun s o4 h10 hr4 => ?_))
     obtain ⟨w394, w395⟩ := s
     simp only [z5n] at h10
     simp only [z2u]
     refine zq rfl (zr rfl rfl rfl (by simp; rfl) ?_)
     refine z0a (zq rfl ?_)
     by_cases c667 : w395 < (v201.length : Int)
     ·rw [if_pos c667] at h10
      refine z0p rfl (by simp [c667]) (z0h rfl (z0a (zq rfl (zb rfl (zq rfl ?_)))))
      obtain ⟨v397, f668, h11⟩ := z1r h10
      refine zr rfl rfl rfl (by simp [f668]; rfl) ?_
      refine z0a (zq rfl (zr rfl rfl rfl (by simp; rfl) ?_))
      refine z0a ?_
      by_cases c669 : v397 = w385
      ·rw [if_pos c669] at h11
       have c669e := eq_true c669
       refine z0p rfl (by simp [c669e]) (zr rfl rfl rfl (by simp; rfl) ?_)
       refine z0k (z0a (zr rfl rfl rfl (by simp; rfl) ?_))
       have ho := z0f h11
       refine z0j ho ?_
       simp [z2u]
      ·rw [if_neg c669] at h11
       have c669e := eq_false c669
       refine z0m rfl (by simp [c669e]) (z0h rfl (z0k (z0a (zr rfl rfl rfl (by simp; rfl) ?_))))
       have ho := z0f h11
       refine z0j ho ?_
       simp [z2u]
     ·rw [if_neg c667] at h10
      refine z0m rfl (by simp [c667]) (z1m rfl (z0E ?_))
      obtain ⟨rr4, h11, ho4⟩ := z0g h10
      have hs4 := hr4 _ ho4
      subst hs4
      refine z0r ho4 (z0c rfl (z0a ?_))
      obtain ⟨v398, f670, h12⟩ := z0b h11
      obtain ⟨f670a, f670b, f670c, f670d⟩ := zj5 f670
      obtain ⟨f670e, f670f⟩ := zcA f670a f670b
      have f670d := f670d.symm
      try simp only [Int.reduceToNat, Int.toNat_natCast] at f670d
      refine zr rfl rfl rfl (by simp [f670a, f670b, f670c, f670d, f670e, f670f]; rfl) ?_
      refine z0k ?_
      have ho := z0f h12
      refine z0j ho ?_
      simp [z3j]
    ·rw [if_neg c660] at h9
     have c660e := eq_false c660
     refine z0m rfl (by simp [c660e]) (z1m rfl (z0E ?_))
     obtain ⟨rr3, h10, ho3⟩ := z0g h9
     have hs3 := hr3 _ ho3
     subst hs3
     refine z0r ho3 (z0c rfl (z0a ?_))
     obtain ⟨f671, h11⟩ := z8f h10
     refine zr rfl rfl rfl (by simp [f671]; rfl) ?_
     refine z0k (z0a (zr rfl rfl rfl (by simp; rfl) ?_))
     have ho := z0f h11
     refine z0j ho ?_
     simp [z3q]
   ·rw [if_neg c636] at h7
    refine z0m rfl (by simp [c636]) (z1m rfl (z0E ?_))
    obtain ⟨rr2, h8, ho2⟩ := z0g h7
    have hs2 := hr2 _ ho2
    subst hs2
    refine z0r ho2 (z0c rfl (z0a ?_))
    obtain ⟨f672, h9⟩ := z8f h8
    refine zr rfl rfl rfl (by simp [f672]; rfl) ?_
    refine z0k (z0a (zr rfl rfl rfl (by simp; rfl) ?_))
    have ho := z0f h9
    refine z0j ho ?_
    simp [z3r]
  ·rw [if_neg c561] at h3
   refine z0m rfl (by simp [c561]) (z1m rfl (z0E ?_))
   obtain ⟨rr1, h4, ho1⟩ := z0g h3
   have hs1 := hr1 _ ho1
   subst hs1
   refine z0r ho1 (z0c rfl (z0a (zq rfl (zr rfl rfl rfl (by simp; rfl) ?_))))
   refine z0a (z0U rfl ?_)
   cases h4
   simp
def z4s (a0 : Tape) (a1 : Int) (a2 : Int) : Option (DFA × Tape) :=
  (z1x a0 6).bind fun v6 =>
  if v6.1 = 1 then
    (z3K v6.2 a1 a2).bind fun v7 =>
    some (v7.1, v7.2)
  else
    if v6.1 = 2 then
      (z2t v6.2 a1 (if 4 < a2 then 4 else a2)).bind fun v8 =>
      some (v8.1, v8.2)
    else
      if v6.1 = 3 then
        (z3t v6.2 a1).bind fun v9 =>
        some (v9.1, v9.2)
      else
        (z4r v6.2 a1 a2).bind fun v10 =>
        some (v10.1, v10.2)
theorem zct {a0 : Tape} {a1 : Int} {a2 : Int} {r : DFA × Tape} (h0 : z4s a0 a1 a2 = some r) : L 12 [.vr [.sl a0.l.length (a0.l.map fun x0 => .sc (.int .i64 x0)), .sc (.int .i64 a0.at_)], .sc (.int .i64 a1), .sc (.int .i64 a2)] = some (.agg [.sc (.int .i64 r.1.letters), .sc (.int .i64 r.1.start), .os 1 r.1.final.length (r.1.final.map fun x0 => .sc (.bool x0)), .os 1 r.1.next.length (r.1.next.map fun x0 => .os 1 x0.length (x0.map fun x1 => .sc (.int .i64 x1)))], [.vr [.sl r.2.l.length (r.2.l.map fun x0 => .sc (.int .i64 x0)), .sc (.int .i64 r.2.at_)], .dead, .dead]) := by
  simp only [z4s] at h0
  refine z2l zv7 zww (z1l zyJ ⟨of_decide_eq_true rfl, of_decide_eq_true rfl⟩ ?_)
  simp only [z1z, z1w, z1s, z1A, z2X]
  refine zq rfl (zr rfl rfl rfl (by simp; rfl) ?_)
  refine z0a (zq rfl (zq rfl ?_))
  obtain ⟨v6, f9, h1⟩ := z0b h0
  have f9k := z1u f9
  try simp at f9k
  refine zr rfl rfl rfl (by simp [f9k]; rfl) ?_
  refine z0a (zb rfl (zq rfl (zr rfl rfl rfl (by simp; rfl) ?_)))
  refine z0a ?_
  by_cases c10 : v6.1 = 1
  ·rw [if_pos c10] at h1
   have c10e := eq_true c10
   refine z0p rfl (by simp [c10e]) (zq rfl ?_)
   obtain ⟨v7, f11, h2⟩ := z0b h1
   have f11k := z9t f11
   try simp at f11k
   refine zr rfl rfl rfl (by simp [f11k]; rfl) ?_
   refine z0a (z0U rfl (z1c (z0n ?_)))
   cases h2
   simp
  ·rw [if_neg c10] at h1
   have c10e := eq_false c10
   refine z0m rfl (by simp [c10e]) (zq rfl (zr rfl rfl rfl (by simp; rfl) ?_))
   refine z0a ?_
   by_cases c12 : v6.1 = 2
   ·rw [if_pos c12] at h1
    have c12e := eq_true c12
    refine z0p rfl (by simp [c12e]) (zq rfl ?_)
    obtain ⟨v8, f13, h2⟩ := z0b h1
    have f13k := z6X f13
    try simp at f13k
    refine zr rfl rfl rfl (by simp [f13k]; rfl) ?_
    refine z0a (z0U rfl (z1c (z0n ?_)))
    cases h2
    simp
   ·rw [if_neg c12] at h1
    have c12e := eq_false c12
    refine z0m rfl (by simp [c12e]) (zq rfl (zr rfl rfl rfl (by simp; rfl) ?_))
    refine z0a ?_
    by_cases c14 : v6.1 = 3
    ·rw [if_pos c14] at h1
     have c14e := eq_true c14
     refine z0p rfl (by simp [c14e]) (zq rfl ?_)
     obtain ⟨v9, f15, h2⟩ := z0b h1
     have f15k := z8t f15
     try simp at f15k
     refine zr rfl rfl rfl (by simp [f15k]; rfl) ?_
     refine z0a (z0U rfl (z1c (z0n ?_)))
     cases h2
     simp
    ·rw [if_neg c14] at h1
     have c14e := eq_false c14
     refine z0m rfl (by simp [c14e]) (z0h rfl (z0k (z0a (zq rfl ?_))))
     obtain ⟨v10, f16, h2⟩ := z0b h1
     have f16k := z7U f16
     try simp at f16k
     refine zr rfl rfl rfl (by simp [f16k]; rfl) ?_
     refine z0a (z0U rfl ?_)
     cases h2
     simp
def zdU (a0 : DFA) : Int → Option (Int ⊕ Bool)
  | w6 =>
  if w6 < (a0.next.length : Int) then
    (atI a0.next w6).bind fun v8 =>
    if 10 < (v8.length : Int) then
      z1n <|
      some false
    else
      z0Y (IntKind.i64.wrap (w6 + 1))
  else
    z1n <|
    some true
def z7L (a0 : DFA) : Int → Fr
  | w6 => ⟨26, [(16, .one (.t none (.sl a0.next.length (a0.next.map fun x0 => .sl x0.length (x0.map fun x1 => .sc (.int .i64 x1)))))), (17, .one (.t none (.sc (.int .i64 (a0.next.length : Int))))), (18, .one (.t none (.sc (.int .i64 w6))))], []⟩
def zkb (a0 : DFA) : Option (Bool) :=
  if 40 < (a0.final.length : Int) then
    some false
  else
    if 40 < (a0.next.length : Int) then
      some false
    else
      z1j (zdU a0) LFm 0
theorem made_Few_ok {a0 : DFA} {r : Bool} (h0 : zkb a0 = some r) : L 28 [.agg [.sc (.int .i64 a0.letters), .sc (.int .i64 a0.start), .sl a0.final.length (a0.final.map fun x0 => .sc (.bool x0)), .sl a0.next.length (a0.next.map fun x0 => .sl x0.length (x0.map fun x1 => .sc (.int .i64 x1)))]] = some (.sc (.bool r), [.dead]) := by
  simp only [zkb] at h0
  refine z2l zuV zwk (z1l zyx ⟨of_decide_eq_true rfl, of_decide_eq_true rfl⟩ ?_)
  simp only [z1z, z1w, z1s, z1A, z2X]
  refine zq rfl (zr rfl rfl rfl (by simp; rfl) ?_)
  refine z0a (zq rfl (zq rfl ?_))
  by_cases c12 : 40 < (a0.final.length : Int)
  ·rw [if_pos c12] at h0
   refine zr rfl rfl rfl (by simp [c12]; rfl) ?_
   refine z0a (z0p rfl (by simp) (zq rfl (zr rfl rfl rfl (by simp; rfl) ?_)))
   refine z0a (z0U rfl (z0n ?_))
   cases h0
   simp
  ·rw [if_neg c12] at h0
   refine zr rfl rfl rfl (by simp [c12]; rfl) ?_
   refine z0a ?_
   by_cases c13 : 40 < (a0.next.length : Int)
   ·rw [if_pos c13] at h0
    refine z0p rfl (by simp [c13]) (zq rfl (zr rfl rfl rfl (by simp; rfl) ?_))
    refine z0a (z0U rfl (z0n ?_))
    cases h0
    simp
   ·rw [if_neg c13] at h0
    refine z0m rfl (by simp [c13]) (z0h rfl (z0a (zq rfl (zq rfl (zr rfl rfl rfl (by simp; rfl) ?_)))))
    refine z0a (zb rfl (z0S h0 (z7L a0) rfl rfl (by simp [z7L]) fun s o1 h1 hr1 => ?_))
    obtain ⟨w6, hs1⟩ : ∃ y, y = s := ⟨_, rfl⟩
    subst hs1
    simp only [zdU] at h1
    simp only [z7L]
    refine zq rfl (zr rfl rfl rfl (by simp; rfl) ?_)
    refine z0a (zq rfl ?_)
    by_cases c20 : w6 < (a0.next.length : Int)
    ·rw [if_pos c20] at h1
     refine z0p rfl (by simp [c20]) (z0h rfl (z0a (zq rfl (zb rfl (zq rfl ?_)))))
     obtain ⟨v8, f21, h2⟩ := z1r h1
     refine zr rfl rfl rfl (by simp [f21]; rfl) ?_
     refine z0a (zq rfl (zr rfl rfl rfl (by simp; rfl) ?_))
     refine z0a ?_
     by_cases c22 : 10 < (v8.length : Int)
     ·rw [if_pos c22] at h2
      refine z0p rfl (by simp [c22]) (zq rfl (zr rfl rfl rfl (by simp; rfl) ?_))
      refine z0a (z0U rfl (z1c (z0n ?_)))
      obtain ⟨rr1, h3, ho1⟩ := z0g h2
      have hs1 := hr1 _ ho1
      subst hs1
      refine z2i ho1 (z1c (z0n ?_))
      cases h3
      simp
     ·rw [if_neg c22] at h2
      refine z0m rfl (by simp [c22]) (z0h rfl (z0k (z0a (zr rfl rfl rfl (by simp; rfl) ?_))))
      have ho := z0f h2
      refine z0j ho ?_
      simp [z7L]
    ·rw [if_neg c20] at h1
     refine z0m rfl (by simp [c20]) (z1m rfl (z0E ?_))
     obtain ⟨rr1, h2, ho1⟩ := z0g h1
     have hs1 := hr1 _ ho1
     subst hs1
     refine z0r ho1 (z0c rfl (z0a (zq rfl (zr rfl rfl rfl (by simp; rfl) ?_))))
     refine z0a (z0U rfl ?_)
     cases h2
     simp
end
end Go.Proofs.Ytbnnipkanechoaa
end
section
namespace Go.Proofs.Ytbnnipkanechoaa
open Go
structure TapeOk (t : Tape) : Prop where
  a0 : 0 ≤ t.at_
  a1 : t.at_ ≤ t.l.length
  a2 : t.l.length ≤ 80
theorem zdT (x n : Int) (h1 : 1 ≤ n) (h2 : n < 4611686018427387904) : ∃ v, z9l x n = some v ∧ 0 ≤ v ∧ v < n := by
  have hx : x.tmod n < n := Int.tmod_lt_of_pos _ (by omega)
  have hy : -n < x.tmod n := Int.lt_tmod_of_pos x (by omega)
  unfold z9l
  rw [if_neg (by omega), z1i _ (by omega)]
  split
  · rw [z2m (by omega) (by omega)]; exact ⟨_, rfl, by omega, by omega⟩
  · exact ⟨_, rfl, by omega, by omega⟩
theorem z5b {t : Tape} (ht : TapeOk t) (n : Int) (h1 : 1 ≤ n) (h2 : n < 4611686018427387904) : ∃ v t', z1x t n = some (v, t') ∧ 0 ≤ v ∧ v < n ∧ TapeOk t' := by
  obtain ⟨a0, a1, a2⟩ := ht
  unfold z1x
  split
  · exact ⟨_, _, rfl, by omega, by omega, a0, a1, a2⟩
  · rename_i hlt
    rw [z2m (x := t.at_ + 1) (by omega) (by omega), z2m (by omega) (by omega)]
    obtain ⟨k, hk⟩ := Int.eq_ofNat_of_zero_le a0
    have e : t.at_ + 1 - 1 = (k : Int) := by omega
    rw [e, z2V (by omega)]
    obtain ⟨v, hv, h3, h4⟩ := zdT t.l[k] n h1 h2
    simp only [Option.bind_some, hv]
    exact ⟨_, _, rfl, h3, h4, by simp only; omega, by simp only; omega, a2⟩
theorem zrP (l : List Int) : ∃ t, zaJ l = some t ∧ TapeOk t := by
  unfold zaJ
  split
  · rename_i h
    have := zhK (xs := l) (k := 80) (by omega)
    simp only [Int.cast_ofNat_Int] at this
    rw [this]
    exact ⟨_, rfl, by simp, by simp, by simp only [List.length_take]; omega⟩
  · exact ⟨_, rfl, by simp, by simp, by simp; omega⟩
def zkf (m : Int) (w : ByteArray) : Prop := ∀ k, ∀ h : k < w.size, 97 ≤ (w[k].toNat : Int) ∧ (w[k].toNat : Int) < 97 + m
theorem z8F (l : List Int) : (zad l).size = l.length := by simp [zad, ByteArray.size]
theorem zjD (l : List Int) (k : Nat) (h : k < (zad l).size) : (zad l)[k] = UInt8.ofNat (l[k]'(by rw [z8F] at h; exact h)).toNat := by
  simp [zad, ByteArray.getElem_eq_getElem_data]
theorem zqs {t : Tape} (ht : TapeOk t) (m most : Int) (hm : 1 ≤ m ∧ m ≤ 26) (hk : 0 ≤ most ∧ most < 1000) : ∃ w t', z4E t m most = some (w, t') ∧ zkf m w ∧ (w.size : Int) ≤ most ∧ TapeOk t' := by
  unfold z4E
  rw [z2m (by omega) (by omega)]
  obtain ⟨n, t1, e1, n0, n1, ht1⟩ := z5b ht (most + 1) (by omega) (by omega)
  simp only [e1, Option.bind_some]
  refine Exists.elim (z2x (b := z4o m) (fun s => 0 ≤ s.1 ∧ s.1 + s.2.2.2.length = n ∧ TapeOk ⟨s.2.1, s.2.2.1⟩ ∧ ∀ x ∈ s.2.2.2, 97 ≤ x ∧ x < 97 + m) (fun s => s.1.toNat) (fun r => zkf m r.1 ∧ (r.1.size : Int) ≤ most ∧ TapeOk r.2) ?_ LFm (n, t1.l, t1.at_, []) ⟨n0, by simp, ht1, by simp⟩ (by simp only [LFm]; omega)) fun r h => ⟨r.1, r.2, h⟩
  rintro ⟨q, l, a, b⟩ ⟨i1, i2, i3, i4⟩
  simp only at i1 i2 i3 i4 ⊢
  simp only [z4o]
  by_cases hq : 0 < q
  · left
    obtain ⟨v, t2, e2, v0, v1, ht2⟩ := z5b i3 m (by omega) (by omega)
    rw [if_pos hq, e2]
    simp only [Option.bind_some]
    rw [z1i _ (by unfold z3i; omega), z2m (x := q - 1) (by omega) (by omega), z2m (x := 97 + v) (by omega) (by omega), zqo (by omega) (by omega)]
    refine ⟨_, rfl, ⟨by simp only; omega, by simp only [List.length_append, List.length_singleton]; omega, ht2, ?_⟩, by simp only; omega⟩
    intro x hx
    rcases List.mem_append.1 hx with h | h
    · exact i4 x h
    · have : x = 97 + v := by simpa using h
      omega
  · right
    rw [if_neg hq]
    refine ⟨_, rfl, fun k hk => ?_, by rw [z8F]; omega, i3⟩
    rw [zjD]
    have := i4 _ (List.getElem_mem (by rw [z8F] at hk; exact hk))
    generalize b[k]'_ = z at this
    simp only [UInt8.toNat_ofNat']
    omega
end Go.Proofs.Ytbnnipkanechoaa
end
section
namespace Go.Proofs.Ytbnnipkanechoaa
open Go
def z7x (m n : Nat) (r : List Int) : Prop := r.length = m ∧ ∀ x ∈ r, 0 ≤ x ∧ x < n
structure DfaOk (d : DFA) (m n : Nat) : Prop where
  lt : d.letters = m
  m1 : 1 ≤ m
  m6 : m ≤ 6
  n1 : 1 ≤ n
  fin : d.final.length = n
  nl : d.next.length = n
  s0 : 0 ≤ d.start
  s1 : d.start < n
  row : ∀ r ∈ d.next, z7x m n r
theorem zg7 {σ τ ρ : Type} {b : σ → Option (σ ⊕ (τ ⊕ ρ))} (I : σ → Prop) (m : σ → Nat) (Post : τ → Prop) {s : σ} (hI : I s) (hm : m s < LFm)
    (step : ∀ s, I s → (∃ s', b s = some (.inl s') ∧ I s' ∧ m s' < m s) ∨ (∃ r, b s = some (.inr (.inl r)) ∧ Post r)) : ∃ r, z1j b LFm s = some (.inl r) ∧ Post r := by
  obtain ⟨r, h1, r', h2, h3⟩ := z2x I m (fun r => ∃ t, r = .inl t ∧ Post t) (fun s hs => (step s hs).imp id fun ⟨r, h, hp⟩ => ⟨_, h, r, rfl, hp⟩) LFm s hI hm
  exact ⟨r', by rw [h1, h2], h3⟩
theorem zaF {α : Type} {l : List α} {x y : α} : y ∈ l ++ [x] ↔ y ∈ l ∨ y = x := by simp
theorem toM (m : Nat) (i : Int) (h : 0 ≤ i) : (m - i.toNat : Nat) < LFm ∨ LFm ≤ m := by omega
theorem zqi {t : Tape} (ht : TapeOk t) (m most : Nat) (hm : 1 ≤ m ∧ m ≤ 6) (hk : 1 ≤ most ∧ most ≤ 1000) : ∃ d t' n, z4r t m most = some (d, t') ∧ DfaOk d m n ∧ n ≤ most ∧ TapeOk t' := by
  unfold z4r
  obtain ⟨v, t1, e1, v0, v1, ht1⟩ := z5b ht (most : Int) (by omega) (by omega)
  simp only [e1, Option.bind_some]
  obtain ⟨k, rfl⟩ := Int.eq_ofNat_of_zero_le v0
  have hw : IntKind.i64.wrap (1 + (k : Int)) = ((k + 1 : Nat) : Int) := by rw [z2m (by omega) (by omega)]; omega
  rw [hw]
  obtain ⟨s, t2, e2, s0, s1, ht2⟩ := z5b ht1 ((k + 1 : Nat) : Int) (by omega) (by omega)
  simp only [e2, Option.bind_some]
  refine Exists.elim (z2x (b := z4L m ((k : Int), t1) (s, t2)) (fun z => 0 ≤ z.1 ∧ z.1 ≤ (k + 1 : Nat) ∧ TapeOk ⟨z.2.1, z.2.2.1⟩ ∧ (z.2.2.2.1.length : Int) = z.1 ∧ (z.2.2.2.2.length : Int) = z.1 ∧ ∀ r ∈ z.2.2.2.2, z7x m (k + 1) r) (fun z => k + 2 - z.1.toNat)
    (fun r => DfaOk r.1 m (k + 1) ∧ TapeOk r.2) ?_ LFm (0, t2.l, t2.at_, [], []) ⟨by simp, by simp; omega, ht2, by simp, by simp, by simp⟩ (by simp only [LFm]; omega)) fun r h => ⟨r.1, r.2, k + 1, h.1, h.2.1, by omega, h.2.2⟩
  rintro ⟨i, tl, ta, fs, rs⟩ ⟨i0, i1, i2, i3, i4, i5⟩
  simp only at i0 i1 i2 i3 i4 i5 ⊢
  simp only [z4L, hw]
  by_cases hi : i < ((k + 1 : Nat) : Int)
  · left
    rw [if_pos hi]
    obtain ⟨u, t3, e3, u0, u1, ht3⟩ := z5b i2 2 (by omega) (by omega)
    simp only [e3, Option.bind_some]
    rw [z1i _ (by unfold z3i; omega)]
    refine Exists.elim (zg7 (b := z4q m ((k : Int), t1) i fs rs (u, t3)) (fun z => 0 ≤ z.1 ∧ z.1 ≤ m ∧ TapeOk ⟨z.2.1, z.2.2.1⟩ ∧ (z.2.2.2.length : Int) = z.1 ∧ ∀ x ∈ z.2.2.2, 0 ≤ x ∧ x < (k + 1 : Nat)) (fun z => m + 1 - z.1.toNat)
      (fun z => z.1 = i + 1 ∧ TapeOk ⟨z.2.1, z.2.2.1⟩ ∧ (z.2.2.2.1.length : Int) = i + 1 ∧ (z.2.2.2.2.length : Int) = i + 1 ∧ ∀ r ∈ z.2.2.2.2, z7x m (k + 1) r) (s := (0, t3.l, t3.at_, [])) ⟨by simp, by simp, ht3, by simp, by simp⟩ (by simp only [LFm]; omega) ?_) fun r h => ⟨_, h.1, ⟨by have := h.2.1; omega, by have := h.2.1; omega, h.2.2.1, by have := h.2.1; have := h.2.2.2.1; omega, by have := h.2.1; have := h.2.2.2.2.1; omega, h.2.2.2.2.2⟩, by have := h.2.1; omega⟩
    rintro ⟨j, ul, ua, row⟩ ⟨j0, j1, j2, j3, j4⟩
    simp only at j0 j1 j2 j3 j4 ⊢
    simp only [z4q, hw]
    by_cases hj : j < (m : Int)
    · left
      rw [if_pos hj]
      obtain ⟨x, t4, e4, x0, x1, ht4⟩ := z5b j2 ((k + 1 : Nat) : Int) (by omega) (by omega)
      simp only [e4, Option.bind_some]
      rw [z1i _ (by unfold z3i; omega), z2m (by omega) (by omega)]
      refine ⟨_, rfl, ⟨by simp only; omega, by simp only; omega, ht4, by simp only [List.length_append, List.length_singleton]; omega, fun y hy => ?_⟩, by simp only; omega⟩
      rcases zaF.1 hy with h | rfl
      · exact j4 y h
      · exact ⟨x0, x1⟩
    · right
      rw [if_neg hj, z1i _ (by unfold z3i; omega), z2m (by omega) (by omega)]
      refine ⟨_, rfl, by simp only, j2, by simp only [List.length_append, List.length_singleton]; omega, by simp only [List.length_append, List.length_singleton]; omega, fun y hy => ?_⟩
      rcases zaF.1 hy with h | rfl
      · exact i5 y h
      · exact ⟨by omega, j4⟩
  · right
    rw [if_neg hi]
    exact ⟨_, rfl, ⟨rfl, hm.1, hm.2, by omega, by simp only; omega, by simp only; omega, s0, s1, i5⟩, i2⟩
theorem zmd {t : Tape} (ht : TapeOk t) : ∃ m t', z3L t = some (((m : Nat) : Int), t') ∧ 1 ≤ m ∧ m ≤ 2 ∧ TapeOk t' := by
  unfold z3L
  obtain ⟨v, t1, e1, v0, v1, ht1⟩ := z5b ht 8 (by omega) (by omega)
  simp only [e1, Option.bind_some]
  obtain ⟨k, rfl⟩ := Int.eq_ofNat_of_zero_le v0
  have : zsl .i64 (k : Int) 7 = ((k / 7 : Nat) : Int) := by
    unfold zsl
    rw [show ((k : Int).tdiv 7) = ((k / 7 : Nat) : Int) by rfl, z2m (by omega) (by omega)]
  rw [this, z2m (by omega) (by omega)]
  exact ⟨2 - k / 7, t1, by congr 2; omega, by omega, by omega, ht1⟩
end Go.Proofs.Ytbnnipkanechoaa
end
section
namespace Go.Proofs.Ytbnnipkanechoaa
open Go
set_option maxRecDepth 100000
theorem zk1 {m n : Nat} {rs : List (List Int)} (h : ∀ r ∈ rs, z7x m n r) {r' : List Int} (hr : z7x m n r') (i : Nat) : ∀ r ∈ rs.set i r', z7x m n r := fun r hm => by
  rcases List.mem_or_eq_of_mem_set hm with h' | rfl
  · exact h r h'
  · exact hr
theorem znB {m n : Nat} {r : List Int} (h : z7x m n r) {x : Int} (hx : 0 ≤ x ∧ x < n) (j : Nat) : z7x m n (r.set j x) := ⟨by simp [h.1], fun y hy => by
  rcases List.mem_or_eq_of_mem_set hy with h' | rfl
  · exact h.2 y h'
  · exact hx⟩
theorem znC {m n : Nat} {rs : List (List Int)} (h : ∀ r ∈ rs, z7x m n r) {k : Nat} (hk : k < rs.length) : z7x m n rs[k] := h _ (List.getElem_mem hk)
theorem zm6 {t : Tape} (ht : TapeOk t) (m most : Nat) (hm : 1 ≤ m ∧ m ≤ 6) (hk : 1 ≤ most ∧ most ≤ 1000) : ∃ d t' n, z3K t m most = some (d, t') ∧ DfaOk d m n ∧ n ≤ most ∧ TapeOk t' := by
  unfold z3K
  obtain ⟨d, t1, n, e1, hd, hn, ht1⟩ := zqi ht m most hm hk
  simp only [e1, Option.bind_some]
  refine Exists.elim (z2x (b := z3E (d, t1)) (fun z => 0 ≤ z.1 ∧ z.1 ≤ n ∧ z.2.length = n ∧ ∀ r ∈ z.2, z7x m n r) (fun z => n + 1 - z.1.toNat) (fun r => DfaOk r.1 m n ∧ TapeOk r.2) ?_ LFm (0, d.next) ⟨by simp, by simp, hd.nl, hd.row⟩ (by simp only [LFm]; omega)) fun r h => ⟨r.1, r.2, n, h.1, h.2.1, hn, h.2.2⟩
  rintro ⟨i, rs⟩ ⟨i0, i1, i2, i3⟩
  simp only at i0 i1 i2 i3 ⊢
  simp only [z3E, hd.nl]
  obtain ⟨i, rfl⟩ := Int.eq_ofNat_of_zero_le i0
  by_cases hi : (i : Int) < n
  · left
    rw [if_pos hi, z2V (by omega)]
    simp only [Option.bind_some]
    have hri := znC i3 (show i < rs.length by omega)
    refine Exists.elim (zg7 (b := z3D (i : Int) rs[i]) (fun z => 0 ≤ z.1 ∧ z.1 ≤ m ∧ z.2.length = n ∧ ∀ r ∈ z.2, z7x m n r) (fun z => m + 1 - z.1.toNat) (fun z => z.1 = (i : Int) + 1 ∧ z.2.length = n ∧ ∀ r ∈ z.2, z7x m n r) (s := (0, rs)) ⟨by simp, by simp, i2, i3⟩ (by simp only [LFm]; omega) ?_) fun r h => ⟨_, h.1, ⟨by have := h.2.1; omega, by have := h.2.1; omega, h.2.2.1, h.2.2.2⟩, by have := h.2.1; omega⟩
    rintro ⟨j, us⟩ ⟨j0, j1, j2, j3⟩
    simp only at j0 j1 j2 j3 ⊢
    obtain ⟨j, rfl⟩ := Int.eq_ofNat_of_zero_le j0
    simp only [z3D, hri.1]
    rw [z2V (by omega)]
    simp only [Option.bind_some]
    have hui := znC j3 (show i < us.length by omega)
    by_cases hj : (j : Int) < m
    · left
      rw [if_pos hj, z2V (by rw [hui.1]; omega), z2m (by omega) (by omega)]
      simp only [Option.bind_some]
      refine ⟨_, rfl, ⟨by simp only; omega, by simp only; omega, by simp only [List.length_set]; exact j2, zk1 j3 (znB hui ?_ _) _⟩, by simp only; omega⟩
      have := hui.2 _ (List.getElem_mem (show j < us[i].length by rw [hui.1]; omega))
      split <;> omega
    · right
      rw [if_neg hj, z2m (by omega) (by omega)]
      exact ⟨_, rfl, rfl, j2, j3⟩
  · right
    rw [if_neg hi]
    exact ⟨_, rfl, ⟨hd.lt, hd.m1, hd.m6, hd.n1, hd.fin, by simp only; omega, by simp, by simp only; have := hd.n1; omega, i3⟩, ht1⟩
theorem zpc (m n : Nat) (hn : 1 ≤ n) : z7x m n (List.replicate m 0) := ⟨by simp, fun x hx => by rw [(List.mem_replicate.1 hx).2]; omega⟩
theorem zqI {xs : List Int} {k : Nat} (h : k < xs.length) : z6D xs 0 (k : Int) = some (xs.take k) := zhK (by omega)
theorem zqH {xs : List Int} {k : Nat} (h : k < xs.length) : z6D xs ((k : Int) + 1) (xs.length : Int) = some (xs.drop (k + 1)) := by
  have := zj6 (xs := xs) (k := k + 1) (by omega)
  rwa [show ((k + 1 : Nat) : Int) = (k : Int) + 1 by omega] at this
theorem zpg {t : Tape} (ht : TapeOk t) (m most : Nat) (hm : 1 ≤ m ∧ m ≤ 6) (hk : 1 ≤ most ∧ most ≤ 1000) : ∃ d t' n, z2t t m most = some (d, t') ∧ DfaOk d m n ∧ n ≤ most ∧ TapeOk t' := by
  unfold z2t
  obtain ⟨v, t1, e1, v0, v1, ht1⟩ := z5b ht (most : Int) (by omega) (by omega)
  simp only [e1, Option.bind_some]
  obtain ⟨k, rfl⟩ := Int.eq_ofNat_of_zero_le v0
  have hw : IntKind.i64.wrap (1 + (k : Int)) = ((k + 1 : Nat) : Int) := by rw [z2m (by omega) (by omega)]; omega
  rw [hw]
  obtain ⟨s, t2, e2, s0, s1, ht2⟩ := z5b ht1 ((k + 1 : Nat) : Int) (by omega) (by omega)
  simp only [e2, Option.bind_some]
  refine Exists.elim (z2x (b := z2D m ((k : Int), t1) (s, t2)) (fun z => 0 ≤ z.1 ∧ z.1 ≤ (k + 1 : Nat) ∧ TapeOk ⟨z.2.1, z.2.2.1⟩ ∧ (z.2.2.2.1.length : Int) = z.1 ∧ (z.2.2.2.2.length : Int) = z.1 ∧ ∀ r ∈ z.2.2.2.2, z7x m (k + 1) r) (fun z => k + 2 - z.1.toNat)
    (fun r => DfaOk r.1 m (k + 1) ∧ TapeOk r.2) ?_ LFm (0, t2.l, t2.at_, [], []) ⟨by simp, by simp; omega, ht2, by simp, by simp, by simp⟩ (by simp only [LFm]; omega)) fun r h => ⟨r.1, r.2, k + 1, h.1, h.2.1, by omega, h.2.2⟩
  rintro ⟨i, tl, ta, fs, rs⟩ ⟨i0, i1, i2, i3, i4, i5⟩
  simp only at i0 i1 i2 i3 i4 i5 ⊢
  simp only [z2D, hw]
  by_cases hi : i < ((k + 1 : Nat) : Int)
  · left
    rw [if_pos hi]
    obtain ⟨u, t3, e3, u0, u1, ht3⟩ := z5b i2 2 (by omega) (by omega)
    simp only [e3, Option.bind_some]
    rw [z1i _ (by unfold z3i; omega), z1i _ (by unfold z3l; omega), z1i _ (by unfold z3i; omega), z2m (by omega) (by omega)]
    refine ⟨_, rfl, ⟨by simp only; omega, by simp only; omega, ht3, by simp only [List.length_append, List.length_singleton]; omega, by simp only [List.length_append, List.length_singleton]; omega, fun y hy => ?_⟩, by simp only; omega⟩
    rcases zaF.1 hy with h | rfl
    · exact i5 y h
    · exact zpc m (k + 1) (by omega)
  · right
    rw [if_neg hi]
    refine Exists.elim (z2x (b := z2C m ((k : Int), t1) (s, t2) fs) (fun z => 0 ≤ z.1 ∧ z.1 ≤ m ∧ TapeOk ⟨z.2.1, z.2.2.1⟩ ∧ z.2.2.2.length = k + 1 ∧ ∀ r ∈ z.2.2.2, z7x m (k + 1) r) (fun z => m + 1 - z.1.toNat)
      (fun r => DfaOk r.1 m (k + 1) ∧ TapeOk r.2) ?_ LFm (0, tl, ta, rs) ⟨by simp, by simp, i2, by simp only; omega, i5⟩ (by simp only [LFm]; omega)) fun r h => ⟨r, by rw [h.1]; rfl, h.2⟩
    rintro ⟨a, ul, ua, us⟩ ⟨a0, a1, a2, a3, a4⟩
    simp only at a0 a1 a2 a3 a4 ⊢
    obtain ⟨a, rfl⟩ := Int.eq_ofNat_of_zero_le a0
    simp only [z2C]
    by_cases ha : (a : Int) < m
    · left
      rw [if_pos ha]
      refine Exists.elim (zg7 (b := z2r ((k : Int), t1) (a : Int) ul ua us) (fun z => 0 ≤ z.1 ∧ z.1 ≤ (k + 1 : Nat) ∧ (z.2.length : Int) = z.1 ∧ ∀ x ∈ z.2, 0 ≤ x ∧ x < (k + 1 : Nat)) (fun z => k + 2 - z.1.toNat)
        (fun z => z.1 = (a : Int) + 1 ∧ TapeOk ⟨z.2.1, z.2.2.1⟩ ∧ z.2.2.2.length = k + 1 ∧ ∀ r ∈ z.2.2.2, z7x m (k + 1) r) (s := (0, [])) ⟨by simp, by simp; omega, by simp, by simp⟩ (by simp only [LFm]; omega) ?_) fun r h => ⟨_, h.1, ⟨by have := h.2.1; omega, by have := h.2.1; omega, h.2.2.1, h.2.2.2.1, h.2.2.2.2⟩, by have := h.2.1; omega⟩
      rintro ⟨q, left⟩ ⟨q0, q1, q2, q3⟩
      simp only at q0 q1 q2 q3 ⊢
      simp only [z2r, hw]
      by_cases hq : q < ((k + 1 : Nat) : Int)
      · left
        rw [if_pos hq, z1i _ (by unfold z3i; omega), z2m (by omega) (by omega)]
        refine ⟨_, rfl, ⟨by simp only; omega, by simp only; omega, by simp only [List.length_append, List.length_singleton]; omega, fun y hy => ?_⟩, by simp only; omega⟩
        rcases zaF.1 hy with h | rfl
        · exact q3 y h
        · omega
      · right
        rw [if_neg hq]
        refine Exists.elim (zg7 (b := z2q ((k : Int), t1) (a : Int)) (fun z => 0 ≤ z.1 ∧ z.1 ≤ (k + 1 : Nat) ∧ TapeOk ⟨z.2.1, z.2.2.1⟩ ∧ z.2.2.2.1.length = k + 1 ∧ (∀ r ∈ z.2.2.2.1, z7x m (k + 1) r) ∧ (z.2.2.2.2.length : Int) = (k + 1 : Nat) - z.1 ∧ ∀ x ∈ z.2.2.2.2, 0 ≤ x ∧ x < (k + 1 : Nat)) (fun z => k + 2 - z.1.toNat)
          (fun z => z.1 = (a : Int) + 1 ∧ TapeOk ⟨z.2.1, z.2.2.1⟩ ∧ z.2.2.2.length = k + 1 ∧ ∀ r ∈ z.2.2.2, z7x m (k + 1) r) (s := (0, ul, ua, us, left)) ⟨by simp, by simp; omega, a2, a3, a4, by simp only; omega, q3⟩ (by simp only [LFm]; omega) ?_) fun r h => ⟨r, by rw [h.1]; rfl, h.2⟩
        rintro ⟨p, xl, xa, xs, lf⟩ ⟨p0, p1, p2, p3, p4, p5, p6⟩
        simp only at p0 p1 p2 p3 p4 p5 p6 ⊢
        obtain ⟨p, rfl⟩ := Int.eq_ofNat_of_zero_le p0
        simp only [z2q, hw]
        by_cases hp : (p : Int) < ((k + 1 : Nat) : Int)
        · left
          rw [if_pos hp]
          obtain ⟨x, t4, e4, x0, x1, ht4⟩ := z5b p2 (lf.length : Int) (by omega) (by omega)
          obtain ⟨x, rfl⟩ := Int.eq_ofNat_of_zero_le x0
          have hrp := znC p4 (show p < xs.length by omega)
          have hlx : x < lf.length := by omega
          simp only [e4, Option.bind_some]
          rw [z2V (show p < xs.length by omega)]
          simp only [Option.bind_some]
          rw [z2V hlx]
          simp only [Option.bind_some]
          rw [z2V (show a < xs[p].length by rw [hrp.1]; omega), z2m (x := (x : Int) + 1) (by omega) (by omega), zqI hlx]
          simp only [Option.bind_some]
          rw [zqH hlx]
          simp only [Option.bind_some]
          rw [z1i _ (by unfold z3i; simp only [List.length_take]; omega), z1i _ (by unfold z3i; simp only [List.length_take, List.length_drop]; omega), z2m (by omega) (by omega)]
          refine ⟨_, rfl, ⟨by simp only; omega, by simp only; omega, ht4, by simp only [List.length_set]; exact p3, zk1 p4 (znB hrp (p6 _ (List.getElem_mem hlx)) _) _, by simp only [List.length_append, List.length_take, List.length_drop]; omega, fun y hy => ?_⟩, by simp only; omega⟩
          rcases List.mem_append.1 hy with h | h
          · exact p6 y (List.mem_of_mem_take h)
          · exact p6 y (List.mem_of_mem_drop h)
        · right
          rw [if_neg hp, z2m (by omega) (by omega)]
          exact ⟨_, rfl, rfl, p2, p3, p4⟩
    · right
      rw [if_neg ha]
      exact ⟨_, rfl, ⟨rfl, hm.1, hm.2, by omega, by simp only; omega, a3, s0, s1, a4⟩, a2⟩
end Go.Proofs.Ytbnnipkanechoaa
end
section
namespace Go.Proofs.Ytbnnipkanechoaa
open Go
noncomputable section
set_option maxRecDepth 100000
set_option maxHeartbeats 1000000
def z2U (a0 : Int) : Option (Bool) :=
  if 1 ≤ a0 then
    some (decide (a0 ≤ 6))
  else
    some false
theorem z6B {a0 : Int} {r : Bool} (h0 : z2U a0 = some r) : L 59 [.sc (.int .i64 a0)] = some (.sc (.bool r), [.dead]) := by
  simp only [z2U] at h0
  refine z2l zuw zvW (z1l zy9 ⟨of_decide_eq_true rfl, of_decide_eq_true rfl⟩ ?_)
  simp only [z1z, z1w, z1s, z1A, z2X]
  refine zq rfl (zr rfl rfl rfl (by simp; rfl) ?_)
  refine z0a (zq rfl ?_)
  by_cases c2 : 1 ≤ a0
  ·rw [if_pos c2] at h0
   refine zr rfl rfl rfl (by simp [c2]; rfl) ?_
   refine z0a (z0U rfl ?_)
   cases h0
   simp
  ·rw [if_neg c2] at h0
   refine zr rfl rfl rfl (by simp [c2]; rfl) ?_
   refine z0a (z0U rfl ?_)
   cases h0
   simp
def z6N (a0 : DFA) (w24 : Int) (v30 : List Int) : Int → Option (Int ⊕ (Int ⊕ Int))
  | w32 =>
  if w32 < (v30.length : Int) then
    (atI v30 w32).bind fun v34 =>
    if v34 < 0 then
      z1n <|
      z1n <|
      some 4
    else
      if (a0.final.length : Int) ≤ v34 then
        z1n <|
        z1n <|
        some 4
      else
        z0Y (IntKind.i64.wrap (w32 + 1))
  else
    z1n <|
    z0Y (IntKind.i64.wrap (w24 + 1))
def z3W (a0 : DFA) (w24 : Int) (v30 : List Int) : Int → Fr
  | w32 => ⟨64, [(1, .one (.a 1 [] (0))), (3, .one (.t none (.sc (.int .i64 (a0.final.length : Int))))), (38, .one (.t none (.sl a0.next.length (a0.next.map fun x0 => .sl x0.length (x0.map fun x1 => .sc (.int .i64 x1)))))), (39, .one (.t none (.sc (.int .i64 (a0.next.length : Int))))), (40, .one (.t none (.sc (.int .i64 w24)))), (49, .one (.t none (.sl v30.length (v30.map fun x0 => .sc (.int .i64 x0))))), (50, .one (.t none (.sc (.int .i64 (v30.length : Int))))), (51, .one (.t none (.sc (.int .i64 w32))))], [(1, .vr [.sc (.int .i64 a0.letters), .sc (.int .i64 a0.start), .sl a0.final.length (a0.final.map fun x0 => .sc (.bool x0)), .sl a0.next.length (a0.next.map fun x0 => .sl x0.length (x0.map fun x1 => .sc (.int .i64 x1)))])]⟩
def z5u (a0 : DFA) : Int → Option (Int ⊕ Int)
  | w24 =>
  if w24 < (a0.next.length : Int) then
    (atI a0.next w24).bind fun v30 =>
    if (v30.length : Int) = a0.letters then
      z1j (z6N a0 w24 v30) LFm 0
    else
      z1n <|
      some 4
  else
    z1n <|
    some 0
def z4l (a0 : DFA) : Int → Fr
  | w24 => ⟨64, [(1, .one (.a 1 [] (0))), (3, .one (.t none (.sc (.int .i64 (a0.final.length : Int))))), (38, .one (.t none (.sl a0.next.length (a0.next.map fun x0 => .sl x0.length (x0.map fun x1 => .sc (.int .i64 x1)))))), (39, .one (.t none (.sc (.int .i64 (a0.next.length : Int))))), (40, .one (.t none (.sc (.int .i64 w24))))], [(1, .vr [.sc (.int .i64 a0.letters), .sc (.int .i64 a0.start), .sl a0.final.length (a0.final.map fun x0 => .sc (.bool x0)), .sl a0.next.length (a0.next.map fun x0 => .sl x0.length (x0.map fun x1 => .sc (.int .i64 x1)))])]⟩
def z4C (a0 : DFA) : Option (Int) :=
  (z2U a0.letters).bind fun v18 =>
  if v18 = true then
    if 512 < (a0.final.length : Int) then
      some 3
    else
      if (a0.final.length : Int) = 0 then
        some 4
      else
        if (a0.next.length : Int) = (a0.final.length : Int) then
          if a0.start < 0 then
            some 4
          else
            if (a0.final.length : Int) ≤ a0.start then
              some 4
            else
              z1j (z5u a0) LFm 0
        else
          some 4
  else
    some 1
theorem zbX {a0 : DFA} {r : Int} (h0 : z4C a0 = some r) : L 60 [.agg [.sc (.int .i64 a0.letters), .sc (.int .i64 a0.start), .sl a0.final.length (a0.final.map fun x0 => .sc (.bool x0)), .sl a0.next.length (a0.next.map fun x0 => .sl x0.length (x0.map fun x1 => .sc (.int .i64 x1)))]] = some (.sc (.int .i64 r), [.dead]) := by
  simp only [z4C] at h0
  refine z2l zuv zvV (z1l zy8 ⟨of_decide_eq_true rfl, of_decide_eq_true rfl⟩ ?_)
  simp only [z1z, z1w, z1s, z1A, z2X]
  refine zq rfl (zr rfl rfl rfl (by simp; rfl) ?_)
  refine z0a (zq rfl (zr rfl rfl rfl (by simp; rfl) ?_))
  refine z0a (zq rfl (zq rfl ?_))
  obtain ⟨v18, f53, h1⟩ := z0b h0
  have f53k := z6B f53
  try simp at f53k
  refine zr rfl rfl rfl (by simp [f53k]; rfl) ?_
  refine z0a ?_
  by_cases c54 : v18 = true
  ·rw [if_pos c54] at h1
   refine z0m rfl (by simp [c54]) (z0h rfl (z0a (zq rfl (zq rfl (zr rfl rfl rfl (by simp; rfl) ?_)))))
   refine z0a ?_
   by_cases c55 : 512 < (a0.final.length : Int)
   ·rw [if_pos c55] at h1
    refine z0p rfl (by simp [c55]) (zq rfl (zr rfl rfl rfl (by simp; rfl) ?_))
    refine z0a (z0U rfl (z0n ?_))
    cases h1
    simp [c54]
   ·rw [if_neg c55] at h1
    refine z0m rfl (by simp [c55]) (z0h rfl (z0a (zq rfl (zq rfl ?_))))
    by_cases c56 : (a0.final.length : Int) = 0
    ·rw [if_pos c56] at h1
     have c56e := eq_true c56
     have c56s : a0.final = [] := by simpa [List.length_pos_iff] using c56
     refine zr rfl rfl rfl (by simp [c56e, c56s]; rfl) ?_
     refine z0a (z0p rfl (by simp) (zq rfl (zr rfl rfl rfl (by simp; rfl) ?_)))
     refine z0a (z0U rfl (z0n ?_))
     cases h1
     simp [c54]
    ·rw [if_neg c56] at h1
     have c56e := eq_false c56
     have c56s : a0.final ≠ [] := by simpa [List.length_pos_iff] using c56
     by_cases c57 : (a0.next.length : Int) = (a0.final.length : Int)
     ·rw [if_pos c57] at h1
      have c57e := eq_true c57
      by_cases c58 : a0.start < 0
      ·rw [if_pos c58] at h1
       refine zr rfl rfl rfl (by simp [c56e, c56s, c57e, c58]; rfl) ?_
       refine z0a (z0p rfl (by simp) (zq rfl (zr rfl rfl rfl (by simp; rfl) ?_)))
       refine z0a (z0U rfl (z0n ?_))
       cases h1
       simp [c54]
      ·rw [if_neg c58] at h1
       refine zr rfl rfl rfl (by simp [c56e, c56s, c57e, c58]; rfl) ?_
       refine z0a ?_
       by_cases c59 : (a0.final.length : Int) ≤ a0.start
       ·rw [if_pos c59] at h1
        refine z0p rfl (by simp [c59]) (zq rfl (zr rfl rfl rfl (by simp; rfl) ?_))
        refine z0a (z0U rfl (z0n ?_))
        cases h1
        simp [c54]
       ·rw [if_neg c59] at h1
        refine z0m rfl (by simp [c59]) (z0h rfl (z0a (zq rfl (zq rfl (zr rfl rfl rfl (by simp; rfl) ?_)))))
        refine z0a (zb rfl (z0S h1 (z4l a0) rfl rfl (by simp [z4l]) fun s o1 h2 hr1 => ?_))
        obtain ⟨w24, hs1⟩ : ∃ y, y = s := ⟨_, rfl⟩
        subst hs1
        simp only [z5u] at h2
        simp only [z4l]
        refine zq rfl (zr rfl rfl rfl (by simp; rfl) ?_)
        refine z0a (zq rfl ?_)
        by_cases c90 : w24 < (a0.next.length : Int)
        ·rw [if_pos c90] at h2
         refine z0p rfl (by simp [c90]) (z0h rfl (z0a (zq rfl (zb rfl (zq rfl ?_)))))
         obtain ⟨v30, f91, h3⟩ := z1r h2
         refine zr rfl rfl rfl (by simp [f91]; rfl) ?_
         refine z0a (zq rfl (zq rfl (zr rfl rfl rfl (by simp; rfl) ?_)))
         refine z0a ?_
         by_cases c92 : (v30.length : Int) = a0.letters
         ·rw [if_pos c92] at h3
          have c92e := eq_true c92
          refine z0m rfl (by simp [c92e]) (z0h rfl (z0a (zq rfl (zr rfl rfl rfl (by simp; rfl) ?_))))
          refine z0a (zb rfl (z0S h3 (z3W a0 w24 v30) rfl rfl (by simp [z3W]) fun s o2 h4 hr2 => ?_))
          obtain ⟨w32, hs2⟩ : ∃ y, y = s := ⟨_, rfl⟩
          subst hs2
          simp only [z6N] at h4
          simp only [z3W]
          refine zq rfl (zr rfl rfl rfl (by simp; rfl) ?_)
          refine z0a (zq rfl ?_)
          by_cases c101 : w32 < (v30.length : Int)
          ·rw [if_pos c101] at h4
           refine z0p rfl (by simp [c101]) (z0h rfl (z0a (zq rfl (zb rfl (zq rfl ?_)))))
           obtain ⟨v34, f102, h5⟩ := z1r h4
           refine zr rfl rfl rfl (by simp [f102]; rfl) ?_
           refine z0a (zq rfl ?_)
           by_cases c103 : v34 < 0
           ·rw [if_pos c103] at h5
            refine zr rfl rfl rfl (by simp [c103]; rfl) ?_
            refine z0a (z0p rfl (by simp) (zq rfl (zr rfl rfl rfl (by simp; rfl) ?_)))
            refine z0a (z0U rfl (z1c (z0n ?_)))
            obtain ⟨rr2, h6, ho2⟩ := z0g h5
            have hs2 := hr2 _ ho2
            subst hs2
            refine z2i ho2 (z1c (z1c (z0n ?_)))
            obtain ⟨rr1, h7, ho1⟩ := z0g h6
            have hs1 := hr1 _ ho1
            subst hs1
            refine z2i ho1 (z1c (z0n ?_))
            cases h7
            simp
           ·rw [if_neg c103] at h5
            refine zr rfl rfl rfl (by simp [c103]; rfl) ?_
            refine z0a ?_
            by_cases c104 : (a0.final.length : Int) ≤ v34
            ·rw [if_pos c104] at h5
             refine z0p rfl (by simp [c104]) (zq rfl (zr rfl rfl rfl (by simp; rfl) ?_))
             refine z0a (z0U rfl (z1c (z0n ?_)))
             obtain ⟨rr2, h6, ho2⟩ := z0g h5
             have hs2 := hr2 _ ho2
             subst hs2
             refine z2i ho2 (z1c (z1c (z0n ?_)))
             obtain ⟨rr1, h7, ho1⟩ := z0g h6
             have hs1 := hr1 _ ho1
             subst hs1
             refine z2i ho1 (z1c (z0n ?_))
             cases h7
             simp
            ·rw [if_neg c104] at h5
             refine z0m rfl (by simp [c104]) (z0h rfl (z0k (z0a (zr rfl rfl rfl (by simp; rfl) ?_))))
             have ho := z0f h5
             refine z0j ho ?_
             simp [z3W]
          ·rw [if_neg c101] at h4
           refine z0m rfl (by simp [c101]) (z1m rfl (z0E ?_))
           obtain ⟨rr2, h5, ho2⟩ := z0g h4
           have hs2 := hr2 _ ho2
           subst hs2
           refine z0r ho2 (z0c rfl (z0k (z0a (zr rfl rfl rfl (by simp; rfl) ?_))))
           have ho := z0f h5
           refine z0j ho ?_
           simp [z4l]
         ·rw [if_neg c92] at h3
          have c92e := eq_false c92
          refine z0p rfl (by simp [c92e]) (zq rfl (zr rfl rfl rfl (by simp; rfl) ?_))
          refine z0a (z0U rfl (z0n (z1c (z0n ?_))))
          obtain ⟨rr1, h4, ho1⟩ := z0g h3
          have hs1 := hr1 _ ho1
          subst hs1
          refine z2i ho1 (z1c (z0n ?_))
          cases h4
          simp
        ·rw [if_neg c90] at h2
         refine z0m rfl (by simp [c90]) (z1m rfl (z0E ?_))
         obtain ⟨rr1, h3, ho1⟩ := z0g h2
         have hs1 := hr1 _ ho1
         subst hs1
         refine z0r ho1 (z0c rfl (z0a (zq rfl (zr rfl rfl rfl (by simp; rfl) ?_))))
         refine z0a (z0U rfl ?_)
         cases h3
         simp
     ·rw [if_neg c57] at h1
      have c57e := eq_false c57
      refine zr rfl rfl rfl (by simp [c56e, c56s, c57e]; rfl) ?_
      refine z0a (z0p rfl (by simp) (zq rfl (zr rfl rfl rfl (by simp; rfl) ?_)))
      refine z0a (z0U rfl (z0n ?_))
      cases h1
      simp [c54]
  ·rw [if_neg c54] at h1
   refine z0p rfl (by simp [c54]) (zq rfl (zr rfl rfl rfl (by simp; rfl) ?_))
   refine z0a (z0U rfl (z0n ?_))
   cases h1
   simp [c54]
def z4N (a0 : DFA) (w22 : Int) (v28 : List Int) : Int → Option (Int ⊕ (Int ⊕ Int))
  | w30 =>
  if w30 < (v28.length : Int) then
    (atI v28 w30).bind fun v32 =>
    if v32 < 0 then
      z1n <|
      z1n <|
      some 4
    else
      if (a0.final.length : Int) ≤ v32 then
        z1n <|
        z1n <|
        some 4
      else
        z0Y (IntKind.i64.wrap (w30 + 1))
  else
    z1n <|
    z0Y (IntKind.i64.wrap (w22 + 1))
def z4M (a0 : DFA) (w22 : Int) (v28 : List Int) : Int → Fr
  | w30 => ⟨64, [(1, .one (.a 1 [] (0))), (3, .one (.t none (.sc (.int .i64 (a0.final.length : Int))))), (38, .one (.t none (.sl a0.next.length (a0.next.map fun x0 => .sl x0.length (x0.map fun x1 => .sc (.int .i64 x1)))))), (39, .one (.t none (.sc (.int .i64 (a0.next.length : Int))))), (40, .one (.t none (.sc (.int .i64 w22)))), (49, .one (.t none (.sl v28.length (v28.map fun x0 => .sc (.int .i64 x0))))), (50, .one (.t none (.sc (.int .i64 (v28.length : Int))))), (51, .one (.t none (.sc (.int .i64 w30))))], [(1, .vr [.sc (.int .i64 a0.letters), .sc (.int .i64 a0.start), .sl a0.final.length (a0.final.map fun x0 => .sc (.bool x0)), .sl a0.next.length (a0.next.map fun x0 => .sl x0.length (x0.map fun x1 => .sc (.int .i64 x1)))])]⟩
def z3P (a0 : DFA) : Int → Option (Int ⊕ Int)
  | w22 =>
  if w22 < (a0.next.length : Int) then
    (atI a0.next w22).bind fun v28 =>
    if (v28.length : Int) = a0.letters then
      z1j (z4N a0 w22 v28) LFm 0
    else
      z1n <|
      some 4
  else
    z1n <|
    some 0
def z5k (a0 : DFA) : Int → Fr
  | w22 => ⟨64, [(1, .one (.a 1 [] (0))), (3, .one (.t none (.sc (.int .i64 (a0.final.length : Int))))), (38, .one (.t none (.sl a0.next.length (a0.next.map fun x0 => .sl x0.length (x0.map fun x1 => .sc (.int .i64 x1)))))), (39, .one (.t none (.sc (.int .i64 (a0.next.length : Int))))), (40, .one (.t none (.sc (.int .i64 w22))))], [(1, .vr [.sc (.int .i64 a0.letters), .sc (.int .i64 a0.start), .sl a0.final.length (a0.final.map fun x0 => .sc (.bool x0)), .sl a0.next.length (a0.next.map fun x0 => .sl x0.length (x0.map fun x1 => .sc (.int .i64 x1)))])]⟩
def z5N (a0 : DFA) : Option (Int) :=
  if a0.letters < 1 then
    some 1
  else
    if 6 < a0.letters then
      some 1
    else
      if 512 < (a0.final.length : Int) then
        some 3
      else
        if (a0.next.length : Int) = (a0.final.length : Int) then
          if a0.start < 0 then
            some 4
          else
            if (a0.final.length : Int) ≤ a0.start then
              some 4
            else
              z1j (z3P a0) LFm 0
        else
          some 4
theorem zec {a0 : DFA} {r : Int} (h0 : z5N a0 = some r) : L 62 [.agg [.sc (.int .i64 a0.letters), .sc (.int .i64 a0.start), .sl a0.final.length (a0.final.map fun x0 => .sc (.bool x0)), .sl a0.next.length (a0.next.map fun x0 => .sl x0.length (x0.map fun x1 => .sc (.int .i64 x1)))]] = some (.sc (.int .i64 r), [.dead]) := by
  simp only [z5N] at h0
  refine z2l zut zvT (z1l zy6 ⟨of_decide_eq_true rfl, of_decide_eq_true rfl⟩ ?_)
  simp only [z1z, z1w, z1s, z1A, z2X]
  refine zq rfl (zr rfl rfl rfl (by simp; rfl) ?_)
  refine z0a (zq rfl (zq rfl ?_))
  by_cases c52 : a0.letters < 1
  ·rw [if_pos c52] at h0
   refine zr rfl rfl rfl (by simp [c52]; rfl) ?_
   refine z0a (z0p rfl (by simp) (zq rfl (zr rfl rfl rfl (by simp; rfl) ?_)))
   refine z0a (z0U rfl (z0n ?_))
   cases h0
   simp
  ·rw [if_neg c52] at h0
   refine zr rfl rfl rfl (by simp [c52]; rfl) ?_
   refine z0a ?_
   by_cases c53 : 6 < a0.letters
   ·rw [if_pos c53] at h0
    refine z0p rfl (by simp [c53]) (zq rfl (zr rfl rfl rfl (by simp; rfl) ?_))
    refine z0a (z0U rfl (z0n ?_))
    cases h0
    simp
   ·rw [if_neg c53] at h0
    refine z0m rfl (by simp [c53]) (z0h rfl (z0a (zq rfl (zr rfl rfl rfl (by simp; rfl) ?_))))
    refine z0a (zq rfl (zq rfl (zr rfl rfl rfl (by simp; rfl) ?_)))
    refine z0a ?_
    by_cases c54 : 512 < (a0.final.length : Int)
    ·rw [if_pos c54] at h0
     refine z0p rfl (by simp [c54]) (zq rfl (zr rfl rfl rfl (by simp; rfl) ?_))
     refine z0a (z0U rfl (z0n ?_))
     cases h0
     simp
    ·rw [if_neg c54] at h0
     refine z0m rfl (by simp [c54]) (z0h rfl (z0a (zq rfl (zq rfl ?_))))
     by_cases c55 : (a0.next.length : Int) = (a0.final.length : Int)
     ·rw [if_pos c55] at h0
      have c55e := eq_true c55
      by_cases c56 : a0.start < 0
      ·rw [if_pos c56] at h0
       refine zr rfl rfl rfl (by simp [c55e, c56]; rfl) ?_
       refine z0a (z0p rfl (by simp) (zq rfl (zr rfl rfl rfl (by simp; rfl) ?_)))
       refine z0a (z0U rfl (z0n ?_))
       cases h0
       simp
      ·rw [if_neg c56] at h0
       refine zr rfl rfl rfl (by simp [c55e, c56]; rfl) ?_
       refine z0a ?_
       by_cases c57 : (a0.final.length : Int) ≤ a0.start
       ·rw [if_pos c57] at h0
        refine z0p rfl (by simp [c57]) (zq rfl (zr rfl rfl rfl (by simp; rfl) ?_))
        refine z0a (z0U rfl (z0n ?_))
        cases h0
        simp
       ·rw [if_neg c57] at h0
        refine z0m rfl (by simp [c57]) (z0h rfl (z0a (zq rfl (zq rfl (zr rfl rfl rfl (by simp; rfl) ?_)))))
        refine z0a (zb rfl (z0S h0 (z5k a0) rfl rfl (by simp [z5k]) fun s o1 h1 hr1 => ?_))
        obtain ⟨w22, hs1⟩ : ∃ y, y = s := ⟨_, rfl⟩
        subst hs1
        simp only [z3P] at h1
        simp only [z5k]
        refine zq rfl (zr rfl rfl rfl (by simp; rfl) ?_)
        refine z0a (zq rfl ?_)
        by_cases c88 : w22 < (a0.next.length : Int)
        ·rw [if_pos c88] at h1
         refine z0p rfl (by simp [c88]) (z0h rfl (z0a (zq rfl (zb rfl (zq rfl ?_)))))
         obtain ⟨v28, f89, h2⟩ := z1r h1
         refine zr rfl rfl rfl (by simp [f89]; rfl) ?_
         refine z0a (zq rfl (zq rfl (zr rfl rfl rfl (by simp; rfl) ?_)))
         refine z0a ?_
         by_cases c90 : (v28.length : Int) = a0.letters
         ·rw [if_pos c90] at h2
          have c90e := eq_true c90
          refine z0m rfl (by simp [c90e]) (z0h rfl (z0a (zq rfl (zr rfl rfl rfl (by simp; rfl) ?_))))
          refine z0a (zb rfl (z0S h2 (z4M a0 w22 v28) rfl rfl (by simp [z4M]) fun s o2 h3 hr2 => ?_))
          obtain ⟨w30, hs2⟩ : ∃ y, y = s := ⟨_, rfl⟩
          subst hs2
          simp only [z4N] at h3
          simp only [z4M]
          refine zq rfl (zr rfl rfl rfl (by simp; rfl) ?_)
          refine z0a (zq rfl ?_)
          by_cases c99 : w30 < (v28.length : Int)
          ·rw [if_pos c99] at h3
           refine z0p rfl (by simp [c99]) (z0h rfl (z0a (zq rfl (zb rfl (zq rfl ?_)))))
           obtain ⟨v32, f100, h4⟩ := z1r h3
           refine zr rfl rfl rfl (by simp [f100]; rfl) ?_
           refine z0a (zq rfl ?_)
           by_cases c101 : v32 < 0
           ·rw [if_pos c101] at h4
            refine zr rfl rfl rfl (by simp [c101]; rfl) ?_
            refine z0a (z0p rfl (by simp) (zq rfl (zr rfl rfl rfl (by simp; rfl) ?_)))
            refine z0a (z0U rfl (z1c (z0n ?_)))
            obtain ⟨rr2, h5, ho2⟩ := z0g h4
            have hs2 := hr2 _ ho2
            subst hs2
            refine z2i ho2 (z1c (z1c (z0n ?_)))
            obtain ⟨rr1, h6, ho1⟩ := z0g h5
            have hs1 := hr1 _ ho1
            subst hs1
            refine z2i ho1 (z1c (z0n ?_))
            cases h6
            simp
           ·rw [if_neg c101] at h4
            refine zr rfl rfl rfl (by simp [c101]; rfl) ?_
            refine z0a ?_
            by_cases c102 : (a0.final.length : Int) ≤ v32
            ·rw [if_pos c102] at h4
             refine z0p rfl (by simp [c102]) (zq rfl (zr rfl rfl rfl (by simp; rfl) ?_))
             refine z0a (z0U rfl (z1c (z0n ?_)))
             obtain ⟨rr2, h5, ho2⟩ := z0g h4
             have hs2 := hr2 _ ho2
             subst hs2
             refine z2i ho2 (z1c (z1c (z0n ?_)))
             obtain ⟨rr1, h6, ho1⟩ := z0g h5
             have hs1 := hr1 _ ho1
             subst hs1
             refine z2i ho1 (z1c (z0n ?_))
             cases h6
             simp
            ·rw [if_neg c102] at h4
             refine z0m rfl (by simp [c102]) (z0h rfl (z0k (z0a (zr rfl rfl rfl (by simp; rfl) ?_))))
             have ho := z0f h4
             refine z0j ho ?_
             simp [z4M]
          ·rw [if_neg c99] at h3
           refine z0m rfl (by simp [c99]) (z1m rfl (z0E ?_))
           obtain ⟨rr2, h4, ho2⟩ := z0g h3
           have hs2 := hr2 _ ho2
           subst hs2
           refine z0r ho2 (z0c rfl (z0k (z0a (zr rfl rfl rfl (by simp; rfl) ?_))))
           have ho := z0f h4
           refine z0j ho ?_
           simp [z5k]
         ·rw [if_neg c90] at h2
          have c90e := eq_false c90
          refine z0p rfl (by simp [c90e]) (zq rfl (zr rfl rfl rfl (by simp; rfl) ?_))
          refine z0a (z0U rfl (z0n (z1c (z0n ?_))))
          obtain ⟨rr1, h3, ho1⟩ := z0g h2
          have hs1 := hr1 _ ho1
          subst hs1
          refine z2i ho1 (z1c (z0n ?_))
          cases h3
          simp
        ·rw [if_neg c88] at h1
         refine z0m rfl (by simp [c88]) (z1m rfl (z0E ?_))
         obtain ⟨rr1, h2, ho1⟩ := z0g h1
         have hs1 := hr1 _ ho1
         subst hs1
         refine z0r ho1 (z0c rfl (z0a (zq rfl (zr rfl rfl rfl (by simp; rfl) ?_))))
         refine z0a (z0U rfl ?_)
         cases h2
         simp
     ·rw [if_neg c55] at h0
      have c55e := eq_false c55
      refine zr rfl rfl rfl (by simp [c55e]; rfl) ?_
      refine z0a (z0p rfl (by simp) (zq rfl (zr rfl rfl rfl (by simp; rfl) ?_)))
      refine z0a (z0U rfl (z0n ?_))
      cases h0
      simp
def z3g (a0 : DFA) : Option (Int) :=
  (z5N a0).bind fun v2 =>
  if v2 = 0 then
    if 12 < (a0.final.length : Int) then
      some 3
    else
      some 0
  else
    some v2
theorem z5d {a0 : DFA} {r : Int} (h0 : z3g a0 = some r) : L 35 [.agg [.sc (.int .i64 a0.letters), .sc (.int .i64 a0.start), .sl a0.final.length (a0.final.map fun x0 => .sc (.bool x0)), .sl a0.next.length (a0.next.map fun x0 => .sl x0.length (x0.map fun x1 => .sc (.int .i64 x1)))]] = some (.sc (.int .i64 r), [.dead]) := by
  simp only [z3g] at h0
  refine z2l zuO zwe (z1l zyr ⟨of_decide_eq_true rfl, of_decide_eq_true rfl⟩ ?_)
  simp only [z1z, z1w, z1s, z1A, z2X]
  refine zq rfl (zr rfl rfl rfl (by simp; rfl) ?_)
  refine z0a (zq rfl (zq rfl ?_))
  obtain ⟨v2, f4, h1⟩ := z0b h0
  have f4k := zec f4
  try simp at f4k
  refine zr rfl rfl rfl (by simp [f4k]; rfl) ?_
  refine z0a (zq rfl (zr rfl rfl rfl (by simp; rfl) ?_))
  refine z0a ?_
  by_cases c5 : v2 = 0
  ·rw [if_pos c5] at h1
   have c5e := eq_true c5
   refine z0m rfl (by simp [c5e]) (z0h rfl (z0a (zq rfl (zq rfl (zr rfl rfl rfl (by simp; rfl) ?_)))))
   refine z0a ?_
   by_cases c6 : 12 < (a0.final.length : Int)
   ·rw [if_pos c6] at h1
    refine z0p rfl (by simp [c6]) (zq rfl (zr rfl rfl rfl (by simp; rfl) ?_))
    refine z0a (z0U rfl (z0n ?_))
    cases h1
    simp
   ·rw [if_neg c6] at h1
    refine z0m rfl (by simp [c6]) (z0h rfl (z0a (zq rfl (zr rfl rfl rfl (by simp; rfl) ?_))))
    refine z0a (z0U rfl ?_)
    cases h1
    simp
  ·rw [if_neg c5] at h1
   have c5e := eq_false c5
   refine z0p rfl (by simp [c5e]) (zq rfl (zr rfl rfl rfl (by simp; rfl) ?_))
   refine z0a (z0U rfl (z0n ?_))
   cases h1
   simp
def z7o (a0 : DFA) : Option (Int) :=
  (z4C a0).bind fun v2 =>
  if v2 = 0 then
    if 12 < (a0.final.length : Int) then
      some 3
    else
      some 0
  else
    some v2
theorem zcl {a0 : DFA} {r : Int} (h0 : z7o a0 = some r) : L 29 [.agg [.sc (.int .i64 a0.letters), .sc (.int .i64 a0.start), .sl a0.final.length (a0.final.map fun x0 => .sc (.bool x0)), .sl a0.next.length (a0.next.map fun x0 => .sl x0.length (x0.map fun x1 => .sc (.int .i64 x1)))]] = some (.sc (.int .i64 r), [.dead]) := by
  simp only [z7o] at h0
  refine z2l zuU zwj (z1l zyw ⟨of_decide_eq_true rfl, of_decide_eq_true rfl⟩ ?_)
  simp only [z1z, z1w, z1s, z1A, z2X]
  refine zq rfl (zr rfl rfl rfl (by simp; rfl) ?_)
  refine z0a (zq rfl (zq rfl ?_))
  obtain ⟨v2, f4, h1⟩ := z0b h0
  have f4k := zbX f4
  try simp at f4k
  refine zr rfl rfl rfl (by simp [f4k]; rfl) ?_
  refine z0a (zq rfl (zr rfl rfl rfl (by simp; rfl) ?_))
  refine z0a ?_
  by_cases c5 : v2 = 0
  ·rw [if_pos c5] at h1
   have c5e := eq_true c5
   refine z0m rfl (by simp [c5e]) (z0h rfl (z0a (zq rfl (zq rfl (zr rfl rfl rfl (by simp; rfl) ?_)))))
   refine z0a ?_
   by_cases c6 : 12 < (a0.final.length : Int)
   ·rw [if_pos c6] at h1
    refine z0p rfl (by simp [c6]) (zq rfl (zr rfl rfl rfl (by simp; rfl) ?_))
    refine z0a (z0U rfl (z0n ?_))
    cases h1
    simp
   ·rw [if_neg c6] at h1
    refine z0m rfl (by simp [c6]) (z0h rfl (z0a (zq rfl (zr rfl rfl rfl (by simp; rfl) ?_))))
    refine z0a (z0U rfl ?_)
    cases h1
    simp
  ·rw [if_neg c5] at h1
   have c5e := eq_false c5
   refine z0p rfl (by simp [c5e]) (zq rfl (zr rfl rfl rfl (by simp; rfl) ?_))
   refine z0a (z0U rfl (z0n ?_))
   cases h1
   simp
def z5G (a0 : ByteArray) (a1 : Int) : Int → Option (Int ⊕ Bool)
  | w12 =>
  if w12 < (a0.size : Int) then
    (zij a0 w12).bind fun v15 =>
    if v15 < 97 then
      z1n <|
      some false
    else
      if a1 ≤ (IntKind.i64.wrap (IntKind.u8.wrap (v15 - 97))) then
        z1n <|
        some false
      else
        z0Y (IntKind.i64.wrap (w12 + 1))
  else
    z1n <|
    some true
def z5F (a0 : ByteArray) (a1 : Int) : Int → Fr
  | w12 => ⟨33, [(0, .one (.t none (.sc (.string a0)))), (1, .one (.t none (.sc (.int .i64 a1)))), (5, .one (.t none (.sc (.int .i64 w12))))], []⟩
def z4c (a0 : ByteArray) (a1 : Int) : Option (Bool) :=
  (z2U a1).bind fun v9 =>
  if v9 = true then
    if 2048 < (a0.size : Int) then
      some false
    else
      z1j (z5G a0 a1) LFm 0
  else
    some false
theorem zev {a0 : ByteArray} {a1 : Int} {r : Bool} (h0 : z4c a0 a1 = some r) : L 27 [.sc (.string a0), .sc (.int .i64 a1)] = some (.sc (.bool r), [.dead, .dead]) := by
  simp only [z4c] at h0
  refine z2l zuW zwl (z1l zyy ⟨of_decide_eq_true rfl, of_decide_eq_true rfl⟩ ?_)
  simp only [z1z, z1w, z1s, z1A, z2X]
  refine zq rfl (zr rfl rfl rfl (by simp; rfl) ?_)
  refine z0a (zq rfl (zq rfl ?_))
  obtain ⟨v9, f16, h1⟩ := z0b h0
  have f16k := z6B f16
  try simp at f16k
  by_cases c17 : v9 = true
  ·rw [if_pos c17] at h1
   refine zr rfl rfl rfl (by simp [f16k, c17]; rfl) ?_
   refine z0a ?_
   by_cases c18 : 2048 < (a0.size : Int)
   ·rw [if_pos c18] at h1
    refine z0p rfl (by simp [c18]) (zq rfl (zr rfl rfl rfl (by simp; rfl) ?_))
    refine z0a (z0U rfl (z0n ?_))
    cases h1
    simp [c17]
   ·rw [if_neg c18] at h1
    refine z0m rfl (by simp [c18]) (z0h rfl (z0a (zq rfl (zq rfl (zr rfl rfl rfl (by simp; rfl) ?_)))))
    refine z0a (zb rfl (z0S h1 (z5F a0 a1) rfl rfl (by simp [z5F]) fun s o1 h2 hr1 => ?_))
    obtain ⟨w12, hs1⟩ : ∃ y, y = s := ⟨_, rfl⟩
    subst hs1
    simp only [z5G] at h2
    simp only [z5F]
    refine zq rfl (zq rfl (zr rfl rfl rfl (by simp; rfl) ?_))
    refine z0a ?_
    by_cases c27 : w12 < (a0.size : Int)
    ·rw [if_pos c27] at h2
     refine z0p rfl (by simp [c27]) (z0h rfl (z0a (zq rfl (zb rfl (zq rfl ?_)))))
     obtain ⟨v15, f28, h3⟩ := z0b h2
     obtain ⟨f28a, f28b, f28w, f28c, f28d, f28g⟩ := z9q f28
     have f28d := f28d.symm
     by_cases c29 : v15 < 97
     ·rw [if_pos c29] at h3
      refine zr rfl rfl rfl (by simp [f28a, f28b, f28c, f28d, f28g, c29]; rfl) ?_
      refine z0a (z0p rfl (by simp) (zq rfl (zr rfl rfl rfl (by simp; rfl) ?_)))
      refine z0a (z0U rfl (z1c (z0n ?_)))
      obtain ⟨rr1, h4, ho1⟩ := z0g h3
      have hs1 := hr1 _ ho1
      subst hs1
      refine z2i ho1 (z1c (z0n ?_))
      cases h4
      simp
     ·rw [if_neg c29] at h3
      refine zr rfl rfl rfl (by simp [f28a, f28b, f28c, f28d, f28g, c29]; rfl) ?_
      refine z0a ?_
      by_cases c30 : a1 ≤ (IntKind.i64.wrap (IntKind.u8.wrap (v15 - 97)))
      ·rw [if_pos c30] at h3
       refine z0p rfl (by simp [c30]) (zq rfl (zr rfl rfl rfl (by simp; rfl) ?_))
       refine z0a (z0U rfl (z1c (z0n ?_)))
       obtain ⟨rr1, h4, ho1⟩ := z0g h3
       have hs1 := hr1 _ ho1
       subst hs1
       refine z2i ho1 (z1c (z0n ?_))
       cases h4
       simp
      ·rw [if_neg c30] at h3
       refine z0m rfl (by simp [c30]) (z0h rfl (z0k (z0a (zr rfl rfl rfl (by simp; rfl) ?_))))
       have ho := z0f h3
       refine z0j ho ?_
       simp [z5F]
    ·rw [if_neg c27] at h2
     refine z0m rfl (by simp [c27]) (z1m rfl (z0E ?_))
     obtain ⟨rr1, h3, ho1⟩ := z0g h2
     have hs1 := hr1 _ ho1
     subst hs1
     refine z0r ho1 (z0c rfl (z0a (zq rfl (zr rfl rfl rfl (by simp; rfl) ?_))))
     refine z0a (z0U rfl ?_)
     cases h3
     simp
  ·rw [if_neg c17] at h1
   refine zr rfl rfl rfl (by simp [f16k, c17]; rfl) ?_
   refine z0a (z0p rfl (by simp) (zq rfl (zr rfl rfl rfl (by simp; rfl) ?_)))
   refine z0a (z0U rfl (z0n ?_))
   cases h1
   simp [c17]
def zah (a0 : ByteArray) (a1 : Int) : Int → Option (Int ⊕ Bool)
  | w10 =>
  if w10 < (a0.size : Int) then
    (zij a0 w10).bind fun v13 =>
    if v13 < 97 then
      z1n <|
      some false
    else
      if a1 ≤ (IntKind.i64.wrap (IntKind.u8.wrap (v13 - 97))) then
        z1n <|
        some false
      else
        z0Y (IntKind.i64.wrap (w10 + 1))
  else
    z1n <|
    some true
def z5T (a0 : ByteArray) (a1 : Int) : Int → Fr
  | w10 => ⟨36, [(0, .one (.t none (.sc (.string a0)))), (1, .one (.t none (.sc (.int .i64 a1)))), (18, .one (.t none (.sc (.int .i64 (a0.size : Int))))), (19, .one (.t none (.sc (.int .i64 w10))))], []⟩
def z7e (a0 : ByteArray) (a1 : Int) : Option (Bool) :=
  if a1 < 1 then
    some false
  else
    if 6 < a1 then
      some false
    else
      if 2048 < (a0.size : Int) then
        some false
      else
        z1j (zah a0 a1) LFm 0
theorem zfR {a0 : ByteArray} {a1 : Int} {r : Bool} (h0 : z7e a0 a1 = some r) : L 50 [.sc (.string a0), .sc (.int .i64 a1)] = some (.sc (.bool r), [.dead, .dead]) := by
  simp only [z7e] at h0
  refine z2l zuC zw2 (z1l zyf ⟨of_decide_eq_true rfl, of_decide_eq_true rfl⟩ ?_)
  simp only [z1z, z1w, z1s, z1A, z2X]
  refine zq rfl (zr rfl rfl rfl (by simp; rfl) ?_)
  refine z0a (zq rfl (zq rfl ?_))
  by_cases c16 : a1 < 1
  ·rw [if_pos c16] at h0
   refine zr rfl rfl rfl (by simp [c16]; rfl) ?_
   refine z0a (z0p rfl (by simp) (zq rfl (zr rfl rfl rfl (by simp; rfl) ?_)))
   refine z0a (z0U rfl (z0n ?_))
   cases h0
   simp
  ·rw [if_neg c16] at h0
   by_cases c17 : 6 < a1
   ·rw [if_pos c17] at h0
    refine zr rfl rfl rfl (by simp [c16, c17]; rfl) ?_
    refine z0a (z0p rfl (by simp) (zq rfl (zr rfl rfl rfl (by simp; rfl) ?_)))
    refine z0a (z0U rfl (z0n ?_))
    cases h0
    simp
   ·rw [if_neg c17] at h0
    refine zr rfl rfl rfl (by simp [c16, c17]; rfl) ?_
    refine z0a ?_
    by_cases c18 : 2048 < (a0.size : Int)
    ·rw [if_pos c18] at h0
     refine z0p rfl (by simp [c18]) (zq rfl (zr rfl rfl rfl (by simp; rfl) ?_))
     refine z0a (z0U rfl (z0n ?_))
     cases h0
     simp
    ·rw [if_neg c18] at h0
     refine z0m rfl (by simp [c18]) (z0h rfl (z0a (zq rfl (zq rfl (zr rfl rfl rfl (by simp; rfl) ?_)))))
     refine z0a (zb rfl (z0S h0 (z5T a0 a1) rfl rfl (by simp [z5T]) fun s o1 h1 hr1 => ?_))
     obtain ⟨w10, hs1⟩ : ∃ y, y = s := ⟨_, rfl⟩
     subst hs1
     simp only [zah] at h1
     simp only [z5T]
     refine zq rfl (zr rfl rfl rfl (by simp; rfl) ?_)
     refine z0a (zq rfl ?_)
     by_cases c27 : w10 < (a0.size : Int)
     ·rw [if_pos c27] at h1
      refine z0p rfl (by simp [c27]) (z0h rfl (z0a (zq rfl (zb rfl (zq rfl (zr rfl rfl rfl (by simp; rfl) ?_))))))
      refine z0a (zq rfl ?_)
      obtain ⟨v13, f28, h2⟩ := z0b h1
      obtain ⟨f28a, f28b, f28w, f28c, f28d, f28g⟩ := z9q f28
      have f28d := f28d.symm
      by_cases c29 : v13 < 97
      ·rw [if_pos c29] at h2
       refine zr rfl rfl rfl (by simp [f28a, f28b, f28c, f28d, f28g, c29]; rfl) ?_
       refine z0a (z0p rfl (by simp) (zq rfl (zr rfl rfl rfl (by simp; rfl) ?_)))
       refine z0a (z0U rfl (z1c (z0n ?_)))
       obtain ⟨rr1, h3, ho1⟩ := z0g h2
       have hs1 := hr1 _ ho1
       subst hs1
       refine z2i ho1 (z1c (z0n ?_))
       cases h3
       simp
      ·rw [if_neg c29] at h2
       refine zr rfl rfl rfl (by simp [f28a, f28b, f28c, f28d, f28g, c29]; rfl) ?_
       refine z0a ?_
       by_cases c30 : a1 ≤ (IntKind.i64.wrap (IntKind.u8.wrap (v13 - 97)))
       ·rw [if_pos c30] at h2
        refine z0p rfl (by simp [c30]) (zq rfl (zr rfl rfl rfl (by simp; rfl) ?_))
        refine z0a (z0U rfl (z1c (z0n ?_)))
        obtain ⟨rr1, h3, ho1⟩ := z0g h2
        have hs1 := hr1 _ ho1
        subst hs1
        refine z2i ho1 (z1c (z0n ?_))
        cases h3
        simp
       ·rw [if_neg c30] at h2
        refine z0m rfl (by simp [c30]) (z0h rfl (z0k (z0a (zr rfl rfl rfl (by simp; rfl) ?_))))
        have ho := z0f h2
        refine z0j ho ?_
        simp [z5T]
     ·rw [if_neg c27] at h1
      refine z0m rfl (by simp [c27]) (z1m rfl (z0E ?_))
      obtain ⟨rr1, h2, ho1⟩ := z0g h1
      have hs1 := hr1 _ ho1
      subst hs1
      refine z0r ho1 (z0c rfl (z0a (zq rfl (zr rfl rfl rfl (by simp; rfl) ?_))))
      refine z0a (z0U rfl ?_)
      cases h2
      simp
def z8q (a0 : DFA) : Option (Int) :=
  chk (¬ (IntKind.u64.wrap (a0.final.length : Int)) < 0) <|
  some (IntKind.i64.wrap ((zht .i64 1 (IntKind.u64.wrap (a0.final.length : Int))) - 1))
theorem zhE {a0 : DFA} {r : Int} (h0 : z8q a0 = some r) : L 71 [.agg [.sc (.int .i64 a0.letters), .sc (.int .i64 a0.start), .sl a0.final.length (a0.final.map fun x0 => .sc (.bool x0)), .sl a0.next.length (a0.next.map fun x0 => .sl x0.length (x0.map fun x1 => .sc (.int .i64 x1)))]] = some (.sc (.int .i64 r), [.dead]) := by
  simp only [z8q] at h0
  refine z2l zun zvN (z1l zy0 ⟨of_decide_eq_true rfl, of_decide_eq_true rfl⟩ ?_)
  simp only [z1z, z1w, z1s, z1A, z2X]
  refine zq rfl (zr rfl rfl rfl (by simp; rfl) ?_)
  refine z0a (zq rfl ?_)
  obtain ⟨f2, h1⟩ := z1E h0
  refine zr rfl rfl rfl (by simp [f2]; rfl) ?_
  refine z0a (z0U rfl ?_)
  cases h1
  simp
def z4g (a0 : DFA) (a1 : Int) : Option (Bool) :=
  if 0 ≤ a1 then
    chk (¬ (a0.final.length : Int) < 0) <|
    some (decide (a1 < (zht .i64 1 (a0.final.length : Int))))
  else
    some false
theorem z6H {a0 : DFA} {a1 : Int} {r : Bool} (h0 : z4g a0 a1 = some r) : L 49 [.agg [.sc (.int .i64 a0.letters), .sc (.int .i64 a0.start), .sl a0.final.length (a0.final.map fun x0 => .sc (.bool x0)), .sl a0.next.length (a0.next.map fun x0 => .sl x0.length (x0.map fun x1 => .sc (.int .i64 x1)))], .sc (.int .i64 a1)] = some (.sc (.bool r), [.dead, .dead]) := by
  simp only [z4g] at h0
  refine z2l zuD zw3 (z1l zyg ⟨of_decide_eq_true rfl, of_decide_eq_true rfl⟩ ?_)
  simp only [z1z, z1w, z1s, z1A, z2X]
  refine zq rfl (zr rfl rfl rfl (by simp; rfl) ?_)
  refine z0a (zq rfl ?_)
  by_cases c3 : 0 ≤ a1
  ·rw [if_pos c3] at h0
   obtain ⟨f4, h1⟩ := z1E h0
   refine zr rfl rfl rfl (by simp [c3, f4]; rfl) ?_
   refine z0a (z0U rfl ?_)
   cases h1
   simp
  ·rw [if_neg c3] at h0
   refine zr rfl rfl rfl (by simp [c3]; rfl) ?_
   refine z0a (z0U rfl ?_)
   cases h0
   simp
def z4O (a0 : DFA) (a1 : Int) : Option (Bool) :=
  if 0 ≤ a1 then
    (z8q a0).bind fun v2 =>
    some (decide (a1 ≤ v2))
  else
    some false
theorem z6T {a0 : DFA} {a1 : Int} {r : Bool} (h0 : z4O a0 a1 = some r) : L 55 [.agg [.sc (.int .i64 a0.letters), .sc (.int .i64 a0.start), .sl a0.final.length (a0.final.map fun x0 => .sc (.bool x0)), .sl a0.next.length (a0.next.map fun x0 => .sl x0.length (x0.map fun x1 => .sc (.int .i64 x1)))], .sc (.int .i64 a1)] = some (.sc (.bool r), [.dead, .dead]) := by
  simp only [z4O] at h0
  refine z2l zuA zw0 (z1l zyd ⟨of_decide_eq_true rfl, of_decide_eq_true rfl⟩ ?_)
  simp only [z1z, z1w, z1s, z1A, z2X]
  refine zq rfl (zr rfl rfl rfl (by simp; rfl) ?_)
  refine z0a (zq rfl ?_)
  by_cases c3 : 0 ≤ a1
  ·rw [if_pos c3] at h0
   obtain ⟨v2, f4, h1⟩ := z0b h0
   have f4k := zhE f4
   try simp at f4k
   refine zr rfl rfl rfl (by simp [c3, f4k]; rfl) ?_
   refine z0a (z0U rfl ?_)
   cases h1
   simp
  ·rw [if_neg c3] at h0
   refine zr rfl rfl rfl (by simp [c3]; rfl) ?_
   refine z0a (z0U rfl ?_)
   cases h0
   simp
def z5a (a0 : DFA) (a1 : Int) (a2 : Int) : Int × Int → Option ((Int × Int) ⊕ Int)
  | (w11, w12) =>
  if w12 < (a0.final.length : Int) then
    chk (¬ (IntKind.u64.wrap w12) < 0) <|
    if (z2n .i64 (z0X .i64 a1 (IntKind.u64.wrap w12)) 1) = 1 then
      (atI a0.next w12).bind fun v15 =>
      (atI v15 a2).bind fun v16 =>
      chk (¬ (IntKind.u64.wrap v16) < 0) <|
      z0Y (orI .i64 w11 (zht .i64 1 (IntKind.u64.wrap v16)), IntKind.i64.wrap (w12 + 1))
    else
      z0Y (w11, IntKind.i64.wrap (w12 + 1))
  else
    z1n <|
    some w11
def z4b (a0 : DFA) (a1 : Int) (a2 : Int) : Int × Int → Fr
  | (w11, w12) => ⟨35, [(1, .one (.t none (.sc (.int .i64 a1)))), (2, .one (.t none (.sc (.int .i64 a2)))), (3, .one (.a 3 [] (0))), (7, .one (.t none (.sc (.int .i64 w11)))), (11, .one (.t none (.sc (.int .i64 (a0.final.length : Int))))), (12, .one (.t none (.sc (.int .i64 w12))))], [(3, .vr [.sc (.int .i64 a0.letters), .sc (.int .i64 a0.start), .sl a0.final.length (a0.final.map fun x0 => .sc (.bool x0)), .sl a0.next.length (a0.next.map fun x0 => .sl x0.length (x0.map fun x1 => .sc (.int .i64 x1)))])]⟩
def z4T (a0 : DFA) (a1 : Int) (a2 : Int) : Option (Int) :=
  z1j (z5a a0 a1 a2) LFm (0, 0)
theorem z8p {a0 : DFA} {a1 : Int} {a2 : Int} {r : Int} (h0 : z4T a0 a1 a2 = some r) : L 73 [.agg [.sc (.int .i64 a0.letters), .sc (.int .i64 a0.start), .sl a0.final.length (a0.final.map fun x0 => .sc (.bool x0)), .sl a0.next.length (a0.next.map fun x0 => .sl x0.length (x0.map fun x1 => .sc (.int .i64 x1)))], .sc (.int .i64 a1), .sc (.int .i64 a2)] = some (.sc (.int .i64 r), [.dead, .dead, .dead]) := by
  simp only [z4T] at h0
  refine z2l zum zvM (z1l zxZ ⟨of_decide_eq_true rfl, of_decide_eq_true rfl⟩ ?_)
  simp only [z1z, z1w, z1s, z1A, z2X]
  refine zq rfl (zr rfl rfl rfl (by simp; rfl) ?_)
  refine z0a (zq rfl (zr rfl rfl rfl (by simp; rfl) ?_))
  refine z0a (zq rfl (zq rfl (zr rfl rfl rfl (by simp; rfl) ?_)))
  refine z0a (zb rfl (z0S h0 (z4b a0 a1 a2) rfl rfl (by simp [z4b]) fun s o1 h1 hr1 => ?_))
  obtain ⟨w11, w12⟩ := s
  simp only [z5a] at h1
  simp only [z4b]
  refine zq rfl (zr rfl rfl rfl (by simp; rfl) ?_)
  refine z0a (zq rfl ?_)
  by_cases c31 : w12 < (a0.final.length : Int)
  ·rw [if_pos c31] at h1
   refine z0p rfl (by simp [c31]) (z0h rfl (z0a (zq rfl (zb rfl (zq rfl (zr rfl rfl rfl (by simp; rfl) ?_))))))
   refine z0a (zq rfl ?_)
   obtain ⟨f32, h2⟩ := z1E h1
   refine zr rfl rfl rfl (by simp [f32]; rfl) ?_
   refine z0a ?_
   by_cases c33 : (z2n .i64 (z0X .i64 a1 (IntKind.u64.wrap w12)) 1) = 1
   ·rw [if_pos c33] at h2
    have c33e := eq_true c33
    refine z0p rfl (by simp [c33e]) ?_
    obtain ⟨v15, f34, h3⟩ := z1r h2
    obtain ⟨v16, f35, h4⟩ := z1r h3
    obtain ⟨f36, h5⟩ := z1E h4
    refine zr rfl rfl rfl (by simp [f34, f35, f36]; rfl) ?_
    refine z0k (z0a (zr rfl rfl rfl (by simp; rfl) ?_))
    have ho := z0f h5
    refine z0j ho ?_
    simp [z4b]
   ·rw [if_neg c33] at h2
    have c33e := eq_false c33
    refine z0m rfl (by simp [c33e]) (z0h rfl (z0k (z0a (zr rfl rfl rfl (by simp; rfl) ?_))))
    have ho := z0f h2
    refine z0j ho ?_
    simp [z4b]
  ·rw [if_neg c31] at h1
   refine z0m rfl (by simp [c31]) (z1m rfl (z0E ?_))
   obtain ⟨rr1, h2, ho1⟩ := z0g h1
   have hs1 := hr1 _ ho1
   subst hs1
   refine z0r ho1 (z0c rfl (z0a (zq rfl (zr rfl rfl rfl (by simp; rfl) ?_))))
   refine z0a (z0U rfl ?_)
   cases h2
   simp
def z5H (a0 : DFA) (a1 : Int) (a2 : Int) : Int × Int → Option ((Int × Int) ⊕ Int)
  | (w11, w12) =>
  if w12 < (a0.next.length : Int) then
    (atI a0.next w12).bind fun v15 =>
    chk (¬ w12 < 0) <|
    if (z2n .i64 (z0X .i64 a1 w12) 1) = 1 then
      (atI v15 a2).bind fun v16 =>
      chk (¬ v16 < 0) <|
      z0Y (orI .i64 w11 (zht .i64 1 v16), IntKind.i64.wrap (w12 + 1))
    else
      z0Y (w11, IntKind.i64.wrap (w12 + 1))
  else
    z1n <|
    some w11
def z4G (a0 : DFA) (a1 : Int) (a2 : Int) : Int × Int → Fr
  | (w11, w12) => ⟨32, [(1, .one (.t none (.sc (.int .i64 a1)))), (2, .one (.t none (.sc (.int .i64 a2)))), (7, .one (.t none (.sc (.int .i64 w11)))), (11, .one (.t none (.sl a0.next.length (a0.next.map fun x0 => .sl x0.length (x0.map fun x1 => .sc (.int .i64 x1)))))), (12, .one (.t none (.sc (.int .i64 (a0.next.length : Int))))), (13, .one (.t none (.sc (.int .i64 w12))))], []⟩
def z4Q (a0 : DFA) (a1 : Int) (a2 : Int) : Option (Int) :=
  z1j (z5H a0 a1 a2) LFm (0, 0)
theorem z6Z {a0 : DFA} {a1 : Int} {a2 : Int} {r : Int} (h0 : z4Q a0 a1 a2 = some r) : L 51 [.agg [.sc (.int .i64 a0.letters), .sc (.int .i64 a0.start), .sl a0.final.length (a0.final.map fun x0 => .sc (.bool x0)), .sl a0.next.length (a0.next.map fun x0 => .sl x0.length (x0.map fun x1 => .sc (.int .i64 x1)))], .sc (.int .i64 a1), .sc (.int .i64 a2)] = some (.sc (.int .i64 r), [.dead, .dead, .dead]) := by
  simp only [z4Q] at h0
  refine z2l zuB zw1 (z1l zye ⟨of_decide_eq_true rfl, of_decide_eq_true rfl⟩ ?_)
  simp only [z1z, z1w, z1s, z1A, z2X]
  refine zq rfl (zr rfl rfl rfl (by simp; rfl) ?_)
  refine z0a (zq rfl (zr rfl rfl rfl (by simp; rfl) ?_))
  refine z0a (zq rfl (zq rfl (zr rfl rfl rfl (by simp; rfl) ?_)))
  refine z0a (zb rfl (z0S h0 (z4G a0 a1 a2) rfl rfl (by simp [z4G]) fun s o1 h1 hr1 => ?_))
  obtain ⟨w11, w12⟩ := s
  simp only [z5H] at h1
  simp only [z4G]
  refine zq rfl (zr rfl rfl rfl (by simp; rfl) ?_)
  refine z0a (zq rfl ?_)
  by_cases c29 : w12 < (a0.next.length : Int)
  ·rw [if_pos c29] at h1
   refine z0p rfl (by simp [c29]) (z0h rfl (z0a (zq rfl (zb rfl (zq rfl ?_)))))
   obtain ⟨v15, f30, h2⟩ := z1r h1
   refine zr rfl rfl rfl (by simp [f30]; rfl) ?_
   refine z0a (zq rfl ?_)
   obtain ⟨f31, h3⟩ := z1E h2
   refine zr rfl rfl rfl (by simp [f31]; rfl) ?_
   refine z0a ?_
   by_cases c32 : (z2n .i64 (z0X .i64 a1 w12) 1) = 1
   ·rw [if_pos c32] at h3
    have c32e := eq_true c32
    refine z0p rfl (by simp [c32e]) ?_
    obtain ⟨v16, f33, h4⟩ := z1r h3
    obtain ⟨f34, h5⟩ := z1E h4
    refine zr rfl rfl rfl (by simp [f33, f34]; rfl) ?_
    refine z0k (z0a (zr rfl rfl rfl (by simp; rfl) ?_))
    have ho := z0f h5
    refine z0j ho ?_
    simp [z4G]
   ·rw [if_neg c32] at h3
    have c32e := eq_false c32
    refine z0m rfl (by simp [c32e]) (z0h rfl (z0k (z0a (zr rfl rfl rfl (by simp; rfl) ?_))))
    have ho := z0f h3
    refine z0j ho ?_
    simp [z4G]
  ·rw [if_neg c29] at h1
   refine z0m rfl (by simp [c29]) (z1m rfl (z0E ?_))
   obtain ⟨rr1, h2, ho1⟩ := z0g h1
   have hs1 := hr1 _ ho1
   subst hs1
   refine z0r ho1 (z0c rfl (z0a (zq rfl (zr rfl rfl rfl (by simp; rfl) ?_))))
   refine z0a (z0U rfl ?_)
   cases h2
   simp
def z5Y (a0 : DFA) (a2 : ByteArray) : Int × Int → Option ((Int × Int) ⊕ Int)
  | (w11, w12) =>
  if w12 < (a2.size : Int) then
    (zij a2 w12).bind fun v15 =>
    (z4T a0 w11 (IntKind.i64.wrap (IntKind.u8.wrap (v15 - 97)))).bind fun v16 =>
    z0Y (v16, IntKind.i64.wrap (w12 + 1))
  else
    z1n <|
    some w11
def z5X (a0 : DFA) (a2 : ByteArray) : Int × Int → Fr
  | (w11, w12) => ⟨23, [(1, .one (.t none (.sc (.int .i64 w11)))), (2, .one (.t none (.sc (.string a2)))), (3, .one (.a 3 [] (0))), (7, .one (.t none (.sc (.int .i64 w12))))], [(3, .vr [.sc (.int .i64 a0.letters), .sc (.int .i64 a0.start), .sl a0.final.length (a0.final.map fun x0 => .sc (.bool x0)), .sl a0.next.length (a0.next.map fun x0 => .sl x0.length (x0.map fun x1 => .sc (.int .i64 x1)))])]⟩
def z7n (a0 : DFA) (a1 : Int) (a2 : ByteArray) : Option (Int) :=
  z1j (z5Y a0 a2) LFm (a1, 0)
theorem zg1 {a0 : DFA} {a1 : Int} {a2 : ByteArray} {r : Int} (h0 : z7n a0 a1 a2 = some r) : L 56 [.agg [.sc (.int .i64 a0.letters), .sc (.int .i64 a0.start), .sl a0.final.length (a0.final.map fun x0 => .sc (.bool x0)), .sl a0.next.length (a0.next.map fun x0 => .sl x0.length (x0.map fun x1 => .sc (.int .i64 x1)))], .sc (.int .i64 a1), .sc (.string a2)] = some (.sc (.int .i64 r), [.dead, .dead, .dead]) := by
  simp only [z7n] at h0
  refine z2l zuz zvZ (z1l zyc ⟨of_decide_eq_true rfl, of_decide_eq_true rfl⟩ ?_)
  simp only [z1z, z1w, z1s, z1A, z2X]
  refine zq rfl (zr rfl rfl rfl (by simp; rfl) ?_)
  refine z0a (zq rfl (zq rfl (zr rfl rfl rfl (by simp; rfl) ?_)))
  refine z0a (zb rfl (z0S h0 (z5X a0 a2) rfl rfl (by simp [z5X]) fun s o1 h1 hr1 => ?_))
  obtain ⟨w11, w12⟩ := s
  simp only [z5Y] at h1
  simp only [z5X]
  refine zq rfl (zq rfl (zr rfl rfl rfl (by simp; rfl) ?_))
  refine z0a ?_
  by_cases c16 : w12 < (a2.size : Int)
  ·rw [if_pos c16] at h1
   refine z0p rfl (by simp [c16]) (z0h rfl (z0a (zq rfl (zb rfl ?_))))
   obtain ⟨v15, f17, h2⟩ := z0b h1
   obtain ⟨f17a, f17b, f17w, f17c, f17d, f17g⟩ := z9q f17
   have f17d := f17d.symm
   obtain ⟨v16, f18, h3⟩ := z0b h2
   have f18k := z8p f18
   try simp at f18k
   refine z1D rfl rfl rfl rfl ?_; repeat' ((first | refine z0F rfl rfl fun Q' hQ => ?_ | refine z0w rfl fun Q' hQ => ?_); simp [f17a, f17b, f17c, f17d, f17g, f18k]; refine hQ.out _ ?_; clear hQ; clear Q')
   refine z0k (z0a (zr rfl rfl rfl (by simp; rfl) ?_))
   have ho := z0f h3
   refine z0j ho ?_
   simp [z5X]
  ·rw [if_neg c16] at h1
   refine z0m rfl (by simp [c16]) (z1m rfl (z0E ?_))
   obtain ⟨rr1, h2, ho1⟩ := z0g h1
   have hs1 := hr1 _ ho1
   subst hs1
   refine z0r ho1 (z0c rfl (z0a (zq rfl (zr rfl rfl rfl (by simp; rfl) ?_))))
   refine z0a (z0U rfl ?_)
   cases h2
   simp
def z4i (a0 : DFA) (a2 : ByteArray) : Int × Int → Option ((Int × Int) ⊕ (Int × Int))
  | (w17, w18) =>
  if w18 < (a2.size : Int) then
    (zij a2 w18).bind fun v21 =>
    (z4Q a0 w17 (IntKind.i64.wrap (IntKind.u8.wrap (v21 - 97)))).bind fun v22 =>
    z0Y (v22, IntKind.i64.wrap (w18 + 1))
  else
    z1n <|
    some (w17, 0)
def z5i (a0 : DFA) (a2 : ByteArray) : Int × Int → Fr
  | (w17, w18) => ⟨41, [(1, .one (.t none (.sc (.int .i64 w17)))), (2, .one (.t none (.sc (.string a2)))), (3, .one (.a 3 [] (0))), (27, .one (.t none (.sc (.int .i64 (a2.size : Int))))), (28, .one (.t none (.sc (.int .i64 w18))))], [(3, .vr [.sc (.int .i64 a0.letters), .sc (.int .i64 a0.start), .sl a0.final.length (a0.final.map fun x0 => .sc (.bool x0)), .sl a0.next.length (a0.next.map fun x0 => .sl x0.length (x0.map fun x1 => .sc (.int .i64 x1)))])]⟩
def z5L (a0 : DFA) (a1 : Int) (a2 : ByteArray) : Option (Int × Int) :=
  (z3g a0).bind fun v12 =>
  if v12 = 0 then
    (z4g a0 a1).bind fun v13 =>
    if v13 = true then
      (z7e a2 a0.letters).bind fun v14 =>
      if v14 = true then
        z1j (z4i a0 a2) LFm (a1, 0)
      else
        some (0, 1)
    else
      some (0, 1)
  else
    some (0, v12)
theorem ze2 {a0 : DFA} {a1 : Int} {a2 : ByteArray} {r : Int × Int} (h0 : z5L a0 a1 a2 = some r) : L 19 [.agg [.sc (.int .i64 a0.letters), .sc (.int .i64 a0.start), .sl a0.final.length (a0.final.map fun x0 => .sc (.bool x0)), .sl a0.next.length (a0.next.map fun x0 => .sl x0.length (x0.map fun x1 => .sc (.int .i64 x1)))], .sc (.int .i64 a1), .sc (.string a2)] = some (.tup [.sc (.int .i64 r.1), .sc (.int .i64 r.2)], [.dead, .dead, .dead]) := by
  simp only [z5L] at h0
  refine z2l zv2 zwr (z1l zyE ⟨of_decide_eq_true rfl, of_decide_eq_true rfl⟩ ?_)
  simp only [z1z, z1w, z1s, z1A, z2X]
  refine zq rfl (zr rfl rfl rfl (by simp; rfl) ?_)
  refine z0a (zq rfl (zq rfl ?_))
  obtain ⟨v12, f16, h1⟩ := z0b h0
  have f16k := z5d f16
  try simp at f16k
  refine zr rfl rfl rfl (by simp [f16k]; rfl) ?_
  refine z0a (zq rfl (zr rfl rfl rfl (by simp; rfl) ?_))
  refine z0a ?_
  by_cases c17 : v12 = 0
  ·rw [if_pos c17] at h1
   have c17e := eq_true c17
   refine z0m rfl (by simp [c17e]) (z0h rfl (z0a (zq rfl (zq rfl ?_))))
   obtain ⟨v13, f18, h2⟩ := z0b h1
   have f18k := z6H f18
   try simp at f18k
   by_cases c19 : v13 = true
   ·rw [if_pos c19] at h2
    obtain ⟨v14, f20, h3⟩ := z0b h2
    have f20k := zfR f20
    try simp at f20k
    refine zr rfl rfl rfl (by simp [f18k, c19, f20k]; rfl) ?_
    refine z0a ?_
    by_cases c21 : v14 = true
    ·rw [if_pos c21] at h3
     refine z0m rfl (by simp [c21]) (z0h rfl (z0a (zq rfl (zq rfl (zr rfl rfl rfl (by simp; rfl) ?_)))))
     refine z0a (zb rfl (z0S h3 (z5i a0 a2) rfl rfl (by simp [z5i]) fun s o1 h4 hr1 => ?_))
     obtain ⟨w17, w18⟩ := s
     simp only [z4i] at h4
     simp only [z5i]
     refine zq rfl (zr rfl rfl rfl (by simp; rfl) ?_)
     refine z0a (zq rfl ?_)
     by_cases c28 : w18 < (a2.size : Int)
     ·rw [if_pos c28] at h4
      refine z0p rfl (by simp [c28]) (z0h rfl (z0a (zq rfl (zb rfl (zq rfl (zr rfl rfl rfl (by simp; rfl) ?_))))))
      refine z0a ?_
      obtain ⟨v21, f29, h5⟩ := z0b h4
      obtain ⟨f29a, f29b, f29w, f29c, f29d, f29g⟩ := z9q f29
      have f29d := f29d.symm
      obtain ⟨v22, f30, h6⟩ := z0b h5
      have f30k := z6Z f30
      try simp at f30k
      refine z1D rfl rfl rfl rfl ?_; repeat' ((first | refine z0F rfl rfl fun Q' hQ => ?_ | refine z0w rfl fun Q' hQ => ?_); simp [f29a, f29b, f29c, f29d, f29g, f30k]; refine hQ.out _ ?_; clear hQ; clear Q')
      refine z0k (z0a (zr rfl rfl rfl (by simp; rfl) ?_))
      have ho := z0f h6
      refine z0j ho ?_
      simp [z5i]
     ·rw [if_neg c28] at h4
      refine z0m rfl (by simp [c28]) (z1m rfl (z0E ?_))
      obtain ⟨rr1, h5, ho1⟩ := z0g h4
      have hs1 := hr1 _ ho1
      subst hs1
      refine z0r ho1 (z0c rfl (z0a (zq rfl (zr rfl rfl rfl (by simp; rfl) ?_))))
      refine z0a (z0U rfl ?_)
      cases h5
      simp
    ·rw [if_neg c21] at h3
     refine z0p rfl (by simp [c21]) (zq rfl (zr rfl rfl rfl (by simp; rfl) ?_))
     refine z0a (z0U rfl (z0n ?_))
     cases h3
     simp [c19, c21]
   ·rw [if_neg c19] at h2
    refine zr rfl rfl rfl (by simp [f18k, c19]; rfl) ?_
    refine z0a (z0p rfl (by simp) (zq rfl (zr rfl rfl rfl (by simp; rfl) ?_)))
    refine z0a (z0U rfl (z0n ?_))
    cases h2
    simp [c19]
  ·rw [if_neg c17] at h1
   have c17e := eq_false c17
   refine z0p rfl (by simp [c17e]) (zq rfl (zr rfl rfl rfl (by simp; rfl) ?_))
   refine z0a (z0U rfl (z0n ?_))
   cases h1
   simp
def z7J (a0 : DFA) (a1 : Int) (a2 : ByteArray) : Option (Int × Int) :=
  (z7o a0).bind fun v5 =>
  if v5 = 0 then
    (z4O a0 a1).bind fun v6 =>
    if v6 = true then
      (z4c a2 a0.letters).bind fun v7 =>
      if v7 = true then
        (z7n a0 a1 a2).bind fun v8 =>
        some (v8, 0)
      else
        some (0, 1)
    else
      some (0, 1)
  else
    some (0, v5)
theorem ref24_Apply_ok {a0 : DFA} {a1 : Int} {a2 : ByteArray} {r : Int × Int} (h0 : z7J a0 a1 a2 = some r) : L 24 [.agg [.sc (.int .i64 a0.letters), .sc (.int .i64 a0.start), .sl a0.final.length (a0.final.map fun x0 => .sc (.bool x0)), .sl a0.next.length (a0.next.map fun x0 => .sl x0.length (x0.map fun x1 => .sc (.int .i64 x1)))], .sc (.int .i64 a1), .sc (.string a2)] = some (.tup [.sc (.int .i64 r.1), .sc (.int .i64 r.2)], [.dead, .dead, .dead]) := by
  simp only [z7J] at h0
  refine z2l zuZ zwo (z1l zyB ⟨of_decide_eq_true rfl, of_decide_eq_true rfl⟩ ?_)
  simp only [z1z, z1w, z1s, z1A, z2X]
  refine zq rfl (zr rfl rfl rfl (by simp; rfl) ?_)
  refine z0a (zq rfl (zq rfl ?_))
  obtain ⟨v5, f8, h1⟩ := z0b h0
  have f8k := zcl f8
  try simp at f8k
  refine zr rfl rfl rfl (by simp [f8k]; rfl) ?_
  refine z0a (zq rfl (zr rfl rfl rfl (by simp; rfl) ?_))
  refine z0a ?_
  by_cases c9 : v5 = 0
  ·rw [if_pos c9] at h1
   have c9e := eq_true c9
   refine z0m rfl (by simp [c9e]) (z0h rfl (z0a (zq rfl (zq rfl ?_))))
   obtain ⟨v6, f10, h2⟩ := z0b h1
   have f10k := z6T f10
   try simp at f10k
   by_cases c11 : v6 = true
   ·rw [if_pos c11] at h2
    obtain ⟨v7, f12, h3⟩ := z0b h2
    have f12k := zev f12
    try simp at f12k
    refine zr rfl rfl rfl (by simp [f10k, c11, f12k]; rfl) ?_
    refine z0a ?_
    by_cases c13 : v7 = true
    ·rw [if_pos c13] at h3
     refine z0m rfl (by simp [c13]) (z0h rfl (z0a (zq rfl ?_)))
     obtain ⟨v8, f14, h4⟩ := z0b h3
     have f14k := zg1 f14
     try simp at f14k
     refine zr rfl rfl rfl (by simp [f14k]; rfl) ?_
     refine z0a (z0U rfl ?_)
     cases h4
     simp [c11, c13]
    ·rw [if_neg c13] at h3
     refine z0p rfl (by simp [c13]) (zq rfl (zr rfl rfl rfl (by simp; rfl) ?_))
     refine z0a (z0U rfl (z0n ?_))
     cases h3
     simp [c11, c13]
   ·rw [if_neg c11] at h2
    refine zr rfl rfl rfl (by simp [f10k, c11]; rfl) ?_
    refine z0a (z0p rfl (by simp) (zq rfl (zr rfl rfl rfl (by simp; rfl) ?_)))
    refine z0a (z0U rfl (z0n ?_))
    cases h2
    simp [c11]
  ·rw [if_neg c9] at h1
   have c9e := eq_false c9
   refine z0p rfl (by simp [c9e]) (zq rfl (zr rfl rfl rfl (by simp; rfl) ?_))
   refine z0a (z0U rfl (z0n ?_))
   cases h1
   simp
def z2O (a0 : Int) (a1 : Int) : Option (Bool) :=
  some (decide ((zgs .i64 a1 a0) = 0))
theorem z3Y {a0 : Int} {a1 : Int} {r : Bool} (h0 : z2O a0 a1 = some r) : L 58 [.sc (.int .i64 a0), .sc (.int .i64 a1)] = some (.sc (.bool r), [.dead, .dead]) := by
  simp only [z2O] at h0
  refine z2l zux zvX (z1l zya ⟨of_decide_eq_true rfl, of_decide_eq_true rfl⟩ ?_)
  simp only [z1z, z1w, z1s, z1A, z2X]
  refine zq rfl (zr rfl rfl rfl (by simp; rfl) ?_)
  refine z0a (zq rfl (zr rfl rfl rfl (by simp; rfl) ?_))
  refine z0a (z0U rfl ?_)
  cases h0
  simp
def z4f (a0 : DFA) (w77 : Int) : Int × List Bool × List Int × List ByteArray → Option ((Int × List Bool × List Int × List ByteArray) ⊕ ((Int × List Bool × List Int × List ByteArray) ⊕ (List Int × List ByteArray)))
  | (w105, w106, w107, w108) =>
  if w105 < a0.letters then
    (atI w107 w77).bind fun v114 =>
    (z4Q a0 v114 w105).bind fun v115 =>
    (atI w106 v115).bind fun v116 =>
    if v116 = true then
      z0Y (IntKind.i64.wrap (w105 + 1), w106, w107, w108)
    else
      chk (z3i 8 (w107.length + 1)) <|
      (atI w108 w77).bind fun v118 =>
      chk (z9z v118 ⟨#[UInt8.ofNat (IntKind.u8.wrap (IntKind.i64.wrap (97 + w105))).toNat]⟩) <|
      chk (z3i 16 (w108.length + 1)) <|
      z0Y (IntKind.i64.wrap (w105 + 1), (w106.set v115.toNat true), w107 ++ [v115], w108 ++ [v118 ++ ⟨#[UInt8.ofNat (IntKind.u8.wrap (IntKind.i64.wrap (97 + w105))).toNat]⟩])
  else
    z1n <|
    z0Y (IntKind.i64.wrap (w77 + 1), w106, w107, w108)
def z4e (a0 : DFA) (w77 : Int) : Int × List Bool × List Int × List ByteArray → Fr
  | (w105, w106, w107, w108) => ⟨69, [(2, .one (.a 2 [] (0))), (6, .one (.h 6 [])), (7, .one (.h 7 [])), (8, .one (.h 8 [])), (9, .one (.t none (.sc (.int .i64 w77)))), (30, .one (.t none (.sc (.int .i64 a0.letters)))), (31, .one (.t none (.sc (.int .i64 w105))))], [(2, .vr [.sc (.int .i64 a0.letters), .sc (.int .i64 a0.start), .sl a0.final.length (a0.final.map fun x0 => .sc (.bool x0)), .sl a0.next.length (a0.next.map fun x0 => .sl x0.length (x0.map fun x1 => .sc (.int .i64 x1)))]), (6, .os 1 w106.length (w106.map fun x0 => .sc (.bool x0))), (7, .os 1 w107.length (w107.map fun x0 => .sc (.int .i64 x0))), (8, .os 1 w108.length (w108.map fun x0 => .sc (.string x0)))]⟩
def z6F (a0 : DFA) : Int × List Bool × List Int × List ByteArray → Option ((Int × List Bool × List Int × List ByteArray) ⊕ (List Int × List ByteArray))
  | (w77, w78, w79, w80) =>
  if w77 < (w79.length : Int) then
    z1j (z4f a0 w77) LFm (0, w78, w79, w80)
  else
    z1n <|
    some (w79, w80)
def z5e (a0 : DFA) : Int × List Bool × List Int × List ByteArray → Fr
  | (w77, w78, w79, w80) => ⟨69, [(2, .one (.a 2 [] (0))), (6, .one (.h 6 [])), (7, .one (.h 7 [])), (8, .one (.h 8 [])), (9, .one (.t none (.sc (.int .i64 w77))))], [(2, .vr [.sc (.int .i64 a0.letters), .sc (.int .i64 a0.start), .sl a0.final.length (a0.final.map fun x0 => .sc (.bool x0)), .sl a0.next.length (a0.next.map fun x0 => .sl x0.length (x0.map fun x1 => .sc (.int .i64 x1)))]), (6, .os 1 w78.length (w78.map fun x0 => .sc (.bool x0))), (7, .os 1 w79.length (w79.map fun x0 => .sc (.int .i64 x0))), (8, .os 1 w80.length (w80.map fun x0 => .sc (.string x0)))]⟩
def z4U (a0 : DFA) (a1 : Int) : Option (List Int × List ByteArray) :=
  chk (¬ (a0.final.length : Int) < 0) <|
  chk (z3l 1 (zht .i64 1 (a0.final.length : Int))) <|
  chk (0 ≤ a1 ∧ a1 < (zht .i64 1 (a0.final.length : Int))) <|
  z1j (z6F a0) LFm (0, ((List.replicate (zht .i64 1 (a0.final.length : Int)).toNat (false : Bool)).set a1.toNat true), [a1], [ByteArray.empty])
theorem z8x {a0 : DFA} {a1 : Int} {r : List Int × List ByteArray} (h0 : z4U a0 a1 = some r) : L 57 [.agg [.sc (.int .i64 a0.letters), .sc (.int .i64 a0.start), .sl a0.final.length (a0.final.map fun x0 => .sc (.bool x0)), .sl a0.next.length (a0.next.map fun x0 => .sl x0.length (x0.map fun x1 => .sc (.int .i64 x1)))], .sc (.int .i64 a1)] = some (.tup [.os 1 r.1.length (r.1.map fun x0 => .sc (.int .i64 x0)), .os 1 r.2.length (r.2.map fun x0 => .sc (.string x0))], [.dead, .dead]) := by
  simp only [z4U] at h0
  refine z2l zuy zvY (z1l zyb ⟨of_decide_eq_true rfl, of_decide_eq_true rfl⟩ ?_)
  simp only [z1z, z1w, z1s, z1A, z2X]
  refine zq rfl (zr rfl rfl rfl (by simp; rfl) ?_)
  refine z0a (zq rfl ?_)
  obtain ⟨f84, h1⟩ := z1E h0
  obtain ⟨f85, h2⟩ := zsM h1
  refine zr rfl rfl rfl (by simp [f84, f85]; rfl) ?_
  refine z0a (zq rfl ?_)
  obtain ⟨f86, h3⟩ := z1E h2
  obtain ⟨f86a, f86b⟩ := f86
  have f86c : a1.toNat < (zht .i64 1 (a0.final.length : Int)).toNat := by omega
  have f86d : a1.toNat + 1 ≤ (zht .i64 1 (a0.final.length : Int)).toNat := by omega
  refine zr rfl rfl rfl (by simp [f85, f86a, f86b, f86c, f86d]; rfl) ?_
  refine z0a (zq rfl (zr rfl rfl rfl (by simp; rfl) ?_))
  refine z0a (zq rfl (zq rfl (zr rfl rfl rfl (by simp; rfl) ?_)))
  refine z0a (zb rfl (z0S h3 (z5e a0) rfl rfl (by simp [z5e]) fun s o1 h4 hr1 => ?_))
  obtain ⟨w77, w78, w79, w80⟩ := s
  simp only [z6F] at h4
  simp only [z5e]
  refine zq rfl (zq rfl (zr rfl rfl rfl (by simp; rfl) ?_))
  refine z0a ?_
  by_cases c139 : w77 < (w79.length : Int)
  ·rw [if_pos c139] at h4
   refine z0p rfl (by simp [c139]) (z0h rfl (z0a (zq rfl (zb rfl (zq rfl (zr rfl rfl rfl (by simp; rfl) ?_))))))
   refine z0a (zb rfl (z0S h4 (z4e a0 w77) rfl rfl (by simp [z4e]) fun s o2 h5 hr2 => ?_))
   obtain ⟨w105, w106, w107, w108⟩ := s
   simp only [z4f] at h5
   simp only [z4e]
   refine zq rfl (zr rfl rfl rfl (by simp; rfl) ?_)
   refine z0a (zq rfl ?_)
   by_cases c158 : w105 < a0.letters
   ·rw [if_pos c158] at h5
    refine z0p rfl (by simp [c158]) (z0h rfl (z0a (zq rfl (zb rfl (zq rfl (zr rfl rfl rfl (by simp; rfl) ?_))))))
    refine z0a (zq rfl ?_)
    obtain ⟨v114, f159, h6⟩ := z1r h5
    obtain ⟨v115, f160, h7⟩ := z0b h6
    have f160k := z6Z f160
    try simp at f160k
    refine z1D rfl rfl rfl rfl ?_; repeat' ((first | refine z0F rfl rfl fun Q' hQ => ?_ | refine z0w rfl fun Q' hQ => ?_); simp [f159, f160k]; refine hQ.out _ ?_; clear hQ; clear Q')
    refine z0a (zq rfl ?_)
    obtain ⟨v116, f161, h8⟩ := z1r h7
    refine zr rfl rfl rfl (by simp [f161]; rfl) ?_
    refine z0a ?_
    by_cases c162 : v116 = true
    ·rw [if_pos c162] at h8
     refine z0m rfl (by simp [c162]) (z0h rfl (z0k (z0a (zr rfl rfl rfl (by simp; rfl) ?_))))
     have ho := z0f h8
     refine z0j ho ?_
     simp [z4e, c162]
    ·rw [if_neg c162] at h8
     refine z0p rfl (by simp [c162]) (zq rfl (zr rfl rfl rfl (by simp [f161]; rfl) ?_))
     refine z0a (zq rfl ?_)
     obtain ⟨f163, h9⟩ := z8f h8
     refine zr rfl rfl rfl (by simp [f163]; rfl) ?_
     refine z0a ?_
     obtain ⟨v118, f164, h10⟩ := z1r h9
     obtain ⟨f165, h11⟩ := z1E h10
     obtain ⟨f166, h12⟩ := z8f h11
     refine z1D rfl rfl rfl rfl ?_; repeat' ((first | refine z0F rfl rfl fun Q' hQ => ?_ | refine z0w rfl fun Q' hQ => ?_); simp [f164, f165, f166]; refine hQ.out _ ?_; clear hQ; clear Q')
     refine z0k (z0a (zr rfl rfl rfl (by simp; rfl) ?_))
     have ho := z0f h12
     refine z0j ho ?_
     simp [z4e, c162]
   ·rw [if_neg c158] at h5
    refine z0m rfl (by simp [c158]) (z1m rfl (z0E ?_))
    obtain ⟨rr2, h6, ho2⟩ := z0g h5
    have hs2 := hr2 _ ho2
    subst hs2
    refine z0r ho2 (z0c rfl (z0k (z0a (zr rfl rfl rfl (by simp; rfl) ?_))))
    have ho := z0f h6
    refine z0j ho ?_
    simp [z5e]
  ·rw [if_neg c139] at h4
   refine z0m rfl (by simp [c139]) (z1m rfl (z0E ?_))
   obtain ⟨rr1, h5, ho1⟩ := z0g h4
   have hs1 := hr1 _ ho1
   subst hs1
   refine z0r ho1 (z0c rfl (z0a (zq rfl (zr rfl rfl rfl (by simp; rfl) ?_))))
   refine z0a (z0U rfl ?_)
   cases h5
   simp
def z4A (a0 : DFA) (w53 : Int) : Int × List Int × List ByteArray × (List (Int × Bool)) → Option ((Int × List Int × List ByteArray × (List (Int × Bool))) ⊕ ((Int × List Int × List ByteArray × (List (Int × Bool))) ⊕ (List Int × List ByteArray)))
  | (w73, w74, w75, w76) =>
  if w73 < a0.letters then
    (atI w74 w53).bind fun v80 =>
    (z4T a0 v80 w73).bind fun v81 =>
    if ((zmv v81 w76).getD false) = true then
      z0Y (IntKind.i64.wrap (w73 + 1), w74, w75, w76)
    else
      (atI w75 w53).bind fun v82 =>
      chk (z3i 8 (w74.length + 1)) <|
      chk (z9z v82 ⟨#[UInt8.ofNat (IntKind.u8.wrap (IntKind.i64.wrap (97 + w73))).toNat]⟩) <|
      chk (z3i 16 (w75.length + 1)) <|
      z0Y (IntKind.i64.wrap (w73 + 1), w74 ++ [v81], w75 ++ [v82 ++ ⟨#[UInt8.ofNat (IntKind.u8.wrap (IntKind.i64.wrap (97 + w73))).toNat]⟩], zjZ v81 true w76)
  else
    z1n <|
    z0Y (IntKind.i64.wrap (w53 + 1), w74, w75, w76)
def z4z (a0 : DFA) (w53 : Int) : Int × List Int × List ByteArray × (List (Int × Bool)) → Fr
  | (w73, w74, w75, w76) => ⟨62, [(2, .one (.a 2 [] (0))), (6, .one (.h 6 [])), (7, .one (.h 7 [])), (8, .one (.h 8 [])), (9, .one (.t none (.sc (.int .i64 w53)))), (10, .one (.t none (.sc (.int .i64 w73))))], [(2, .vr [.sc (.int .i64 a0.letters), .sc (.int .i64 a0.start), .sl a0.final.length (a0.final.map fun x0 => .sc (.bool x0)), .sl a0.next.length (a0.next.map fun x0 => .sl x0.length (x0.map fun x1 => .sc (.int .i64 x1)))]), (6, .os 1 w74.length (w74.map fun x0 => .sc (.int .i64 x0))), (7, .os 1 w75.length (w75.map fun x0 => .sc (.string x0))), (8, .mp (some .i64) (w76.map fun x0 => (.int .i64 x0.1, .bool x0.2)))]⟩
def z6S (a0 : DFA) : Int × List Int × List ByteArray × (List (Int × Bool)) → Option ((Int × List Int × List ByteArray × (List (Int × Bool))) ⊕ (List Int × List ByteArray))
  | (w53, w54, w55, w56) =>
  if w53 < (w54.length : Int) then
    z1j (z4A a0 w53) LFm (0, w54, w55, w56)
  else
    z1n <|
    some (w54, w55)
def z5D (a0 : DFA) : Int × List Int × List ByteArray × (List (Int × Bool)) → Fr
  | (w53, w54, w55, w56) => ⟨62, [(2, .one (.a 2 [] (0))), (6, .one (.h 6 [])), (7, .one (.h 7 [])), (8, .one (.h 8 [])), (9, .one (.t none (.sc (.int .i64 w53))))], [(2, .vr [.sc (.int .i64 a0.letters), .sc (.int .i64 a0.start), .sl a0.final.length (a0.final.map fun x0 => .sc (.bool x0)), .sl a0.next.length (a0.next.map fun x0 => .sl x0.length (x0.map fun x1 => .sc (.int .i64 x1)))]), (6, .os 1 w54.length (w54.map fun x0 => .sc (.int .i64 x0))), (7, .os 1 w55.length (w55.map fun x0 => .sc (.string x0))), (8, .mp (some .i64) (w56.map fun x0 => (.int .i64 x0.1, .bool x0.2)))]⟩
def z6A (a0 : DFA) (a1 : Int) : Option (List Int × List ByteArray) :=
  z1j (z6S a0) LFm (0, [a1], [ByteArray.empty], zjZ a1 true ([] : List (Int × Bool)))
theorem zeu {a0 : DFA} {a1 : Int} {r : List Int × List ByteArray} (h0 : z6A a0 a1 = some r) : L 43 [.agg [.sc (.int .i64 a0.letters), .sc (.int .i64 a0.start), .sl a0.final.length (a0.final.map fun x0 => .sc (.bool x0)), .sl a0.next.length (a0.next.map fun x0 => .sl x0.length (x0.map fun x1 => .sc (.int .i64 x1)))], .sc (.int .i64 a1)] = some (.tup [.os 1 r.1.length (r.1.map fun x0 => .sc (.int .i64 x0)), .os 1 r.2.length (r.2.map fun x0 => .sc (.string x0))], [.dead, .dead]) := by
  simp only [z6A] at h0
  refine z2l zuH zw7 (z1l zyk ⟨of_decide_eq_true rfl, of_decide_eq_true rfl⟩ ?_)
  simp only [z1z, z1w, z1s, z1A, z2X]
  refine zq rfl (zr rfl rfl rfl (by simp; rfl) ?_)
  refine z0a (zq rfl (zr rfl rfl rfl (by simp; rfl) ?_))
  refine z0a (zq rfl (zr rfl rfl rfl (by simp; rfl) ?_))
  refine z0a (zq rfl (zq rfl (zr rfl rfl rfl (by simp; rfl) ?_)))
  refine z0a (zb rfl (z0S h0 (z5D a0) rfl rfl (by simp [z5D]) fun s o1 h1 hr1 => ?_))
  obtain ⟨w53, w54, w55, w56⟩ := s
  simp only [z6S] at h1
  simp only [z5D]
  refine zq rfl (zq rfl (zr rfl rfl rfl (by simp; rfl) ?_))
  refine z0a ?_
  by_cases c118 : w53 < (w54.length : Int)
  ·rw [if_pos c118] at h1
   refine z0p rfl (by simp [c118]) (z0h rfl (z0a (zq rfl (zb rfl (zq rfl (zr rfl rfl rfl (by simp; rfl) ?_))))))
   refine z0a (zb rfl (z0S h1 (z4z a0 w53) rfl rfl (by simp [z4z]) fun s o2 h2 hr2 => ?_))
   obtain ⟨w73, w74, w75, w76⟩ := s
   simp only [z4A] at h2
   simp only [z4z]
   refine zq rfl (zq rfl (zr rfl rfl rfl (by simp; rfl) ?_))
   refine z0a ?_
   by_cases c135 : w73 < a0.letters
   ·rw [if_pos c135] at h2
    refine z0p rfl (by simp [c135]) (z0h rfl (z0a (zq rfl (zb rfl (zq rfl ?_)))))
    obtain ⟨v80, f136, h3⟩ := z1r h2
    obtain ⟨v81, f137, h4⟩ := z0b h3
    have f137k := z8p f137
    try simp at f137k
    refine z1D rfl rfl rfl rfl ?_; repeat' ((first | refine z0F rfl rfl fun Q' hQ => ?_ | refine z0w rfl fun Q' hQ => ?_); simp [f136, f137k]; refine hQ.out _ ?_; clear hQ; clear Q')
    refine z0a (zq rfl (zr rfl rfl rfl (by simp; rfl) ?_))
    refine z0a ?_
    by_cases c138 : ((zmv v81 w76).getD false) = true
    ·rw [if_pos c138] at h4
     refine z0m rfl (by simp [c138]) (z0h rfl (z0k (z0a (zr rfl rfl rfl (by simp; rfl) ?_))))
     have ho := z0f h4
     refine z0j ho ?_
     simp [z4z, c138]
    ·rw [if_neg c138] at h4
     refine z0p rfl (by simp [c138]) (zq rfl (zr rfl rfl rfl (by simp; rfl) ?_))
     refine z0a ?_
     obtain ⟨v82, f139, h5⟩ := z1r h4
     obtain ⟨f140, h6⟩ := z8f h5
     obtain ⟨f141, h7⟩ := z1E h6
     obtain ⟨f142, h8⟩ := z8f h7
     refine zk3 rfl rfl rfl rfl ?_
     refine z1F rfl rfl (by simp [z0d, z0e, f139, f140, f141, f142]; rfl) ?_
     refine z1F rfl rfl (by simp [z0d, z0e, f139, f140, f141, f142]; rfl) ?_
     refine z1F rfl rfl (by simp [z0d, z0e, f139, f140, f141, f142]; rfl) ?_
     refine z1F rfl rfl (by simp [z0d, z0e, f139, f140, f141, f142]; rfl) ?_
     refine z1F rfl rfl (by simp [z0d, z0e, f139, f140, f141, f142]; rfl) ?_
     refine z1F rfl rfl (by simp [z0d, z0e, f139, f140, f141, f142]; rfl) ?_
     refine z1F rfl rfl (by simp [z0d, z0e, f139, f140, f141, f142]; rfl) ?_
     refine z1F rfl rfl (by simp [z0d, z0e, f139, f140, f141, f142]; rfl) ?_
     refine z1F rfl rfl (by simp [z0d, z0e, f139, f140, f141, f142]; rfl) ?_
     refine z1F rfl rfl (by simp [z0d, z0e, f139, f140, f141, f142]; rfl) ?_
     refine z6R ?_
     refine z1F rfl rfl (by simp [z0d, z0e, f139, f140, f141, f142]; rfl) ?_
     refine z6R ?_
     refine z1F rfl rfl (by simp [z0d, z0e, f139, f140, f141, f142]; rfl) ?_
     refine z1F rfl rfl (by simp [z0d, z0e, f139, f140, f141, f142]; rfl) ?_
     refine z1F rfl rfl (by simp [z0d, z0e, f139, f140, f141, f142]; rfl) ?_
     refine z1F rfl rfl (by simp [z0d, z0e, f139, f140, f141, f142]; rfl) ?_
     refine z1F rfl rfl (by simp [z0d, z0e, f139, f140, f141, f142]; rfl) ?_
     refine z1F rfl rfl (by simp [z0d, z0e, f139, f140, f141, f142]; rfl) ?_
     refine z1F rfl rfl (by simp [z0d, z0e, f139, f140, f141, f142]; rfl) ?_
     refine z1F rfl rfl (by simp [z0d, z0e, f139, f140, f141, f142]; rfl) ?_
     refine z7S ?_
     refine ⟨?_, ?_⟩
     ·refine z1F rfl rfl (by simp [z0d, z0e, f139, f140, f141, f142]; rfl) ?_
      refine z1F rfl rfl (by simp [z0d, z0e, f139, f140, f141, f142]; rfl) ?_
      refine z1F rfl rfl (by simp [z0d, z0e, f139, f140, f141, f142]; rfl) ?_
      refine z6R ?_
      refine z1F rfl rfl (by simp [z0d, z0e, f139, f140, f141, f142]; rfl) ?_
      refine z1F rfl rfl (by simp [z0d, z0e, f139, f140, f141, f142]; rfl) ?_
      refine z1F rfl rfl (by simp [z0d, z0e, f139, f140, f141, f142]; rfl) ?_
      refine z1F rfl rfl (by simp [z0d, z0e, f139, f140, f141, f142]; rfl) ?_
      refine z1F rfl rfl (by simp [z0d, z0e, f139, f140, f141, f142]; rfl) ?_
      refine z7S ?_
      refine ⟨?_, ?_⟩
      ·refine z1F rfl rfl (by simp [z0d, z0e, f139, f140, f141, f142]; rfl) ?_
       refine z1F rfl rfl (by simp [z0d, z0e, f139, f140, f141, f142]; rfl) ?_
       refine z1F rfl rfl (by simp [z0d, z0e, f139, f140, f141, f142]; rfl) ?_
       refine z1F rfl rfl (by simp [z0d, z0e, f139, f140, f141, f142]; rfl) ?_
       refine z1F rfl rfl (by simp [z0d, z0e, f139, f140, f141, f142]; rfl) ?_
       refine z7S ?_
       simp [z7Z, f139, f140, f141, f142]
      simp [z7Z, f139, f140, f141, f142]
     refine ⟨?_, ?_⟩
     ·refine z1F rfl rfl (by simp [z0d, z0e, f139, f140, f141, f142]; rfl) ?_
      refine z1F rfl rfl (by simp [z0d, z0e, f139, f140, f141, f142]; rfl) ?_
      refine z1F rfl rfl (by simp [z0d, z0e, f139, f140, f141, f142]; rfl) ?_
      refine z6R ?_
      refine z1F rfl rfl (by simp [z0d, z0e, f139, f140, f141, f142]; rfl) ?_
      refine z6R ?_
      refine z1F rfl rfl (by simp [z0d, z0e, f139, f140, f141, f142]; rfl) ?_
      refine z1F rfl rfl (by simp [z0d, z0e, f139, f140, f141, f142]; rfl) ?_
      refine z1F rfl rfl (by simp [z0d, z0e, f139, f140, f141, f142]; rfl) ?_
      refine z1F rfl rfl (by simp [z0d, z0e, f139, f140, f141, f142]; rfl) ?_
      refine z1F rfl rfl (by simp [z0d, z0e, f139, f140, f141, f142]; rfl) ?_
      refine z7S ?_
      refine ⟨?_, ?_⟩
      ·refine z1F rfl rfl (by simp [z0d, z0e, f139, f140, f141, f142]; rfl) ?_
       refine z1F rfl rfl (by simp [z0d, z0e, f139, f140, f141, f142]; rfl) ?_
       refine z1F rfl rfl (by simp [z0d, z0e, f139, f140, f141, f142]; rfl) ?_
       refine z1F rfl rfl (by simp [z0d, z0e, f139, f140, f141, f142]; rfl) ?_
       refine z1F rfl rfl (by simp [z0d, z0e, f139, f140, f141, f142]; rfl) ?_
       refine z7S ?_
       simp [z7Z, f139, f140, f141, f142]
      refine ⟨?_, ?_⟩
      ·refine z1F rfl rfl (by simp [z0d, z0e, f139, f140, f141, f142]; rfl) ?_
       refine z1F rfl rfl (by simp [z0d, z0e, f139, f140, f141, f142]; rfl) ?_
       refine z1F rfl rfl (by simp [z0d, z0e, f139, f140, f141, f142]; rfl) ?_
       refine z1F rfl rfl (by simp [z0d, z0e, f139, f140, f141, f142]; rfl) ?_
       refine z1F rfl rfl (by simp [z0d, z0e, f139, f140, f141, f142]; rfl) ?_
       refine z1F rfl rfl (by simp [z0d, z0e, f139, f140, f141, f142]; rfl) ?_
       refine z7S ?_
       simp [z7Z, f139, f140, f141, f142]
      simp [z7Z, f139, f140, f141, f142]
     refine zjT rfl (by simp [f139, f140, f141, f142]; rfl) ?_
     refine z0k (z0a (zr rfl rfl rfl (by simp; rfl) ?_))
     have ho := z0f h8
     refine z0j ho ?_
     simp [z4z, c138]
   ·rw [if_neg c135] at h2
    refine z0m rfl (by simp [c135]) (z1m rfl (z0E ?_))
    obtain ⟨rr2, h3, ho2⟩ := z0g h2
    have hs2 := hr2 _ ho2
    subst hs2
    refine z0r ho2 (z0c rfl (z0k (z0a (zr rfl rfl rfl (by simp; rfl) ?_))))
    have ho := z0f h3
    refine z0j ho ?_
    simp [z5D]
  ·rw [if_neg c118] at h1
   refine z0m rfl (by simp [c118]) (z1m rfl (z0E ?_))
   obtain ⟨rr1, h2, ho1⟩ := z0g h1
   have hs1 := hr1 _ ho1
   subst hs1
   refine z0r ho1 (z0c rfl (z0a (zq rfl (zr rfl rfl rfl (by simp; rfl) ?_))))
   refine z0a (z0U rfl ?_)
   cases h2
   simp
def z4h (a1 : Int) (v18 : List Int × List ByteArray) : Int → Option (Int ⊕ (ByteArray × Bool × Int))
  | w22 =>
  if w22 < (v18.1.length : Int) then
    (atI v18.1 w22).bind fun v26 =>
    (z2O v26 a1).bind fun v27 =>
    if v27 = true then
      (atI v18.2 w22).bind fun v28 =>
      z1n <|
      some (v28, true, 0)
    else
      z0Y (IntKind.i64.wrap (w22 + 1))
  else
    z1n <|
    some (ByteArray.empty, false, 0)
def z5h (a1 : Int) (v18 : List Int × List ByteArray) : Int → Fr
  | w22 => ⟨50, [(1, .one (.t none (.sc (.int .i64 a1)))), (11, .one (.h 11 [])), (35, .one (.h 10 [])), (36, .one (.t none (.sc (.int .i64 (v18.1.length : Int))))), (37, .one (.t none (.sc (.int .i64 w22))))], [(11, .os 1 v18.2.length (v18.2.map fun x0 => .sc (.string x0))), (10, .os 1 v18.1.length (v18.1.map fun x0 => .sc (.int .i64 x0)))]⟩
def z6P (a0 : DFA) (a1 : Int) (a2 : Int) : Option (ByteArray × Bool × Int) :=
  (z3g a0).bind fun v15 =>
  if v15 = 0 then
    (z4g a0 a1).bind fun v16 =>
    if v16 = true then
      (z4g a0 a2).bind fun v17 =>
      if v17 = true then
        (z4U a0 a2).bind fun v18 =>
        z1j (z4h a1 v18) LFm 0
      else
        some (ByteArray.empty, false, 1)
    else
      some (ByteArray.empty, false, 1)
  else
    some (ByteArray.empty, false, v15)
theorem images_Below_ok {a0 : DFA} {a1 : Int} {a2 : Int} {r : ByteArray × Bool × Int} (h0 : z6P a0 a1 a2 = some r) : L 25 [.agg [.sc (.int .i64 a0.letters), .sc (.int .i64 a0.start), .sl a0.final.length (a0.final.map fun x0 => .sc (.bool x0)), .sl a0.next.length (a0.next.map fun x0 => .sl x0.length (x0.map fun x1 => .sc (.int .i64 x1)))], .sc (.int .i64 a1), .sc (.int .i64 a2)] = some (.tup [.sc (.string r.1), .sc (.bool r.2.1), .sc (.int .i64 r.2.2)], [.dead, .dead, .dead]) := by
  simp only [z6P] at h0
  refine z2l zuY zwn (z1l zyA ⟨of_decide_eq_true rfl, of_decide_eq_true rfl⟩ ?_)
  simp only [z1z, z1w, z1s, z1A, z2X]
  refine zq rfl (zr rfl rfl rfl (by simp; rfl) ?_)
  refine z0a (zq rfl (zq rfl ?_))
  obtain ⟨v15, f23, h1⟩ := z0b h0
  have f23k := z5d f23
  try simp at f23k
  refine zr rfl rfl rfl (by simp [f23k]; rfl) ?_
  refine z0a (zq rfl (zr rfl rfl rfl (by simp; rfl) ?_))
  refine z0a ?_
  by_cases c24 : v15 = 0
  ·rw [if_pos c24] at h1
   have c24e := eq_true c24
   refine z0m rfl (by simp [c24e]) (z0h rfl (z0a (zq rfl (zq rfl ?_))))
   obtain ⟨v16, f25, h2⟩ := z0b h1
   have f25k := z6H f25
   try simp at f25k
   by_cases c26 : v16 = true
   ·rw [if_pos c26] at h2
    obtain ⟨v17, f27, h3⟩ := z0b h2
    have f27k := z6H f27
    try simp at f27k
    refine zr rfl rfl rfl (by simp [f25k, c26, f27k]; rfl) ?_
    refine z0a ?_
    by_cases c28 : v17 = true
    ·rw [if_pos c28] at h3
     refine z0m rfl (by simp [c28]) (z0h rfl (z0a (zq rfl ?_)))
     obtain ⟨v18, f29, h4⟩ := z0b h3
     have f29k := z8x f29
     try simp at f29k
     refine zr rfl rfl rfl (by simp [f29k]; rfl) ?_
     refine z0a (zq rfl (zq rfl (zr rfl rfl rfl (by simp; rfl) ?_)))
     refine z0a (zb rfl (z0S h4 (z5h a1 v18) rfl rfl (by simp [z5h]) fun s o1 h5 hr1 => ?_))
     obtain ⟨w22, hs1⟩ : ∃ y, y = s := ⟨_, rfl⟩
     subst hs1
     simp only [z4h] at h5
     simp only [z5h]
     refine zq rfl (zr rfl rfl rfl (by simp; rfl) ?_)
     refine z0a (zq rfl ?_)
     by_cases c40 : w22 < (v18.1.length : Int)
     ·rw [if_pos c40] at h5
      refine z0p rfl (by simp [c40]) (z0h rfl (z0a (zq rfl (zb rfl (zq rfl ?_)))))
      obtain ⟨v26, f41, h6⟩ := z1r h5
      refine zr rfl rfl rfl (by simp [f41]; rfl) ?_
      refine z0a (zq rfl ?_)
      obtain ⟨v27, f42, h7⟩ := z0b h6
      have f42k := z3Y f42
      try simp at f42k
      refine zr rfl rfl rfl (by simp [f42k]; rfl) ?_
      refine z0a ?_
      by_cases c43 : v27 = true
      ·rw [if_pos c43] at h7
       refine z0p rfl (by simp [c43]) (zq rfl ?_)
       obtain ⟨v28, f44, h8⟩ := z1r h7
       refine zr rfl rfl rfl (by simp [f44]; rfl) ?_
       refine z0a (z0U rfl (z1c (z0n ?_)))
       obtain ⟨rr1, h9, ho1⟩ := z0g h8
       have hs1 := hr1 _ ho1
       subst hs1
       refine z2i ho1 (z1c (z0n ?_))
       cases h9
       simp [c43]
      ·rw [if_neg c43] at h7
       refine z0m rfl (by simp [c43]) (z0h rfl (z0k (z0a (zr rfl rfl rfl (by simp; rfl) ?_))))
       have ho := z0f h7
       refine z0j ho ?_
       simp [z5h, c43]
     ·rw [if_neg c40] at h5
      refine z0m rfl (by simp [c40]) (z1m rfl (z0E ?_))
      obtain ⟨rr1, h6, ho1⟩ := z0g h5
      have hs1 := hr1 _ ho1
      subst hs1
      refine z0r ho1 (z0c rfl (z0a (zq rfl (zr rfl rfl rfl (by simp; rfl) ?_))))
      refine z0a (z0U rfl ?_)
      cases h6
      simp
    ·rw [if_neg c28] at h3
     refine z0p rfl (by simp [c28]) (zq rfl (zr rfl rfl rfl (by simp; rfl) ?_))
     refine z0a (z0U rfl (z0n ?_))
     cases h3
     simp [c26, c28]
   ·rw [if_neg c26] at h2
    refine zr rfl rfl rfl (by simp [f25k, c26]; rfl) ?_
    refine z0a (z0p rfl (by simp) (zq rfl (zr rfl rfl rfl (by simp; rfl) ?_)))
    refine z0a (z0U rfl (z0n ?_))
    cases h2
    simp [c26]
  ·rw [if_neg c24] at h1
   have c24e := eq_false c24
   refine z0p rfl (by simp [c24e]) (zq rfl (zr rfl rfl rfl (by simp; rfl) ?_))
   refine z0a (z0U rfl (z0n ?_))
   cases h1
   simp
def z4B (a1 : Int) (v15 : List Int × List ByteArray) : Int → Option (Int ⊕ (ByteArray × Bool × Int))
  | w18 =>
  if w18 < (v15.1.length : Int) then
    (atI v15.1 w18).bind fun v21 =>
    if (z2n .i64 a1 v21) = a1 then
      (atI v15.2 w18).bind fun v22 =>
      z1n <|
      some (v22, true, 0)
    else
      z0Y (IntKind.i64.wrap (w18 + 1))
  else
    z1n <|
    some (ByteArray.empty, false, 0)
def z5E (a1 : Int) (v15 : List Int × List ByteArray) : Int → Fr
  | w18 => ⟨52, [(1, .one (.t none (.sc (.int .i64 a1)))), (11, .one (.h 11 [])), (35, .one (.h 10 [])), (36, .one (.t none (.sc (.int .i64 (v15.1.length : Int))))), (37, .one (.t none (.sc (.int .i64 w18))))], [(11, .os 1 v15.2.length (v15.2.map fun x0 => .sc (.string x0))), (10, .os 1 v15.1.length (v15.1.map fun x0 => .sc (.int .i64 x0)))]⟩
def z7I (a0 : DFA) (a1 : Int) (a2 : Int) : Option (ByteArray × Bool × Int) :=
  (z7o a0).bind fun v12 =>
  if v12 = 0 then
    (z4O a0 a1).bind fun v13 =>
    if v13 = true then
      (z4O a0 a2).bind fun v14 =>
      if v14 = true then
        (z6A a0 a2).bind fun v15 =>
        z1j (z4B a1 v15) LFm 0
      else
        some (ByteArray.empty, false, 1)
    else
      some (ByteArray.empty, false, 1)
  else
    some (ByteArray.empty, false, v12)
theorem ref24_Below_ok {a0 : DFA} {a1 : Int} {a2 : Int} {r : ByteArray × Bool × Int} (h0 : z7I a0 a1 a2 = some r) : L 26 [.agg [.sc (.int .i64 a0.letters), .sc (.int .i64 a0.start), .sl a0.final.length (a0.final.map fun x0 => .sc (.bool x0)), .sl a0.next.length (a0.next.map fun x0 => .sl x0.length (x0.map fun x1 => .sc (.int .i64 x1)))], .sc (.int .i64 a1), .sc (.int .i64 a2)] = some (.tup [.sc (.string r.1), .sc (.bool r.2.1), .sc (.int .i64 r.2.2)], [.dead, .dead, .dead]) := by
  simp only [z7I] at h0
  refine z2l zuX zwm (z1l zyz ⟨of_decide_eq_true rfl, of_decide_eq_true rfl⟩ ?_)
  simp only [z1z, z1w, z1s, z1A, z2X]
  refine zq rfl (zr rfl rfl rfl (by simp; rfl) ?_)
  refine z0a (zq rfl (zq rfl ?_))
  obtain ⟨v12, f20, h1⟩ := z0b h0
  have f20k := zcl f20
  try simp at f20k
  refine zr rfl rfl rfl (by simp [f20k]; rfl) ?_
  refine z0a (zq rfl (zr rfl rfl rfl (by simp; rfl) ?_))
  refine z0a ?_
  by_cases c21 : v12 = 0
  ·rw [if_pos c21] at h1
   have c21e := eq_true c21
   refine z0m rfl (by simp [c21e]) (z0h rfl (z0a (zq rfl (zq rfl ?_))))
   obtain ⟨v13, f22, h2⟩ := z0b h1
   have f22k := z6T f22
   try simp at f22k
   by_cases c23 : v13 = true
   ·rw [if_pos c23] at h2
    obtain ⟨v14, f24, h3⟩ := z0b h2
    have f24k := z6T f24
    try simp at f24k
    refine zr rfl rfl rfl (by simp [f22k, c23, f24k]; rfl) ?_
    refine z0a ?_
    by_cases c25 : v14 = true
    ·rw [if_pos c25] at h3
     refine z0m rfl (by simp [c25]) (z0h rfl (z0a (zq rfl ?_)))
     obtain ⟨v15, f26, h4⟩ := z0b h3
     have f26k := zeu f26
     try simp at f26k
     refine zr rfl rfl rfl (by simp [f26k]; rfl) ?_
     refine z0a (zq rfl (zq rfl (zr rfl rfl rfl (by simp; rfl) ?_)))
     refine z0a (zb rfl (z0S h4 (z5E a1 v15) rfl rfl (by simp [z5E]) fun s o1 h5 hr1 => ?_))
     obtain ⟨w18, hs1⟩ : ∃ y, y = s := ⟨_, rfl⟩
     subst hs1
     simp only [z4B] at h5
     simp only [z5E]
     refine zq rfl (zr rfl rfl rfl (by simp; rfl) ?_)
     refine z0a (zq rfl ?_)
     by_cases c35 : w18 < (v15.1.length : Int)
     ·rw [if_pos c35] at h5
      refine z0p rfl (by simp [c35]) (z0h rfl (z0a (zq rfl (zb rfl (zq rfl ?_)))))
      obtain ⟨v21, f36, h6⟩ := z1r h5
      refine zr rfl rfl rfl (by simp [f36]; rfl) ?_
      refine z0a (zq rfl (zr rfl rfl rfl (by simp; rfl) ?_))
      refine z0a ?_
      by_cases c37 : (z2n .i64 a1 v21) = a1
      ·rw [if_pos c37] at h6
       have c37e := eq_true c37
       refine z0p rfl (by simp [c37e]) (zq rfl ?_)
       obtain ⟨v22, f38, h7⟩ := z1r h6
       refine zr rfl rfl rfl (by simp [f38]; rfl) ?_
       refine z0a (z0U rfl (z1c (z0n ?_)))
       obtain ⟨rr1, h8, ho1⟩ := z0g h7
       have hs1 := hr1 _ ho1
       subst hs1
       refine z2i ho1 (z1c (z0n ?_))
       cases h8
       simp
      ·rw [if_neg c37] at h6
       have c37e := eq_false c37
       refine z0m rfl (by simp [c37e]) (z0h rfl (z0k (z0a (zr rfl rfl rfl (by simp; rfl) ?_))))
       have ho := z0f h6
       refine z0j ho ?_
       simp [z5E]
     ·rw [if_neg c35] at h5
      refine z0m rfl (by simp [c35]) (z1m rfl (z0E ?_))
      obtain ⟨rr1, h6, ho1⟩ := z0g h5
      have hs1 := hr1 _ ho1
      subst hs1
      refine z0r ho1 (z0c rfl (z0a (zq rfl (zr rfl rfl rfl (by simp; rfl) ?_))))
      refine z0a (z0U rfl ?_)
      cases h6
      simp
    ·rw [if_neg c25] at h3
     refine z0p rfl (by simp [c25]) (zq rfl (zr rfl rfl rfl (by simp; rfl) ?_))
     refine z0a (z0U rfl (z0n ?_))
     cases h3
     simp [c23, c25]
   ·rw [if_neg c23] at h2
    refine zr rfl rfl rfl (by simp [f22k, c23]; rfl) ?_
    refine z0a (z0p rfl (by simp) (zq rfl (zr rfl rfl rfl (by simp; rfl) ?_)))
    refine z0a (z0U rfl (z0n ?_))
    cases h2
    simp [c23]
  ·rw [if_neg c21] at h1
   have c21e := eq_false c21
   refine z0p rfl (by simp [c21e]) (zq rfl (zr rfl rfl rfl (by simp; rfl) ?_))
   refine z0a (z0U rfl (z0n ?_))
   cases h1
   simp
def zay : Int × Int → Option ((Int × Int) ⊕ Int)
  | (w3, w4) =>
  if 0 < w3 then
    chk (¬ 1 < 0) <|
    z0Y (z0X .i64 w3 1, IntKind.i64.wrap (w4 + (z2n .i64 w3 1)))
  else
    z1n <|
    some w4
def z5Z : Int × Int → Fr
  | (w3, w4) => ⟨13, [(0, .one (.t none (.sc (.int .i64 w3)))), (3, .one (.t none (.sc (.int .i64 w4))))], []⟩
def zfw (a0 : Int) : Option (Int) :=
  z1j (zay) LFm (a0, 0)
theorem ref24_Size_ok {a0 : Int} {r : Int} (h0 : zfw a0 = some r) : L 18 [.sc (.int .i64 a0)] = some (.sc (.int .i64 r), [.dead]) := by
  simp only [zfw] at h0
  refine z2l zv3 zws (z1l zyF ⟨of_decide_eq_true rfl, of_decide_eq_true rfl⟩ ?_)
  simp only [z1z, z1w, z1s, z1A, z2X]
  refine zq rfl (zr rfl rfl rfl (by simp; rfl) ?_)
  refine z0a (zq rfl (zr rfl rfl rfl (by simp; rfl) ?_))
  refine z0a (zq rfl (zb rfl (z0S h0 z5Z rfl rfl (by simp [z5Z]) fun s o1 h1 hr1 => ?_)))
  obtain ⟨w3, w4⟩ := s
  simp only [zay] at h1
  simp only [z5Z]
  refine zq rfl (zq rfl (zr rfl rfl rfl (by simp; rfl) ?_))
  refine z0a ?_
  by_cases c11 : 0 < w3
  ·rw [if_pos c11] at h1
   refine z0p rfl (by simp [c11]) (z0h rfl (z0a (zq rfl (zb rfl (zr rfl rfl rfl (by simp; rfl) ?_)))))
   refine z0k (z0a ?_)
   obtain ⟨f12, h2⟩ := z1E h1
   refine zr rfl rfl rfl (by simp [f12]; rfl) ?_
   have ho := z0f h2
   refine z0j ho ?_
   simp [z5Z]
  ·rw [if_neg c11] at h1
   refine z0m rfl (by simp [c11]) (z1m rfl (z0E ?_))
   obtain ⟨rr1, h2, ho1⟩ := z0g h1
   have hs1 := hr1 _ ho1
   subst hs1
   refine z0r ho1 (z0c rfl (z0a (zq rfl (zr rfl rfl rfl (by simp; rfl) ?_))))
   refine z0a (z0U rfl ?_)
   cases h2
   simp
def z2I (a0 : Int) : Option (Int) :=
  chk (¬ 1 < 0) <|
  chk (¬ 2 < 0) <|
  chk (¬ 4 < 0) <|
  chk (¬ 8 < 0) <|
  chk (¬ 16 < 0) <|
  chk (¬ 32 < 0) <|
  some (z2n .i64 (IntKind.i64.wrap (IntKind.u64.wrap ((IntKind.u64.wrap ((IntKind.u64.wrap ((z2n .u64 (IntKind.u64.wrap ((z0X .u64 (IntKind.u64.wrap ((z2n .u64 (z0X .u64 (IntKind.u64.wrap ((z2n .u64 (z0X .u64 a0 1) 6148914691236517205) + (z2n .u64 a0 6148914691236517205))) 2) 3689348814741910323) + (z2n .u64 (IntKind.u64.wrap ((z2n .u64 (z0X .u64 a0 1) 6148914691236517205) + (z2n .u64 a0 6148914691236517205))) 3689348814741910323))) 4) + (IntKind.u64.wrap ((z2n .u64 (z0X .u64 (IntKind.u64.wrap ((z2n .u64 (z0X .u64 a0 1) 6148914691236517205) + (z2n .u64 a0 6148914691236517205))) 2) 3689348814741910323) + (z2n .u64 (IntKind.u64.wrap ((z2n .u64 (z0X .u64 a0 1) 6148914691236517205) + (z2n .u64 a0 6148914691236517205))) 3689348814741910323))))) 1085102592571150095) + (z0X .u64 (z2n .u64 (IntKind.u64.wrap ((z0X .u64 (IntKind.u64.wrap ((z2n .u64 (z0X .u64 (IntKind.u64.wrap ((z2n .u64 (z0X .u64 a0 1) 6148914691236517205) + (z2n .u64 a0 6148914691236517205))) 2) 3689348814741910323) + (z2n .u64 (IntKind.u64.wrap ((z2n .u64 (z0X .u64 a0 1) 6148914691236517205) + (z2n .u64 a0 6148914691236517205))) 3689348814741910323))) 4) + (IntKind.u64.wrap ((z2n .u64 (z0X .u64 (IntKind.u64.wrap ((z2n .u64 (z0X .u64 a0 1) 6148914691236517205) + (z2n .u64 a0 6148914691236517205))) 2) 3689348814741910323) + (z2n .u64 (IntKind.u64.wrap ((z2n .u64 (z0X .u64 a0 1) 6148914691236517205) + (z2n .u64 a0 6148914691236517205))) 3689348814741910323))))) 1085102592571150095) 8))) + (z0X .u64 (IntKind.u64.wrap ((z2n .u64 (IntKind.u64.wrap ((z0X .u64 (IntKind.u64.wrap ((z2n .u64 (z0X .u64 (IntKind.u64.wrap ((z2n .u64 (z0X .u64 a0 1) 6148914691236517205) + (z2n .u64 a0 6148914691236517205))) 2) 3689348814741910323) + (z2n .u64 (IntKind.u64.wrap ((z2n .u64 (z0X .u64 a0 1) 6148914691236517205) + (z2n .u64 a0 6148914691236517205))) 3689348814741910323))) 4) + (IntKind.u64.wrap ((z2n .u64 (z0X .u64 (IntKind.u64.wrap ((z2n .u64 (z0X .u64 a0 1) 6148914691236517205) + (z2n .u64 a0 6148914691236517205))) 2) 3689348814741910323) + (z2n .u64 (IntKind.u64.wrap ((z2n .u64 (z0X .u64 a0 1) 6148914691236517205) + (z2n .u64 a0 6148914691236517205))) 3689348814741910323))))) 1085102592571150095) + (z0X .u64 (z2n .u64 (IntKind.u64.wrap ((z0X .u64 (IntKind.u64.wrap ((z2n .u64 (z0X .u64 (IntKind.u64.wrap ((z2n .u64 (z0X .u64 a0 1) 6148914691236517205) + (z2n .u64 a0 6148914691236517205))) 2) 3689348814741910323) + (z2n .u64 (IntKind.u64.wrap ((z2n .u64 (z0X .u64 a0 1) 6148914691236517205) + (z2n .u64 a0 6148914691236517205))) 3689348814741910323))) 4) + (IntKind.u64.wrap ((z2n .u64 (z0X .u64 (IntKind.u64.wrap ((z2n .u64 (z0X .u64 a0 1) 6148914691236517205) + (z2n .u64 a0 6148914691236517205))) 2) 3689348814741910323) + (z2n .u64 (IntKind.u64.wrap ((z2n .u64 (z0X .u64 a0 1) 6148914691236517205) + (z2n .u64 a0 6148914691236517205))) 3689348814741910323))))) 1085102592571150095) 8))) 16))) + (z0X .u64 (IntKind.u64.wrap ((IntKind.u64.wrap ((z2n .u64 (IntKind.u64.wrap ((z0X .u64 (IntKind.u64.wrap ((z2n .u64 (z0X .u64 (IntKind.u64.wrap ((z2n .u64 (z0X .u64 a0 1) 6148914691236517205) + (z2n .u64 a0 6148914691236517205))) 2) 3689348814741910323) + (z2n .u64 (IntKind.u64.wrap ((z2n .u64 (z0X .u64 a0 1) 6148914691236517205) + (z2n .u64 a0 6148914691236517205))) 3689348814741910323))) 4) + (IntKind.u64.wrap ((z2n .u64 (z0X .u64 (IntKind.u64.wrap ((z2n .u64 (z0X .u64 a0 1) 6148914691236517205) + (z2n .u64 a0 6148914691236517205))) 2) 3689348814741910323) + (z2n .u64 (IntKind.u64.wrap ((z2n .u64 (z0X .u64 a0 1) 6148914691236517205) + (z2n .u64 a0 6148914691236517205))) 3689348814741910323))))) 1085102592571150095) + (z0X .u64 (z2n .u64 (IntKind.u64.wrap ((z0X .u64 (IntKind.u64.wrap ((z2n .u64 (z0X .u64 (IntKind.u64.wrap ((z2n .u64 (z0X .u64 a0 1) 6148914691236517205) + (z2n .u64 a0 6148914691236517205))) 2) 3689348814741910323) + (z2n .u64 (IntKind.u64.wrap ((z2n .u64 (z0X .u64 a0 1) 6148914691236517205) + (z2n .u64 a0 6148914691236517205))) 3689348814741910323))) 4) + (IntKind.u64.wrap ((z2n .u64 (z0X .u64 (IntKind.u64.wrap ((z2n .u64 (z0X .u64 a0 1) 6148914691236517205) + (z2n .u64 a0 6148914691236517205))) 2) 3689348814741910323) + (z2n .u64 (IntKind.u64.wrap ((z2n .u64 (z0X .u64 a0 1) 6148914691236517205) + (z2n .u64 a0 6148914691236517205))) 3689348814741910323))))) 1085102592571150095) 8))) + (z0X .u64 (IntKind.u64.wrap ((z2n .u64 (IntKind.u64.wrap ((z0X .u64 (IntKind.u64.wrap ((z2n .u64 (z0X .u64 (IntKind.u64.wrap ((z2n .u64 (z0X .u64 a0 1) 6148914691236517205) + (z2n .u64 a0 6148914691236517205))) 2) 3689348814741910323) + (z2n .u64 (IntKind.u64.wrap ((z2n .u64 (z0X .u64 a0 1) 6148914691236517205) + (z2n .u64 a0 6148914691236517205))) 3689348814741910323))) 4) + (IntKind.u64.wrap ((z2n .u64 (z0X .u64 (IntKind.u64.wrap ((z2n .u64 (z0X .u64 a0 1) 6148914691236517205) + (z2n .u64 a0 6148914691236517205))) 2) 3689348814741910323) + (z2n .u64 (IntKind.u64.wrap ((z2n .u64 (z0X .u64 a0 1) 6148914691236517205) + (z2n .u64 a0 6148914691236517205))) 3689348814741910323))))) 1085102592571150095) + (z0X .u64 (z2n .u64 (IntKind.u64.wrap ((z0X .u64 (IntKind.u64.wrap ((z2n .u64 (z0X .u64 (IntKind.u64.wrap ((z2n .u64 (z0X .u64 a0 1) 6148914691236517205) + (z2n .u64 a0 6148914691236517205))) 2) 3689348814741910323) + (z2n .u64 (IntKind.u64.wrap ((z2n .u64 (z0X .u64 a0 1) 6148914691236517205) + (z2n .u64 a0 6148914691236517205))) 3689348814741910323))) 4) + (IntKind.u64.wrap ((z2n .u64 (z0X .u64 (IntKind.u64.wrap ((z2n .u64 (z0X .u64 a0 1) 6148914691236517205) + (z2n .u64 a0 6148914691236517205))) 2) 3689348814741910323) + (z2n .u64 (IntKind.u64.wrap ((z2n .u64 (z0X .u64 a0 1) 6148914691236517205) + (z2n .u64 a0 6148914691236517205))) 3689348814741910323))))) 1085102592571150095) 8))) 16))) 32)))) 127)
theorem z7q {a0 : Int} {r : Int} (h0 : z2I a0 = some r) : L 91 [.sc (.int .u64 a0)] = some (.sc (.int .i64 r), [.dead]) := by
  simp only [z2I] at h0
  refine z2l zug zvG (z1l zxT ⟨of_decide_eq_true rfl, of_decide_eq_true rfl⟩ ?_)
  simp only [z1z, z1w, z1s, z1A, z2X]
  refine zq rfl (zr rfl rfl rfl (by simp; rfl) ?_)
  refine z0a (zq rfl ?_)
  obtain ⟨f7, h1⟩ := z1E h0
  refine zr rfl rfl rfl (by simp [f7]; rfl) ?_
  refine z0a (zq rfl ?_)
  obtain ⟨f8, h2⟩ := z1E h1
  refine zr rfl rfl rfl (by simp [f8]; rfl) ?_
  refine z0a (zq rfl ?_)
  obtain ⟨f9, h3⟩ := z1E h2
  refine zr rfl rfl rfl (by simp [f9]; rfl) ?_
  refine z0a (zq rfl ?_)
  obtain ⟨f10, h4⟩ := z1E h3
  refine zr rfl rfl rfl (by simp [f10]; rfl) ?_
  refine z0a (zq rfl ?_)
  obtain ⟨f11, h5⟩ := z1E h4
  refine zr rfl rfl rfl (by simp [f11]; rfl) ?_
  refine z0a (zq rfl ?_)
  obtain ⟨f12, h6⟩ := z1E h5
  refine zr rfl rfl rfl (by simp [f12]; rfl) ?_
  refine z0a (zq rfl (zr rfl rfl rfl (by simp; rfl) ?_))
  refine z0a (z0U rfl ?_)
  cases h6
  simp
def z3R (a0 : Int) : Option (Int) :=
  (z2I a0).bind fun v2 =>
  some v2
theorem z8a {a0 : Int} {r : Int} (h0 : z3R a0 = some r) : L 78 [.sc (.int .u64 a0)] = some (.sc (.int .i64 r), [.dead]) := by
  simp only [z3R] at h0
  refine z2l zuj zvJ (z1l zxW ⟨of_decide_eq_true rfl, of_decide_eq_true rfl⟩ ?_)
  simp only [z1z, z1w, z1s, z1A, z2X]
  refine zq rfl (zr rfl rfl rfl (by simp; rfl) ?_)
  refine z0a (zq rfl (z0m rfl (by simp) (z0h rfl (z0a (zq rfl ?_)))))
  obtain ⟨v2, f2, h1⟩ := z0b h0
  have f2k := z7q f2
  try simp at f2k
  refine zr rfl rfl rfl (by simp [f2k]; rfl) ?_
  refine z0a (z0U rfl ?_)
  cases h1
  simp
def z5w (a0 : Int) : Option (Int) :=
  (z3R (IntKind.u64.wrap a0)).bind fun v2 =>
  some v2
theorem z9H {a0 : Int} {r : Int} (h0 : z5w a0 = some r) : L 68 [.sc (.int .i64 a0)] = some (.sc (.int .i64 r), [.dead]) := by
  simp only [z5w] at h0
  refine z2l zuq zvQ (z1l zy3 ⟨of_decide_eq_true rfl, of_decide_eq_true rfl⟩ ?_)
  simp only [z1z, z1w, z1s, z1A, z2X]
  refine zq rfl (zr rfl rfl rfl (by simp; rfl) ?_)
  refine z0a (zq rfl ?_)
  obtain ⟨v2, f2, h1⟩ := z0b h0
  have f2k := z8a f2
  try simp at f2k
  refine zr rfl rfl rfl (by simp [f2k]; rfl) ?_
  refine z0a (z0U rfl ?_)
  cases h1
  simp
end
end Go.Proofs.Ytbnnipkanechoaa
end

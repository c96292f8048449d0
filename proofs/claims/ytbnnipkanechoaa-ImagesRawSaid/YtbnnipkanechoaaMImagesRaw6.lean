/- Proved here: the law ImagesRaw returns true for every input, and its arguments read afterwards as before. No condition. -/
import Derived.Test.YtbnnipkanechoaaMImagesRaw5
import Derived.ChangeArms
import Derived.WalkKit
import Derived.WalkSpells
import Derived.WalkLawsBesides
import Derived.Lib.Hide
import Derived.Deep.OwnRows
import Derived.Deep.RegionLaw
import Derived.Shelf.Small.Bits
import Derived.Shelf.Strconv.Itoa0
import Derived.Ground.Names2Prog
import Derived.Shelf.Slices.SearchI
import Derived.Ground.SlgcProg
import Derived.Shelf.SlicesG.Cmp
import Derived.Ground.SlsfProg
import Derived.Shelf.SlSortCmp.Insertion
import Derived.Shelf.SlSortCmp.SiftDown1
import Derived.Shelf.SlSortCmp.HeapSort1
import Derived.Shelf.SlSortCmp.Insertion1
import Derived.Shelf.SlSortCmp.Median1
import Derived.Shelf.SlSortCmp.Pivot1
import Derived.Shelf.SlSortCmp.ReverseRange1
import Derived.Shelf.SlSortCmp.PartialInsertion1
import Derived.Shelf.SlSortCmp.PartitionEqual1
import Derived.Shelf.SlSortCmp.Partition1
import Derived.Shelf.SlSortCmp.Pdq1
import Derived.Shelf.SlSortCmp.Whole1
import Derived.Test.YtbnnipkanechoaaProg
import Derived.Test.YtbnnipkanechoaaRows
import Derived.Test.YtbnnipkanechoaaChecked
import Derived.ProofKit
import Derived.OpenShut
import Derived.ShutString
import Derived.ChangeOld
import Derived.Below
import Derived.Deep.DeepHandedRow
set_option linter.unusedVariables false
set_option linter.unusedSimpArgs false
section
namespace Go.Proofs.Ytbnnipkanechoaa
open Go.ChangeShapes Go.WideShapes Go.RowKit
section
variable {H : Type} {enc : TypeId × Value -> H} {P : Program} {w : World}
def Opn (enc : TypeId × Value -> H) (P : Program) (w : World) (t : TypeId) {α : Type} (g : α -> List T) : Prop :=
  ∀ (fuel : Nat) (cs : List Value) (x : DataW H × List MemPlace), DataW.trod enc P w 0 (fun _ => true) true fuel t cs = some x -> ∃ a : α, cs.length = (g a).length /\ ∀ j s, (g a)[j]? = some s -> TRep w KZ [] (cs.getD j undef) s
theorem zcm {α : Type} {x s : α} {j : Nat} (h : ([x] : List α)[j]? = some s) : j = 0 /\ s = x := by
  match j, h with
  | 0, h => exact ⟨rfl, by simpa using h.symm⟩
theorem Opn.int {t : TypeId} {k : IntKind} (ht : P.underlying t = some (.int k)) : Opn enc P w t (fun x : Int => [T.sc (.int k x)]) := fun fuel cs x h => by
  obtain ⟨m, rfl, _⟩ := DataW.trod_int ht h
  exact ⟨m, rfl, fun j s hj => by
    obtain ⟨rfl, rfl⟩ := zcm hj
    exact .sc _ _ rfl⟩
theorem Opn.string {t : TypeId} (ht : P.underlying t = some .string) : Opn enc P w t (fun x : ByteArray => [T.sc (.string x)]) := fun fuel cs x h => by
  obtain ⟨m, rfl, _⟩ := DataW.trod_string ht h
  exact ⟨m, rfl, fun j s hj => by
    obtain ⟨rfl, rfl⟩ := zcm hj
    exact .sc _ _ rfl⟩
theorem Opn.bool {t : TypeId} (ht : P.underlying t = some .bool) : Opn enc P w t (fun x : Bool => [T.sc (.bool x)]) := fun fuel cs x h => by
  obtain ⟨m, rfl, _⟩ := DataW.trod_bool ht h
  exact ⟨m, rfl, fun j s hj => by
    obtain ⟨rfl, rfl⟩ := zcm hj
    exact .sc _ _ rfl⟩
theorem zls (g o x : Nat) : (⟨g, o, none⟩ : Addr).add x = ⟨g, o + x, none⟩ := by
  unfold Addr.add
  split
  · rename_i h; subst h; rfl
  · rfl
theorem znP {a : Addr} {v : Value} (h : w.cell? a = some v) : a.spot = none := by
  unfold World.cell? at h
  split at h
  · split at h
    · cases h
    · rename_i hh
      simpa using hh
  · cases h
theorem Opn.slice {t e : TypeId} {α : Type} {g : α -> List T} {m : Nat} (ht : P.underlying t = some (.slice e)) (he : Opn enc P w e g) (hg : ∀ a, (g a).length = m) (hc : P.cellsOf e = m) (hm : 0 < m) :
    Opn enc P w t (fun xs : List α => [T.sl xs.length (xs.flatMap g)]) := fun fuel cs x h => by
  rcases DataW.trod_slice ht h with ⟨rfl, _⟩ | ⟨a, len, cap, elems, rest, n, _, rfl, _, _, hl, hcm, hlen, hel, _, _⟩
  · refine ⟨[], rfl, fun j s hj => ?_⟩
    obtain ⟨rfl, rfl⟩ := zcm hj
    exact .emp _ _ _ (by decide)
  by_cases h0 : len = 0
  · subst h0
    refine ⟨[], rfl, fun j s hj => ?_⟩
    obtain ⟨rfl, rfl⟩ := zcm hj
    exact .emp _ _ _ hcm
  rw [hc] at hel
  have each : ∀ i : Fin len, ∃ y : α, ∀ j s, (g y)[j]? = some s -> ∃ v, w.cell? ((a.add (i.1 * m)).add j) = some v /\ TRep w KZ [] v s := fun i => by
    have h1 := hel i.1 i.2
    have hi : i.1 < elems.length := by have := i.2; omega
    rw [List.getElem?_eq_getElem hi, Option.bind_eq_some_iff] at h1
    obtain ⟨ci, c1, c2⟩ := h1
    obtain ⟨y, y1, y2⟩ := he n ci _ c2
    obtain ⟨_, c3, c4⟩ := World.cells?_some c1
    refine ⟨y, fun j s hj => ?_⟩
    have hjm : j < m := by have := (List.getElem?_eq_some_iff.1 hj).1; rw [hg] at this; exact this
    have hjl : j < ci.length := by omega
    refine ⟨ci.getD j undef, ?_, y2 j s hj⟩
    rw [c4 j hjm, List.getElem?_eq_getElem hjl]
    simp [List.getD, List.getElem?_eq_getElem hjl]
  obtain ⟨f, hf⟩ := Classical.axiomOfChoice each
  have hpos : 0 < len := by omega
  have hsp : a.spot = none := by
    have hj0 : ∃ s, (g (f ⟨0, hpos⟩))[0]? = some s := ⟨_, List.getElem?_eq_getElem (by rw [hg]; exact hm)⟩
    obtain ⟨s, hs⟩ := hj0
    obtain ⟨v, hv, _⟩ := hf ⟨0, hpos⟩ 0 s hs
    have e : (a.add (0 * m)).add 0 = a := by simp [Addr.add]
    rw [e] at hv
    exact znP hv
  obtain ⟨b, o, sp⟩ := a
  simp only at hsp
  subst hsp
  have hxl : (List.ofFn f).length = len := by simp
  have hat : ∀ k s, ((List.ofFn f).flatMap g)[k]? = some s -> ∃ v, w.cell? ⟨b, o + k, none⟩ = some v /\ TRep w KZ [] v s := fun k s hk => by
    have hkl := (List.getElem?_eq_some_iff.1 hk).1
    rw [zgJ hg, hxl] at hkl
    have hi : k / m < len := (Nat.div_lt_iff_lt_mul hm).2 hkl
    have hj : k % m < m := Nat.mod_lt _ hm
    have hkm : k / m * m + k % m = k := by rw [Nat.mul_comm]; exact Nat.div_add_mod k m
    have hx : (List.ofFn f)[k / m]? = some (f ⟨k / m, hi⟩) := by simp [hi]
    have h3 := (zoR hg hx).2.2.1 (k % m) hj
    rw [hkm, hk] at h3
    obtain ⟨v, hv, hr⟩ := hf ⟨k / m, hi⟩ (k % m) s h3.symm
    rw [zls, zls, Nat.add_assoc, hkm] at hv
    exact ⟨v, hv, hr⟩
  refine ⟨List.ofFn f, rfl, fun j s hj => ?_⟩
  obtain ⟨rfl, rfl⟩ := zcm hj
  rw [hxl]
  have hb : b < w.heap.size := by
    have hk0 : 0 < ((List.ofFn f).flatMap g).length := by rw [zgJ hg, hxl]; exact Nat.mul_pos hpos hm
    obtain ⟨v, hv, _⟩ := hat 0 _ (List.getElem?_eq_getElem hk0)
    exact World.block_lt_of_cell? w _ hv
  refine .fro [] b o len cap _ (fun k => (w.cell? ⟨b, o + k, none⟩).getD undef) rfl hb hl hcm (fun k hk => ?_) (fun k s hk => ?_)
  · obtain ⟨v, hv, _⟩ := hat k _ (List.getElem?_eq_getElem hk)
    rw [hv]; rfl
  · obtain ⟨v, hv, hr⟩ := hat k s hk
    simp only [hv, Option.getD_some]
    exact hr
theorem zon {α : Type} (q : α -> T) : ∀ xs : List α, xs.flatMap (fun a => [q a]) = xs.map q
  | [] => rfl
  | a :: l => by rw [List.flatMap_cons, zon q l]; rfl
theorem Opn.slice1 {t e : TypeId} {α : Type} {q : α -> T} (ht : P.underlying t = some (.slice e)) (he : Opn enc P w e (fun a => [q a])) (hc : P.cellsOf e = 1) : Opn enc P w t (fun xs : List α => [T.sl xs.length (xs.map q)]) := fun fuel cs x h => by
  obtain ⟨xs, h1, h2⟩ := Opn.slice ht he (fun _ => rfl) hc (by decide) fuel cs x h
  refine ⟨xs, h1, ?_⟩
  have : xs.flatMap (fun a => [q a]) = xs.map q := zon q xs
  simp only [this] at h2
  exact h2
theorem Opn.to {t : TypeId} {α β : Type} {g : α -> List T} {g' : β -> List T} (h : Opn enc P w t g) (f : α -> β) (hg : ∀ a, g' (f a) = g a) : Opn enc P w t g' := fun fuel cs x hx => by
  obtain ⟨a, h1, h2⟩ := h fuel cs x hx
  exact ⟨f a, by rw [hg]; exact h1, by rw [hg]; exact h2⟩
theorem zaw {cs : List Value} {o : Nat} {v : Value} {q s : T} (hl : ((cs.drop o).take 1).length = 1) (h : ∀ j s, ([q] : List T)[j]? = some s -> TRep w KZ [] (((cs.drop o).take 1).getD j undef) s) : TRep w KZ [] (cs.getD o undef) q := by
  have h0 := h 0 q rfl
  have hlt : o < cs.length := by
    rw [List.length_take, List.length_drop] at hl; omega
  rw [List.drop_eq_getElem_cons hlt] at h0
  have : cs.getD o undef = cs[o] := by simp [List.getD, List.getElem?_eq_getElem hlt]
  rw [this]
  exact h0
theorem Opn.struct2 {t : TypeId} {f0 f1 : Field} {α β : Type} {q0 : α -> T} {q1 : β -> T} (ht : P.underlying t = some (.struct #[f0, f1])) (h0 : Opn enc P w f0.type (fun a => [q0 a])) (h1 : Opn enc P w f1.type (fun a => [q1 a]))
    (c : P.cellsOf t = 2 /\ f0.offset = 0 /\ f1.offset = 1 /\ P.cellsOf f0.type = 1 /\ P.cellsOf f1.type = 1) : Opn enc P w t (fun x : α × β => [q0 x.1, q1 x.2]) := fun fuel cs x h => by
  obtain ⟨ct, o0, o1, c0, c1⟩ := c
  obtain ⟨xs, n, _, _, hl, hxl, hi⟩ := DataW.trod_struct ht h
  have e0 := hi 0 f0 rfl
  have e1 := hi 1 f1 rfl
  have hx2 : xs.length = 2 := by simpa using hxl
  rw [List.getElem?_eq_getElem (by omega), o0, c0] at e0
  rw [List.getElem?_eq_getElem (by omega), o1, c1] at e1
  obtain ⟨a0, l0, r0⟩ := h0 _ _ _ e0
  obtain ⟨a1, l1, r1⟩ := h1 _ _ _ e1
  refine ⟨(a0, a1), by rw [hl, ct]; rfl, fun j s hj => ?_⟩
  have p0 := zaw (v := undef) (s := .dead) l0 r0
  have p1 := zaw (v := undef) (s := .dead) l1 r1
  match j, hj with
  | 0, hj => cases hj; exact p0
  | 1, hj => cases hj; exact p1
theorem Opn.struct3 {t : TypeId} {f0 f1 f2 : Field} {α β γ : Type} {q0 : α -> T} {q1 : β -> T} {q2 : γ -> T} (ht : P.underlying t = some (.struct #[f0, f1, f2])) (h0 : Opn enc P w f0.type (fun a => [q0 a])) (h1 : Opn enc P w f1.type (fun a => [q1 a])) (h2 : Opn enc P w f2.type (fun a => [q2 a]))
    (c : P.cellsOf t = 3 /\ f0.offset = 0 /\ f1.offset = 1 /\ f2.offset = 2 /\ P.cellsOf f0.type = 1 /\ P.cellsOf f1.type = 1 /\ P.cellsOf f2.type = 1) : Opn enc P w t (fun x : α × β × γ => [q0 x.1, q1 x.2.1, q2 x.2.2]) := fun fuel cs x h => by
  obtain ⟨ct, o0, o1, o2, c0, c1, c2⟩ := c
  obtain ⟨xs, n, _, _, hl, hxl, hi⟩ := DataW.trod_struct ht h
  have e0 := hi 0 f0 rfl
  have e1 := hi 1 f1 rfl
  have e2 := hi 2 f2 rfl
  have hx2 : xs.length = 3 := by simpa using hxl
  rw [List.getElem?_eq_getElem (by omega), o0, c0] at e0
  rw [List.getElem?_eq_getElem (by omega), o1, c1] at e1
  rw [List.getElem?_eq_getElem (by omega), o2, c2] at e2
  obtain ⟨a0, l0, r0⟩ := h0 _ _ _ e0
  obtain ⟨a1, l1, r1⟩ := h1 _ _ _ e1
  obtain ⟨a2, l2, r2⟩ := h2 _ _ _ e2
  refine ⟨(a0, a1, a2), by rw [hl, ct]; rfl, fun j s hj => ?_⟩
  have p0 := zaw (v := undef) (s := .dead) l0 r0
  have p1 := zaw (v := undef) (s := .dead) l1 r1
  have p2 := zaw (v := undef) (s := .dead) l2 r2
  match j, hj with
  | 0, hj => cases hj; exact p0
  | 1, hj => cases hj; exact p1
  | 2, hj => cases hj; exact p2
theorem zkA {t : TypeId} {α : Type} {g : α -> List T} {v : Value} {d : DataW H} {ps : List MemPlace} (h : Opn enc P w t g) (hg : ∀ a, (g a).length ≠ 1) (hd : DataW.Trod enc P w 0 (fun _ => true) true t v d ps) : ∃ a : α, TRep w KZ [] v (.agg (g a)) := by
  obtain ⟨fuel, hf⟩ := hd
  obtain ⟨a, h1, h2⟩ := h _ _ _ hf
  have hn := hg a
  refine ⟨a, ?_⟩
  cases v with
  | agg arr =>
    simp only [Value.cells, Array.length_toList] at h1
    refine .agg [] arr _ (fun j => arr.getD j undef) h1 (fun j hj => z4m _ _ (by omega)) (fun j s hj => ?_)
    have := h2 j s hj
    simp only [Value.cells] at this
    have e : arr.toList.getD j undef = arr.getD j undef := by simp [List.getD, Array.getD_eq_getD_getElem?]
    rw [e] at this
    exact this
  | _ => exact absurd (by simpa [Value.cells] using h1.symm) hn
end
end Go.Proofs.Ytbnnipkanechoaa
end
section
namespace Go.Proofs.Ytbnnipkanechoaa
open Go Go.ChangeShapes Go.WideShapes Go.RowKit
section
variable {H : Type} {enc : TypeId × Value -> H} {P : Program} {w : World}
theorem Opn.struct4 {t : TypeId} {f0 f1 f2 f3 : Field} {α β γ δ : Type} {q0 : α -> T} {q1 : β -> T} {q2 : γ -> T} {q3 : δ -> T} (ht : P.underlying t = some (.struct #[f0, f1, f2, f3])) (h0 : Opn enc P w f0.type (fun a => [q0 a])) (h1 : Opn enc P w f1.type (fun a => [q1 a])) (h2 : Opn enc P w f2.type (fun a => [q2 a])) (h3 : Opn enc P w f3.type (fun a => [q3 a]))
    (c : P.cellsOf t = 4 /\ f0.offset = 0 /\ f1.offset = 1 /\ f2.offset = 2 /\ f3.offset = 3 /\ P.cellsOf f0.type = 1 /\ P.cellsOf f1.type = 1 /\ P.cellsOf f2.type = 1 /\ P.cellsOf f3.type = 1) : Opn enc P w t (fun x : α × β × γ × δ => [q0 x.1, q1 x.2.1, q2 x.2.2.1, q3 x.2.2.2]) := fun fuel cs x h => by
  obtain ⟨ct, o0, o1, o2, o3, c0, c1, c2, c3⟩ := c
  obtain ⟨xs, n, _, _, hl, hxl, hi⟩ := DataW.trod_struct ht h
  have e0 := hi 0 f0 rfl
  have e1 := hi 1 f1 rfl
  have e2 := hi 2 f2 rfl
  have e3 := hi 3 f3 rfl
  have hx2 : xs.length = 4 := by simpa using hxl
  rw [List.getElem?_eq_getElem (by omega), o0, c0] at e0
  rw [List.getElem?_eq_getElem (by omega), o1, c1] at e1
  rw [List.getElem?_eq_getElem (by omega), o2, c2] at e2
  rw [List.getElem?_eq_getElem (by omega), o3, c3] at e3
  obtain ⟨a0, l0, r0⟩ := h0 _ _ _ e0
  obtain ⟨a1, l1, r1⟩ := h1 _ _ _ e1
  obtain ⟨a2, l2, r2⟩ := h2 _ _ _ e2
  obtain ⟨a3, l3, r3⟩ := h3 _ _ _ e3
  refine ⟨(a0, a1, a2, a3), by rw [hl, ct]; rfl, fun j s hj => ?_⟩
  have p0 := zaw (v := undef) (s := .dead) l0 r0
  have p1 := zaw (v := undef) (s := .dead) l1 r1
  have p2 := zaw (v := undef) (s := .dead) l2 r2
  have p3 := zaw (v := undef) (s := .dead) l3 r3
  match j, hj with
  | 0, hj => cases hj; exact p0
  | 1, hj => cases hj; exact p1
  | 2, hj => cases hj; exact p2
  | 3, hj => cases hj; exact p3
theorem Opn.struct6 {t : TypeId} {f0 f1 f2 f3 f4 f5 : Field} {α β γ δ ε ζ : Type} {q0 : α -> T} {q1 : β -> T} {q2 : γ -> T} {q3 : δ -> T} {q4 : ε -> T} {q5 : ζ -> T} (ht : P.underlying t = some (.struct #[f0, f1, f2, f3, f4, f5])) (h0 : Opn enc P w f0.type (fun a => [q0 a])) (h1 : Opn enc P w f1.type (fun a => [q1 a])) (h2 : Opn enc P w f2.type (fun a => [q2 a])) (h3 : Opn enc P w f3.type (fun a => [q3 a])) (h4 : Opn enc P w f4.type (fun a => [q4 a])) (h5 : Opn enc P w f5.type (fun a => [q5 a]))
    (c : P.cellsOf t = 6 /\ (f0.offset = 0 /\ f1.offset = 1 /\ f2.offset = 2 /\ f3.offset = 3 /\ f4.offset = 4 /\ f5.offset = 5) /\ P.cellsOf f0.type = 1 /\ P.cellsOf f1.type = 1 /\ P.cellsOf f2.type = 1 /\ P.cellsOf f3.type = 1 /\ P.cellsOf f4.type = 1 /\ P.cellsOf f5.type = 1) : Opn enc P w t (fun x : α × β × γ × δ × ε × ζ => [q0 x.1, q1 x.2.1, q2 x.2.2.1, q3 x.2.2.2.1, q4 x.2.2.2.2.1, q5 x.2.2.2.2.2]) := fun fuel cs x h => by
  obtain ⟨ct, ⟨o0, o1, o2, o3, o4, o5⟩, c0, c1, c2, c3, c4, c5⟩ := c
  obtain ⟨xs, n, _, _, hl, hxl, hi⟩ := DataW.trod_struct ht h
  have e0 := hi 0 f0 rfl
  have e1 := hi 1 f1 rfl
  have e2 := hi 2 f2 rfl
  have e3 := hi 3 f3 rfl
  have e4 := hi 4 f4 rfl
  have e5 := hi 5 f5 rfl
  have hx2 : xs.length = 6 := by simpa using hxl
  rw [List.getElem?_eq_getElem (by omega), o0, c0] at e0
  rw [List.getElem?_eq_getElem (by omega), o1, c1] at e1
  rw [List.getElem?_eq_getElem (by omega), o2, c2] at e2
  rw [List.getElem?_eq_getElem (by omega), o3, c3] at e3
  rw [List.getElem?_eq_getElem (by omega), o4, c4] at e4
  rw [List.getElem?_eq_getElem (by omega), o5, c5] at e5
  obtain ⟨a0, l0, r0⟩ := h0 _ _ _ e0
  obtain ⟨a1, l1, r1⟩ := h1 _ _ _ e1
  obtain ⟨a2, l2, r2⟩ := h2 _ _ _ e2
  obtain ⟨a3, l3, r3⟩ := h3 _ _ _ e3
  obtain ⟨a4, l4, r4⟩ := h4 _ _ _ e4
  obtain ⟨a5, l5, r5⟩ := h5 _ _ _ e5
  refine ⟨(a0, a1, a2, a3, a4, a5), by rw [hl, ct]; rfl, fun j s hj => ?_⟩
  have p0 := zaw (v := undef) (s := .dead) l0 r0
  have p1 := zaw (v := undef) (s := .dead) l1 r1
  have p2 := zaw (v := undef) (s := .dead) l2 r2
  have p3 := zaw (v := undef) (s := .dead) l3 r3
  have p4 := zaw (v := undef) (s := .dead) l4 r4
  have p5 := zaw (v := undef) (s := .dead) l5 r5
  match j, hj with
  | 0, hj => cases hj; exact p0
  | 1, hj => cases hj; exact p1
  | 2, hj => cases hj; exact p2
  | 3, hj => cases hj; exact p3
  | 4, hj => cases hj; exact p4
  | 5, hj => cases hj; exact p5
end
section
variable {H : Type} {enc : TypeId × Value -> H} {w : World}
theorem zcX : Opn enc Try.prog w 22 (fun xs : List Int => [T.sl xs.length (xs.map fun x => .sc (.int .i64 x))]) := .slice1 Try.underlying22 (.int Try.underlying3) (by kernel_rfl)
theorem zii : Opn enc Try.prog w 26 (fun xs : List (List Int) => [T.sl xs.length (xs.map fun y => .sl y.length (y.map fun x => .sc (.int .i64 x)))]) := .slice1 Try.underlying26 zcX (by kernel_rfl)
theorem zoc : Opn enc Try.prog w 25 (fun xs : List Bool => [T.sl xs.length (xs.map fun x => .sc (.bool x))]) := .slice1 Try.underlying25 (.bool Try.underlying4) (by kernel_rfl)
theorem zkz : Opn enc Try.prog w 31 (fun xs : List ByteArray => [T.sl xs.length (xs.map fun x => .sc (.string x))]) := .slice1 Try.underlying31 (.string Try.underlying9) (by kernel_rfl)
theorem zrc : Opn enc Try.prog w 28 (fun d : DFA => [.sc (.int .i64 d.letters), .sc (.int .i64 d.start), .sl d.final.length (d.final.map fun x0 => .sc (.bool x0)), .sl d.next.length (d.next.map fun x0 => .sl x0.length (x0.map fun x1 => .sc (.int .i64 x1)))]) :=
  Opn.to (Opn.struct4 Try.underlying28 (.int Try.underlying3) (.int Try.underlying3) zoc zii ⟨by kernel_rfl, rfl, rfl, rfl, rfl, by kernel_rfl, by kernel_rfl, by kernel_rfl, by kernel_rfl⟩) (fun x => (⟨x.1, x.2.1, x.2.2.1, x.2.2.2⟩ : DFA)) (fun _ => rfl)
theorem zpO : Opn enc Try.prog w 33 (fun x : Imgs => [.sl x.sets.length (x.sets.map fun x0 => .sc (.int .i64 x0)), .sl x.class_.length (x.class_.map fun x0 => .sc (.int .i64 x0)), .sl x.height.length (x.height.map fun x0 => .sc (.int .i64 x0)), .sl x.tiles.length (x.tiles.map fun x0 => .sl x0.length (x0.map fun x1 => .sc (.int .i64 x1))), .sl x.words.length (x.words.map fun x0 => .sc (.string x0)), .sl x.back.length (x.back.map fun x0 => .sc (.string x0))]) :=
  Opn.to (Opn.struct6 Try.underlying33 zcX zcX zcX zii zkz zkz ⟨by kernel_rfl, ⟨rfl, rfl, rfl, rfl, rfl, rfl⟩, by kernel_rfl, by kernel_rfl, by kernel_rfl, by kernel_rfl, by kernel_rfl, by kernel_rfl⟩) (fun x => (⟨x.1, x.2.1, x.2.2.1, x.2.2.2.1, x.2.2.2.2.1, x.2.2.2.2.2⟩ : Imgs)) (fun _ => rfl)
end
end Go.Proofs.Ytbnnipkanechoaa
end
section
namespace Go.Proofs.Ytbnnipkanechoaa
open Go.RowKit
def Arr (w : World) (g n : Nat) (f : Nat -> Value) : Prop :=
  ∀ i, i < n -> w.cell? ⟨g, i, none⟩ = some (f i) /\ w.frozen? ⟨g, i, none⟩ = false
theorem Arr.set {w : World} {g n : Nat} {f : Nat -> Value} (h : Arr w g n f) (j : Nat) (hj : j < n) (c : Value) :
    Arr (w.setCell ⟨g, j, none⟩ c) g n (fun i => if i = j then c else f i) := by
  intro i hi
  refine ⟨?_, by rw [World.frozen?_setCell]; exact (h i hi).2⟩
  by_cases hij : i = j
  · subst hij
    rw [World.cell?_setCell_same _ _ _ (h i hi).1]; simp
  · rw [World.cell?_setCell_other _ _ _ _ (fun e => hij (by cases e; rfl)), (h i hi).1]; simp [hij]
theorem Arr.setOther {w : World} {g n : Nat} {f : Nat -> Value} (h : Arr w g n f) {g' : Nat} (hg : g ≠ g') (j : Nat) (c : Value) : Arr (w.setCell ⟨g', j, none⟩ c) g n f := by
  intro i hi
  refine ⟨?_, by rw [World.frozen?_setCell]; exact (h i hi).2⟩
  rw [World.cell?_setCell_other _ _ _ _ (fun e => hg (by cases e; rfl))]; exact (h i hi).1
theorem Arr.drew {w : World} {g n : Nat} {f : Nat -> Value} (h : Arr w g n f) : Arr w.drew g n f := h
theorem Arr.congr {w : World} {g n : Nat} {f f' : Nat -> Value} (h : Arr w g n f) (e : ∀ i, i < n -> f i = f' i) : Arr w g n f' :=
  fun i hi => by rw [← e i hi]; exact h i hi
theorem Arr.below {w w' : World} {g n B : Nat} {f : Nat -> Value} (h : Arr w g n f) (hb : Below B w w') (hg : g < B) : Arr w' g n f :=
  fun i hi => ⟨(hb.cell (p := ⟨g, i, none⟩) hg).trans (h i hi).1, (hb.frozen (p := ⟨g, i, none⟩) hg).trans (h i hi).2⟩
theorem Arr.grown {w w' : World} {g n : Nat} {row : Option Nat} {f : Nat -> Value} (h : Arr w g n f) (hb : w.grownBy w' row) (hg : some g ≠ row) : Arr w' g n f :=
  fun i hi => by
    have hlt := World.block_lt_of_cell? w _ (h i hi).1
    have e := hb.block g hlt hg
    exact ⟨(World.cell?_of_block (a := ⟨g, i, none⟩) e).trans (h i hi).1, (World.frozen?_of_block (a := ⟨g, i, none⟩) e).trans (h i hi).2⟩
theorem Arr.made (w : World) (z : Value) (n : Nat) (e : TypeId) : Arr (w.alloc (.cells (madeCells #[z] n) e)) w.heap.size n (fun _ => z) := by
  intro i hi
  refine ⟨?_, by rw [World.frozen?_alloc_new]⟩
  rw [World.cell?_alloc_new]
  simp [madeCells, hi, Nat.mod_one]
theorem Arr.lt {w : World} {g n : Nat} {f : Nat -> Value} (h : Arr w g n f) (hn : 0 < n) : g < w.heap.size := World.block_lt_of_cell? w _ (h 0 hn).1
theorem Arr.get {w : World} {g n : Nat} {f : Nat -> Value} (h : Arr w g n f) (i : Nat) (hi : i < n) {v : Value} (e : f i = v) : w.cell? ⟨g, i, none⟩ = some v := by rw [(h i hi).1, e]
theorem Arr.free {w : World} {g n : Nat} {f : Nat -> Value} (h : Arr w g n f) (i : Nat) (hi : i < n) : w.frozen? ⟨g, i, none⟩ = false := (h i hi).2
end Go.Proofs.Ytbnnipkanechoaa
end
section
namespace Go.Proofs
open Go.Shelf
def Try.lays128_ren : Go.Shelf.Ren := ⟨fun | 128 => 88 | n => n, fun | 51 => 102 | 3 => 3 | 4 => 4 | 46 => 51 | 5 => 5 | 9 => 9 | n => n, fun | n => n⟩
theorem Try.lays128 : Go.Proofs.Lays.n128 Try.prog Try.lays128_ren := {
  mixed := by kernel_rfl
  f128 := Try.func88.trans (congrArg some (by kernel_rfl))
  t3 := Try.underlying3
  a3 := Try.isAgg3
  z3 := Try.sizeOf3
  v3 := Try.zeroValue3
  t4 := Try.underlying4
  a4 := Try.isAgg4
  z4 := Try.sizeOf4
  v4 := Try.zeroValue4
  t5 := Try.underlying5
  a5 := Try.isAgg5
  z5 := Try.sizeOf5
  v5 := Try.zeroValue5
  t9 := Try.underlying9
  a9 := Try.isAgg9
  z9 := Try.sizeOf9
  v9 := Try.zeroValue9
  t46 := Try.underlying51
  a46 := Try.isAgg51
  z46 := Try.sizeOf51
  v46 := Try.zeroValue51
  t51 := Try.underlying102
  a51 := Try.isAgg102
  z51 := Try.sizeOf102
  v51 := Try.zeroValue102 }
theorem Try.bits_Len32 (x : Int) (w : World) (h0 : 0 <= x) (h1 : x <= 4294967295) :
    Calls Try.prog 88 #[.int .u32 x] w fun e w' => e = .returned (.int .i64 (Lib.bitLen x.toNat)) /\ w' = w := Any.bits_Len32 Try.lays128 x w h0 h1
def Try.lays125_ren : Go.Shelf.Ren := ⟨fun | 125 => 76 | 128 => 88 | 129 => 89 | n => n, fun | 46 => 51 | 3 => 3 | 51 => 102 | 53 => 104 | 4 => 4 | 5 => 5 | 9 => 9 | n => n, fun | n => n⟩
theorem Try.lays125 : Go.Proofs.Lays.n125 Try.prog Try.lays125_ren := {
  mixed := by kernel_rfl
  f125 := Try.func76.trans (congrArg some (by kernel_rfl))
  f128 := Try.func88.trans (congrArg some (by kernel_rfl))
  f129 := Try.func89.trans (congrArg some (by kernel_rfl))
  t3 := Try.underlying3
  a3 := Try.isAgg3
  z3 := Try.sizeOf3
  v3 := Try.zeroValue3
  t4 := Try.underlying4
  a4 := Try.isAgg4
  z4 := Try.sizeOf4
  v4 := Try.zeroValue4
  t5 := Try.underlying5
  a5 := Try.isAgg5
  z5 := Try.sizeOf5
  v5 := Try.zeroValue5
  t9 := Try.underlying9
  a9 := Try.isAgg9
  z9 := Try.sizeOf9
  v9 := Try.zeroValue9
  t46 := Try.underlying51
  a46 := Try.isAgg51
  z46 := Try.sizeOf51
  v46 := Try.zeroValue51
  t51 := Try.underlying102
  a51 := Try.isAgg102
  z51 := Try.sizeOf102
  v51 := Try.zeroValue102
  t53 := Try.underlying104
  a53 := Try.isAgg104
  z53 := Try.sizeOf104
  v53 := Try.zeroValue104 }
theorem Try.bits_Len (x : Int) (w : World) (h0 : 0 <= x) (h1 : x <= 18446744073709551615) :
    Calls Try.prog 76 #[.int .u64 x] w fun e w' => e = .returned (.int .i64 (Lib.bitLen x.toNat)) /\ w' = w := Any.bits_Len Try.lays125 x w h0 h1
def Try.lays129_ren : Go.Shelf.Ren := ⟨fun | 129 => 89 | n => n, fun | 53 => 104 | 3 => 3 | 4 => 4 | 46 => 51 | 5 => 5 | 9 => 9 | n => n, fun | n => n⟩
theorem Try.lays129 : Go.Proofs.Lays.n129 Try.prog Try.lays129_ren := {
  mixed := by kernel_rfl
  f129 := Try.func89.trans (congrArg some (by kernel_rfl))
  t3 := Try.underlying3
  a3 := Try.isAgg3
  z3 := Try.sizeOf3
  v3 := Try.zeroValue3
  t4 := Try.underlying4
  a4 := Try.isAgg4
  z4 := Try.sizeOf4
  v4 := Try.zeroValue4
  t5 := Try.underlying5
  a5 := Try.isAgg5
  z5 := Try.sizeOf5
  v5 := Try.zeroValue5
  t9 := Try.underlying9
  a9 := Try.isAgg9
  z9 := Try.sizeOf9
  v9 := Try.zeroValue9
  t46 := Try.underlying51
  a46 := Try.isAgg51
  z46 := Try.sizeOf51
  v46 := Try.zeroValue51
  t53 := Try.underlying104
  a53 := Try.isAgg104
  z53 := Try.sizeOf104
  v53 := Try.zeroValue104 }
theorem Try.bits_Len64 (x : Int) (w : World) (h0 : 0 <= x) (h1 : x <= 18446744073709551615) :
    Calls Try.prog 89 #[.int .u64 x] w fun e w' => e = .returned (.int .i64 (Lib.bitLen x.toNat)) /\ w' = w := Any.bits_Len64 Try.lays129 x w h0 h1
def Try.laysNm237_ren : Go.Shelf.Ren := ⟨fun | 37 => 77 | n => n, fun | 3 => 3 | 4 => 4 | n => n, fun | n => n⟩
theorem Try.laysNm237 : Go.Proofs.Lays2.n37 Try.prog Try.laysNm237_ren := {
  mixed := by kernel_rfl
  f37 := Try.func77.trans (congrArg some (by kernel_rfl))
  t3 := Try.underlying3
  a3 := Try.isAgg3
  z3 := Try.sizeOf3
  v3 := Try.zeroValue3
  t4 := Try.underlying4
  a4 := Try.isAgg4
  z4 := Try.sizeOf4
  v4 := Try.zeroValue4 }
open Go.RowKit Go.Lib in
theorem Try.cmp_isNaN_int2 (x : Int) (w : World) :
    Calls Try.prog 77 #[.int .i64 x] w fun e w' => e = .returned (.bool false) /\ w' = w := Any.cmp_isNaN_int2 Try.laysNm237 x w
def Try.laysSlC27_f77_ren : Go.Shelf.Ren := ⟨fun | 7 => 77 | n => n, fun | 22 => 3 | 4 => 4 | n => n, fun | n => n⟩
theorem Try.laysSlC27_f77 : Go.Proofs.SlLaysC2.n7 Try.prog Try.laysSlC27_f77_ren := {
  mixed := by kernel_rfl
  f7 := ⟨Try.f77.name, by decide, Try.func77.trans (congrArg some (by kernel_rfl))⟩
  t4 := Try.underlying4
  a4 := Try.isAgg4
  z4 := Try.sizeOf4
  v4 := Try.zeroValue4
  t22 := Try.underlying3
  a22 := Try.isAgg3
  z22 := Try.sizeOf3
  v22 := Try.zeroValue3 }
open Go.Lib in
theorem Try.cmp_isNaN_int (x : Int) (w : World) :
    Calls Try.prog 77 #[.int .i64 x] w fun e w' => e = .returned (.bool false) /\ w' = w := AnyG.cmp_isNaN_int Try.laysSlC27_f77 x w
def Try.laysSlC25_f67_ren : Go.Shelf.Ren := ⟨fun | 5 => 67 | 7 => 77 | n => n, fun | 22 => 3 | 3 => 3 | 4 => 4 | n => n, fun | n => n⟩
theorem Try.laysSlC25_f67 : Go.Proofs.SlLaysC2.n5 Try.prog Try.laysSlC25_f67_ren := {
  mixed := by kernel_rfl
  f5 := ⟨Try.f67.name, by decide, Try.func67.trans (congrArg some (by kernel_rfl))⟩
  f7 := ⟨Try.f77.name, by decide, Try.func77.trans (congrArg some (by kernel_rfl))⟩
  t3 := Try.underlying3
  a3 := Try.isAgg3
  z3 := Try.sizeOf3
  v3 := Try.zeroValue3
  t4 := Try.underlying4
  a4 := Try.isAgg4
  z4 := Try.sizeOf4
  v4 := Try.zeroValue4
  t22 := Try.underlying3
  a22 := Try.isAgg3
  z22 := Try.sizeOf3
  v22 := Try.zeroValue3 }
open Go.Lib in
theorem Try.cmp_Compare_int (x y : Int) (w : World) :
    Calls Try.prog 67 #[.int .i64 x, .int .i64 y] w fun e w' => e = .returned (.int .i64 (Lib.compareInt x y)) /\ w' = w := AnyG.cmp_Compare_int Try.laysSlC25_f67 x y w
def Try.laysSlF20_f80_ren : Go.Shelf.Ren := ⟨fun | 20 => 80 | n => n, fun | 24 => 3 | 22 => 22 | 3 => 3 | 25 => 46 | 4 => 4 | 0 => 0 | n => n, fun | n => n⟩
theorem Try.laysSlF20_f80 : Go.Proofs.SlLaysF.n20 Try.prog Try.laysSlF20_f80_ren := {
  mixed := by kernel_rfl
  f20 := ⟨Try.f80.name, by decide, Try.func80.trans (congrArg some (by kernel_rfl))⟩
  t0 := Try.underlying0
  a0 := Try.isAgg0
  z0 := Try.sizeOf0
  v0 := Try.zeroValue0
  t3 := Try.underlying3
  a3 := Try.isAgg3
  z3 := Try.sizeOf3
  v3 := Try.zeroValue3
  t4 := Try.underlying4
  a4 := Try.isAgg4
  z4 := Try.sizeOf4
  v4 := Try.zeroValue4
  t22 := Try.underlying22
  a22 := Try.isAgg22
  z22 := Try.sizeOf22
  v22 := Try.zeroValue22
  a24 := Try.isAgg3
  z24 := Try.sizeOf3
  t25 := Try.underlying46
  a25 := Try.isAgg46
  z25 := Try.sizeOf46
  v25 := Try.zeroValue46 }
open Go.RowKit Go.Lib Go.Sort in
theorem Try.insertionSortCmpFunc_one {α : Type} [Inhabited α] (enc : α -> Value) (hO : OneCell enc) (cf : α -> α -> Int) (g : Nat) (cb : Array Value) (blk off cap a b : Nat) (d : Array α) (w : World) (eg : ∀ args w, (callFunc g args).run Try.prog w = .ok (.enter g args) w) (hcmp : CmpReads Try.prog g cb enc cf blk off d.size w) (hH : Holds enc w blk off d) (hab : a <= b) (hb : b <= d.size) (hsz : d.size < 4611686018427387904) :
    Calls Try.prog 80 #[.slice (some ⟨blk, off, none⟩) d.size cap, .int .i64 a, .int .i64 b, .func (.func g) #[] cb] w fun e w' =>
      e = .returned (.tuple #[]) /\ ∃ n, w' = (putRow enc w blk off (Sort.insertionSort (ltOf cf) d a b)).drewN n := Any.insertionSortCmpFunc_one Try.laysSlF20_f80 enc hO cf g cb blk off cap a b d w eg hcmp hH hab hb hsz
def Try.laysSlF46_f93_ren : Go.Shelf.Ren := ⟨fun | 46 => 93 | n => n, fun | 24 => 3 | 22 => 22 | 3 => 3 | 25 => 46 | 4 => 4 | 0 => 0 | n => n, fun | n => n⟩
theorem Try.laysSlF46_f93 : Go.Proofs.SlLaysF.n46 Try.prog Try.laysSlF46_f93_ren := {
  mixed := by kernel_rfl
  f46 := ⟨Try.f93.name, by decide, Try.func93.trans (congrArg some (by kernel_rfl))⟩
  t0 := Try.underlying0
  a0 := Try.isAgg0
  z0 := Try.sizeOf0
  v0 := Try.zeroValue0
  t3 := Try.underlying3
  a3 := Try.isAgg3
  z3 := Try.sizeOf3
  v3 := Try.zeroValue3
  t4 := Try.underlying4
  a4 := Try.isAgg4
  z4 := Try.sizeOf4
  v4 := Try.zeroValue4
  t22 := Try.underlying22
  a22 := Try.isAgg22
  z22 := Try.sizeOf22
  v22 := Try.zeroValue22
  a24 := Try.isAgg3
  z24 := Try.sizeOf3
  t25 := Try.underlying46
  a25 := Try.isAgg46
  z25 := Try.sizeOf46
  v25 := Try.zeroValue46 }
open Go.RowKit Go.Lib Go.Sort in
theorem Try.siftDownCmpFunc {α : Type} [Inhabited α] (enc : α -> Value) (cf : α -> α -> Int) (g : Nat) (cb : Array Value) (blk off cap lo hi first : Nat) (d0 d : Array α) (w0 w : World) (eg : ∀ args w, (callFunc g args).run Try.prog w = .ok (.enter g args) w) (hcmp : CmpLays1 Try.prog g cb enc cf blk off d0.size w0) (R : Row1 enc w0 blk off d0) (hs : d0.size = d.size) (S : SW enc w0 blk off d w) (hlo : lo <= hi) (hb : first + hi <= d.size) (hsz : d.size < 4611686018427387904) :
    Calls Try.prog 93 #[.slice (some ⟨blk, off, none⟩) d.size cap, .int .i64 lo, .int .i64 hi, .int .i64 first, .func (.func g) #[] cb] w fun e w' =>
      e = .returned (.tuple #[]) /\ SW enc w0 blk off (siftDown (ltOf cf) hi first lo d) w' := Any.siftDownCmpFunc Try.laysSlF46_f93 enc cf g cb blk off cap lo hi first d0 d w0 w eg hcmp R hs S hlo hb hsz
def Try.laysSlF21_f81_ren : Go.Shelf.Ren := ⟨fun | 21 => 81 | 46 => 93 | n => n, fun | 24 => 3 | 22 => 22 | 3 => 3 | 25 => 46 | 4 => 4 | 0 => 0 | n => n, fun | n => n⟩
theorem Try.laysSlF21_f81 : Go.Proofs.SlLaysF.n21 Try.prog Try.laysSlF21_f81_ren := {
  mixed := by kernel_rfl
  f21 := ⟨Try.f81.name, by decide, Try.func81.trans (congrArg some (by kernel_rfl))⟩
  f46 := ⟨Try.f93.name, by decide, Try.func93.trans (congrArg some (by kernel_rfl))⟩
  t0 := Try.underlying0
  a0 := Try.isAgg0
  z0 := Try.sizeOf0
  v0 := Try.zeroValue0
  t3 := Try.underlying3
  a3 := Try.isAgg3
  z3 := Try.sizeOf3
  v3 := Try.zeroValue3
  t4 := Try.underlying4
  a4 := Try.isAgg4
  z4 := Try.sizeOf4
  v4 := Try.zeroValue4
  t22 := Try.underlying22
  a22 := Try.isAgg22
  z22 := Try.sizeOf22
  v22 := Try.zeroValue22
  a24 := Try.isAgg3
  z24 := Try.sizeOf3
  t25 := Try.underlying46
  a25 := Try.isAgg46
  z25 := Try.sizeOf46
  v25 := Try.zeroValue46 }
open Go.RowKit Go.Lib Go.Sort in
theorem Try.heapSortCmpFunc {α : Type} [Inhabited α] (enc : α -> Value) (cf : α -> α -> Int) (g : Nat) (cb : Array Value) (blk off cap a b : Nat) (d0 d : Array α) (w0 w : World) (eg : ∀ args w, (callFunc g args).run Try.prog w = .ok (.enter g args) w) (hcmp : CmpLays1 Try.prog g cb enc cf blk off d0.size w0) (R : Row1 enc w0 blk off d0) (hs : d0.size = d.size) (S : SW enc w0 blk off d w) (hab : a <= b) (hb : b <= d.size) (hsz : d.size < 4611686018427387904) :
    Calls Try.prog 81 #[.slice (some ⟨blk, off, none⟩) d.size cap, .int .i64 a, .int .i64 b, .func (.func g) #[] cb] w fun e w' =>
      e = .returned (.tuple #[]) /\ SW enc w0 blk off (heapSort (ltOf cf) d a b) w' := Any.heapSortCmpFunc Try.laysSlF21_f81 enc cf g cb blk off cap a b d0 d w0 w eg hcmp R hs S hab hb hsz
open Go.RowKit Go.Lib Go.Sort in
theorem Try.insertionSortCmpFunc_s {α : Type} [Inhabited α] (enc : α -> Value) (cf : α -> α -> Int) (g : Nat) (cb : Array Value) (blk off cap a b : Nat) (d0 d : Array α) (w0 w : World) (eg : ∀ args w, (callFunc g args).run Try.prog w = .ok (.enter g args) w) (hcmp : CmpLays1 Try.prog g cb enc cf blk off d0.size w0) (R : Row1 enc w0 blk off d0) (hs : d0.size = d.size) (S : SW enc w0 blk off d w) (hab : a <= b) (hb : b <= d.size) (hsz : d.size < 4611686018427387904) :
    Calls Try.prog 80 #[.slice (some ⟨blk, off, none⟩) d.size cap, .int .i64 a, .int .i64 b, .func (.func g) #[] cb] w fun e w' => e = .returned (.tuple #[]) /\ SW enc w0 blk off (Sort.insertionSort (ltOf cf) d a b) w' := Any.insertionSortCmpFunc_s Try.laysSlF20_f80 enc cf g cb blk off cap a b d0 d w0 w eg hcmp R hs S hab hb hsz
def Try.laysSlF57_f99_ren : Go.Shelf.Ren := ⟨fun | 57 => 99 | n => n, fun | 24 => 3 | 22 => 22 | 3 => 3 | 70 => 109 | 25 => 46 | 0 => 0 | 4 => 4 | n => n, fun | n => n⟩
theorem Try.laysSlF57_f99 : Go.Proofs.SlLaysF.n57 Try.prog Try.laysSlF57_f99_ren := {
  mixed := by kernel_rfl
  f57 := ⟨Try.f99.name, by decide, Try.func99.trans (congrArg some (by kernel_rfl))⟩
  t0 := Try.underlying0
  a0 := Try.isAgg0
  z0 := Try.sizeOf0
  v0 := Try.zeroValue0
  t3 := Try.underlying3
  a3 := Try.isAgg3
  z3 := Try.sizeOf3
  v3 := Try.zeroValue3
  t4 := Try.underlying4
  a4 := Try.isAgg4
  z4 := Try.sizeOf4
  v4 := Try.zeroValue4
  t22 := Try.underlying22
  a22 := Try.isAgg22
  z22 := Try.sizeOf22
  v22 := Try.zeroValue22
  a24 := Try.isAgg3
  z24 := Try.sizeOf3
  t25 := Try.underlying46
  a25 := Try.isAgg46
  z25 := Try.sizeOf46
  v25 := Try.zeroValue46
  t70 := Try.underlying109
  a70 := Try.isAgg109
  z70 := Try.sizeOf109
  v70 := Try.zeroValue109 }
open Go.RowKit Go.Lib Go.Sort in
theorem Try.order2CmpFunc {α : Type} [Inhabited α] (enc : α -> Value) (cf : α -> α -> Int) (g : Nat) (cb : Array Value) (blk off cap a b c s : Nat) (d0 d : Array α) (w0 W : World) (eg : ∀ args w, (callFunc g args).run Try.prog w = .ok (.enter g args) w) (hcmp : CmpLays1 Try.prog g cb enc cf blk off d0.size w0) (R : Row1 enc w0 blk off d0) (hs : d0.size = d.size) (C : Cnt1 enc w0 blk off d c s W) (ha : a < d.size) (hb : b < d.size) (hsz : d.size < 4611686018427387904) (hss : s < 4611686018427387904) :
    Calls Try.prog 99 #[.slice (some ⟨blk, off, none⟩) d.size cap, .int .i64 a, .int .i64 b, .pointer (some ⟨c, 0, none⟩), .func (.func g) #[] cb] W fun e w' =>
      e = .returned (.tuple #[.int .i64 (order2 (ltOf cf) d a b s).1, .int .i64 (order2 (ltOf cf) d a b s).2.1]) /\ Cnt1 enc w0 blk off d c (order2 (ltOf cf) d a b s).2.2 w' := Any.order2CmpFunc Try.laysSlF57_f99 enc cf g cb blk off cap a b c s d0 d w0 W eg hcmp R hs C ha hb hsz hss
def Try.laysSlF50_f97_ren : Go.Shelf.Ren := ⟨fun | 50 => 97 | 57 => 99 | n => n, fun | 24 => 3 | 22 => 22 | 3 => 3 | 70 => 109 | 25 => 46 | 77 => 112 | 0 => 0 | 4 => 4 | n => n, fun | n => n⟩
theorem Try.laysSlF50_f97 : Go.Proofs.SlLaysF.n50 Try.prog Try.laysSlF50_f97_ren := {
  mixed := by kernel_rfl
  f50 := ⟨Try.f97.name, by decide, Try.func97.trans (congrArg some (by kernel_rfl))⟩
  f57 := ⟨Try.f99.name, by decide, Try.func99.trans (congrArg some (by kernel_rfl))⟩
  t0 := Try.underlying0
  a0 := Try.isAgg0
  z0 := Try.sizeOf0
  v0 := Try.zeroValue0
  t3 := Try.underlying3
  a3 := Try.isAgg3
  z3 := Try.sizeOf3
  v3 := Try.zeroValue3
  t4 := Try.underlying4
  a4 := Try.isAgg4
  z4 := Try.sizeOf4
  v4 := Try.zeroValue4
  t22 := Try.underlying22
  a22 := Try.isAgg22
  z22 := Try.sizeOf22
  v22 := Try.zeroValue22
  a24 := Try.isAgg3
  z24 := Try.sizeOf3
  t25 := Try.underlying46
  a25 := Try.isAgg46
  z25 := Try.sizeOf46
  v25 := Try.zeroValue46
  t70 := Try.underlying109
  a70 := Try.isAgg109
  z70 := Try.sizeOf109
  v70 := Try.zeroValue109
  t77 := Try.underlying112
  a77 := Try.isAgg112
  z77 := Try.sizeOf112
  v77 := Try.zeroValue112 }
open Go.RowKit Go.Lib Go.Sort in
theorem Try.medianCmpFunc {α : Type} [Inhabited α] (enc : α -> Value) (cf : α -> α -> Int) (g : Nat) (cb : Array Value) (blk off cap a b c' c s : Nat) (d0 d : Array α) (w0 W : World) (eg : ∀ args w, (callFunc g args).run Try.prog w = .ok (.enter g args) w) (hcmp : CmpLays1 Try.prog g cb enc cf blk off d0.size w0) (R : Row1 enc w0 blk off d0) (hs : d0.size = d.size) (C : Cnt1 enc w0 blk off d c s W) (ha : a < d.size) (hb : b < d.size) (hc : c' < d.size) (hsz : d.size < 4611686018427387904) (hss : s + 3 < 4611686018427387904) :
    Calls Try.prog 97 #[.slice (some ⟨blk, off, none⟩) d.size cap, .int .i64 a, .int .i64 b, .int .i64 c', .pointer (some ⟨c, 0, none⟩), .func (.func g) #[] cb] W fun e w' =>
      e = .returned (.int .i64 (median (ltOf cf) d a b c' s).1) /\ Cnt1 enc w0 blk off d c (median (ltOf cf) d a b c' s).2 w' := Any.medianCmpFunc Try.laysSlF50_f97 enc cf g cb blk off cap a b c' c s d0 d w0 W eg hcmp R hs C ha hb hc hsz hss
def Try.laysSlF49_f96_ren : Go.Shelf.Ren := ⟨fun | 49 => 96 | 50 => 97 | 57 => 99 | n => n, fun | 24 => 3 | 22 => 22 | 3 => 3 | 70 => 109 | 25 => 46 | 77 => 112 | 0 => 0 | 4 => 4 | n => n, fun | n => n⟩
theorem Try.laysSlF49_f96 : Go.Proofs.SlLaysF.n49 Try.prog Try.laysSlF49_f96_ren := {
  mixed := by kernel_rfl
  f49 := ⟨Try.f96.name, by decide, Try.func96.trans (congrArg some (by kernel_rfl))⟩
  f50 := ⟨Try.f97.name, by decide, Try.func97.trans (congrArg some (by kernel_rfl))⟩
  f57 := ⟨Try.f99.name, by decide, Try.func99.trans (congrArg some (by kernel_rfl))⟩
  t0 := Try.underlying0
  a0 := Try.isAgg0
  z0 := Try.sizeOf0
  v0 := Try.zeroValue0
  t3 := Try.underlying3
  a3 := Try.isAgg3
  z3 := Try.sizeOf3
  v3 := Try.zeroValue3
  t4 := Try.underlying4
  a4 := Try.isAgg4
  z4 := Try.sizeOf4
  v4 := Try.zeroValue4
  t22 := Try.underlying22
  a22 := Try.isAgg22
  z22 := Try.sizeOf22
  v22 := Try.zeroValue22
  a24 := Try.isAgg3
  z24 := Try.sizeOf3
  t25 := Try.underlying46
  a25 := Try.isAgg46
  z25 := Try.sizeOf46
  v25 := Try.zeroValue46
  t70 := Try.underlying109
  a70 := Try.isAgg109
  z70 := Try.sizeOf109
  v70 := Try.zeroValue109
  t77 := Try.underlying112
  a77 := Try.isAgg112
  z77 := Try.sizeOf112
  v77 := Try.zeroValue112 }
open Go.RowKit Go.Lib Go.Sort in
theorem Try.medianAdjacentCmpFunc {α : Type} [Inhabited α] (enc : α -> Value) (cf : α -> α -> Int) (g : Nat) (cb : Array Value) (blk off cap a c s : Nat) (d0 d : Array α) (w0 W : World) (eg : ∀ args w, (callFunc g args).run Try.prog w = .ok (.enter g args) w) (hcmp : CmpLays1 Try.prog g cb enc cf blk off d0.size w0) (R : Row1 enc w0 blk off d0) (hs : d0.size = d.size) (C : Cnt1 enc w0 blk off d c s W) (ha1 : 1 <= a) (ha2 : a + 1 < d.size) (hsz : d.size < 4611686018427387904) (hss : s + 3 < 4611686018427387904) :
    Calls Try.prog 96 #[.slice (some ⟨blk, off, none⟩) d.size cap, .int .i64 a, .pointer (some ⟨c, 0, none⟩), .func (.func g) #[] cb] W fun e w' =>
      e = .returned (.int .i64 (medianAdjacent (ltOf cf) d a s).1) /\ Cnt1 enc w0 blk off d c (medianAdjacent (ltOf cf) d a s).2 w' := Any.medianAdjacentCmpFunc Try.laysSlF49_f96 enc cf g cb blk off cap a c s d0 d w0 W eg hcmp R hs C ha1 ha2 hsz hss
def Try.laysSlF23_f83_ren : Go.Shelf.Ren := ⟨fun | 23 => 83 | 49 => 96 | 50 => 97 | 57 => 99 | n => n, fun | 24 => 3 | 22 => 22 | 3 => 3 | 25 => 46 | 45 => 95 | 0 => 0 | 4 => 4 | 70 => 109 | 77 => 112 | n => n, fun | n => n⟩
theorem Try.laysSlF23_f83 : Go.Proofs.SlLaysF.n23 Try.prog Try.laysSlF23_f83_ren := {
  mixed := by kernel_rfl
  f23 := ⟨Try.f83.name, by decide, Try.func83.trans (congrArg some (by kernel_rfl))⟩
  f49 := ⟨Try.f96.name, by decide, Try.func96.trans (congrArg some (by kernel_rfl))⟩
  f50 := ⟨Try.f97.name, by decide, Try.func97.trans (congrArg some (by kernel_rfl))⟩
  f57 := ⟨Try.f99.name, by decide, Try.func99.trans (congrArg some (by kernel_rfl))⟩
  t0 := Try.underlying0
  a0 := Try.isAgg0
  z0 := Try.sizeOf0
  v0 := Try.zeroValue0
  t3 := Try.underlying3
  a3 := Try.isAgg3
  z3 := Try.sizeOf3
  v3 := Try.zeroValue3
  t4 := Try.underlying4
  a4 := Try.isAgg4
  z4 := Try.sizeOf4
  v4 := Try.zeroValue4
  t22 := Try.underlying22
  a22 := Try.isAgg22
  z22 := Try.sizeOf22
  v22 := Try.zeroValue22
  a24 := Try.isAgg3
  z24 := Try.sizeOf3
  t25 := Try.underlying46
  a25 := Try.isAgg46
  z25 := Try.sizeOf46
  v25 := Try.zeroValue46
  t45 := Try.underlying95
  a45 := Try.isAgg95
  z45 := Try.sizeOf95
  v45 := Try.zeroValue95
  t70 := Try.underlying109
  a70 := Try.isAgg109
  z70 := Try.sizeOf109
  v70 := Try.zeroValue109
  t77 := Try.underlying112
  a77 := Try.isAgg112
  z77 := Try.sizeOf112
  v77 := Try.zeroValue112 }
open Go.RowKit Go.Lib Go.Sort in
theorem Try.choosePivotCmpFunc {α : Type} [Inhabited α] (enc : α -> Value) (cf : α -> α -> Int) (g : Nat) (cb : Array Value) (blk off cap a b : Nat) (d0 d : Array α) (w0 W : World) (eg : ∀ args w, (callFunc g args).run Try.prog w = .ok (.enter g args) w) (hcmp : CmpLays1 Try.prog g cb enc cf blk off d0.size w0) (R : Row1 enc w0 blk off d0) (hs : d0.size = d.size) (S : SW enc w0 blk off d W) (hab : a < b) (hb : b <= d.size) (hsz : d.size < 4611686018427387904) :
    Calls Try.prog 83 #[.slice (some ⟨blk, off, none⟩) d.size cap, .int .i64 a, .int .i64 b, .func (.func g) #[] cb] W fun e w' =>
      e = .returned (.tuple #[.int .i64 (choosePivot (ltOf cf) d a b).1, .int .i64 (hintCode (choosePivot (ltOf cf) d a b).2)]) /\ SW enc w0 blk off d w' := Any.choosePivotCmpFunc Try.laysSlF23_f83 enc cf g cb blk off cap a b d0 d w0 W eg hcmp R hs S hab hb hsz
def Try.laysSlF24_f84_ren : Go.Shelf.Ren := ⟨fun | 24 => 84 | n => n, fun | 24 => 3 | 22 => 22 | 3 => 3 | 25 => 46 | 4 => 4 | 0 => 0 | n => n, fun | n => n⟩
theorem Try.laysSlF24_f84 : Go.Proofs.SlLaysF.n24 Try.prog Try.laysSlF24_f84_ren := {
  mixed := by kernel_rfl
  f24 := ⟨Try.f84.name, by decide, Try.func84.trans (congrArg some (by kernel_rfl))⟩
  t0 := Try.underlying0
  a0 := Try.isAgg0
  z0 := Try.sizeOf0
  v0 := Try.zeroValue0
  t3 := Try.underlying3
  a3 := Try.isAgg3
  z3 := Try.sizeOf3
  v3 := Try.zeroValue3
  t4 := Try.underlying4
  a4 := Try.isAgg4
  z4 := Try.sizeOf4
  v4 := Try.zeroValue4
  t22 := Try.underlying22
  a22 := Try.isAgg22
  z22 := Try.sizeOf22
  v22 := Try.zeroValue22
  a24 := Try.isAgg3
  z24 := Try.sizeOf3
  t25 := Try.underlying46
  a25 := Try.isAgg46
  z25 := Try.sizeOf46
  v25 := Try.zeroValue46 }
open Go.RowKit Go.Lib Go.Sort in
theorem Try.reverseRangeCmpFunc {α : Type} [Inhabited α] (enc : α -> Value) (g : Nat) (cb : Array Value) (blk off cap a b : Nat) (d0 d : Array α) (w0 w : World) (R : Row1 enc w0 blk off d0) (hs : d0.size = d.size) (S : SW enc w0 blk off d w) (hab : a <= b) (hb : b <= d.size) (hsz : d.size < 4611686018427387904) :
    Calls Try.prog 84 #[.slice (some ⟨blk, off, none⟩) d.size cap, .int .i64 a, .int .i64 b, .func (.func g) #[] cb] w fun e w' => e = .returned (.tuple #[]) /\ SW enc w0 blk off (reverseRange d a b) w' := Any.reverseRangeCmpFunc Try.laysSlF24_f84 enc g cb blk off cap a b d0 d w0 w R hs S hab hb hsz
def Try.laysSlF25_f85_ren : Go.Shelf.Ren := ⟨fun | 25 => 85 | n => n, fun | 24 => 3 | 22 => 22 | 3 => 3 | 25 => 46 | 4 => 4 | 0 => 0 | n => n, fun | n => n⟩
theorem Try.laysSlF25_f85 : Go.Proofs.SlLaysF.n25 Try.prog Try.laysSlF25_f85_ren := {
  mixed := by kernel_rfl
  f25 := ⟨Try.f85.name, by decide, Try.func85.trans (congrArg some (by kernel_rfl))⟩
  t0 := Try.underlying0
  a0 := Try.isAgg0
  z0 := Try.sizeOf0
  v0 := Try.zeroValue0
  t3 := Try.underlying3
  a3 := Try.isAgg3
  z3 := Try.sizeOf3
  v3 := Try.zeroValue3
  t4 := Try.underlying4
  a4 := Try.isAgg4
  z4 := Try.sizeOf4
  v4 := Try.zeroValue4
  t22 := Try.underlying22
  a22 := Try.isAgg22
  z22 := Try.sizeOf22
  v22 := Try.zeroValue22
  a24 := Try.isAgg3
  z24 := Try.sizeOf3
  t25 := Try.underlying46
  a25 := Try.isAgg46
  z25 := Try.sizeOf46
  v25 := Try.zeroValue46 }
open Go.RowKit Go.Lib Go.Sort in
theorem Try.partialInsertionSortCmpFunc {α : Type} [Inhabited α] (enc : α -> Value) (cf : α -> α -> Int) (g : Nat) (cb : Array Value) (blk off cap a b : Nat) (d0 d : Array α) (w0 w : World) (eg : ∀ args w, (callFunc g args).run Try.prog w = .ok (.enter g args) w) (hcmp : CmpLays1 Try.prog g cb enc cf blk off d0.size w0) (R : Row1 enc w0 blk off d0) (hs : d0.size = d.size) (S : SW enc w0 blk off d w) (hab : a < b) (hb : b <= d.size) (hsz : d.size < 4611686018427387904) :
    Calls Try.prog 85 #[.slice (some ⟨blk, off, none⟩) d.size cap, .int .i64 a, .int .i64 b, .func (.func g) #[] cb] w fun e w' =>
      e = .returned (.bool (Sort.partialInsertionSort (ltOf cf) d a b).2) /\ SW enc w0 blk off (Sort.partialInsertionSort (ltOf cf) d a b).1 w' := Any.partialInsertionSortCmpFunc Try.laysSlF25_f85 enc cf g cb blk off cap a b d0 d w0 w eg hcmp R hs S hab hb hsz
def Try.laysSlF26_f86_ren : Go.Shelf.Ren := ⟨fun | 26 => 86 | n => n, fun | 24 => 3 | 22 => 22 | 3 => 3 | 25 => 46 | 0 => 0 | 4 => 4 | n => n, fun | n => n⟩
theorem Try.laysSlF26_f86 : Go.Proofs.SlLaysF.n26 Try.prog Try.laysSlF26_f86_ren := {
  mixed := by kernel_rfl
  f26 := ⟨Try.f86.name, by decide, Try.func86.trans (congrArg some (by kernel_rfl))⟩
  t0 := Try.underlying0
  a0 := Try.isAgg0
  z0 := Try.sizeOf0
  v0 := Try.zeroValue0
  t3 := Try.underlying3
  a3 := Try.isAgg3
  z3 := Try.sizeOf3
  v3 := Try.zeroValue3
  t4 := Try.underlying4
  a4 := Try.isAgg4
  z4 := Try.sizeOf4
  v4 := Try.zeroValue4
  t22 := Try.underlying22
  a22 := Try.isAgg22
  z22 := Try.sizeOf22
  v22 := Try.zeroValue22
  a24 := Try.isAgg3
  z24 := Try.sizeOf3
  t25 := Try.underlying46
  a25 := Try.isAgg46
  z25 := Try.sizeOf46
  v25 := Try.zeroValue46 }
open Go.RowKit Go.Lib Go.Sort in
theorem Try.partitionEqualCmpFunc {α : Type} [Inhabited α] (enc : α -> Value) (cf : α -> α -> Int) (g : Nat) (cb : Array Value) (blk off cap a b pivot : Nat) (d0 d : Array α) (w0 w : World) (eg : ∀ args w, (callFunc g args).run Try.prog w = .ok (.enter g args) w) (hcmp : CmpLays1 Try.prog g cb enc cf blk off d0.size w0) (R : Row1 enc w0 blk off d0) (hs : d0.size = d.size) (S : SW enc w0 blk off d w) (hap : a <= pivot) (hpb : pivot < b) (hb : b <= d.size) (hsz : d.size < 4611686018427387904) :
    Calls Try.prog 86 #[.slice (some ⟨blk, off, none⟩) d.size cap, .int .i64 a, .int .i64 b, .int .i64 pivot, .func (.func g) #[] cb] w fun e w' =>
      e = .returned (.int .i64 (Sort.partitionEqual (ltOf cf) d a b pivot).1) /\ SW enc w0 blk off (Sort.partitionEqual (ltOf cf) d a b pivot).2 w' := Any.partitionEqualCmpFunc Try.laysSlF26_f86 enc cf g cb blk off cap a b pivot d0 d w0 w eg hcmp R hs S hap hpb hb hsz
def Try.laysSlF27_f87_ren : Go.Shelf.Ren := ⟨fun | 27 => 87 | n => n, fun | 24 => 3 | 22 => 22 | 3 => 3 | 25 => 46 | 4 => 4 | 0 => 0 | n => n, fun | n => n⟩
theorem Try.laysSlF27_f87 : Go.Proofs.SlLaysF.n27 Try.prog Try.laysSlF27_f87_ren := {
  mixed := by kernel_rfl
  f27 := ⟨Try.f87.name, by decide, Try.func87.trans (congrArg some (by kernel_rfl))⟩
  t0 := Try.underlying0
  a0 := Try.isAgg0
  z0 := Try.sizeOf0
  v0 := Try.zeroValue0
  t3 := Try.underlying3
  a3 := Try.isAgg3
  z3 := Try.sizeOf3
  v3 := Try.zeroValue3
  t4 := Try.underlying4
  a4 := Try.isAgg4
  z4 := Try.sizeOf4
  v4 := Try.zeroValue4
  t22 := Try.underlying22
  a22 := Try.isAgg22
  z22 := Try.sizeOf22
  v22 := Try.zeroValue22
  a24 := Try.isAgg3
  z24 := Try.sizeOf3
  t25 := Try.underlying46
  a25 := Try.isAgg46
  z25 := Try.sizeOf46
  v25 := Try.zeroValue46 }
open Go.RowKit Go.Lib Go.Sort in
theorem Try.partitionCmpFunc {α : Type} [Inhabited α] (enc : α -> Value) (cf : α -> α -> Int) (g : Nat) (cb : Array Value) (blk off cap a b pivot : Nat) (d0 d : Array α) (w0 w : World) (eg : ∀ args w, (callFunc g args).run Try.prog w = .ok (.enter g args) w) (hcmp : CmpLays1 Try.prog g cb enc cf blk off d0.size w0) (R : Row1 enc w0 blk off d0) (hs : d0.size = d.size) (S : SW enc w0 blk off d w) (hap : a <= pivot) (hpb : pivot < b) (hb : b <= d.size) (hsz : d.size < 4611686018427387904) :
    Calls Try.prog 87 #[.slice (some ⟨blk, off, none⟩) d.size cap, .int .i64 a, .int .i64 b, .int .i64 pivot, .func (.func g) #[] cb] w fun e w' =>
      e = .returned (.tuple #[.int .i64 (Sort.partition (ltOf cf) d a b pivot).1, .bool (Sort.partition (ltOf cf) d a b pivot).2.1]) /\ SW enc w0 blk off (Sort.partition (ltOf cf) d a b pivot).2.2 w' := Any.partitionCmpFunc Try.laysSlF27_f87 enc cf g cb blk off cap a b pivot d0 d w0 w eg hcmp R hs S hap hpb hb hsz
def Try.laysSlF14_f75_ren : Go.Shelf.Ren := ⟨fun | 14 => 75 | 20 => 80 | 21 => 81 | 22 => 82 | 23 => 83 | 24 => 84 | 25 => 85 | 26 => 86 | 27 => 87 | 46 => 93 | 47 => 94 | 48 => 95 | 49 => 96 | 50 => 97 | 15 => 76 | 57 => 99 | 28 => 88 | 29 => 89 | n => n, fun | 24 => 3 | 22 => 22 | 3 => 3 | 25 => 46 | 4 => 4 | 0 => 0 | 46 => 96 | 45 => 95 | 50 => 42 | 66 => 105 | 39 => 51 | 55 => 104 | 70 => 109 | 76 => 111 | 77 => 112 | 53 => 102 | 5 => 5 | 9 => 9 | n => n, fun | n => n⟩
theorem Try.laysSlF14_f75 : Go.Proofs.SlLaysF.n14 Try.prog Try.laysSlF14_f75_ren := {
  mixed := by kernel_rfl
  f14 := ⟨Try.f75.name, by decide, Try.func75.trans (congrArg some (by kernel_rfl))⟩
  f15 := Try.func76.trans (congrArg some (by kernel_rfl))
  f20 := ⟨Try.f80.name, by decide, Try.func80.trans (congrArg some (by kernel_rfl))⟩
  f21 := ⟨Try.f81.name, by decide, Try.func81.trans (congrArg some (by kernel_rfl))⟩
  f22 := ⟨Try.f82.name, by decide, Try.func82.trans (congrArg some (by kernel_rfl))⟩
  f23 := ⟨Try.f83.name, by decide, Try.func83.trans (congrArg some (by kernel_rfl))⟩
  f24 := ⟨Try.f84.name, by decide, Try.func84.trans (congrArg some (by kernel_rfl))⟩
  f25 := ⟨Try.f85.name, by decide, Try.func85.trans (congrArg some (by kernel_rfl))⟩
  f26 := ⟨Try.f86.name, by decide, Try.func86.trans (congrArg some (by kernel_rfl))⟩
  f27 := ⟨Try.f87.name, by decide, Try.func87.trans (congrArg some (by kernel_rfl))⟩
  f28 := Try.func88.trans (congrArg some (by kernel_rfl))
  f29 := Try.func89.trans (congrArg some (by kernel_rfl))
  f46 := ⟨Try.f93.name, by decide, Try.func93.trans (congrArg some (by kernel_rfl))⟩
  f47 := Try.func94.trans (congrArg some (by kernel_rfl))
  f48 := Try.func95.trans (congrArg some (by kernel_rfl))
  f49 := ⟨Try.f96.name, by decide, Try.func96.trans (congrArg some (by kernel_rfl))⟩
  f50 := ⟨Try.f97.name, by decide, Try.func97.trans (congrArg some (by kernel_rfl))⟩
  f57 := ⟨Try.f99.name, by decide, Try.func99.trans (congrArg some (by kernel_rfl))⟩
  t0 := Try.underlying0
  a0 := Try.isAgg0
  z0 := Try.sizeOf0
  v0 := Try.zeroValue0
  t3 := Try.underlying3
  a3 := Try.isAgg3
  z3 := Try.sizeOf3
  v3 := Try.zeroValue3
  t4 := Try.underlying4
  a4 := Try.isAgg4
  z4 := Try.sizeOf4
  v4 := Try.zeroValue4
  t5 := Try.underlying5
  a5 := Try.isAgg5
  z5 := Try.sizeOf5
  v5 := Try.zeroValue5
  t9 := Try.underlying9
  a9 := Try.isAgg9
  z9 := Try.sizeOf9
  v9 := Try.zeroValue9
  t22 := Try.underlying22
  a22 := Try.isAgg22
  z22 := Try.sizeOf22
  v22 := Try.zeroValue22
  a24 := Try.isAgg3
  z24 := Try.sizeOf3
  t25 := Try.underlying46
  a25 := Try.isAgg46
  z25 := Try.sizeOf46
  v25 := Try.zeroValue46
  t39 := Try.underlying51
  a39 := Try.isAgg51
  z39 := Try.sizeOf51
  v39 := Try.zeroValue51
  t45 := Try.underlying95
  a45 := Try.isAgg95
  z45 := Try.sizeOf95
  v45 := Try.zeroValue95
  t46 := Try.underlying96
  a46 := Try.isAgg96
  z46 := Try.sizeOf96
  v46 := Try.zeroValue96
  t50 := Try.underlying42
  a50 := Try.isAgg42
  z50 := Try.sizeOf42
  v50 := Try.zeroValue42
  t53 := Try.underlying102
  a53 := Try.isAgg102
  z53 := Try.sizeOf102
  v53 := Try.zeroValue102
  t55 := Try.underlying104
  a55 := Try.isAgg104
  z55 := Try.sizeOf104
  v55 := Try.zeroValue104
  t66 := Try.underlying105
  a66 := Try.isAgg105
  z66 := Try.sizeOf105
  v66 := Try.zeroValue105
  t70 := Try.underlying109
  a70 := Try.isAgg109
  z70 := Try.sizeOf109
  v70 := Try.zeroValue109
  t76 := Try.underlying111
  a76 := Try.isAgg111
  z76 := Try.sizeOf111
  v76 := Try.zeroValue111
  t77 := Try.underlying112
  a77 := Try.isAgg112
  z77 := Try.sizeOf112
  v77 := Try.zeroValue112 }
open Go.RowKit Go.Lib Go.Sort in
theorem Try.pdqsortCmpFunc_all {α : Type} [Inhabited α] (enc : α -> Value) (cf : α -> α -> Int) (g : Nat) (cb : Array Value) (hO : SWO (ltOf cf)) (blk off cap : Nat) (d0 : Array α) (w0 : World) (eg : ∀ args w, (callFunc g args).run Try.prog w = .ok (.enter g args) w) (hcmp : CmpLays1 Try.prog g cb enc cf blk off d0.size w0) (R : Row1 enc w0 blk off d0) :
    ∀ (N a b limit : Nat) (d : Array α) (w : World), b - a < N -> d0.size = d.size -> SW enc w0 blk off d w -> a <= b -> b <= d.size -> d.size < 4611686018427387904 -> limit < 4611686018427387904 -> Below (ltOf cf) a b d ->
    Calls Try.prog 75 #[.slice (some ⟨blk, off, none⟩) d.size cap, .int .i64 a, .int .i64 b, .int .i64 limit, .func (.func g) #[] cb] w fun e w' => e = .returned (.tuple #[]) /\ SW enc w0 blk off (pdq (ltOf cf) d a b limit true true) w' := Any.pdqsortCmpFunc_all Try.laysSlF14_f75 enc cf g cb hO blk off cap d0 w0 eg hcmp R
def Try.laysSlF6_f64_ren : Go.Shelf.Ren := ⟨fun | 6 => 64 | 15 => 76 | 14 => 75 | 28 => 88 | 29 => 89 | 20 => 80 | 21 => 81 | 22 => 82 | 23 => 83 | 24 => 84 | 25 => 85 | 26 => 86 | 27 => 87 | 46 => 93 | 47 => 94 | 48 => 95 | 49 => 96 | 50 => 97 | 57 => 99 | n => n, fun | 22 => 22 | 24 => 3 | 25 => 46 | 3 => 3 | 39 => 51 | 0 => 0 | 53 => 102 | 55 => 104 | 4 => 4 | 46 => 96 | 45 => 95 | 50 => 42 | 5 => 5 | 9 => 9 | 66 => 105 | 70 => 109 | 76 => 111 | 77 => 112 | n => n, fun | n => n⟩
theorem Try.laysSlF6_f64 : Go.Proofs.SlLaysF.n6 Try.prog Try.laysSlF6_f64_ren := {
  mixed := by kernel_rfl
  f6 := ⟨Try.f64.name, by decide, Try.func64.trans (congrArg some (by kernel_rfl))⟩
  f14 := ⟨Try.f75.name, by decide, Try.func75.trans (congrArg some (by kernel_rfl))⟩
  f15 := Try.func76.trans (congrArg some (by kernel_rfl))
  f20 := ⟨Try.f80.name, by decide, Try.func80.trans (congrArg some (by kernel_rfl))⟩
  f21 := ⟨Try.f81.name, by decide, Try.func81.trans (congrArg some (by kernel_rfl))⟩
  f22 := ⟨Try.f82.name, by decide, Try.func82.trans (congrArg some (by kernel_rfl))⟩
  f23 := ⟨Try.f83.name, by decide, Try.func83.trans (congrArg some (by kernel_rfl))⟩
  f24 := ⟨Try.f84.name, by decide, Try.func84.trans (congrArg some (by kernel_rfl))⟩
  f25 := ⟨Try.f85.name, by decide, Try.func85.trans (congrArg some (by kernel_rfl))⟩
  f26 := ⟨Try.f86.name, by decide, Try.func86.trans (congrArg some (by kernel_rfl))⟩
  f27 := ⟨Try.f87.name, by decide, Try.func87.trans (congrArg some (by kernel_rfl))⟩
  f28 := Try.func88.trans (congrArg some (by kernel_rfl))
  f29 := Try.func89.trans (congrArg some (by kernel_rfl))
  f46 := ⟨Try.f93.name, by decide, Try.func93.trans (congrArg some (by kernel_rfl))⟩
  f47 := Try.func94.trans (congrArg some (by kernel_rfl))
  f48 := Try.func95.trans (congrArg some (by kernel_rfl))
  f49 := ⟨Try.f96.name, by decide, Try.func96.trans (congrArg some (by kernel_rfl))⟩
  f50 := ⟨Try.f97.name, by decide, Try.func97.trans (congrArg some (by kernel_rfl))⟩
  f57 := ⟨Try.f99.name, by decide, Try.func99.trans (congrArg some (by kernel_rfl))⟩
  t0 := Try.underlying0
  a0 := Try.isAgg0
  z0 := Try.sizeOf0
  v0 := Try.zeroValue0
  t3 := Try.underlying3
  a3 := Try.isAgg3
  z3 := Try.sizeOf3
  v3 := Try.zeroValue3
  t4 := Try.underlying4
  a4 := Try.isAgg4
  z4 := Try.sizeOf4
  v4 := Try.zeroValue4
  t5 := Try.underlying5
  a5 := Try.isAgg5
  z5 := Try.sizeOf5
  v5 := Try.zeroValue5
  t9 := Try.underlying9
  a9 := Try.isAgg9
  z9 := Try.sizeOf9
  v9 := Try.zeroValue9
  t22 := Try.underlying22
  a22 := Try.isAgg22
  z22 := Try.sizeOf22
  v22 := Try.zeroValue22
  a24 := Try.isAgg3
  z24 := Try.sizeOf3
  t25 := Try.underlying46
  a25 := Try.isAgg46
  z25 := Try.sizeOf46
  v25 := Try.zeroValue46
  t39 := Try.underlying51
  a39 := Try.isAgg51
  z39 := Try.sizeOf51
  v39 := Try.zeroValue51
  t45 := Try.underlying95
  a45 := Try.isAgg95
  z45 := Try.sizeOf95
  v45 := Try.zeroValue95
  t46 := Try.underlying96
  a46 := Try.isAgg96
  z46 := Try.sizeOf96
  v46 := Try.zeroValue96
  t50 := Try.underlying42
  a50 := Try.isAgg42
  z50 := Try.sizeOf42
  v50 := Try.zeroValue42
  t53 := Try.underlying102
  a53 := Try.isAgg102
  z53 := Try.sizeOf102
  v53 := Try.zeroValue102
  t55 := Try.underlying104
  a55 := Try.isAgg104
  z55 := Try.sizeOf104
  v55 := Try.zeroValue104
  t66 := Try.underlying105
  a66 := Try.isAgg105
  z66 := Try.sizeOf105
  v66 := Try.zeroValue105
  t70 := Try.underlying109
  a70 := Try.isAgg109
  z70 := Try.sizeOf109
  v70 := Try.zeroValue109
  t76 := Try.underlying111
  a76 := Try.isAgg111
  z76 := Try.sizeOf111
  v76 := Try.zeroValue111
  t77 := Try.underlying112
  a77 := Try.isAgg112
  z77 := Try.sizeOf112
  v77 := Try.zeroValue112 }
open Go.RowKit Go.Lib Go.Sort in
theorem Try.slices_SortFunc_eq {α : Type} [Inhabited α] (enc : α -> Value) (h1 : OneCell enc) (cf : α -> α -> Int) (hO : SWO (ltOf cf)) (g : Nat) (cb : Array Value) (blk off cap : Nat) (d : Array α) (w : World) (eg : ∀ args w, (callFunc g args).run Try.prog w = .ok (.enter g args) w) (hcmp : CmpLays1 Try.prog g cb enc cf blk off d.size w) (hH : Holds enc w blk off d) (hblk : blk < w.heap.size) (hsz : d.size < 4611686018427387904) :
    Calls Try.prog 64 #[.slice (some ⟨blk, off, none⟩) d.size cap, .func (.func g) #[] cb] w fun e w' =>
      e = .returned (.tuple #[]) /\ ∃ n os, w' = sortWorld enc w blk off n (pdq (ltOf cf) d 0 d.size (Lib.bitLen d.size) true true) os := Any.slices_SortFunc_eq Try.laysSlF6_f64 enc h1 cf hO g cb blk off cap d w eg hcmp hH hblk hsz
open Go.RowKit Go.Lib Go.Sort in
theorem Try.slices_SortFunc {α : Type} [Inhabited α] (enc : α -> Value) (h1 : OneCell enc) (cf : α -> α -> Int) (hO : SWO (ltOf cf)) (g : Nat) (cb : Array Value) (blk off cap : Nat) (d : Array α) (w : World) (eg : ∀ args w, (callFunc g args).run Try.prog w = .ok (.enter g args) w) (hcmp : CmpLays1 Try.prog g cb enc cf blk off d.size w) (hH : Holds enc w blk off d) (hblk : blk < w.heap.size) (hsz : d.size < 4611686018427387904) :
    Calls Try.prog 64 #[.slice (some ⟨blk, off, none⟩) d.size cap, .func (.func g) #[] cb] w fun e w' =>
      e = .returned (.tuple #[]) /\ ∃ d' n os, PermIn 0 d.size d d' /\ SortedIn (ltOf cf) 0 d.size d' /\ w' = sortWorld enc w blk off n d' os := Any.slices_SortFunc Try.laysSlF6_f64 enc h1 cf hO g cb blk off cap d w eg hcmp hH hblk hsz
end Go.Proofs
end
section
namespace Go.Proofs.Ytbnnipkanechoaa
open Go Go.RowKit Go.Sort
set_option maxRecDepth 100000
set_option maxHeartbeats 4000000
def zng (x : Fin 128) : Value := .int .i64 ((x.val : Nat) : Int)
def cfS (p r : Fin 128) : Int := if Lib.compareInt (szN r.val) (szN p.val) ≠ 0 then Lib.compareInt (szN r.val) (szN p.val) else Lib.compareInt (p.val : Nat) (r.val : Nat)
theorem ztb (k : Nat) (W : World) (hk : k < 128) : Calls Try.prog 91 #[.int .u64 (k : Int)] W fun e w' => e = .returned (.int .i64 (szN k)) /\ w' = W := by
  have h0 : (0 : Int) <= (k : Int) := by omega
  have h1 : (k : Int) < 128 := by omega
  go_enter Try.func91, Try.ntmps91
  go_wp2
  all_goals go_ret
  all_goals refine ⟨congrArg Ending.returned (congrArg (Value.int IntKind.i64) ?_), rfl⟩
  clear h0 h1
  revert k
  decide +kernel
theorem zsd (k : Nat) (W : World) (hk : k < 128) : Calls Try.prog 78 #[.int .u64 (k : Int)] W fun e w' => e = .returned (.int .i64 (szN k)) /\ w' = W := by
  go_enter Try.func78, Try.ntmps78
  go_wp2_with (go_at_call 91; refine (ztb k _ hk).mono ?_; rintro e w' ⟨rfl, rfl⟩)
  go_ret
  exact ⟨rfl, rfl⟩
theorem zqz (k : Nat) (W : World) (hk : k < 128) : Calls Try.prog 68 #[.int .i64 (k : Int)] W fun e w' => e = .returned (.int .i64 (szN k)) /\ w' = W := by
  have hw : IntKind.u64.wrap (k : Int) = (k : Int) := by rw [IntKind.wrap_u64]; omega
  go_enter Try.func68, Try.ntmps68
  go_wp2_with (go_at_call 78; refine (zsd k _ hk).mono ?_; rintro e w' ⟨rfl, rfl⟩)
  go_ret
  exact ⟨rfl, rfl⟩
theorem or2 (a b : Int) (g : Nat) (W : World) (ha : W.cell? ⟨g, 0, none⟩ = some (.int .i64 a)) (hb : W.cell? ⟨g, 1, none⟩ = some (.int .i64 b)) : Calls Try.prog 66 #[.slice (some ⟨g, 0, none⟩) 2 2] W fun e w' => e = .returned (.int .i64 (if a ≠ 0 then a else b)) /\ w' = W := by
  go_enter Try.func66, Try.ntmps66
  go_wp2
  go_loop [8] (fun vi => ∃ k : Nat, k <= 2 /\ vi = .int .i64 k /\ (0 < k -> a = 0) /\ (1 < k -> b = 0)) (fun vi => 2 - (intOf vi).toNat)
  case atStart => exact ⟨0, by omega, rfl, by omega, by omega⟩
  case round =>
    obtain ⟨k, hk, rfl, h1, h2⟩ := hrel
    rcases (by omega : k = 0 ∨ k = 1 ∨ k = 2) with rfl | rfl | rfl
    · clear h1 h2
      by_cases h : a = 0
      · subst h
        go_wp2
        go_round
        case rel => exact ⟨1, by omega, by go_num, by simp, by simp⟩
        case measure => simp [intOf]
      · go_wp2
        go_ret
        simp [h]
    · have h1 := h1 (by omega)
      clear h2
      subst h1
      by_cases h : b = 0
      · subst h
        go_wp2
        go_round
        case rel => exact ⟨2, by omega, by go_num, by simp, by simp⟩
        case measure => simp [intOf]
      · go_wp2
        go_ret
        simp
    · have h1 := h1 (by omega)
      have h2 := h2 (by omega)
      subst h1 h2
      go_wp2
      go_ret
      simp
theorem zuH (x y : Fin 128) (W : World) : Calls Try.prog 65 #[zng x, zng y] W fun e w' => e = .returned (.int .i64 (cfS x y)) /\ ∃ q os', w' = grow (W.drewN q) os' := by
  obtain ⟨x, hx⟩ := x
  obtain ⟨y, hy⟩ := y
  unfold cfS zng
  simp only
  generalize hc1 : Lib.compareInt (szN y) (szN x) = c1
  generalize hc2 : Lib.compareInt (x : Int) (y : Int) = c2
  have H1 := Lib.hid hc1
  have H2 := Lib.hid hc2
  clear hc1 hc2
  go_enter Try.func65, Try.ntmps65
  go_wp2_with (first | (go_at_call 68; first | (refine (zqz y _ hy).mono ?_; rintro e w' ⟨rfl, rfl⟩) | (refine (zqz x _ hx).mono ?_; rintro e w' ⟨rfl, rfl⟩)) | (go_at_call 67; refine (Try.cmp_Compare_int _ _ _).mono ?_; rintro e w' ⟨rfl, rfl⟩; first | rw [H1.out] | rw [H2.out]) | (go_at_call 66; refine (or2 c1 c2 _ _ ?_ ?_).mono ?_))
  · simp
  · simp
  all_goals go_ret
  all_goals exact ⟨rfl, 0, #[_], alloc_eq_grow _ _⟩
theorem zp4 (a b : Int) : Lib.compareInt a b < 0 ↔ a < b := by unfold Lib.compareInt; split <;> (try split) <;> omega
theorem zqJ (a b : Int) : Lib.compareInt a b = 0 ↔ a = b := by unfold Lib.compareInt; split <;> (try split) <;> omega
theorem zqF (p r : Fin 128) : ltOf cfS p r = true ↔ (szN r.val < szN p.val ∨ (szN r.val = szN p.val /\ p.val < r.val)) := by
  unfold ltOf cfS
  rw [decide_eq_true_iff]
  split
  · rename_i h
    have := (not_congr (zqJ (szN r.val) (szN p.val))).1 h
    rw [zp4]
    omega
  · rename_i h
    have := (zqJ (szN r.val) (szN p.val)).1 (by simpa using h)
    rw [zp4]
    omega
theorem zop (p r : Fin 128) : ltOf cfS p r = false ↔ ¬ (szN r.val < szN p.val ∨ (szN r.val = szN p.val /\ p.val < r.val)) := by
  rw [← zqF]; simp
theorem zvQ : SWO (ltOf cfS) where
  irrefl x := by rw [zop]; omega
  trans x y z h1 h2 := by rw [zqF] at *; omega
  ntrans x y z h1 h2 := by rw [zop] at *; omega
theorem zgC (a b : Int) : leI a b = true ↔ (szN b.toNat < szN a.toNat ∨ (szN a.toNat = szN b.toNat /\ a.toNat <= b.toNat)) := by
  unfold leI znb; simp
theorem zem (x : Int) : ∀ l : List Int, (zpX x l).Perm (x :: l)
  | [] => .refl _
  | y :: l => by
    unfold zpX
    split
    · exact .refl _
    · exact ((zem x l).cons y).trans (.swap x y l)
theorem zcg : ∀ l : List Int, (zaW l).Perm l
  | [] => .refl _
  | x :: l => (zem x (zaW l)).trans ((zcg l).cons x)
theorem zel (x : Int) : ∀ l : List Int, l.Pairwise (fun a b => leI a b = true) -> (zpX x l).Pairwise (fun a b => leI a b = true)
  | [], _ => by simp [zpX]
  | y :: l, h => by
    unfold zpX
    rw [List.pairwise_cons] at h
    split
    · rename_i hxy
      refine List.pairwise_cons.2 ⟨fun z hz => ?_, List.pairwise_cons.2 h⟩
      rcases List.mem_cons.1 hz with rfl | hz
      · exact hxy
      · have := h.1 z hz
        rw [zgC] at *
        omega
    · rename_i hxy
      refine List.pairwise_cons.2 ⟨fun z hz => ?_, zel x l h.2⟩
      rcases List.mem_cons.1 ((zem x l).mem_iff.1 hz) with rfl | hz
      · rw [zgC] at *
        omega
      · exact h.1 z hz
theorem zcB : ∀ l : List Int, (zaW l).Pairwise (fun a b => leI a b = true)
  | [] => by simp [zaW]
  | x :: l => zel x _ (zcB l)
theorem za7 : ∀ {l1 l2 : List Int}, l1.Perm l2 -> (∀ x ∈ l1, 0 <= x) -> l1.Pairwise (fun a b => leI a b = true) -> l2.Pairwise (fun a b => leI a b = true) -> l1 = l2
  | [], l2, h, _, _, _ => by rw [List.nil_perm] at h; exact h.symm
  | a :: l1, [], h, _, _, _ => by simp at h
  | a :: l1, b :: l2, h, h0, h1, h2 => by
    have hab : a = b := by
      rcases List.mem_cons.1 (h.mem_iff.1 (List.mem_cons_self ..)) with e | ha
      · exact e
      · rcases List.mem_cons.1 (h.mem_iff.2 (List.mem_cons_self ..)) with e | hb
        · exact e.symm
        · have e1 := (List.pairwise_cons.1 h2).1 a ha
          have e2 := (List.pairwise_cons.1 h1).1 b hb
          have p1 := h0 a (List.mem_cons_self ..)
          have p2 := h0 b (h.mem_iff.2 (List.mem_cons_self ..))
          rw [zgC] at e1 e2
          omega
    subst hab
    rw [za7 (List.perm_cons a |>.1 h) (fun x hx => h0 x (List.mem_cons_of_mem _ hx)) (List.pairwise_cons.1 h1).2 (List.pairwise_cons.1 h2).2]
def toF (x : Int) : Fin 128 := ⟨x.toNat % 128, Nat.mod_lt _ (by decide)⟩
def ofF (f : Fin 128) : Int := (f.val : Int)
theorem zqw {x : Int} (h : 0 <= x /\ x < 128) : ofF (toF x) = x := by simp only [ofF, toF]; omega
def ztc (B : Nat) (K : Nat -> z0k) (b : Nat) : z0k := if B <= b then [0] else K b
theorem zjy {xs : List Int} (hx : ∀ x ∈ xs, 0 <= x /\ x < 128) {d' : Array (Fin 128)} (hp : PermIn 0 (xs.map toF).toArray.size (xs.map toF).toArray d') (hs : SortedIn (ltOf cfS) 0 (xs.map toF).toArray.size d') : d'.toList.map ofF = zaW xs := by
  obtain ⟨h1, _, h3⟩ := hp
  have hsz : d'.size = xs.length := by simpa using h1
  have e1 : (xs.map toF).map ofF = xs := by
    rw [List.map_map]
    conv => rhs; rw [← List.map_id xs]
    exact List.map_congr_left fun x hxm => zqw (hx x hxm)
  have hp2 : d'.toList.Perm (xs.map toF) := by
    have : (d'.extract 0 (xs.map toF).toArray.size).toList = d'.toList := by
      rw [← h1]; simp
    rw [this] at h3
    simp at h3
    rwa [List.take_of_length_le (by simp)] at h3
  have hp3 : (d'.toList.map ofF).Perm xs := by
    have := hp2.map ofF
    rwa [e1] at this
  refine za7 (hp3.trans (zcg xs).symm) (fun x hxm => (hx x (hp3.mem_iff.1 hxm)).1) ?_ (zcB xs)
  rw [List.pairwise_iff_getElem]
  intro i j hi hj hij
  simp only [List.length_map, Array.length_toList] at hi hj
  have := hs i j (by omega) hij (by simp; omega)
  rw [zop, getElem!_pos d' i hi, getElem!_pos d' j hj] at this
  rw [zgC]
  simp only [List.getElem_map, Array.getElem_toList, ofF, Int.toNat_natCast]
  omega
theorem zkS {w : World} {g n : Nat} {os : Array Obj} {cur : Array Value} {e : TypeId} {fr : Nat × Nat} (d : Array (Fin 128)) (hb : w.heap[g]? = some (.cells cur e fr)) : (sortWorld zng w g 0 n d os).heap[g]? = some (.cells (putCells zng 0 d cur) e fr) := by
  unfold sortWorld
  rw [heap_grow_old _ _ (by rw [size_putRow]; exact z2I hb)]
  simp [putRow, mapBlock, Sort.ahead, Array.getElem?_modify, hb, onCells]
theorem zg8 {w : World} {g n : Nat} {os : Array Obj} (d : Array (Fin 128)) {b : Nat} (hb : b < w.heap.size) (hne : b ≠ g) : (sortWorld zng w g 0 n d os).heap[b]? = w.heap[b]? := by
  unfold sortWorld
  rw [heap_grow_old _ _ (by rw [size_putRow]; exact hb)]
  simp [putRow, mapBlock, Sort.ahead, Array.getElem?_modify, Ne.symm hne]
theorem zpB {w : World} {g n : Nat} {os : Array Obj} (d : Array (Fin 128)) : w.heap.size <= (sortWorld zng w g 0 n d os).heap.size := by
  unfold sortWorld
  rw [size_grow, size_putRow]
  show w.heap.size <= w.heap.size + _
  omega
theorem znk {I : World -> (Nat -> z0k) -> Prop} : zaD Try.prog I xtC := by
  intro f args r outs h
  unfold xtC at h
  split at h
  case isFalse => cases h
  rename_i hf
  subst hf
  unfold zqN at h
  split at h
  case h_2 => cases h
  rename_i n cs f fs gs
  split at h
  case isFalse => cases h
  rename_i hfg
  obtain ⟨rfl, hfs, hgs⟩ := hfg
  simp only [Array.isEmpty_iff] at hfs hgs
  subst hfs hgs
  split at h
  case h_2 => cases h
  rename_i xs hxs
  split at h
  case isFalse => cases h
  rename_i hn
  subst hn
  unfold zlw at h
  split at h
  case isFalse => cases h
  rename_i hc
  obtain ⟨hne, hlen, hall⟩ := hc
  have hx : ∀ x ∈ xs, 0 <= x /\ x < 128 := by simpa using hall
  obtain ⟨rfl, rfl⟩ : T.tup [] = r /\ [T.os 1 (zaW xs).length ((zaW xs).map fun x => .sc (.int .i64 x)), .dead] = outs := by simpa using h
  have hcs := ziC hxs
  subst hcs
  clear h hxs hall
  refine ⟨fun vals w => ?_, fun w K vals hs ha hI => ?_⟩
  · have hb : ∃ c, Try.f64.body = some c := ⟨_, rfl⟩
    obtain ⟨c, hb⟩ := hb
    have hname : Try.f64.name ≠ "runtime.NumGoroutine" := by decide
    simp [callFunc, program, Sem.run, Try.func64, hname, hb]
  · obtain ⟨v, u, rfl⟩ : ∃ v u, vals = #[v, u] := by
      obtain ⟨l⟩ := vals
      match l, hs with
      | [v, u], _ => exact ⟨v, u, rfl⟩
    have hv : TRep w K (col 0) v (.os 1 xs.length (xs.map fun x => .sc (.int .i64 x))) := ha 0 _ rfl
    have hu : TRep w K [] u (.sc (.func (.func 65) #[] #[])) := ha 1 _ rfl
    rw [hu.sc_eq]
    clear hu ha
    have hl0 : 0 < xs.length := List.length_pos_iff.2 hne
    generalize hT : T.os 1 xs.length (xs.map fun x => T.sc (.int .i64 x)) = t at hv
    cases hv with
    | nil => injection hT with _ e _; omega
    | own c g n cap size cs arr e fz F hfz hc0 hK hg hsz hl hz hn hcap hF hh =>
      injection hT with e1 e2 e3
      subst e1 e2 e3
      have hcell : ∀ j (hj : j < xs.length), arr[j]? = some (.int .i64 xs[j]) := fun j hj => by
        rw [hF j (by simpa using hj)]
        have := hh j (.sc (.int .i64 xs[j])) (by simp [hj])
        rw [this.sc_eq]
      have hH : Holds zng w g 0 (xs.map toF).toArray := fun j hj => by
        have hj' : j < xs.length := by simpa using hj
        constructor
        · rw [Nat.zero_add, z3Q hg, hcell j hj', getElem!_pos _ j hj]
          simp only [zng, List.getElem_toArray, List.getElem_map]
          have := zqw (hx _ (List.getElem_mem hj'))
          unfold ofF at this
          rw [this]
        · unfold World.frozen?
          rw [Nat.zero_add]
          simp only [hg]
          have := hfz j (by omega)
          obtain ⟨lo, hi⟩ := fz
          simp only at this ⊢
          simp only [Bool.and_eq_false_iff, decide_eq_false_iff_not]
          omega
      have eg : ∀ args w, (callFunc 65 args).run Try.prog w = .ok (.enter 65 args) w := enters_of Try.func65 (by kernel_rfl) rfl
      have hcmp : CmpLays1 Try.prog 65 #[] zng cfS g 0 (xs.map toF).toArray.size w := fun m os dk _ x y => zuH x y _
      have hcon := Try.slices_SortFunc zng (fun _ => rfl) cfS zvQ 65 #[] g 0 cap (xs.map toF).toArray w eg hcmp hH (z2I hg) (by simpa using hlen)
      have hsize : (xs.map toF).toArray.size = xs.length := by simp
      rw [hsize] at hcon
      refine hcon.mono fun e' w' ⟨he, d', m, os, hp, hso, hw⟩ => ?_
      subst hw
      have hsort := zjy hx (by rw [hsize]; exact hp) (by rw [hsize]; exact hso)
      have hd : d'.size = xs.length := by have := hp.1; simpa using this
      have hys : (zaW xs).length = xs.length := (zcg xs).length_eq
      refine ⟨.tuple #[], ztc w.heap.size K, he, ?_, fun i t hi hio => ?_, rfl, rfl, rfl, zpB d', fun b hb hcb => ⟨by unfold ztc; rw [if_neg (by omega)], zg8 d' hb ?_⟩, ?_⟩
      · exact .tup _ #[] [] (fun _ => undef) rfl (fun j hj => by simp at hj) (fun j t ht => by simp at ht)
      · match i, hi with
        | 0, hi =>
          refine ⟨_, rfl, ?_⟩
          show TRep _ _ (col 0) (.slice (some ⟨g, 0, none⟩) xs.length cap) _
          rw [← hys]
          refine .own (col 0) g _ cap 1 _ (putCells zng 0 d' arr) e fz (fun j => .int .i64 ((zaW xs).getD j 0)) (fun i hi => hfz i (by simpa [putCells] using hi)) (by simp [col]) (by unfold ztc; rw [if_neg (by have := z2I hg; omega)]; exact hK) (zkS d' hg) (by simpa [putCells] using hsz) (by simp) (by omega) (by omega) hcap (fun j hj => ?_) (fun j t ht => ?_)
          · have hj' : j < xs.length := by simpa [hys] using hj
            have hja : j < arr.size := (Array.getElem?_eq_some_iff.1 (hcell j hj')).1
            have hjd : j < d'.size := by omega
            simp only [putCells, Array.getElem?_mapIdx, hcell j hj', Option.map_some]
            rw [if_pos (by omega), Nat.sub_zero, getElem!_pos d' j hjd]
            have : (zaW xs).getD j 0 = ofF d'[j] := by
              rw [← hsort]; simp [List.getD, hjd]
            rw [this]; rfl
          · simp only [List.getElem?_map, Option.map_eq_some_iff] at ht
            obtain ⟨x, hx', rfl⟩ := ht
            simp only [List.getD, hx']
            exact .sc _ _ rfl
        | 1, hi => cases hi; cases hio
      · rintro rfl
        rw [hK] at hcb
        simp [col] at hcb
      · intro b arr0 e0 fz0 hb0
        by_cases hbg : b = g
        · subst hbg
          rw [hg] at hb0
          cases hb0
          exact ⟨_, _, _, zkS d' hg, by simp [putCells]⟩
        · exact ⟨_, _, _, (zg8 d' (z2I hb0) hbg).trans hb0, rfl⟩
    | _ => cases hT
end Go.Proofs.Ytbnnipkanechoaa
end
section
namespace Go.Proofs.Ytbnnipkanechoaa
structure StOk (ops : Array Oper) (t : SchT) (L : Array Bool) (d : Nat) (ns : List Nat) : Prop where
  ord : z3v .any ops true t L = true
  dep : t.depth = d
  nx : ∀ z ∈ t.nexts, z ∈ ns
structure BrOk (ops : Array Oper) (t : SchT) (L : Array Bool) (d : Nat) (ns hs : List Nat) : Prop where
  ord : z3v .any ops false t L = true
  dep : t.depth = d
  nx : ∀ z ∈ t.nexts, z ∈ ns
  hd : ∀ i ∈ hs, i ∈ t.heads
theorem zks {ops : Array Oper} {L : Array Bool} (h : decide (Region.ready .any ops L = []) = true) : StOk ops .nil L 0 [] := ⟨by simp only [z3v, h, Bool.and_true], rfl, fun z hz => by simp [SchT.nexts] at hz⟩
theorem z5o {ops : Array Oper} {k m : Nat} {rest : SchT} {L L' : Array Bool} {d : Nat} {ns : List Nat} (h : StOk ops rest L' d ns) (hL : L.setIfInBounds k true = L')
    (hc : ((m == 0 || m == 3) && (Region.ready .any ops L).contains k && Region.free .any ops L k && !(ns.contains k) && (m == 3 || ns.all fun z => (zrQ .any ops ops.size [z]).contains k)) = true) : StOk ops (.op k m rest) L (d + 1) ns := by
  simp only [Bool.and_eq_true, Bool.or_eq_true, Bool.not_eq_true', beq_iff_eq] at hc
  obtain ⟨⟨⟨⟨h1, h2⟩, h3⟩, h4⟩, h5⟩ := hc
  have hm2 : ¬ m = 2 := by omega
  have hk : k ∉ ns := by simpa using h4
  refine ⟨?_, by simp only [SchT.depth, h.dep], fun z hz => h.nx z (by simpa only [SchT.nexts, if_neg hm2] using hz)⟩
  simp only [z3v]
  rw [if_pos (by simpa using h1), hL, h.ord, h2, h3]
  have h6 : rest.nexts.contains k = false := by
    rw [Bool.eq_false_iff]
    intro hh
    exact hk (h.nx k (by simpa using hh))
  rw [h6]
  simp only [Bool.not_false, Bool.and_self, Bool.true_and, Bool.and_true, Bool.or_eq_true, beq_iff_eq]
  rcases h5 with h5 | h5
  · exact .inl h5
  · exact .inr (List.all_eq_true.2 fun z hz => List.all_eq_true.1 h5 z (h.nx z hz))
theorem zaE {ops : Array Oper} {k m : Nat} {rest : SchT} {L L' : Array Bool} {d : Nat} {ns ns' : List Nat} (h : StOk ops rest L' d ns) (hL : L.setIfInBounds k true = L')
    (hc : ((m == 1 || m == 2) && decide (Region.ready .any ops L = [k])) = true) (hn : (if m = 2 then [k] else ns) = ns') : StOk ops (.op k m rest) L (d + 1) ns' := by
  subst hn
  simp only [Bool.and_eq_true, Bool.or_eq_true, beq_iff_eq] at hc
  obtain ⟨h1, h2⟩ := hc
  refine ⟨?_, by simp only [SchT.depth, h.dep], fun z hz => ?_⟩
  · simp only [z3v]
    rw [if_neg (by omega), hL, h.ord, h2]
    simp [h1]
  · simp only [SchT.nexts] at hz
    split at hz
    · rename_i e; rw [if_pos e]; exact hz
    · rename_i e; rw [if_neg e]; exact h.nx z hz
theorem z1p {ops : Array Oper} {k m : Nat} {rest : SchT} {L L' : Array Bool} {d : Nat} {ns ns' : List Nat} (h : StOk ops rest L' d ns) (hL : L.setIfInBounds k true = L')
    (hc : ((m == 1 || m == 2) && (Region.ready .any ops L).contains k) = true) (hn : (if m = 2 then [k] else ns) = ns') : BrOk ops (.op k m rest) L (d + 1) ns' [k] := by
  subst hn
  simp only [Bool.and_eq_true, Bool.or_eq_true, beq_iff_eq] at hc
  obtain ⟨h1, h2⟩ := hc
  refine ⟨?_, by simp only [SchT.depth, h.dep], fun z hz => ?_, fun i hi => by simpa [SchT.heads] using hi⟩
  · simp only [z3v]
    rw [if_neg (by simp), hL, h.ord, h2]
    simp [h1]
  · simp only [SchT.nexts] at hz
    split at hz
    · rename_i e; rw [if_pos e]; exact hz
    · rename_i e; rw [if_neg e]; exact h.nx z hz
theorem z0m {ops : Array Oper} {a b : SchT} {L : Array Bool} {d : Nat} {n1 n2 h1 h2 : List Nat} (ha : BrOk ops a L d n1 h1) (hb : BrOk ops b L d n2 h2) : BrOk ops (.alt a b) L d (n1 ++ n2) (h1 ++ h2) := by
  refine ⟨?_, by simp only [SchT.depth, ha.dep], fun z hz => ?_, fun i hi => ?_⟩
  · simp only [z3v, ha.ord, hb.ord, ha.dep, hb.dep]; simp
  · simp only [SchT.nexts, List.mem_append] at hz ⊢
    exact hz.imp (ha.nx z) (hb.nx z)
  · simp only [SchT.heads, List.mem_append] at hi ⊢
    exact hi.imp (ha.hd i) (hb.hd i)
theorem z1a {ops : Array Oper} {a b : SchT} {L : Array Bool} {d : Nat} {ns ns' hs : List Nat} (h : BrOk ops (.alt a b) L d ns hs) (hc : ((Region.ready .any ops L).all fun i => hs.contains i) = true) (hn : (ns.all fun z => ns'.contains z) = true) : StOk ops (.alt a b) L d ns' := by
  refine ⟨?_, h.dep, fun z hz => by simpa using List.all_eq_true.1 hn z (h.nx z hz)⟩
  have := h.ord
  simp only [z3v, Bool.and_eq_true, decide_eq_true_eq] at this ⊢
  obtain ⟨⟨⟨h1, h2⟩, h3⟩, h4⟩ := this
  refine ⟨⟨⟨?_, h2⟩, h3⟩, h4⟩
  simp only [Bool.not_true, Bool.false_or, decide_eq_true_eq]
  intro i hi
  have := List.all_eq_true.1 hc i hi
  exact h.hd i (by simpa using this)
def zjH (cf : Cfg) (sk : Nat -> Bool) : Code -> Bool
  | .region id ops draw => sk id || (!draw || (match cf.dt id with | some t => zax ops t | none => (match cf.dr id with | some sch => zoe ops sch | none => true)))
  | .seq a b => zjH cf sk a && zjH cf sk b
  | .cond _ x y => zjH cf sk x && zjH cf sk y
  | .block _ c => zjH cf sk c
  | .loop c => zjH cf sk c
  | .scope c => zjH cf sk c
  | _ => true
def z4A (i : Nat) : Code -> List (Array Oper)
  | .region id ops _ => if Nat.beq id i then [ops] else []
  | .seq a b => z4A i a ++ z4A i b
  | .cond _ x y => z4A i x ++ z4A i y
  | .block _ c => z4A i c
  | .loop c => z4A i c
  | .scope c => z4A i c
  | _ => []
noncomputable def z0v (i : Nat) (c : Code) : Array Oper := match z4A i c with | x :: _ => x | [] => #[]
theorem zcF {cf : Cfg} {sk : Nat -> Bool} : ∀ (c : Code), zjH cf sk c = true -> (∀ i, sk i = true -> ∃ t, cf.dt i = some t /\ ∀ o ∈ z4A i c, zax o t = true) -> okC cf c = true
  | .region id ops draw, h, hs => by
    simp only [zjH, Bool.or_eq_true] at h
    simp only [okC, Bool.or_eq_true]
    rcases h with h | h
    · right
      obtain ⟨t, h1, h2⟩ := hs id h
      rw [h1]
      exact h2 ops (by simp [z4A])
    · exact h
  | .seq a b, h, hs => by
    simp only [zjH, Bool.and_eq_true] at h
    simp only [okC, Bool.and_eq_true]
    exact ⟨zcF a h.1 fun i hi => by obtain ⟨t, h1, h2⟩ := hs i hi; exact ⟨t, h1, fun o ho => h2 o (by simp only [z4A, List.mem_append]; exact .inl ho)⟩,
      zcF b h.2 fun i hi => by obtain ⟨t, h1, h2⟩ := hs i hi; exact ⟨t, h1, fun o ho => h2 o (by simp only [z4A, List.mem_append]; exact .inr ho)⟩⟩
  | .cond _ a b, h, hs => by
    simp only [zjH, Bool.and_eq_true] at h
    simp only [okC, Bool.and_eq_true]
    exact ⟨zcF a h.1 fun i hi => by obtain ⟨t, h1, h2⟩ := hs i hi; exact ⟨t, h1, fun o ho => h2 o (by simp only [z4A, List.mem_append]; exact .inl ho)⟩,
      zcF b h.2 fun i hi => by obtain ⟨t, h1, h2⟩ := hs i hi; exact ⟨t, h1, fun o ho => h2 o (by simp only [z4A, List.mem_append]; exact .inr ho)⟩⟩
  | .block _ c, h, hs => by simp only [okC]; exact zcF c (by simpa only [zjH] using h) (by simpa only [z4A] using hs)
  | .loop c, h, hs => by simp only [okC]; exact zcF c (by simpa only [zjH] using h) (by simpa only [z4A] using hs)
  | .scope c, h, hs => by simp only [okC]; exact zcF c (by simpa only [zjH] using h) (by simpa only [z4A] using hs)
  | .skip, _, _ => rfl
  | .label .., _, _ => rfl
  | .exit .., _, _ => rfl
  | .ret, _, _ => rfl
  | .rangeFunc .., _, _ => rfl
  | .goto _, _, _ => rfl
  | .refuse _, _, _ => rfl
theorem zgm {c : Code} {i : Nat} {t : SchT} {n : Nat} {ns : List Nat} {L : Array Bool} (hr : (z4A i c).length = 1) (hs : StOk (z0v i c) t L n ns) (hL : L = Array.replicate (z0v i c).toList.length false) (hd : (decide (n = (z0v i c).toList.length) && Region.noSelect (z0v i c)) = true) : ∀ o ∈ z4A i c, zax o t = true := by
  intro o ho
  obtain ⟨x, hx⟩ : ∃ x, z4A i c = [x] := List.length_eq_one_iff.1 hr
  have e : z0v i c = x := by unfold z0v; rw [hx]
  rw [hx] at ho
  obtain rfl : o = x := by simpa using ho
  rw [e] at hs hL hd
  subst hL
  simp only [Bool.and_eq_true, decide_eq_true_eq] at hd
  unfold zax
  simp only [Bool.and_eq_true, decide_eq_true_eq]
  exact ⟨⟨hs.dep.trans hd.1, hd.2⟩, hs.ord⟩
theorem zjG {P : Program} {f : FuncId} {cf : Cfg} {fn : Func} {c : Code} (l : List Nat) (hf : P.funcs[f]? = some fn) (hb : fn.body = some c) (hn : (fn.name != "runtime.NumGoroutine") = true) (h2 : zjH cf l.contains c = true)
    (ht : ∀ i ∈ l, ∃ t, cf.dt i = some t /\ ∀ o ∈ z4A i c, zax o t = true) : z3i P f cf = true := by
  unfold z3i
  simp only [hf, hb, hn, Bool.true_and]
  exact zcF c h2 fun j hj => ht j (by simpa using hj)
end Go.Proofs.Ytbnnipkanechoaa
end
section
namespace Go.Proofs.Ytbnnipkanechoaa
open Go
set_option maxRecDepth 100000
theorem zx4 : z3i Try.prog 3 cf3 = true := by kernel_rfl
theorem zx3 : z3i Try.prog 4 cf4 = true := by kernel_rfl
theorem zx2 : z3i Try.prog 5 cf5 = true := by kernel_rfl
theorem zx1 : z3i Try.prog 6 cf6 = true := by kernel_rfl
theorem zx0 : z3i Try.prog 8 cf8 = true := by kernel_rfl
theorem zwZ : z3i Try.prog 9 cf9 = true := by kernel_rfl
theorem zuG : z3i Try.prog 10 cf10 = true := by kernel_rfl
theorem zuF : z3i Try.prog 11 cf11 = true := by kernel_rfl
theorem zuE : z3i Try.prog 12 cf12 = true := by kernel_rfl
theorem zuD : z3i Try.prog 13 cf13 = true := by kernel_rfl
theorem zjs : StOk (z0v 10 z7Q) zfM #[true, true, true, true, true, true, true, true, true, true, true, true, true, true] 0 [] := zks (by kernel_rfl)
theorem zdP : StOk (z0v 10 z7Q) zc2 #[true, true, true, true, true, true, true, true, true, true, true, true, true, false] 1 [13] := zaE zjs rfl (by kernel_rfl) rfl
theorem z8p : StOk (z0v 10 z7Q) z7V #[true, true, true, true, true, true, true, true, true, true, true, false, true, false] 2 [13] := z5o zdP rfl (by kernel_rfl)
theorem zjt : StOk (z0v 10 z7Q) zfN #[true, true, true, true, true, true, true, true, true, true, true, true, false, false] 2 [13] := zaE zdP rfl (by kernel_rfl) rfl
theorem z8q : StOk (z0v 10 z7Q) z7W #[true, true, true, true, false, true, true, true, true, true, true, false, true, false] 3 [13] := zaE z8p rfl (by kernel_rfl) rfl
theorem z8r : StOk (z0v 10 z7Q) z7X #[true, true, true, true, true, true, false, true, true, true, true, false, true, false] 3 [13] := zaE z8p rfl (by kernel_rfl) rfl
theorem z8s : StOk (z0v 10 z7Q) z7Y #[true, true, true, true, true, true, true, true, false, true, true, false, true, false] 3 [13] := zaE z8p rfl (by kernel_rfl) rfl
theorem z8t : StOk (z0v 10 z7Q) z7Z #[true, true, true, true, true, true, true, true, true, true, false, false, true, false] 3 [13] := zaE z8p rfl (by kernel_rfl) rfl
theorem z8u : StOk (z0v 10 z7Q) z8a #[true, true, true, true, true, true, true, true, true, true, true, false, false, false] 3 [13] := z5o zjt rfl (by kernel_rfl)
theorem zak : StOk (z0v 10 z7Q) z9D #[true, true, true, true, false, true, false, true, true, true, true, false, true, false] 4 [13] := z1a (z0m (z1p z8r rfl (by kernel_rfl) rfl) (z1p z8q rfl (by kernel_rfl) rfl)) (by kernel_rfl) rfl
theorem zal : StOk (z0v 10 z7Q) z9E #[true, true, true, true, false, true, true, true, false, true, true, false, true, false] 4 [13] := z1a (z0m (z1p z8s rfl (by kernel_rfl) rfl) (z1p z8q rfl (by kernel_rfl) rfl)) (by kernel_rfl) rfl
theorem zam : StOk (z0v 10 z7Q) z9F #[true, true, true, true, false, true, true, true, true, true, false, false, true, false] 4 [13] := z1a (z0m (z1p z8t rfl (by kernel_rfl) rfl) (z1p z8q rfl (by kernel_rfl) rfl)) (by kernel_rfl) rfl
theorem zan : StOk (z0v 10 z7Q) z9G #[true, true, true, true, false, true, true, true, true, true, true, false, false, false] 4 [13] := z1a (z0m (z1p z8u rfl (by kernel_rfl) rfl) (z1p z8q rfl (by kernel_rfl) rfl)) (by kernel_rfl) rfl
theorem zao : StOk (z0v 10 z7Q) z9H #[true, true, true, true, true, true, false, true, false, true, true, false, true, false] 4 [13] := z1a (z0m (z1p z8s rfl (by kernel_rfl) rfl) (z1p z8r rfl (by kernel_rfl) rfl)) (by kernel_rfl) rfl
theorem zap : StOk (z0v 10 z7Q) z9I #[true, true, true, true, true, true, false, true, true, true, false, false, true, false] 4 [13] := z1a (z0m (z1p z8t rfl (by kernel_rfl) rfl) (z1p z8r rfl (by kernel_rfl) rfl)) (by kernel_rfl) rfl
theorem zaq : StOk (z0v 10 z7Q) z9J #[true, true, true, true, true, true, false, true, true, true, true, false, false, false] 4 [13] := z1a (z0m (z1p z8u rfl (by kernel_rfl) rfl) (z1p z8r rfl (by kernel_rfl) rfl)) (by kernel_rfl) rfl
theorem zar : StOk (z0v 10 z7Q) z9K #[true, true, true, true, true, true, true, true, false, true, false, false, true, false] 4 [13] := z1a (z0m (z1p z8t rfl (by kernel_rfl) rfl) (z1p z8s rfl (by kernel_rfl) rfl)) (by kernel_rfl) rfl
theorem zas : StOk (z0v 10 z7Q) z9L #[true, true, true, true, true, true, true, true, false, true, true, false, false, false] 4 [13] := z1a (z0m (z1p z8u rfl (by kernel_rfl) rfl) (z1p z8s rfl (by kernel_rfl) rfl)) (by kernel_rfl) rfl
theorem zat : StOk (z0v 10 z7Q) z9M #[true, true, true, true, true, true, true, true, true, true, false, false, false, false] 4 [13] := z1a (z0m (z1p z8u rfl (by kernel_rfl) rfl) (z1p z8t rfl (by kernel_rfl) rfl)) (by kernel_rfl) rfl
theorem zdQ : StOk (z0v 10 z7Q) zc3 #[true, true, true, true, false, true, false, true, false, true, true, false, true, false] 5 [13] := z1a (z0m (z1p zao rfl (by kernel_rfl) rfl) (z0m (z1p zal rfl (by kernel_rfl) rfl) (z1p zak rfl (by kernel_rfl) rfl))) (by kernel_rfl) rfl
theorem zdR : StOk (z0v 10 z7Q) zc4 #[true, true, true, true, false, true, false, true, true, true, false, false, true, false] 5 [13] := z1a (z0m (z1p zap rfl (by kernel_rfl) rfl) (z0m (z1p zam rfl (by kernel_rfl) rfl) (z1p zak rfl (by kernel_rfl) rfl))) (by kernel_rfl) rfl
theorem zdS : StOk (z0v 10 z7Q) zc5 #[true, true, true, true, false, true, false, true, true, true, true, false, false, false] 5 [13] := z1a (z0m (z1p zaq rfl (by kernel_rfl) rfl) (z0m (z1p zan rfl (by kernel_rfl) rfl) (z1p zak rfl (by kernel_rfl) rfl))) (by kernel_rfl) rfl
theorem zdT : StOk (z0v 10 z7Q) zc6 #[true, true, true, true, false, true, true, true, false, true, false, false, true, false] 5 [13] := z1a (z0m (z1p zar rfl (by kernel_rfl) rfl) (z0m (z1p zam rfl (by kernel_rfl) rfl) (z1p zal rfl (by kernel_rfl) rfl))) (by kernel_rfl) rfl
theorem zdU : StOk (z0v 10 z7Q) zc7 #[true, true, true, true, false, true, true, true, false, true, true, false, false, false] 5 [13] := z1a (z0m (z1p zas rfl (by kernel_rfl) rfl) (z0m (z1p zan rfl (by kernel_rfl) rfl) (z1p zal rfl (by kernel_rfl) rfl))) (by kernel_rfl) rfl
theorem zdV : StOk (z0v 10 z7Q) zc8 #[true, true, true, true, false, true, true, true, true, true, false, false, false, false] 5 [13] := z1a (z0m (z1p zat rfl (by kernel_rfl) rfl) (z0m (z1p zan rfl (by kernel_rfl) rfl) (z1p zam rfl (by kernel_rfl) rfl))) (by kernel_rfl) rfl
theorem zdW : StOk (z0v 10 z7Q) zc9 #[true, true, true, true, true, true, false, true, false, true, false, false, true, false] 5 [13] := z1a (z0m (z1p zar rfl (by kernel_rfl) rfl) (z0m (z1p zap rfl (by kernel_rfl) rfl) (z1p zao rfl (by kernel_rfl) rfl))) (by kernel_rfl) rfl
theorem zdX : StOk (z0v 10 z7Q) zca #[true, true, true, true, true, true, false, true, false, true, true, false, false, false] 5 [13] := z1a (z0m (z1p zas rfl (by kernel_rfl) rfl) (z0m (z1p zaq rfl (by kernel_rfl) rfl) (z1p zao rfl (by kernel_rfl) rfl))) (by kernel_rfl) rfl
theorem zdY : StOk (z0v 10 z7Q) zcb #[true, true, true, true, true, true, false, true, true, true, false, false, false, false] 5 [13] := z1a (z0m (z1p zat rfl (by kernel_rfl) rfl) (z0m (z1p zaq rfl (by kernel_rfl) rfl) (z1p zap rfl (by kernel_rfl) rfl))) (by kernel_rfl) rfl
theorem zdZ : StOk (z0v 10 z7Q) zcc #[true, true, true, true, true, true, true, true, false, true, false, false, false, false] 5 [13] := z1a (z0m (z1p zat rfl (by kernel_rfl) rfl) (z0m (z1p zas rfl (by kernel_rfl) rfl) (z1p zar rfl (by kernel_rfl) rfl))) (by kernel_rfl) rfl
theorem zju : StOk (z0v 10 z7Q) zfO #[true, true, true, true, false, true, false, true, false, true, false, false, true, false] 6 [13] := z1a (z0m (z1p zdW rfl (by kernel_rfl) rfl) (z0m (z1p zdT rfl (by kernel_rfl) rfl) (z0m (z1p zdR rfl (by kernel_rfl) rfl) (z1p zdQ rfl (by kernel_rfl) rfl)))) (by kernel_rfl) rfl
theorem zjv : StOk (z0v 10 z7Q) zfP #[true, true, true, true, false, true, false, true, false, true, true, false, false, false] 6 [13] := z1a (z0m (z1p zdX rfl (by kernel_rfl) rfl) (z0m (z1p zdU rfl (by kernel_rfl) rfl) (z0m (z1p zdS rfl (by kernel_rfl) rfl) (z1p zdQ rfl (by kernel_rfl) rfl)))) (by kernel_rfl) rfl
theorem zjw : StOk (z0v 10 z7Q) zfQ #[true, true, true, true, false, true, false, true, true, true, false, false, false, false] 6 [13] := z1a (z0m (z1p zdY rfl (by kernel_rfl) rfl) (z0m (z1p zdV rfl (by kernel_rfl) rfl) (z0m (z1p zdS rfl (by kernel_rfl) rfl) (z1p zdR rfl (by kernel_rfl) rfl)))) (by kernel_rfl) rfl
theorem zmb : StOk (z0v 10 z7Q) zhI #[true, true, true, true, false, true, true, true, false, true, false, false, false, false] 6 [13] := z1a (z0m (z1p zdZ rfl (by kernel_rfl) rfl) (z0m (z1p zdV rfl (by kernel_rfl) rfl) (z0m (z1p zdU rfl (by kernel_rfl) rfl) (z1p zdT rfl (by kernel_rfl) rfl)))) (by kernel_rfl) rfl
theorem zmc : StOk (z0v 10 z7Q) zhJ #[true, true, true, true, true, true, false, true, false, true, false, false, false, false] 6 [13] := z1a (z0m (z1p zdZ rfl (by kernel_rfl) rfl) (z0m (z1p zdY rfl (by kernel_rfl) rfl) (z0m (z1p zdX rfl (by kernel_rfl) rfl) (z1p zdW rfl (by kernel_rfl) rfl)))) (by kernel_rfl) rfl
theorem zmd : StOk (z0v 10 z7Q) zhK #[true, true, true, true, false, true, false, true, false, true, false, false, false, false] 7 [13] := z1a (z0m (z1p zmc rfl (by kernel_rfl) rfl) (z0m (z1p zmb rfl (by kernel_rfl) rfl) (z0m (z1p zjw rfl (by kernel_rfl) rfl) (z0m (z1p zjv rfl (by kernel_rfl) rfl) (z1p zju rfl (by kernel_rfl) rfl))))) (by kernel_rfl) rfl
theorem zme : StOk (z0v 10 z7Q) zhL #[true, true, true, true, false, true, false, true, false, false, false, false, false, false] 8 [13] := z5o zmd rfl (by kernel_rfl)
theorem zmf : StOk (z0v 10 z7Q) zhM #[true, true, true, true, false, true, false, false, false, false, false, false, false, false] 9 [13] := z5o zme rfl (by kernel_rfl)
theorem zmg : StOk (z0v 10 z7Q) zhN #[true, true, true, true, false, false, false, false, false, false, false, false, false, false] 10 [13] := z5o zmf rfl (by kernel_rfl)
theorem zmh : StOk (z0v 10 z7Q) zhO #[true, true, true, false, false, false, false, false, false, false, false, false, false, false] 11 [13] := z5o zmg rfl (by kernel_rfl)
theorem zmi : StOk (z0v 10 z7Q) zhP #[true, true, false, false, false, false, false, false, false, false, false, false, false, false] 12 [13] := z5o zmh rfl (by kernel_rfl)
theorem zmj : StOk (z0v 10 z7Q) zhQ #[true, false, false, false, false, false, false, false, false, false, false, false, false, false] 13 [13] := z5o zmi rfl (by kernel_rfl)
theorem zmk : StOk (z0v 10 z7Q) zhR #[false, false, false, false, false, false, false, false, false, false, false, false, false, false] 14 [13] := z5o zmj rfl (by kernel_rfl)
theorem zuC : z3i Try.prog 14 cf14 = true := zjG [10] zvL zvO rfl (by kernel_rfl) (by simp only [List.forall_mem_cons]; exact ⟨⟨_, rfl, zgm (by kernel_rfl) zmk (by kernel_rfl) (by kernel_rfl)⟩, fun _ h => by cases h⟩)
theorem zje : StOk (z0v 47 z3U) zfy #[true, true, true, true, true, true, true, true, true, true, true, true, true, true, true, true] 0 [] := zks (by kernel_rfl)
theorem zjf : StOk (z0v 47 z3U) zfz #[true, true, true, true, true, true, true, true, true, true, true, true, true, true, true, false] 1 [15] := zaE zje rfl (by kernel_rfl) rfl
theorem zdw : StOk (z0v 47 z3U) zbJ #[true, true, true, true, true, true, true, true, true, true, true, true, true, true, false, false] 2 [15] := z5o zjf rfl (by kernel_rfl)
theorem zjg : StOk (z0v 47 z3U) zfA #[true, true, true, true, true, true, true, false, true, true, true, true, true, true, false, false] 3 [15] := zaE zdw rfl (by kernel_rfl) rfl
theorem zdx : StOk (z0v 47 z3U) zbK #[true, true, true, true, true, true, true, true, true, true, true, true, true, false, false, false] 3 [13] := zaE zdw rfl (by kernel_rfl) rfl
theorem zjh : StOk (z0v 47 z3U) zfB #[true, true, true, true, true, true, true, false, true, true, true, true, true, false, false, false] 4 [13] := z1a (z0m (z1p zdx rfl (by kernel_rfl) rfl) (z1p zjg rfl (by kernel_rfl) rfl)) (by kernel_rfl) rfl
theorem zdy : StOk (z0v 47 z3U) zbL #[true, true, true, true, true, true, true, true, true, true, true, true, false, false, false, false] 4 [13] := z5o zdx rfl (by kernel_rfl)
theorem zdz : StOk (z0v 47 z3U) zbM #[true, true, true, true, true, false, true, true, true, true, true, true, false, false, false, false] 5 [13] := zaE zdy rfl (by kernel_rfl) rfl
theorem zdA : StOk (z0v 47 z3U) zbN #[true, true, true, true, true, true, true, false, true, true, true, true, false, false, false, false] 5 [13] := z5o zjh rfl (by kernel_rfl)
theorem zae : StOk (z0v 47 z3U) z9x #[true, true, true, true, true, true, true, true, true, true, true, false, false, false, false, false] 5 [11] := zaE zdy rfl (by kernel_rfl) rfl
theorem zji : StOk (z0v 47 z3U) zfC #[true, true, true, true, true, false, true, false, true, true, true, true, false, false, false, false] 6 [13] := z1a (z0m (z1p zdA rfl (by kernel_rfl) rfl) (z1p zdz rfl (by kernel_rfl) rfl)) (by kernel_rfl) rfl
theorem zdB : StOk (z0v 47 z3U) zbO #[true, true, true, true, true, false, true, true, true, true, true, false, false, false, false, false] 6 [11] := z1a (z0m (z1p zae rfl (by kernel_rfl) rfl) (z1p zdz rfl (by kernel_rfl) rfl)) (by kernel_rfl) rfl
theorem zdC : StOk (z0v 47 z3U) zbP #[true, true, true, true, true, true, true, false, true, true, true, false, false, false, false, false] 6 [11] := z1a (z0m (z1p zae rfl (by kernel_rfl) rfl) (z1p zdA rfl (by kernel_rfl) rfl)) (by kernel_rfl) rfl
theorem zdD : StOk (z0v 47 z3U) zbQ #[true, true, true, true, true, true, true, true, true, true, false, false, false, false, false, false] 6 [11] := z5o zae rfl (by kernel_rfl)
theorem zaf : StOk (z0v 47 z3U) z9y #[true, true, true, false, true, true, true, true, true, true, false, false, false, false, false, false] 7 [11] := zaE zdD rfl (by kernel_rfl) rfl
theorem zjj : StOk (z0v 47 z3U) zfD #[true, true, true, true, true, false, true, false, true, true, true, false, false, false, false, false] 7 [11] := z1a (z0m (z1p zdC rfl (by kernel_rfl) rfl) (z0m (z1p zdB rfl (by kernel_rfl) rfl) (z1p zji rfl (by kernel_rfl) rfl))) (by kernel_rfl) rfl
theorem zdE : StOk (z0v 47 z3U) zbR #[true, true, true, true, true, false, true, true, true, true, false, false, false, false, false, false] 7 [11] := z5o zdB rfl (by kernel_rfl)
theorem zdF : StOk (z0v 47 z3U) zbS #[true, true, true, true, true, true, true, false, true, true, false, false, false, false, false, false] 7 [11] := z5o zdC rfl (by kernel_rfl)
theorem z8o : StOk (z0v 47 z3U) z7U #[true, true, true, true, true, true, true, true, true, false, false, false, false, false, false, false] 7 [9] := zaE zdD rfl (by kernel_rfl) rfl
theorem zdG : StOk (z0v 47 z3U) zbT #[true, true, true, false, true, false, true, true, true, true, false, false, false, false, false, false] 8 [11] := z1a (z0m (z1p zdE rfl (by kernel_rfl) rfl) (z1p zaf rfl (by kernel_rfl) rfl)) (by kernel_rfl) rfl
theorem zdH : StOk (z0v 47 z3U) zbU #[true, true, true, false, true, true, true, false, true, true, false, false, false, false, false, false] 8 [11] := z1a (z0m (z1p zdF rfl (by kernel_rfl) rfl) (z1p zaf rfl (by kernel_rfl) rfl)) (by kernel_rfl) rfl
theorem zag : StOk (z0v 47 z3U) z9z #[true, true, true, false, true, true, true, true, true, false, false, false, false, false, false, false] 8 [9] := z1a (z0m (z1p z8o rfl (by kernel_rfl) rfl) (z1p zaf rfl (by kernel_rfl) rfl)) (by kernel_rfl) rfl
theorem zdI : StOk (z0v 47 z3U) zbV #[true, true, true, true, true, false, true, false, true, true, false, false, false, false, false, false] 8 [11] := z5o zjj rfl (by kernel_rfl)
theorem zah : StOk (z0v 47 z3U) z9A #[true, true, true, true, true, false, true, true, true, false, false, false, false, false, false, false] 8 [9] := z1a (z0m (z1p z8o rfl (by kernel_rfl) rfl) (z1p zdE rfl (by kernel_rfl) rfl)) (by kernel_rfl) rfl
theorem zai : StOk (z0v 47 z3U) z9B #[true, true, true, true, true, true, true, false, true, false, false, false, false, false, false, false] 8 [9] := z1a (z0m (z1p z8o rfl (by kernel_rfl) rfl) (z1p zdF rfl (by kernel_rfl) rfl)) (by kernel_rfl) rfl
theorem zjk : StOk (z0v 47 z3U) zfE #[true, true, true, true, true, true, true, true, false, false, false, false, false, false, false, false] 8 [9] := z5o z8o rfl (by kernel_rfl)
theorem zaj : StOk (z0v 47 z3U) z9C #[true, false, true, true, true, true, true, true, false, false, false, false, false, false, false, false] 9 [9] := zaE zjk rfl (by kernel_rfl) rfl
theorem zjl : StOk (z0v 47 z3U) zfF #[true, true, true, false, true, false, true, false, true, true, false, false, false, false, false, false] 9 [11] := z1a (z0m (z1p zdI rfl (by kernel_rfl) rfl) (z0m (z1p zdH rfl (by kernel_rfl) rfl) (z1p zdG rfl (by kernel_rfl) rfl))) (by kernel_rfl) rfl
theorem zdJ : StOk (z0v 47 z3U) zbW #[true, true, true, false, true, false, true, true, true, false, false, false, false, false, false, false] 9 [9] := z1a (z0m (z1p zah rfl (by kernel_rfl) rfl) (z0m (z1p zag rfl (by kernel_rfl) rfl) (z1p zdG rfl (by kernel_rfl) rfl))) (by kernel_rfl) rfl
theorem zdK : StOk (z0v 47 z3U) zbX #[true, true, true, false, true, true, true, false, true, false, false, false, false, false, false, false] 9 [9] := z1a (z0m (z1p zai rfl (by kernel_rfl) rfl) (z0m (z1p zag rfl (by kernel_rfl) rfl) (z1p zdH rfl (by kernel_rfl) rfl))) (by kernel_rfl) rfl
theorem zjm : StOk (z0v 47 z3U) zfG #[true, true, true, false, true, true, true, true, false, false, false, false, false, false, false, false] 9 [9] := z5o zag rfl (by kernel_rfl)
theorem zdL : StOk (z0v 47 z3U) zbY #[true, true, true, true, true, false, true, false, true, false, false, false, false, false, false, false] 9 [9] := z1a (z0m (z1p zai rfl (by kernel_rfl) rfl) (z0m (z1p zah rfl (by kernel_rfl) rfl) (z1p zdI rfl (by kernel_rfl) rfl))) (by kernel_rfl) rfl
theorem zjn : StOk (z0v 47 z3U) zfH #[true, true, true, true, true, false, true, true, false, false, false, false, false, false, false, false] 9 [9] := z5o zah rfl (by kernel_rfl)
theorem zjo : StOk (z0v 47 z3U) zfI #[true, true, true, true, true, true, true, false, false, false, false, false, false, false, false, false] 9 [9] := z5o zai rfl (by kernel_rfl)
theorem zdM : StOk (z0v 47 z3U) zbZ #[true, false, true, false, true, true, true, true, false, false, false, false, false, false, false, false] 10 [9] := z1a (z0m (z1p zjm rfl (by kernel_rfl) rfl) (z1p zaj rfl (by kernel_rfl) rfl)) (by kernel_rfl) rfl
theorem zdN : StOk (z0v 47 z3U) zc0 #[true, false, true, true, true, false, true, true, false, false, false, false, false, false, false, false] 10 [9] := z1a (z0m (z1p zjn rfl (by kernel_rfl) rfl) (z1p zaj rfl (by kernel_rfl) rfl)) (by kernel_rfl) rfl
theorem zdO : StOk (z0v 47 z3U) zc1 #[true, false, true, true, true, true, true, false, false, false, false, false, false, false, false, false] 10 [9] := z1a (z0m (z1p zjo rfl (by kernel_rfl) rfl) (z1p zaj rfl (by kernel_rfl) rfl)) (by kernel_rfl) rfl
theorem zjp : StOk (z0v 47 z3U) zfJ #[true, true, true, false, true, false, true, false, true, false, false, false, false, false, false, false] 10 [9] := z1a (z0m (z1p zdL rfl (by kernel_rfl) rfl) (z0m (z1p zdK rfl (by kernel_rfl) rfl) (z0m (z1p zdJ rfl (by kernel_rfl) rfl) (z1p zjl rfl (by kernel_rfl) rfl)))) (by kernel_rfl) rfl
theorem zjq : StOk (z0v 47 z3U) zfK #[true, true, true, false, true, false, true, true, false, false, false, false, false, false, false, false] 10 [9] := z5o zdJ rfl (by kernel_rfl)
theorem zjr : StOk (z0v 47 z3U) zfL #[true, true, true, false, true, true, true, false, false, false, false, false, false, false, false, false] 10 [9] := z5o zdK rfl (by kernel_rfl)
theorem zm1 : StOk (z0v 47 z3U) zhy #[true, true, true, true, true, false, true, false, false, false, false, false, false, false, false, false] 10 [9] := z5o zdL rfl (by kernel_rfl)
theorem zm2 : StOk (z0v 47 z3U) zhz #[true, false, true, false, true, false, true, true, false, false, false, false, false, false, false, false] 11 [9] := z1a (z0m (z1p zjq rfl (by kernel_rfl) rfl) (z0m (z1p zdN rfl (by kernel_rfl) rfl) (z1p zdM rfl (by kernel_rfl) rfl))) (by kernel_rfl) rfl
theorem zm3 : StOk (z0v 47 z3U) zhA #[true, false, true, false, true, true, true, false, false, false, false, false, false, false, false, false] 11 [9] := z1a (z0m (z1p zjr rfl (by kernel_rfl) rfl) (z0m (z1p zdO rfl (by kernel_rfl) rfl) (z1p zdM rfl (by kernel_rfl) rfl))) (by kernel_rfl) rfl
theorem zm4 : StOk (z0v 47 z3U) zhB #[true, false, true, true, true, false, true, false, false, false, false, false, false, false, false, false] 11 [9] := z1a (z0m (z1p zm1 rfl (by kernel_rfl) rfl) (z0m (z1p zdO rfl (by kernel_rfl) rfl) (z1p zdN rfl (by kernel_rfl) rfl))) (by kernel_rfl) rfl
theorem zm5 : StOk (z0v 47 z3U) zhC #[true, true, true, false, true, false, true, false, false, false, false, false, false, false, false, false] 11 [9] := z5o zjp rfl (by kernel_rfl)
theorem zm6 : StOk (z0v 47 z3U) zhD #[true, false, true, false, true, false, true, false, false, false, false, false, false, false, false, false] 12 [9] := z1a (z0m (z1p zm5 rfl (by kernel_rfl) rfl) (z0m (z1p zm4 rfl (by kernel_rfl) rfl) (z0m (z1p zm3 rfl (by kernel_rfl) rfl) (z1p zm2 rfl (by kernel_rfl) rfl)))) (by kernel_rfl) rfl
theorem zm7 : StOk (z0v 47 z3U) zhE #[true, false, true, false, true, false, false, false, false, false, false, false, false, false, false, false] 13 [9] := z5o zm6 rfl (by kernel_rfl)
theorem zm8 : StOk (z0v 47 z3U) zhF #[true, false, true, false, false, false, false, false, false, false, false, false, false, false, false, false] 14 [9] := z5o zm7 rfl (by kernel_rfl)
theorem zm9 : StOk (z0v 47 z3U) zhG #[true, false, false, false, false, false, false, false, false, false, false, false, false, false, false, false] 15 [9] := z5o zm8 rfl (by kernel_rfl)
theorem zma : StOk (z0v 47 z3U) zhH #[false, false, false, false, false, false, false, false, false, false, false, false, false, false, false, false] 16 [9] := z5o zm9 rfl (by kernel_rfl)
theorem zj7 : StOk (z0v 77 z3U) zfr #[true, true, true, true, true, true, true, true, true, true, true, true, true] 0 [] := zks (by kernel_rfl)
theorem zj8 : StOk (z0v 77 z3U) zfs #[true, true, true, true, true, true, true, true, true, true, true, true, false] 1 [12] := zaE zj7 rfl (by kernel_rfl) rfl
theorem zdq : StOk (z0v 77 z3U) zbD #[true, true, true, true, true, true, true, true, true, true, true, false, false] 2 [12] := z5o zj8 rfl (by kernel_rfl)
theorem zj9 : StOk (z0v 77 z3U) zft #[true, false, true, true, true, true, true, true, true, true, true, false, false] 3 [1] := zaE zdq rfl (by kernel_rfl) rfl
theorem zac : StOk (z0v 77 z3U) z9v #[true, true, true, true, true, true, true, true, true, true, false, false, false] 3 [10] := zaE zdq rfl (by kernel_rfl) rfl
theorem zdr : StOk (z0v 77 z3U) zbE #[true, false, true, true, true, true, true, true, true, true, false, false, false] 4 [1, 10] := z1a (z0m (z1p zac rfl (by kernel_rfl) rfl) (z1p zj9 rfl (by kernel_rfl) rfl)) (by kernel_rfl) rfl
theorem zad : StOk (z0v 77 z3U) z9w #[true, true, true, true, true, true, true, false, true, true, false, false, false] 4 [7] := zaE zac rfl (by kernel_rfl) rfl
theorem zds : StOk (z0v 77 z3U) zbF #[true, true, true, true, true, true, true, true, true, false, false, false, false] 4 [10] := zaE zac rfl (by kernel_rfl) rfl
theorem zdt : StOk (z0v 77 z3U) zbG #[true, false, true, true, true, true, true, false, true, true, false, false, false] 5 [1, 7] := z1a (z0m (z1p zad rfl (by kernel_rfl) rfl) (z1p zdr rfl (by kernel_rfl) rfl)) (by kernel_rfl) rfl
theorem zja : StOk (z0v 77 z3U) zfu #[true, false, true, true, true, true, true, true, true, false, false, false, false] 5 [1, 10] := z1a (z0m (z1p zds rfl (by kernel_rfl) rfl) (z1p zdr rfl (by kernel_rfl) rfl)) (by kernel_rfl) rfl
theorem zjb : StOk (z0v 77 z3U) zfv #[true, true, true, true, true, true, false, false, true, true, false, false, false] 5 [7] := z5o zad rfl (by kernel_rfl)
theorem zdu : StOk (z0v 77 z3U) zbH #[true, true, true, true, true, true, true, false, true, false, false, false, false] 5 [7] := z1a (z0m (z1p zds rfl (by kernel_rfl) rfl) (z1p zad rfl (by kernel_rfl) rfl)) (by kernel_rfl) rfl
theorem zjc : StOk (z0v 77 z3U) zfw #[true, false, true, true, true, true, false, false, true, true, false, false, false] 6 [1, 7] := z5o zdt rfl (by kernel_rfl)
theorem zjd : StOk (z0v 77 z3U) zfx #[true, false, true, true, true, true, true, false, true, false, false, false, false] 6 [1, 7] := z1a (z0m (z1p zdu rfl (by kernel_rfl) rfl) (z0m (z1p zja rfl (by kernel_rfl) rfl) (z1p zdt rfl (by kernel_rfl) rfl))) (by kernel_rfl) rfl
theorem zdv : StOk (z0v 77 z3U) zbI #[true, true, true, true, false, true, false, false, true, true, false, false, false] 6 [4] := zaE zjb rfl (by kernel_rfl) rfl
theorem zlR : StOk (z0v 77 z3U) zho #[true, true, true, true, true, true, false, false, true, false, false, false, false] 6 [7] := z5o zdu rfl (by kernel_rfl)
theorem zlS : StOk (z0v 77 z3U) zhp #[true, false, true, true, false, true, false, false, true, true, false, false, false] 7 [1, 4] := z1a (z0m (z1p zdv rfl (by kernel_rfl) rfl) (z1p zjc rfl (by kernel_rfl) rfl)) (by kernel_rfl) rfl
theorem zlT : StOk (z0v 77 z3U) zhq #[true, false, true, true, true, true, false, false, true, false, false, false, false] 7 [1, 7] := z5o zjd rfl (by kernel_rfl)
theorem zlU : StOk (z0v 77 z3U) zhr #[true, true, true, true, false, true, false, false, true, false, false, false, false] 7 [4] := z1a (z0m (z1p zlR rfl (by kernel_rfl) rfl) (z1p zdv rfl (by kernel_rfl) rfl)) (by kernel_rfl) rfl
theorem zlV : StOk (z0v 77 z3U) zhs #[true, false, true, true, false, true, false, false, true, false, false, false, false] 8 [1, 4] := z1a (z0m (z1p zlU rfl (by kernel_rfl) rfl) (z0m (z1p zlT rfl (by kernel_rfl) rfl) (z1p zlS rfl (by kernel_rfl) rfl))) (by kernel_rfl) rfl
theorem zlW : StOk (z0v 77 z3U) zht #[true, false, true, true, false, true, false, false, false, false, false, false, false] 9 [1, 4] := z5o zlV rfl (by kernel_rfl)
theorem zlX : StOk (z0v 77 z3U) zhu #[true, false, true, true, false, false, false, false, false, false, false, false, false] 10 [1, 4] := z5o zlW rfl (by kernel_rfl)
theorem zlY : StOk (z0v 77 z3U) zhv #[true, false, true, false, false, false, false, false, false, false, false, false, false] 11 [1, 4] := z5o zlX rfl (by kernel_rfl)
theorem zlZ : StOk (z0v 77 z3U) zhw #[true, false, false, false, false, false, false, false, false, false, false, false, false] 12 [1, 4] := z5o zlY rfl (by kernel_rfl)
theorem zm0 : StOk (z0v 77 z3U) zhx #[false, false, false, false, false, false, false, false, false, false, false, false, false] 13 [1, 4] := z5o zlZ rfl (by kernel_rfl)
theorem zuB : z3i Try.prog 15 cf15 = true := zjG [47, 77] zvK zvN rfl (by kernel_rfl) (by simp only [List.forall_mem_cons]; exact ⟨⟨_, rfl, zgm (by kernel_rfl) zma (by kernel_rfl) (by kernel_rfl)⟩, ⟨_, rfl, zgm (by kernel_rfl) zm0 (by kernel_rfl) (by kernel_rfl)⟩, fun _ h => by cases h⟩)
theorem zuA : z3i Try.prog 16 cf16 = true := by kernel_rfl
theorem zuz : z3i Try.prog 17 cf17 = true := by kernel_rfl
theorem zuy : z3i Try.prog 18 cf18 = true := by kernel_rfl
theorem zux : z3i Try.prog 19 cf19 = true := by kernel_rfl
theorem zuw : z3i Try.prog 20 cf20 = true := by kernel_rfl
theorem zuv : z3i Try.prog 21 cf21 = true := by kernel_rfl
theorem zuu : z3i Try.prog 22 cf22 = true := by kernel_rfl
theorem zut : z3i Try.prog 23 cf23 = true := by kernel_rfl
theorem zus : z3i Try.prog 24 cf24 = true := by kernel_rfl
theorem zur : z3i Try.prog 25 cf25 = true := by kernel_rfl
theorem zuq : z3i Try.prog 26 cf26 = true := by kernel_rfl
theorem zup : z3i Try.prog 27 cf27 = true := by kernel_rfl
theorem zuo : z3i Try.prog 28 cf28 = true := by kernel_rfl
theorem zun : z3i Try.prog 29 cf29 = true := by kernel_rfl
theorem zum : z3i Try.prog 30 cf30 = true := by kernel_rfl
theorem zul : z3i Try.prog 31 cf31 = true := by kernel_rfl
theorem zly : StOk (z0v 7 z4y) zh5 #[true, true, true, true, true, true, true, true, true, true, true, true, true, true, true, true, true] 0 [] := zks (by kernel_rfl)
theorem zlz : StOk (z0v 7 z4y) zh6 #[true, true, true, true, true, true, true, true, true, true, true, true, true, true, true, true, false] 1 [16] := zaE zly rfl (by kernel_rfl) rfl
theorem zlA : StOk (z0v 7 z4y) zh7 #[true, true, true, true, true, true, true, true, true, true, true, true, true, true, true, false, false] 2 [16] := z5o zlz rfl (by kernel_rfl)
theorem zlB : StOk (z0v 7 z4y) zh8 #[true, true, true, true, true, true, true, true, true, true, true, true, true, true, false, false, false] 3 [14] := zaE zlA rfl (by kernel_rfl) rfl
theorem zf7 : StOk (z0v 7 z4y) zd6 #[true, true, true, true, true, true, true, true, true, true, true, true, false, true, false, false, false] 4 [12] := zaE zlB rfl (by kernel_rfl) rfl
theorem zf8 : StOk (z0v 7 z4y) zd7 #[true, true, true, true, true, true, true, true, true, true, true, false, false, true, false, false, false] 5 [12] := zaE zf7 rfl (by kernel_rfl) rfl
theorem zf9 : StOk (z0v 7 z4y) zd8 #[true, true, true, true, true, true, true, true, true, true, true, true, false, false, false, false, false] 5 [12] := z5o zf7 rfl (by kernel_rfl)
theorem z9r : StOk (z0v 7 z4y) z8P #[true, true, true, true, true, true, false, true, true, true, true, true, false, false, false, false, false] 6 [6] := zaE zf9 rfl (by kernel_rfl) rfl
theorem zfa : StOk (z0v 7 z4y) zd9 #[true, true, true, true, true, true, true, true, false, true, true, true, false, false, false, false, false] 6 [8] := zaE zf9 rfl (by kernel_rfl) rfl
theorem zlC : StOk (z0v 7 z4y) zh9 #[true, true, true, true, true, true, true, true, true, true, false, false, false, true, false, false, false] 6 [12] := zaE zf8 rfl (by kernel_rfl) rfl
theorem zfb : StOk (z0v 7 z4y) zda #[true, true, true, true, true, true, true, true, true, true, true, false, false, false, false, false, false] 6 [12] := z5o zf8 rfl (by kernel_rfl)
theorem zbr : StOk (z0v 7 z4y) zaJ #[true, false, true, true, true, true, false, true, true, true, true, true, false, false, false, false, false] 7 [1] := zaE z9r rfl (by kernel_rfl) rfl
theorem z9s : StOk (z0v 7 z4y) z8Q #[true, true, true, true, true, false, false, true, true, true, true, true, false, false, false, false, false] 7 [6] := zaE z9r rfl (by kernel_rfl) rfl
theorem zbs : StOk (z0v 7 z4y) zaK #[true, true, true, true, true, true, false, true, false, true, true, true, false, false, false, false, false] 7 [6, 8] := z1a (z0m (z1p zfa rfl (by kernel_rfl) rfl) (z1p z9r rfl (by kernel_rfl) rfl)) (by kernel_rfl) rfl
theorem z9t : StOk (z0v 7 z4y) z8R #[true, true, true, true, true, true, false, true, true, true, true, false, false, false, false, false, false] 7 [6] := z1a (z0m (z1p zfb rfl (by kernel_rfl) rfl) (z1p z9r rfl (by kernel_rfl) rfl)) (by kernel_rfl) rfl
theorem zfc : StOk (z0v 7 z4y) zdb #[true, true, true, true, true, true, true, true, false, true, true, false, false, false, false, false, false] 7 [8] := z1a (z0m (z1p zfb rfl (by kernel_rfl) rfl) (z1p zfa rfl (by kernel_rfl) rfl)) (by kernel_rfl) rfl
theorem zfd : StOk (z0v 7 z4y) zdc #[true, true, true, true, true, true, true, true, true, true, false, false, false, false, false, false, false] 7 [12] := z5o zlC rfl (by kernel_rfl)
theorem zbt : StOk (z0v 7 z4y) zaL #[true, false, true, true, true, false, false, true, true, true, true, true, false, false, false, false, false] 8 [1] := z1a (z0m (z1p z9s rfl (by kernel_rfl) rfl) (z1p zbr rfl (by kernel_rfl) rfl)) (by kernel_rfl) rfl
theorem zfe : StOk (z0v 7 z4y) zdd #[true, false, true, true, true, true, false, true, false, true, true, true, false, false, false, false, false] 8 [1, 8] := z1a (z0m (z1p zbs rfl (by kernel_rfl) rfl) (z1p zbr rfl (by kernel_rfl) rfl)) (by kernel_rfl) rfl
theorem zbu : StOk (z0v 7 z4y) zaM #[true, false, true, true, true, true, false, true, true, true, true, false, false, false, false, false, false] 8 [1] := z1a (z0m (z1p z9t rfl (by kernel_rfl) rfl) (z1p zbr rfl (by kernel_rfl) rfl)) (by kernel_rfl) rfl
theorem zlD : StOk (z0v 7 z4y) zha #[true, true, true, true, false, false, false, true, true, true, true, true, false, false, false, false, false] 8 [6] := z5o z9s rfl (by kernel_rfl)
theorem zbv : StOk (z0v 7 z4y) zaN #[true, true, true, true, true, false, false, true, false, true, true, true, false, false, false, false, false] 8 [6, 8] := z1a (z0m (z1p zbs rfl (by kernel_rfl) rfl) (z1p z9s rfl (by kernel_rfl) rfl)) (by kernel_rfl) rfl
theorem z9u : StOk (z0v 7 z4y) z8S #[true, true, true, true, true, false, false, true, true, true, true, false, false, false, false, false, false] 8 [6] := z1a (z0m (z1p z9t rfl (by kernel_rfl) rfl) (z1p z9s rfl (by kernel_rfl) rfl)) (by kernel_rfl) rfl
theorem zbw : StOk (z0v 7 z4y) zaO #[true, true, true, true, true, true, false, true, false, true, true, false, false, false, false, false, false] 8 [6, 8] := z1a (z0m (z1p zfc rfl (by kernel_rfl) rfl) (z0m (z1p z9t rfl (by kernel_rfl) rfl) (z1p zbs rfl (by kernel_rfl) rfl))) (by kernel_rfl) rfl
theorem zbx : StOk (z0v 7 z4y) zaP #[true, true, true, true, true, true, false, true, true, true, false, false, false, false, false, false, false] 8 [6] := z1a (z0m (z1p zfd rfl (by kernel_rfl) rfl) (z1p z9t rfl (by kernel_rfl) rfl)) (by kernel_rfl) rfl
theorem zlE : StOk (z0v 7 z4y) zhb #[true, true, true, true, true, true, true, true, false, true, false, false, false, false, false, false, false] 8 [8] := z1a (z0m (z1p zfd rfl (by kernel_rfl) rfl) (z1p zfc rfl (by kernel_rfl) rfl)) (by kernel_rfl) rfl
theorem zlF : StOk (z0v 7 z4y) zhc #[true, false, true, true, false, false, false, true, true, true, true, true, false, false, false, false, false] 9 [1] := z5o zbt rfl (by kernel_rfl)
theorem zff : StOk (z0v 7 z4y) zde #[true, false, true, true, true, false, false, true, false, true, true, true, false, false, false, false, false] 9 [1, 8] := z1a (z0m (z1p zbv rfl (by kernel_rfl) rfl) (z0m (z1p zfe rfl (by kernel_rfl) rfl) (z1p zbt rfl (by kernel_rfl) rfl))) (by kernel_rfl) rfl
theorem zby : StOk (z0v 7 z4y) zaQ #[true, false, true, true, true, false, false, true, true, true, true, false, false, false, false, false, false] 9 [1] := z1a (z0m (z1p z9u rfl (by kernel_rfl) rfl) (z0m (z1p zbu rfl (by kernel_rfl) rfl) (z1p zbt rfl (by kernel_rfl) rfl))) (by kernel_rfl) rfl
theorem zfg : StOk (z0v 7 z4y) zdf #[true, false, true, true, true, true, false, true, false, true, true, false, false, false, false, false, false] 9 [1, 8] := z1a (z0m (z1p zbw rfl (by kernel_rfl) rfl) (z0m (z1p zbu rfl (by kernel_rfl) rfl) (z1p zfe rfl (by kernel_rfl) rfl))) (by kernel_rfl) rfl
theorem zfh : StOk (z0v 7 z4y) zdg #[true, false, true, true, true, true, false, true, true, true, false, false, false, false, false, false, false] 9 [1] := z1a (z0m (z1p zbx rfl (by kernel_rfl) rfl) (z1p zbu rfl (by kernel_rfl) rfl)) (by kernel_rfl) rfl
theorem zbz : StOk (z0v 7 z4y) zaR #[true, true, true, false, false, false, false, true, true, true, true, true, false, false, false, false, false] 9 [6] := zaE zlD rfl (by kernel_rfl) rfl
theorem zlG : StOk (z0v 7 z4y) zhd #[true, true, true, true, false, false, false, true, false, true, true, true, false, false, false, false, false] 9 [6, 8] := z5o zbv rfl (by kernel_rfl)
theorem zlH : StOk (z0v 7 z4y) zhe #[true, true, true, true, false, false, false, true, true, true, true, false, false, false, false, false, false] 9 [6] := z5o z9u rfl (by kernel_rfl)
theorem zbA : StOk (z0v 7 z4y) zaS #[true, true, true, true, true, false, false, true, false, true, true, false, false, false, false, false, false] 9 [6, 8] := z1a (z0m (z1p zbw rfl (by kernel_rfl) rfl) (z0m (z1p z9u rfl (by kernel_rfl) rfl) (z1p zbv rfl (by kernel_rfl) rfl))) (by kernel_rfl) rfl
theorem zbB : StOk (z0v 7 z4y) zaT #[true, true, true, true, true, false, false, true, true, true, false, false, false, false, false, false, false] 9 [6] := z1a (z0m (z1p zbx rfl (by kernel_rfl) rfl) (z1p z9u rfl (by kernel_rfl) rfl)) (by kernel_rfl) rfl
theorem zfi : StOk (z0v 7 z4y) zdh #[true, true, true, true, true, true, false, true, false, true, false, false, false, false, false, false, false] 9 [6, 8] := z1a (z0m (z1p zlE rfl (by kernel_rfl) rfl) (z0m (z1p zbx rfl (by kernel_rfl) rfl) (z1p zbw rfl (by kernel_rfl) rfl))) (by kernel_rfl) rfl
theorem zfj : StOk (z0v 7 z4y) zdi #[true, false, true, false, false, false, false, true, true, true, true, true, false, false, false, false, false] 10 [1] := z1a (z0m (z1p zbz rfl (by kernel_rfl) rfl) (z1p zlF rfl (by kernel_rfl) rfl)) (by kernel_rfl) rfl
theorem zlI : StOk (z0v 7 z4y) zhf #[true, false, true, true, false, false, false, true, false, true, true, true, false, false, false, false, false] 10 [1, 8] := z5o zff rfl (by kernel_rfl)
theorem zlJ : StOk (z0v 7 z4y) zhg #[true, false, true, true, false, false, false, true, true, true, true, false, false, false, false, false, false] 10 [1] := z5o zby rfl (by kernel_rfl)
theorem zfk : StOk (z0v 7 z4y) zdj #[true, false, true, true, true, false, false, true, false, true, true, false, false, false, false, false, false] 10 [1, 8] := z1a (z0m (z1p zbA rfl (by kernel_rfl) rfl) (z0m (z1p zfg rfl (by kernel_rfl) rfl) (z0m (z1p zby rfl (by kernel_rfl) rfl) (z1p zff rfl (by kernel_rfl) rfl)))) (by kernel_rfl) rfl
theorem zfl : StOk (z0v 7 z4y) zdk #[true, false, true, true, true, false, false, true, true, true, false, false, false, false, false, false, false] 10 [1] := z1a (z0m (z1p zbB rfl (by kernel_rfl) rfl) (z0m (z1p zfh rfl (by kernel_rfl) rfl) (z1p zby rfl (by kernel_rfl) rfl))) (by kernel_rfl) rfl
theorem zlK : StOk (z0v 7 z4y) zhh #[true, false, true, true, true, true, false, true, false, true, false, false, false, false, false, false, false] 10 [1, 8] := z1a (z0m (z1p zfi rfl (by kernel_rfl) rfl) (z0m (z1p zfh rfl (by kernel_rfl) rfl) (z1p zfg rfl (by kernel_rfl) rfl))) (by kernel_rfl) rfl
theorem zfm : StOk (z0v 7 z4y) zdl #[true, true, true, false, false, false, false, true, false, true, true, true, false, false, false, false, false] 10 [6, 8] := z1a (z0m (z1p zlG rfl (by kernel_rfl) rfl) (z1p zbz rfl (by kernel_rfl) rfl)) (by kernel_rfl) rfl
theorem zbC : StOk (z0v 7 z4y) zaU #[true, true, true, false, false, false, false, true, true, true, true, false, false, false, false, false, false] 10 [6] := z1a (z0m (z1p zlH rfl (by kernel_rfl) rfl) (z1p zbz rfl (by kernel_rfl) rfl)) (by kernel_rfl) rfl
theorem zlL : StOk (z0v 7 z4y) zhi #[true, true, true, true, false, false, false, true, false, true, true, false, false, false, false, false, false] 10 [6, 8] := z5o zbA rfl (by kernel_rfl)
theorem zlM : StOk (z0v 7 z4y) zhj #[true, true, true, true, false, false, false, true, true, true, false, false, false, false, false, false, false] 10 [6] := z5o zbB rfl (by kernel_rfl)
theorem zfn : StOk (z0v 7 z4y) zdm #[true, true, true, true, true, false, false, true, false, true, false, false, false, false, false, false, false] 10 [6, 8] := z1a (z0m (z1p zfi rfl (by kernel_rfl) rfl) (z0m (z1p zbB rfl (by kernel_rfl) rfl) (z1p zbA rfl (by kernel_rfl) rfl))) (by kernel_rfl) rfl
theorem zlN : StOk (z0v 7 z4y) zhk #[true, false, true, false, false, false, false, true, false, true, true, true, false, false, false, false, false] 11 [1, 8] := z1a (z0m (z1p zfm rfl (by kernel_rfl) rfl) (z0m (z1p zlI rfl (by kernel_rfl) rfl) (z1p zfj rfl (by kernel_rfl) rfl))) (by kernel_rfl) rfl
theorem zfo : StOk (z0v 7 z4y) zdn #[true, false, true, false, false, false, false, true, true, true, true, false, false, false, false, false, false] 11 [1] := z1a (z0m (z1p zbC rfl (by kernel_rfl) rfl) (z0m (z1p zlJ rfl (by kernel_rfl) rfl) (z1p zfj rfl (by kernel_rfl) rfl))) (by kernel_rfl) rfl
theorem zlO : StOk (z0v 7 z4y) zhl #[true, false, true, true, false, false, false, true, false, true, true, false, false, false, false, false, false] 11 [1, 8] := z5o zfk rfl (by kernel_rfl)
theorem zlP : StOk (z0v 7 z4y) zhm #[true, false, true, true, false, false, false, true, true, true, false, false, false, false, false, false, false] 11 [1] := z5o zfl rfl (by kernel_rfl)
theorem zlQ : StOk (z0v 7 z4y) zhn #[true, false, true, true, true, false, false, true, false, true, false, false, false, false, false, false, false] 11 [1, 8] := z1a (z0m (z1p zfn rfl (by kernel_rfl) rfl) (z0m (z1p zlK rfl (by kernel_rfl) rfl) (z0m (z1p zfl rfl (by kernel_rfl) rfl) (z1p zfk rfl (by kernel_rfl) rfl)))) (by kernel_rfl) rfl
theorem zfp : StOk (z0v 7 z4y) zdo #[true, true, true, false, false, false, false, true, false, true, true, false, false, false, false, false, false] 11 [6, 8] := z1a (z0m (z1p zlL rfl (by kernel_rfl) rfl) (z0m (z1p zbC rfl (by kernel_rfl) rfl) (z1p zfm rfl (by kernel_rfl) rfl))) (by kernel_rfl) rfl
theorem zfq : StOk (z0v 7 z4y) zdp #[true, true, true, false, false, false, false, true, true, true, false, false, false, false, false, false, false] 11 [6] := z1a (z0m (z1p zlM rfl (by kernel_rfl) rfl) (z1p zbC rfl (by kernel_rfl) rfl)) (by kernel_rfl) rfl
theorem zns : StOk (z0v 7 z4y) zkf #[true, true, true, true, false, false, false, true, false, true, false, false, false, false, false, false, false] 11 [6, 8] := z5o zfn rfl (by kernel_rfl)
theorem znt : StOk (z0v 7 z4y) zkg #[true, false, true, false, false, false, false, true, false, true, true, false, false, false, false, false, false] 12 [1, 8] := z1a (z0m (z1p zfp rfl (by kernel_rfl) rfl) (z0m (z1p zlO rfl (by kernel_rfl) rfl) (z0m (z1p zfo rfl (by kernel_rfl) rfl) (z1p zlN rfl (by kernel_rfl) rfl)))) (by kernel_rfl) rfl
theorem znu : StOk (z0v 7 z4y) zkh #[true, false, true, false, false, false, false, true, true, true, false, false, false, false, false, false, false] 12 [1] := z1a (z0m (z1p zfq rfl (by kernel_rfl) rfl) (z0m (z1p zlP rfl (by kernel_rfl) rfl) (z1p zfo rfl (by kernel_rfl) rfl))) (by kernel_rfl) rfl
theorem znv : StOk (z0v 7 z4y) zki #[true, false, true, true, false, false, false, true, false, true, false, false, false, false, false, false, false] 12 [1, 8] := z5o zlQ rfl (by kernel_rfl)
theorem znw : StOk (z0v 7 z4y) zkj #[true, true, true, false, false, false, false, true, false, true, false, false, false, false, false, false, false] 12 [6, 8] := z1a (z0m (z1p zns rfl (by kernel_rfl) rfl) (z0m (z1p zfq rfl (by kernel_rfl) rfl) (z1p zfp rfl (by kernel_rfl) rfl))) (by kernel_rfl) rfl
theorem znx : StOk (z0v 7 z4y) zkk #[true, false, true, false, false, false, false, true, false, true, false, false, false, false, false, false, false] 13 [1, 8] := z1a (z0m (z1p znw rfl (by kernel_rfl) rfl) (z0m (z1p znv rfl (by kernel_rfl) rfl) (z0m (z1p znu rfl (by kernel_rfl) rfl) (z1p znt rfl (by kernel_rfl) rfl)))) (by kernel_rfl) rfl
theorem zny : StOk (z0v 7 z4y) zkl #[true, false, true, false, false, false, false, true, false, false, false, false, false, false, false, false, false] 14 [1, 8] := z5o znx rfl (by kernel_rfl)
theorem znz : StOk (z0v 7 z4y) zkm #[true, false, true, false, false, false, false, false, false, false, false, false, false, false, false, false, false] 15 [1, 8] := z5o zny rfl (by kernel_rfl)
theorem znA : StOk (z0v 7 z4y) zkn #[true, false, false, false, false, false, false, false, false, false, false, false, false, false, false, false, false] 16 [1, 8] := z5o znz rfl (by kernel_rfl)
theorem znB : StOk (z0v 7 z4y) zko #[false, false, false, false, false, false, false, false, false, false, false, false, false, false, false, false, false] 17 [1, 8] := z5o znA rfl (by kernel_rfl)
theorem zuk : z3i Try.prog 32 cf32 = true := zjG [7] zwN zyF rfl (by kernel_rfl) (by simp only [List.forall_mem_cons]; exact ⟨⟨_, rfl, zgm (by kernel_rfl) znB (by kernel_rfl) (by kernel_rfl)⟩, fun _ h => by cases h⟩)
theorem zuj : z3i Try.prog 33 cf33 = true := by kernel_rfl
theorem zui : z3i Try.prog 34 cf34 = true := by kernel_rfl
theorem zuh : z3i Try.prog 35 cf35 = true := by kernel_rfl
theorem zug : z3i Try.prog 36 cf36 = true := by kernel_rfl
theorem zuf : z3i Try.prog 37 cf37 = true := by kernel_rfl
theorem zue : z3i Try.prog 38 cf38 = true := by kernel_rfl
theorem zud : z3i Try.prog 39 cf39 = true := by kernel_rfl
theorem zuc : z3i Try.prog 40 cf40 = true := by kernel_rfl
theorem zub : z3i Try.prog 41 cf41 = true := by kernel_rfl
theorem zua : z3i Try.prog 42 cf42 = true := by kernel_rfl
theorem zu9 : z3i Try.prog 43 cf43 = true := by kernel_rfl
theorem zu8 : z3i Try.prog 44 cf44 = true := by kernel_rfl
theorem zu7 : z3i Try.prog 45 cf45 = true := by kernel_rfl
theorem zu6 : z3i Try.prog 46 cf46 = true := by kernel_rfl
theorem zu5 : z3i Try.prog 47 cf47 = true := by kernel_rfl
theorem zu4 : z3i Try.prog 48 cf48 = true := by kernel_rfl
theorem zu3 : z3i Try.prog 49 cf49 = true := by kernel_rfl
theorem zu2 : z3i Try.prog 50 cf50 = true := by kernel_rfl
theorem zu1 : z3i Try.prog 51 cf51 = true := by kernel_rfl
theorem zu0 : z3i Try.prog 52 cf52 = true := by kernel_rfl
theorem ztZ : z3i Try.prog 53 cf53 = true := by kernel_rfl
theorem ztY : z3i Try.prog 54 cf54 = true := by kernel_rfl
theorem ztX : z3i Try.prog 55 cf55 = true := by kernel_rfl
theorem ztW : z3i Try.prog 56 cf56 = true := by kernel_rfl
theorem ztV : z3i Try.prog 57 cf57 = true := by kernel_rfl
theorem ztU : z3i Try.prog 58 cf58 = true := by kernel_rfl
theorem ztT : z3i Try.prog 59 cf59 = true := by kernel_rfl
theorem ztS : z3i Try.prog 60 cf60 = true := by kernel_rfl
theorem ztR : z3i Try.prog 61 cf61 = true := by kernel_rfl
theorem ztQ : z3i Try.prog 62 cf62 = true := by kernel_rfl
theorem ztP : z3i Try.prog 63 cf63 = true := by kernel_rfl
theorem ztO : z3i Try.prog 65 cf65 = true := by kernel_rfl
theorem ztN : z3i Try.prog 66 cf66 = true := by kernel_rfl
theorem ztM : z3i Try.prog 67 cf67 = true := by kernel_rfl
theorem ztL : z3i Try.prog 68 cf68 = true := by kernel_rfl
theorem ztK : z3i Try.prog 69 cf69 = true := by kernel_rfl
theorem ztJ : z3i Try.prog 70 cf70 = true := by kernel_rfl
theorem ztI : z3i Try.prog 71 cf71 = true := by kernel_rfl
theorem ztH : z3i Try.prog 72 cf72 = true := by kernel_rfl
theorem ztG : z3i Try.prog 73 cf73 = true := by kernel_rfl
theorem ztF : z3i Try.prog 74 cf74 = true := by kernel_rfl
theorem ztE : z3i Try.prog 76 cf76 = true := by kernel_rfl
theorem ztD : z3i Try.prog 77 cf77 = true := by kernel_rfl
theorem ztC : z3i Try.prog 78 cf78 = true := by kernel_rfl
theorem ztB : z3i Try.prog 79 cf79 = true := by kernel_rfl
theorem ztA : z3i Try.prog 80 cf80 = true := by kernel_rfl
theorem ztz : z3i Try.prog 88 cf88 = true := by kernel_rfl
theorem zty : z3i Try.prog 89 cf89 = true := by kernel_rfl
theorem ztx : z3i Try.prog 90 cf90 = true := by kernel_rfl
theorem ztw : z3i Try.prog 91 cf91 = true := by kernel_rfl
theorem ztv : z3i Try.prog 92 cf92 = true := by kernel_rfl
theorem ztu : z3i Try.prog 98 cf98 = true := by kernel_rfl
theorem zsH : z3i Try.prog 100 cf100 = true := by kernel_rfl
theorem z1L {p : Prop} [Decidable p] {a c : Cfg} {r : Option Cfg} {G : Prop} (h : (if p then some a else r) = some c) (h1 : p -> a = c -> G) (h2 : r = some c -> G) : G := by
  split at h
  · rename_i hp; exact h1 hp (Option.some.inj h)
  · exact h2 h
theorem zx5 : ∀ f c, z1V f = some c -> z3i Try.prog f c = true := by
  intro f c h
  unfold z1V at h
  refine z1L h (fun e h => by rw [e, ← h]; exact zx4) fun h => ?_
  refine z1L h (fun e h => by rw [e, ← h]; exact zx3) fun h => ?_
  refine z1L h (fun e h => by rw [e, ← h]; exact zx2) fun h => ?_
  refine z1L h (fun e h => by rw [e, ← h]; exact zx1) fun h => ?_
  refine z1L h (fun e h => by rw [e, ← h]; exact zx0) fun h => ?_
  refine z1L h (fun e h => by rw [e, ← h]; exact zwZ) fun h => ?_
  refine z1L h (fun e h => by rw [e, ← h]; exact zuG) fun h => ?_
  refine z1L h (fun e h => by rw [e, ← h]; exact zuF) fun h => ?_
  refine z1L h (fun e h => by rw [e, ← h]; exact zuE) fun h => ?_
  refine z1L h (fun e h => by rw [e, ← h]; exact zuD) fun h => ?_
  refine z1L h (fun e h => by rw [e, ← h]; exact zuC) fun h => ?_
  refine z1L h (fun e h => by rw [e, ← h]; exact zuB) fun h => ?_
  refine z1L h (fun e h => by rw [e, ← h]; exact zuA) fun h => ?_
  refine z1L h (fun e h => by rw [e, ← h]; exact zuz) fun h => ?_
  refine z1L h (fun e h => by rw [e, ← h]; exact zuy) fun h => ?_
  refine z1L h (fun e h => by rw [e, ← h]; exact zux) fun h => ?_
  refine z1L h (fun e h => by rw [e, ← h]; exact zuw) fun h => ?_
  refine z1L h (fun e h => by rw [e, ← h]; exact zuv) fun h => ?_
  refine z1L h (fun e h => by rw [e, ← h]; exact zuu) fun h => ?_
  refine z1L h (fun e h => by rw [e, ← h]; exact zut) fun h => ?_
  refine z1L h (fun e h => by rw [e, ← h]; exact zus) fun h => ?_
  refine z1L h (fun e h => by rw [e, ← h]; exact zur) fun h => ?_
  refine z1L h (fun e h => by rw [e, ← h]; exact zuq) fun h => ?_
  refine z1L h (fun e h => by rw [e, ← h]; exact zup) fun h => ?_
  refine z1L h (fun e h => by rw [e, ← h]; exact zuo) fun h => ?_
  refine z1L h (fun e h => by rw [e, ← h]; exact zun) fun h => ?_
  refine z1L h (fun e h => by rw [e, ← h]; exact zum) fun h => ?_
  refine z1L h (fun e h => by rw [e, ← h]; exact zul) fun h => ?_
  refine z1L h (fun e h => by rw [e, ← h]; exact zuk) fun h => ?_
  refine z1L h (fun e h => by rw [e, ← h]; exact zuj) fun h => ?_
  refine z1L h (fun e h => by rw [e, ← h]; exact zui) fun h => ?_
  refine z1L h (fun e h => by rw [e, ← h]; exact zuh) fun h => ?_
  refine z1L h (fun e h => by rw [e, ← h]; exact zug) fun h => ?_
  refine z1L h (fun e h => by rw [e, ← h]; exact zuf) fun h => ?_
  refine z1L h (fun e h => by rw [e, ← h]; exact zue) fun h => ?_
  refine z1L h (fun e h => by rw [e, ← h]; exact zud) fun h => ?_
  refine z1L h (fun e h => by rw [e, ← h]; exact zuc) fun h => ?_
  refine z1L h (fun e h => by rw [e, ← h]; exact zub) fun h => ?_
  refine z1L h (fun e h => by rw [e, ← h]; exact zua) fun h => ?_
  refine z1L h (fun e h => by rw [e, ← h]; exact zu9) fun h => ?_
  refine z1L h (fun e h => by rw [e, ← h]; exact zu8) fun h => ?_
  refine z1L h (fun e h => by rw [e, ← h]; exact zu7) fun h => ?_
  refine z1L h (fun e h => by rw [e, ← h]; exact zu6) fun h => ?_
  refine z1L h (fun e h => by rw [e, ← h]; exact zu5) fun h => ?_
  refine z1L h (fun e h => by rw [e, ← h]; exact zu4) fun h => ?_
  refine z1L h (fun e h => by rw [e, ← h]; exact zu3) fun h => ?_
  refine z1L h (fun e h => by rw [e, ← h]; exact zu2) fun h => ?_
  refine z1L h (fun e h => by rw [e, ← h]; exact zu1) fun h => ?_
  refine z1L h (fun e h => by rw [e, ← h]; exact zu0) fun h => ?_
  refine z1L h (fun e h => by rw [e, ← h]; exact ztZ) fun h => ?_
  refine z1L h (fun e h => by rw [e, ← h]; exact ztY) fun h => ?_
  refine z1L h (fun e h => by rw [e, ← h]; exact ztX) fun h => ?_
  refine z1L h (fun e h => by rw [e, ← h]; exact ztW) fun h => ?_
  refine z1L h (fun e h => by rw [e, ← h]; exact ztV) fun h => ?_
  refine z1L h (fun e h => by rw [e, ← h]; exact ztU) fun h => ?_
  refine z1L h (fun e h => by rw [e, ← h]; exact ztT) fun h => ?_
  refine z1L h (fun e h => by rw [e, ← h]; exact ztS) fun h => ?_
  refine z1L h (fun e h => by rw [e, ← h]; exact ztR) fun h => ?_
  refine z1L h (fun e h => by rw [e, ← h]; exact ztQ) fun h => ?_
  refine z1L h (fun e h => by rw [e, ← h]; exact ztP) fun h => ?_
  refine z1L h (fun e h => by rw [e, ← h]; exact ztO) fun h => ?_
  refine z1L h (fun e h => by rw [e, ← h]; exact ztN) fun h => ?_
  refine z1L h (fun e h => by rw [e, ← h]; exact ztM) fun h => ?_
  refine z1L h (fun e h => by rw [e, ← h]; exact ztL) fun h => ?_
  refine z1L h (fun e h => by rw [e, ← h]; exact ztK) fun h => ?_
  refine z1L h (fun e h => by rw [e, ← h]; exact ztJ) fun h => ?_
  refine z1L h (fun e h => by rw [e, ← h]; exact ztI) fun h => ?_
  refine z1L h (fun e h => by rw [e, ← h]; exact ztH) fun h => ?_
  refine z1L h (fun e h => by rw [e, ← h]; exact ztG) fun h => ?_
  refine z1L h (fun e h => by rw [e, ← h]; exact ztF) fun h => ?_
  refine z1L h (fun e h => by rw [e, ← h]; exact ztE) fun h => ?_
  refine z1L h (fun e h => by rw [e, ← h]; exact ztD) fun h => ?_
  refine z1L h (fun e h => by rw [e, ← h]; exact ztC) fun h => ?_
  refine z1L h (fun e h => by rw [e, ← h]; exact ztB) fun h => ?_
  refine z1L h (fun e h => by rw [e, ← h]; exact ztA) fun h => ?_
  refine z1L h (fun e h => by rw [e, ← h]; exact ztz) fun h => ?_
  refine z1L h (fun e h => by rw [e, ← h]; exact zty) fun h => ?_
  refine z1L h (fun e h => by rw [e, ← h]; exact ztx) fun h => ?_
  refine z1L h (fun e h => by rw [e, ← h]; exact ztw) fun h => ?_
  refine z1L h (fun e h => by rw [e, ← h]; exact ztv) fun h => ?_
  refine z1L h (fun e h => by rw [e, ← h]; exact ztu) fun h => ?_
  refine z1L h (fun e h => by rw [e, ← h]; exact zsH) fun h => ?_
  cases h
end Go.Proofs.Ytbnnipkanechoaa
end
section
/- Proved here: the law ImagesRaw returns true for every input, and its arguments read afterwards as before. No condition. -/
namespace Go.Proofs.Ytbnnipkanechoaa.imagesRaw
open Go.ChangeShapes Go.WideShapes Go.ChangeAt Go.RowKit
open Go.ChangeMaps (open_string shut_string)
theorem own : ownKnob Try.prog.godebug = none := by kernel_rfl
set_option maxRecDepth 100000 in
theorem zqb (H : Type) (enc : TypeId × Value -> H) (W : World) (base : Nat) (args : Array Value) (ds gs : List (DataW H)) (before : List MemPlace)
    (hval0 : ∀ (j : Nat) t v, Try.f10.params[j]? = some t -> args[j]? = some v -> Value.okWide Try.prog W .any base t v)
    (hW : DataW.Whole enc Try.prog Try.f10.params.toList Rows.imagesRawSpec.vars false W args.toList ds gs before) :
    Calls Try.prog 10 args W fun e W' => ∃ v, e = .returned v /\ Rows.imagesRawSpec.post enc Try.prog Try.f10 false true false false W args v W' := by
  have hW' := hW
  obtain ⟨p, q, hA0, hV, rfl, hfz, hnd⟩ := hW
  have hval := hval0
  have hA : DataW.TrodAll enc Try.prog W 0 (fun _ => true) true Try.f10.params.toList args.toList ds p := hA0
  rw [Try.params10] at hA hval
  obtain ⟨v0, vs0, d0, ds0, p0, q0, hargs, rfl, rfl, h0, r0⟩ := trodAll_cons hA
  obtain ⟨v1, vs1, d1, ds1, p1, q1, rfl, rfl, rfl, h1, r1⟩ := trodAll_cons r0
  obtain ⟨v2, vs2, d2, ds2, p2, q2, rfl, rfl, rfl, h2, r2⟩ := trodAll_cons r1
  obtain ⟨v3, vs3, d3, ds3, p3, q3, rfl, rfl, rfl, h3, r3⟩ := trodAll_cons r2
  obtain ⟨v4, vs4, d4, ds4, p4, q4, rfl, rfl, rfl, h4, r4⟩ := trodAll_cons r3
  obtain ⟨rfl, rfl, rfl⟩ := trodAll_nil r4
  obtain rfl : args = #[v0, v1, v2, v3, v4] := by cases args; simp_all
  obtain ⟨rfl, rfl⟩ := trodVars_none hV
  obtain ⟨a0, t0⟩ := zkA zrc (fun _ => by simp) h0
  obtain ⟨a1, rfl, rfl, rfl, w1⟩ := open_int Try.underlying3 (hval 1 3 v1 rfl rfl) h1
  obtain ⟨a2, rfl, rfl, rfl, w2⟩ := open_int Try.underlying3 (hval 2 3 v2 rfl rfl) h2
  obtain ⟨a3, rfl, rfl, rfl, w3⟩ := open_string Try.underlying9 (hval 3 9 v3 rfl rfl) h3
  obtain ⟨a4, t4⟩ := zkA zpO (fun _ => by simp) h4
  obtain ⟨outs, hlaw⟩ := zrl a0 a1 w1 a2 w2 a3 w3 a4
  refine (zot znk (by kernel_rfl) zx5 hlaw rfl W _ rfl (fun i t hi => ?_)).mono fun e W' ⟨he, bel⟩ => ?_
  · match i, hi with
    | 0, hi => cases hi; exact t0
    | 1, hi => cases hi; exact .sc _ _ rfl
    | 2, hi => cases hi; exact .sc _ _ rfl
    | 3, hi => cases hi; exact .sc _ _ rfl
    | 4, hi => cases hi; exact t4
  · subst he
    exact ⟨_, rfl, _, _, _, [], _, [], hW', trodAll_mk1 (shut_bool Try.underlying4 _), zaI 12 bel (by kernel_rfl) hA0, rfl, bel.frame _, fun h => by cases h⟩
theorem zaC {a b : Bool} (ha : a = true) (hb : b = true) : (a && b) = true := by rw [ha, hb]; rfl
set_option maxHeartbeats 4000000 in
theorem ztk : joinedFacts Try.checked.prog 10 Try.f10 Rows.imagesRawSpec Rows.imagesRawRow = true :=
  (zaC (zaC (zaC (zaC (zaC (zaC (zaC (zaC (zaC (zaC (zaC (zaC (zaC (zaC (zaC (zaC (zaC (zaC (zaC (zaC (zaC (zaC (zaC (zaC (zaC (zaC (zaC (zaC (zaC (zaC (zaC (by as_aux_lemma => kernel_rfl)
    (by as_aux_lemma => kernel_rfl))
    (by as_aux_lemma => kernel_rfl))
    (by as_aux_lemma => kernel_rfl))
    (by as_aux_lemma => kernel_rfl))
    (by as_aux_lemma => kernel_rfl))
    (by as_aux_lemma => kernel_rfl))
    (by as_aux_lemma => kernel_rfl))
    (by as_aux_lemma => kernel_rfl))
    (by as_aux_lemma => kernel_rfl))
    (by as_aux_lemma => kernel_rfl))
    (by as_aux_lemma => kernel_rfl))
    (by as_aux_lemma => kernel_rfl))
    (by as_aux_lemma => kernel_rfl))
    (by as_aux_lemma => kernel_rfl))
    (by as_aux_lemma => kernel_rfl))
    (by as_aux_lemma => kernel_rfl))
    (by as_aux_lemma => kernel_rfl))
    (by as_aux_lemma => kernel_rfl))
    (by as_aux_lemma => kernel_rfl))
    (by as_aux_lemma => kernel_rfl))
    (by as_aux_lemma => kernel_rfl))
    (by as_aux_lemma => kernel_rfl))
    (by as_aux_lemma => kernel_rfl))
    (by as_aux_lemma => kernel_rfl))
    (by as_aux_lemma => kernel_rfl))
    (by as_aux_lemma => kernel_rfl))
    (by as_aux_lemma => kernel_rfl))
    (by as_aux_lemma => kernel_rfl))
    (by as_aux_lemma => kernel_rfl))
    (by as_aux_lemma => kernel_rfl))
    (by as_aux_lemma => kernel_rfl))
set_option maxRecDepth 100000 in
theorem zss (os : Os) (started : os.Started) (H : Type) (enc : TypeId × Value -> H) :
    ReturnsInHanded {} Try.checked os 10 .any (Rows.imagesRawSpec.pre6 enc Try.prog Try.f10 Rows.imagesRawRow.domain false) (Rows.imagesRawSpec.post enc Try.prog Try.f10 false true false false) := by
  refine returnsInHanded_of_change (C := Try.checked) (by kernel_rfl) started (by kernel_rfl) Try.func10
    (ChangeSpec.witness6 (enc := enc) (C := Try.checked) false ⟨#[], #[.agg #[.int .i64 0, .int .i64 0, .slice none 0 0, .slice none 0 0], .int .i64 0, .int .i64 0, .string ByteArray.empty, .agg #[.slice none 0 0, .slice none 0 0, .slice none 0 0, .slice none 0 0, .slice none 0 0, .slice none 0 0]], []⟩ 8 (by kernel_rfl) (by kernel_rfl) (by kernel_rfl) (by kernel_rfl)) ?_
  intro W base args ds gs before hval0 hW hcnd _
  exact zqb H enc W base args ds gs before hval0 hW
theorem zvX : Rows.imagesRawRow.holds Try.pinned (OpenSpec.ofChange Rows.imagesRawSpec) :=
  OpenClaim.holds_of_wide 10 Try.f10 rfl rfl rfl rfl rfl rfl rfl ⟨rfl, rfl, rfl, rfl, rfl⟩ rfl rfl rfl rfl rfl (by kernel_rfl) Try.func10 ztk
    (of_decide_eq_true (by kernel_rfl)) (by unfold Func.isWrapper; first | (rw [if_pos (by decide +kernel)]; kernel_rfl) | (rw [if_neg (by decide +kernel)]; exact ⟨rfl, rfl⟩))
    (fun os started H enc _ => zss os started H enc)
theorem proved : Rows.ImagesRawSaid :=
  zvX
#print axioms proved
end Go.Proofs.Ytbnnipkanechoaa.imagesRaw
end

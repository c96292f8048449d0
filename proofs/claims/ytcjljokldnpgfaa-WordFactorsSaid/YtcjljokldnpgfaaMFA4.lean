/- Proved here: the law WordFactors returns true for every input, and its arguments read afterwards as before. No condition. -/
import Derived.Test.YtcjljokldnpgfaaMFA3
import Derived.Maps.RangeRun
import Derived.StringKeys
import Derived.ChangeOld
import Derived.ChangeReads
import Derived.Below
import Derived.ChangeSlices
import Derived.Deep.Grids
import Derived.WideShapes
import Derived.WalkKit
import Derived.ProofKit
import Derived.Test.YtcjljokldnpgfaaRows
import Derived.Test.YtcjljokldnpgfaaChecked
import Derived.OpenShut
import Derived.ShutString
import Derived.Deep.DeepHandedRow
set_option linter.unusedVariables false
set_option linter.unusedSimpArgs false
namespace Go.Proofs.Ytcjljokldnpgfaa
section
open Go
set_option maxRecDepth 100000
instance : XMo xt := inferInstanceAs (XMo xtF)
theorem cKl : z7u Try.prog xt z2F (tab []) 12 8 [] = some (.sc (.bool true), []) := by kernel_rfl
theorem cK : L 8 [] = some (.sc (.bool true), []) := zeI [] 12 cKl (fun x h => by cases h)
def z8T : Option Bool := some true
instance : Ok z8T (fun r => L 8 [] = some (.sc (.bool r), [])) := ⟨fun r h => by cases h; exact cK⟩
end
section
open Go
noncomputable section
set_option maxRecDepth 100000
set_option maxHeartbeats 6000000
instance {a0 : ByteArray} {a1 : Int} : Ok (z1Y a0 a1) (fun r => L 6 [.sc (.string a0), .sc (.int .i64 a1)] = some (.sc (.string r), [.dead, .dead])) := ⟨fun r h => z7x h⟩
def z0J (a0 : ByteArray) (a1 : Int) : Option (Bool) :=
  (z1Y a0 100).bind fun v8 =>
  (zcO v8 a1).bind fun v9 =>
  if a1 < 0 then
    if (v9.length : Int) = 0 then
      (z8T).bind fun v10 =>
      some v10
    else
      some false
  else
    if (v8.size : Int) < a1 then
      if (v9.length : Int) = 0 then
        (z8T).bind fun v11 =>
        some v11
      else
        some false
    else
      (z0H v8 a1).bind fun v12 =>
      (z1X v9 v12).bind fun v13 =>
      if v13 = true then
        (z8T).bind fun v14 =>
        some v14
      else
        some false
theorem z2X {a0 : ByteArray} {a1 : Int} {r : Bool} (h : z0J a0 a1 = some r) : L 3 [.sc (.string a0), .sc (.int .i64 a1)] = some (.sc (.bool r), [.dead, .dead]) := by
  have h := zcP h; unfold z0J at h; exact zgz zi5 fn3 bd3
end
end
section
open Go
theorem zg9 (w : ByteArray) (k : Nat) : ∃ v, z1Y w (k : Int) = some v /\ v.size <= k := by
  unfold z1Y
  by_cases h : (k : Int) < (w.size : Int)
  · rw [if_pos h]
    have := z6h (s := w) (a := 0) (n := k) (by omega)
    rw [Nat.zero_add] at this
    rw [show ((0 : Nat) : Int) = 0 from rfl] at this
    rw [this]
    refine ⟨_, rfl, ?_⟩
    rw [z6l, List.length_take]
    omega
  · rw [if_neg h]
    have := z6h (s := w) (a := 0) (n := w.size) (by omega)
    rw [Nat.zero_add] at this
    rw [show ((0 : Nat) : Int) = 0 from rfl] at this
    rw [this]
    refine ⟨_, rfl, ?_⟩
    rw [z6l, List.length_take]
    omega
theorem zdu (a0 : ByteArray) (a1 : Int) : z0J a0 a1 = some true := by
  unfold z0J
  obtain ⟨w, h1, h2⟩ := zg9 a0 100
  rw [show ((100 : Nat) : Int) = 100 from rfl] at h1
  rw [h1, Option.bind_some]
  by_cases c1 : a1 < 0
  · have : zcO w a1 = some [] := by unfold zcO; rw [if_pos (.inl c1)]
    rw [this, Option.bind_some, if_pos c1, if_pos (show (([] : List ByteArray).length : Int) = 0 from rfl)]
    rfl
  · by_cases c2 : (w.size : Int) < a1
    · have : zcO w a1 = some [] := by unfold zcO; rw [if_pos (.inr c2)]
      rw [this, Option.bind_some, if_neg c1, if_pos c2, if_pos (show (([] : List ByteArray).length : Int) = 0 from rfl)]
      rfl
    · obtain ⟨n, rfl⟩ : ∃ n : Nat, a1 = (n : Int) := ⟨a1.toNat, by omega⟩
      obtain ⟨F, f1, f2, f3⟩ := zeR (w := w) (n := n) (by omega) (by omega)
      rw [f1, Option.bind_some, if_neg c1, if_neg c2, f2, Option.bind_some, zbw F (by omega), Option.bind_some, if_pos rfl]
      rfl
theorem zeK (a0 : ByteArray) (_ : a0.size <= maxLen) (a1 : Int) (_ : (Lit.int .i64 a1).wf = true) : ∃ outs, L 3 [.sc (.string a0), .sc (.int .i64 a1)] = some (.sc (.bool true), outs) := ⟨_, z2X (zdu a0 a1)⟩
end
section
def No1 (c : z0a) : Prop := c.head? ≠ some 1
theorem Keep.frz1 {w w' : World} {K K' : Nat -> z0a} (k : Keep w w' K K' No1) (dep : Option Nat) : Keep w w' (frz K dep) (frz K' dep) No1 := by
  have hn : ∀ b id, b < w.heap.size -> (K b).head? = some (id + 2) -> K' b = K b /\ w'.heap[b]? = w.heap[b]? := fun b id hb e => k.own b hb (by unfold No1; rw [e]; simp)
  refine ⟨fun b hb e => ?_, fun b hb e => ?_, k.size⟩
  · cases dep with
    | none => exact k.fro b hb e
    | some id =>
      simp only [frz] at e ⊢
      by_cases h : (K b).head? = some (id + 2)
      · obtain ⟨e1, e2⟩ := hn b id hb h
        rw [e1, if_pos h]; exact ⟨rfl, e2⟩
      · rw [if_neg h] at e
        obtain ⟨e1, e2⟩ := k.fro b hb e
        rw [e1]; exact ⟨by simp, e2⟩
  · cases dep with
    | none => exact k.own b hb e
    | some id =>
      simp only [frz] at e ⊢
      by_cases h : (K b).head? = some (id + 2)
      · obtain ⟨e1, e2⟩ := hn b id hb h
        rw [e1]; exact ⟨rfl, e2⟩
      · rw [if_neg h] at e
        obtain ⟨e1, e2⟩ := k.own b hb e
        rw [e1]; exact ⟨rfl, e2⟩
theorem ARep.keep1 {w w' : World} {K K' : Nat -> z0a} {R : Nat -> Value} {ob : List (Nat × T)} {x : A} {u : Value} (h : ARep w K R ob x u)
    (hob : ∀ id t, z0i ob id = some t -> TRep w K (col id) (R id) t) (k : Keep w w' K K' No1) : ARep w' K' R ob x u := by
  have k1 : ∀ id (r : z0a) gb, K gb = col id ++ r -> gb < w.heap.size -> w'.heap[gb]? = w.heap[gb]? := fun id r gb e hb => (k.own gb hb (by unfold No1; rw [e]; simp [col])).2
  cases x with
  | dead => trivial
  | k v => exact h
  | t dep x => exact ⟨TRep.keep h.1 (k.frz1 dep) (fun _ hc => absurd rfl hc), h.2⟩
  | h id p =>
    obtain ⟨h1, t, h2, h3⟩ := h
    refine ⟨?_, t, h2, h3⟩
    rw [z1d (hob id t h2) (z0f id) h3 (fun r j s gb _ e hb => z0d (k1 id r gb e hb) j)]; exact h1
  | a id p off =>
    obtain ⟨hv, g, h1, h4, h5, t, h2, h3⟩ := h
    refine ⟨hv, g, ?_, h4, h5, t, h2, h3⟩
    rw [z1d (hob id t h2) (z0f id) h3 (fun r j s gb _ e hb => z0d (k1 id r gb e hb) j)]; exact h1
  | tf n cs => exact ⟨h.1, TRep.keep h.2 (k.frz1 none) (fun _ hc => absurd rfl hc)⟩
  | ea dep cs off =>
    obtain ⟨g, o, F, h1, h2, h3, h4, h5, h6⟩ := h
    obtain ⟨e1, e2⟩ := (k.frz1 dep).fro g h3 h2
    exact ⟨g, o, F, h1, e1, Nat.lt_of_lt_of_le h3 k.size, fun j hj => by rw [z0d e2]; exact h4 j hj, fun j t ht => (h5 j t ht).keep (k.frz1 dep) (fun _ hc => absurd rfl hc), h6⟩
theorem FRep.keep1 {w w' : World} {K K' : Nat -> z0a} {R G : Nat -> Value} {fr : Fr} {a : Act} (h : FRep w K R G fr a) (k : Keep w w' K K' No1) : FRep w' K' R G fr a :=
  ⟨fun i => (h.tm i).mono fun x u hx => hx.keep1 h.ob k, fun id t ht => (h.ob id t ht).keep k (fun s _ => by unfold No1; simp [col]), h.nt, h.df⟩
theorem FRep.put1 {w : World} {K : Nat -> z0a} {R G : Nat -> Value} {fr : Fr} {a : Act} (h : FRep w K R G fr a) {d : Nat} {x : A} {v : Value} (hd : d < fr.nt) (hx : ARep w K R fr.ob x v) :
    FRep w K R G { fr with tm := z4t fr.tm d (.one x) } (a.put (some d) v) := h.put hd hx
structure ItStep (r : Nat) (w w' : World) : Prop where
  os : w'.os = w.os
  tape : w'.tape = w.tape
  output : w'.output = w.output
  size : w'.heap.size = w.heap.size
  other : ∀ b, b ≠ r -> w'.heap[b]? = w.heap[b]?
theorem ItStep.later {r : Nat} {w0 w w' : World} {K0 K : Nat -> z0a} (h : ItStep r w w') (s : Step w0 K0 w K) (hr : w0.heap.size <= r) : Step w0 K0 w' K :=
  ⟨h.os.trans s.os, h.tape.trans s.tape, h.output.trans s.output, by rw [h.size]; exact s.size, fun b hb hc => ⟨(s.old b hb hc).1, (h.other b (by omega)).trans (s.old b hb hc).2⟩,
   fun b arr e fz hb => by
    obtain ⟨a1, e1, f1, h1, h2⟩ := s.sz b arr e fz hb
    exact ⟨a1, e1, f1, by rw [h.other b (by have := z0g hb; omega)]; exact h1, h2⟩⟩
theorem FRep.itStep {r : Nat} {w w' : World} {K : Nat -> z0a} {R G : Nat -> Value} {fr : Fr} {a : Act} (h : FRep w K R G fr a) (hr : K r = [1]) (s : ItStep r w w') : FRep w' K R G fr a :=
  h.keep1 ⟨fun b hb e => ⟨e, s.other b (by rintro rfl; rw [hr] at e; cases e)⟩, fun b hb e => ⟨rfl, s.other b (by rintro rfl; unfold No1 at e; rw [hr] at e; simp at e)⟩, by rw [s.size]; exact Nat.le_refl _⟩
section
variable {kk : Option IntKind} {ents : Array MapEntry} {clock : Nat} {ks : List Value} {n : Nat} {F : Nat -> Value}
theorem MapTs.size (h : MapTs kk ents clock ks n F) : ents.size = n := by
  obtain ⟨h1, h2, _⟩ := h
  have := congrArg List.length h1
  simpa [h2] using this
theorem MapTs.old (h : MapTs kk ents clock ks n F) : ∀ x ∈ ents.toList, x.born < clock := fun x hx => by
  obtain ⟨j, hj, e⟩ := List.getElem_of_mem hx
  obtain ⟨_, _, _, _, h5, _⟩ := h
  exact h5 j x (by rw [← Array.getElem?_toList, List.getElem?_eq_getElem hj, e])
theorem MapTs.nodup (h : MapTs kk ents clock ks n F) : (ents.toList.map (·.born)).Nodup := by
  obtain ⟨_, _, _, _, _, h6⟩ := h
  rw [List.nodup_iff_pairwise_ne, List.pairwise_iff_getElem]
  intro i j hi hj hij e
  simp only [List.length_map] at hi hj
  simp only [List.getElem_map] at e
  have := h6 i j _ _ (by rw [← Array.getElem?_toList, List.getElem?_eq_getElem hi]) (by rw [← Array.getElem?_toList, List.getElem?_eq_getElem hj]) e
  omega
end
theorem z4d {P : Program} {ops : Array Oper} {Q : Exit -> Act -> World -> Prop} {l : List Oper} {o : Oper} {a : Act} {w : World} (hg : o.guard = none) (h : ∀ Kk : Act -> World -> Prop, (∀ a w, wpList P ops Q l a w -> Kk a w) -> o.wp P a w Kk Q) : wpList P ops Q (o :: l) a w := by
  refine wpList_step fun Kk hK => ?_
  simp only [Region.wanted, hg, if_true]
  exact h Kk hK
end
section
open Go Go.RowKit Go.Maps
set_option maxRecDepth 100000
set_option maxHeartbeats 4000000
def z7b : Nat -> Code -> Code
  | 0, c => c
  | k + 1, c => z7b k (zfd c)
def zd2 : Nat -> Code -> Prop
  | 0, _ => True
  | k + 1, c => c = .seq (zfe c) (zfd c) /\ zd2 k (zfd c)
theorem zbv {P : Program} {C : z0b} {cf : Cfg} {LF : Nat} {x y : Code} {fr fr' : Fr} {e : X} (h : z0k P C cf LF (.seq x y) fr = some (e, fr')) : (∃ f1, z0k P C cf LF x fr = some (.n, f1) /\ z0k P C cf LF y f1 = some (e, fr')) ∨ (z0k P C cf LF x fr = some (e, fr') /\ e ≠ .n) := by
  simp only [z0k] at h
  split at h
  · rename_i f1 h1
    exact .inl ⟨f1, h1, h⟩
  · rename_i hne
    refine .inr ⟨h, ?_⟩
    rintro rfl
    exact hne _ h
theorem z7P {P : Program} {I : World -> (Nat -> z0a) -> Prop} {C : z0b} {cf : Cfg} {LF : Nat} (hI : EnvS I) (hC : z1y P I C) (hm : P.follows .mixedOrders = true) {Q : Exit -> Act -> World -> Prop} : ∀ (k : Nat) (c : Code) {w : World} {K : Nat -> z0a} {R G : Nat -> Value} {fr fr' : Fr} {x : X} {a : Act}, zd2 k c -> okC cf (zaR k c) = true -> FRep w K R G fr a -> I w K ->
    z0k P C cf LF (zaR k c) fr = some (x, fr') -> (∀ a' w' K' R', FRep w' K' R' G fr' a' -> Step w K w' K' -> (Exit.then ((z7b k c).wp P Q) Q) (z8W x) a' w') -> c.wp P Q a w
  | 0, c, w, K, R, G, fr, fr', x, a, _, _, h, hIw, hf, hq => by
    cases hf
    exact hq a w K R h (Step.refl _ _)
  | k + 1, c, w, K, R, G, fr, fr', x, a, hs, ho, h, hIw, hf, hq => by
    obtain ⟨e1, e2⟩ := hs
    simp only [zaR, okC, Bool.and_eq_true] at ho
    simp only [zaR] at hf
    rw [e1]
    refine wp_seq ?_
    rcases zbv hf with ⟨f1, h1, h2⟩ | ⟨h1, hne⟩
    · exact z8J hI hC hm _ ho.1 h hIw h1 fun a1 w1 K1 R1 r1 s1 => z7P hI hC hm k _ e2 ho.2 r1 (hI.step hIw s1) h2 fun a2 w2 K2 R2 r2 s2 => hq a2 w2 K2 R2 r2 (s1.trans s2)
    · refine z8J hI hC hm _ ho.1 h hIw h1 fun a1 w1 K1 R1 r1 s1 => ?_
      have := hq a1 w1 K1 R1 r1 s1
      cases x with
      | n => exact absurd rfl hne
      | r => exact this
      | x id => exact this
theorem z4J {args : List T} : ∀ (i : Nat) (t : T), args.all (fun t => !z1g t) = true -> args[i]? = some t -> z1g t = true -> False := fun i t ha hi hio => by
  rw [List.all_eq_true] at ha
  have := ha t (List.mem_of_getElem? hi)
  rw [hio] at this
  cases this
def zfl (B : Nat) (K : Nat -> z0a) (b : Nat) : z0a := if b < B then K b else []
theorem zbx {w w' : World} {K : Nat -> z0a} {base : Nat} {e : TypeId} {v : Value} {l : List ByteArray} {n : Nat} (hB : w.heap.size <= base) (h : w'.ownsRow base e 1 v n (l.map Value.string)) : TRep w' (zfl w.heap.size K) [0] v (.sl l.length (zdS l)) := by
  obtain ⟨hl, h⟩ := h
  rw [List.length_map, Nat.mul_one] at hl
  subst hl
  rcases h with ⟨rfl, hz⟩ | ⟨g, cap, cur, rfl, hbase, hg, h1, h2, h3, h4⟩
  · have := List.eq_nil_of_length_eq_zero hz
    subst this
    exact .emp _ _ _ (Nat.zero_le _)
  · have hc : ∀ j (hj : j < l.length), cur[j]? = some (.string l[j]) := fun j hj => by
      rw [Nat.mul_one] at h4
      have := congrArg (·[j]?) h4
      simp only [List.getElem?_take_of_lt hj, Array.getElem?_toList, List.getElem?_map, List.getElem?_eq_getElem hj, Option.map_some] at this
      exact this
    refine .fro _ g 0 l.length cap (zdS l) (fun j => .string (l.getD j ByteArray.empty)) (by unfold zfl; rw [if_neg (by omega)]) (z0g hg) h1 h2 (fun j hj => ?_) (fun j t ht => ?_)
    · have hj' : j < l.length := by simpa [zdS] using hj
      rw [Nat.zero_add, z0s hg, hc j hj', List.getD, List.getElem?_eq_getElem hj']; rfl
    · simp only [zdS, List.getElem?_map, Option.map_eq_some_iff] at ht
      obtain ⟨s, hs, rfl⟩ := ht
      have : l.getD j ByteArray.empty = s := by rw [List.getD, hs]; rfl
      simp only [this]
      exact .sc _ _ rfl
end
section
open Go Go.RowKit Go.Sort Go.Maps
set_option maxRecDepth 100000
set_option maxHeartbeats 4000000
abbrev Wd := { s : ByteArray // s.size <= maxLen }
instance : Inhabited Wd := ⟨⟨ByteArray.empty, Nat.zero_le _⟩⟩
def zdx (s : Wd) : Value := .string s.1
def cfV (a b : Wd) : Int := z1E a.1 b.1
theorem ltV (x y : Wd) : ltOf cfV x y = true ↔ z1E x.1 y.1 < 0 := decide_eq_true_iff
theorem z3Q (x y : Wd) : ltOf cfV x y = false ↔ ¬ z1E x.1 y.1 < 0 := decide_eq_false_iff_not
theorem zhD : SWO (ltOf cfV) where
  irrefl x := by
    rw [z3Q]
    have := (z1e x.1 x.1).2 rfl
    omega
  trans x y z := by
    rw [ltV, ltV, ltV]
    intro h1 h2
    have h4 : z1E x.1 z.1 <= 0 := z2T _ _ _ (Int.le_of_lt h1) (Int.le_of_lt h2)
    rcases Int.lt_or_eq_of_le h4 with h | h
    · exact h
    · have e := (z1e _ _).1 h
      rw [e] at h1
      have := z0D y.1 z.1
      omega
  ntrans x y z := by
    rw [z3Q, z3Q, z3Q]
    intro h1 h2 h3
    have a1 := z0D x.1 y.1
    have a2 := z0D y.1 z.1
    have a3 := z0D x.1 z.1
    have h4 : z1E z.1 x.1 <= 0 := z2T z.1.data.toList y.1.data.toList x.1.data.toList (show z1E z.1 y.1 <= 0 by omega) (show z1E y.1 x.1 <= 0 by omega)
    omega
theorem zhC (x y : Wd) (h1 : ltOf cfV x y = false) (h2 : ltOf cfV y x = false) : x = y := by
  rw [z3Q] at h1 h2
  have := z0D x.1 y.1
  exact Subtype.ext ((z1e _ _).1 (by omega))
theorem zeh (blk cap : Nat) (d : Array Wd) (w : World) (hH : Holds zdx w blk 0 d) (hblk : blk < w.heap.size) (hsz : d.size < 4611686018427387904) :
    Calls Try.prog 34 #[.slice (some ⟨blk, 0, none⟩) d.size cap, .func (.func 15) #[] #[]] w fun e w' => e = .returned (.tuple #[]) /\ ∃ n os, w' = sortWorld zdx w blk 0 n (d.toList.mergeSort fun x y => !(ltOf cfV) y x).toArray os :=
  Try.slices_SortFunc_total zdx (fun x => rfl) cfV zhD 15 #[] blk 0 cap d w (enters_of Try.func15 (by kernel_rfl) rfl)
    (fun m os dk _ x y => (z8I x.1 y.1 _ x.2 y.2).mono fun e w' ⟨he, hw⟩ => ⟨he, 0, #[], by rw [← hw, grow_empty]; rfl⟩) hH hblk hsz zhC
theorem zdl : ∀ d : List Wd, (d.mergeSort fun x y => !(ltOf cfV) y x).map (·.1) = z4P (d.map (·.1)) := fun d => by
  have e : (fun x y : Wd => !(ltOf cfV) y x) = fun x y => leW x.1 y.1 := by
    funext x y
    have := z0D x.1 y.1
    rcases hb : ltOf cfV y x with _ | _
    · rw [z3Q] at hb
      exact (decide_eq_true (show z1E x.1 y.1 <= 0 by omega)).symm
    · rw [ltV] at hb
      exact (decide_eq_false (show ¬ z1E x.1 y.1 <= 0 by omega)).symm
  rw [e]
  refine List.Perm.eq_of_pairwise (le := fun a b => leW a b = true) (fun a b _ _ => z4i) ?_ (z2r _) (((List.mergeSort_perm d _).map _).trans (z2K _).symm)
  rw [List.pairwise_map]
  exact List.pairwise_mergeSort (fun a b c => z7v a.1 b.1 c.1) (fun a b => z7w a.1 b.1) d
end
section
open Go Go.RowKit Go.Sort Go.Maps
set_option maxRecDepth 100000
set_option maxHeartbeats 4000000
def toB (x : Wd) : List UInt8 := x.1.data.toList
theorem z6F (x : Wd) : zdx x = encStr (toB x) := by
  obtain ⟨⟨⟨l⟩⟩, h⟩ := x
  simp [zdx, toB, encStr]
theorem zeG (x : Wd) : mkB (toB x) = x.1 := by
  obtain ⟨⟨⟨l⟩⟩, h⟩ := x
  rfl
theorem zdP : ∀ ss : List (List UInt8), (∀ x ∈ ss, x.length <= maxLen) -> ∃ ds : List Wd, ds.map toB = ss
  | [], _ => ⟨[], rfl⟩
  | x :: ss, h => by
    obtain ⟨ds, e⟩ := zdP ss fun y hy => h y (List.mem_cons_of_mem _ hy)
    refine ⟨⟨mkB x, h x (List.mem_cons_self ..)⟩ :: ds, ?_⟩
    rw [List.map_cons, e]; rfl
theorem z8l (d : Array Wd) : putCells zdx 0 d = putCells encStr 0 (d.map toB) := by
  funext c
  unfold putCells
  rw [Array.size_map]
  congr 1
  funext i x
  split
  · rename_i h
    have hd : i - 0 < d.size := by omega
    rw [getElem!_pos d _ hd, getElem!_pos (d.map toB) _ (by simpa using hd), Array.getElem_map, z6F]
  · rfl
theorem zbk (g : Nat) (lb : Array Value) (eg : ∀ args w, (callFunc g args).run Try.prog w = .ok (.enter g args) w) (S : List (List UInt8) -> Prop) (N : Nat) (hN : N <= maxLen) (hNb : N * 16 <= 140737488355328) (hS : ∀ ss, S ss -> ∀ x ∈ ss, x.length <= maxLen) (w : World) (hseq : SeqGives Fence.wide 2 Try.prog g lb encStr S N w) :
    Calls Try.prog 23 #[.func (.func g) #[] lb, .func (.func 15) #[] #[]] w fun e w' => ∃ (v : Value) (ss : List (List UInt8)), e = .returned v /\ S ss /\
      w'.ownsRow w.heap.size 9 1 v ss.length ((z4P (ss.map mkB)).map Value.string) /\ Below w.heap.size w w' := by
  have hcol := callsIn_wide.1 (AnyZ.collect_in (ρ := Try.sorted17_ren) { Try.sorted17 with } Fence.wide 4 trivial trivial rfl (by omega) g lb trivial eg _ N hN hNb w hseq.bounded)
  go_enter Try.func23, Try.ntmps23
  go_wp2_with (go_at_call 27; refine hcol.mono ?_; rintro e W ⟨v, ss, rfl, ⟨hSs, hlen⟩, hrow, hnil, hb⟩)
  clear hcol
  rcases hrow.2 with ⟨rfl, hz⟩ | ⟨gb, cap, cur, rfl, hbase, hgb, r1, r2, r3, r4⟩
  · have hss : ss = [] := List.eq_nil_of_length_eq_zero hz
    subst hss
    go_wp2_with (go_at_call 34; refine (Try.slices_SortFunc_none (α := Wd) none 0 _ W).mono ?_; rintro e w' ⟨rfl, rfl⟩)
    go_ret
    exact ⟨.slice none 0 0, [], rfl, hSs, by show World.ownsRow _ _ (Try.sorted17_ren.t 26) _ _ _ _; simpa [z4P] using hrow, hb⟩
  · obtain ⟨ds, hds⟩ := zdP ss (hS ss hSs)
    have hdl : ds.length = ss.length := by rw [← hds, List.length_map]
    have hH0 : Holds encStr W gb 0 ss.toArray := holds_of_block hgb (by simpa using r4)
    have hH : Holds zdx W gb 0 ds.toArray := fun j hj => by
      have hj1 : j < ds.length := by simpa using hj
      have h0 := hH0 j (by simpa [← hdl] using hj)
      have e : zdx ds.toArray[j]! = encStr ss.toArray[j]! := by
        subst hds
        rw [z6F, getElem!_pos _ j hj, getElem!_pos _ j (by simpa using hj1)]
        simp
      rw [e]; exact h0
    have hgl : gb < W.heap.size := (Array.getElem?_eq_some_iff.1 hgb).1
    have cS := zeh gb cap ds.toArray W hH hgl (by simp; omega)
    have hz0 : ds.toArray.size = ss.length := by simpa using hdl
    rw [hz0] at cS
    go_wp2_with (go_at_call 34; refine cS.mono ?_; rintro e w' ⟨rfl, nn, os, rfl⟩)
    go_ret
    have hts : (((ds.mergeSort fun x y => !(ltOf cfV) y x)).map toB).length = ss.length := by simp [hdl]
    have hval : (((ds.mergeSort fun x y => !(ltOf cfV) y x)).map toB).map encStr = (z4P (ss.map mkB)).map Value.string := by
      have e1 : ss.map mkB = ds.map (·.1) := by rw [← hds, List.map_map]; exact List.map_congr_left fun x _ => zeG x
      rw [e1, ← zdl, List.map_map, List.map_map]
      exact List.map_congr_left fun x _ => by show encStr (toB x) = Value.string x.1; rw [← z6F]; rfl
    have hw : sortWorld zdx W gb 0 nn (ds.mergeSort fun x y => !(ltOf cfV) y x).toArray os = grow (putRow encStr (Sort.ahead W nn) gb 0 ((ds.mergeSort fun x y => !(ltOf cfV) y x).map toB).toArray) os := by
      unfold sortWorld putRow
      rw [z8l]
      simp
    refine ⟨_, ss, rfl, hSs, ?_, ?_⟩
    · rw [← hval]
      rw [hw]
      exact ownsRow_sorted hts hbase hgb r1 r2 r3
    · rw [hw]
      exact hb.grown (grownBy_sorted _) hb.size (fun j hj => by cases hj; exact hbase)
end
section
open Go Go.RowKit Go.Maps
set_option maxRecDepth 100000
set_option maxHeartbeats 4000000
theorem zey {w : World} {g : Nat} {ents : Array MapEntry} {clock : Nat} {es : List (Value × Value)} {ks : List ByteArray} (hg : w.heap[g]? = some (.map ents clock)) (hm : z5G none ents clock es) (hk : zfj es = some ks) (hn : ks.Nodup) (hs : ∀ s ∈ ks, s.size <= maxLen) (hl : ks.length <= maxLen) :
    ∃ D0 : DataW Unit, w.ownsMap Try.prog 9 (fun _ => some (.nil, [])) g ks.length D0 /\ (strKeys D0).Perm (ks.map fun s => s.data.toList) /\ Maps.size D0 = ks.length := by
  obtain ⟨h1, h2, h3, h4⟩ := hm
  have hkeys : ents.toList.map (·.key) = ks.map fun s => .string s := by
    have := z9n hk
    rw [← h1, List.map_map] at this
    exact this
  have hlen : ents.toList.length = ks.length := by simpa using congrArg List.length hkeys
  have hrd : ∀ x ∈ ents.toList, ∃ s ∈ ks, WideElems.rd (H := Unit) Try.prog 9 (fun _ => some (.nil, [])) x = some (.string s.data.toList, .nil) /\ x.key = .string s := fun x hx => by
    have : x.key ∈ ks.map fun s => Value.string s := by rw [← hkeys]; exact List.mem_map.2 ⟨x, hx, rfl⟩
    obtain ⟨s, hs1, hs2⟩ := List.mem_map.1 this
    refine ⟨s, hs1, ?_, hs2.symm⟩
    obtain ⟨key, val, born⟩ := x
    simp only at hs2
    subst hs2
    exact WideElems.rd_mk (R := fun _ => some (.nil, [])) (yv := (.nil, [])) (WideMaps.keyOf_string_mk (by kernel_rfl) (hs s hs1)) rfl
  have hrg : (ents.toList.map (WideElems.rg (H := Unit) Try.prog 9 (fun _ => some (.nil, [])))).map (fun p : Lit × DataW Unit => strOf p.1) = ks.map fun s => s.data.toList := by
    have e : ents.toList.map (fun x => match x.key with | .string s => s.data.toList | _ => []) = ks.map fun s => s.data.toList := by
      have := congrArg (List.map fun v => match v with | Value.string s => s.data.toList | _ => []) hkeys
      rw [List.map_map, List.map_map] at this
      exact this
    rw [← e, List.map_map]
    refine List.map_congr_left fun x hx => ?_
    obtain ⟨s, _, h5, h6⟩ := hrd x hx
    simp only [Function.comp_apply, WideElems.rg_of h5, h6, strOf]
  refine ⟨_, ⟨ents, clock, hg, ⟨by rw [← Array.length_toList, hlen]; exact hl, ⟨h3, h4, by rw [hkeys]; exact List.pairwise_map.2 (hn.imp fun hab e => hab (Value.string.inj e))⟩, fun x hx => ?_⟩, by rw [← Array.length_toList, hlen]; exact Nat.le_refl _, rfl⟩, ?_, ?_⟩
  · obtain ⟨s, _, h5, _⟩ := hrd x hx
    exact ⟨_, h5⟩
  · show (List.map (fun p : Lit × DataW Unit => strOf p.1) _).Perm _
    rw [← hrg]
    exact (WideShapes.sorted_perm _).map _
  · show List.length _ = _
    rw [(WideShapes.sorted_perm _).length_eq, List.length_map, hlen]
noncomputable def rS : Code := zfe (z7b 4 z6J)
theorem zgI : z7b 4 z6J = .seq (.region 17 (rgO rS) false) .ret := rfl
theorem za0 {I : World -> (Nat -> z0a) -> Prop} {C : z0b} (hI : EnvS I) (hC : z1y Try.prog I C) {args : List T} {r : T} {outs : List T} (h : zgf C args = some (r, outs)) : CallOk Try.prog I 11 args r outs := by
  have hm : Try.prog.follows .mixedOrders = true := by kernel_rfl
  unfold zgf at h
  split at h
  case isFalse => cases h
  rename_i hc
  obtain ⟨hal, hio⟩ := hc
  have hb : Try.f11.body = some z6J := rfl
  refine ⟨fun vals w => ?_, fun w K vals hs ha hIw => ?_⟩
  · have hname : Try.f11.name ≠ "runtime.NumGoroutine" := by decide
    simp [callFunc, program, Sem.run, Try.func11, hname, hb]
  have hent := z5o (nt := 51) hs ha hal
  have okp : okC zhr (zaR 4 z6J) = true := by kernel_rfl
  refine calls_of_wp Try.func11 hb ?_
  have hsq : zd2 4 z6J := ⟨rfl, rfl, rfl, rfl, trivial⟩
  split at h
  case h_3 => cases h
  ·
    rename_i fr hcode
    refine z7P hI hC hm 4 z6J hsq okp hent hIw hcode fun a8 w8 K8 R8 h8 s8 => ?_
    rw [Option.bind_eq_some_iff] at h
    obtain ⟨⟨r0, o0⟩, h1, h2⟩ := h
    split at h2
    case isFalse => cases h2
    rename_i ho
    simp only at ho
    subst ho
    obtain ⟨rfl, rfl⟩ : z0l r0 = r /\ (args.map fun _ => T.dead) = outs := by simpa using h2
    obtain ⟨v, K9, r1, r2, -, r4⟩ := z8C h8 h1 (by simp)
    refine ⟨h8.df, v, r1, v, fun b => dz (K9 b), rfl, ?_, fun i t hi hio' => (z4J i t hio hi hio').elim, (s8.trans r4).trans ⟨rfl, rfl, rfl, Nat.le_refl _, fun b hb hcc => ⟨by
      show dz (K9 b) = K9 b
      rcases hcc with q | q <;> rw [q] <;> rfl, rfl⟩, .same rfl⟩⟩
    exact r2.freeze (fun b s hb hcc hK => ⟨by show dz (K9 b) = []; rw [hK]; rfl, rfl⟩) (fun b hb hK => ⟨by show dz (K9 b) = []; rw [hK]; rfl, rfl⟩) (Nat.le_refl _) [0]
  · rename_i fr hcode
    split at h
    case h_2 => cases h
    rename_i es h5 o5
    split at h
    case h_2 => cases h
    rename_i ks hks
    split at h
    case isFalse => cases h
    rename_i hcc
    obtain ⟨hnd, hsz, hby, hnt⟩ := hcc
    obtain ⟨rfl, rfl⟩ : T.sl ks.length (zdS (z4P ks)) = r /\ (args.map fun _ => T.dead) = outs := by simpa using h
    refine z7P hI hC hm 4 z6J hsq okp hent hIw hcode fun a8 w8 K8 R8 h8 s8 => ?_
    show (z7b 4 z6J).wp _ _ a8 w8
    rw [zgI]
    obtain ⟨gm, ents, clock, hv5, hKg, hg, hmi⟩ : ∃ g ents clock, a8.eval (.tmp 5) = .map (some g) /\ K8 g = col 5 /\ w8.heap[g]? = some (.map ents clock) /\ z5G none ents clock es := by
      have e1 := h8.opE (.tmp 5)
      have e2 : opE fr (.tmp 5) = .one (.h 5 []) := by simp only [opE]; rw [if_pos (show 5 < fr.nt by omega), h5]
      rw [e2] at e1
      obtain ⟨e3, -⟩ := e1
      have e4 : a8.eval (.tmp 5) = R8 5 := by simpa [nav] using e3.symm
      have e5 := h8.ob 5 _ o5
      rw [e4]
      generalize hu : R8 5 = u at e5
      cases e5 with
      | mp _ g _ _ ents clock hc0 hK hg hh => exact ⟨g, ents, clock, rfl, hK, hg, hh⟩
    have hml : ks.length <= maxLen := by unfold maxLen; omega
    obtain ⟨D0, hown, hperm, hsize⟩ := zey hg hmi hks hnd hsz hml
    obtain ⟨o0, o1, o2, o3, q17, p0, d0, g0, p1, d1, g1, p2, d2, g2, p3, d3, g3⟩ : ∃ (o0 o1 o2 o3 : Oper), (rgO rS).toList = [o0, o1, o2, o3] /\ o0.op = .move (.tmp 5) /\ o0.dst = some 48 /\ o0.guard = none /\ o1.op = .call { callee := .value (.func 24), args := #[.tmp 48], argTypes := #[42] } /\ o1.dst = some 49 /\ o1.guard = none /\ o2.op = .call { callee := .value (.func 23), args := #[.tmp 49, .func 15], argTypes := #[37, 30] } /\ o2.dst = some 50 /\ o2.guard = none /\ o3.op = .assign (.tmp 50) /\ o3.dst = some 4 /\ o3.guard = none := ⟨_, _, _, _, rfl, rfl, rfl, rfl, rfl, rfl, rfl, rfl, rfl, rfl, rfl, rfl, rfl⟩
    refine wp_seq (wp_region_list ?_)
    rw [q17]
    have hn8 : a8.tmps.size = 51 := h8.nt.trans hnt
    refine z4d g0 fun Kk hK => ?_
    unfold Oper.wp
    rw [show (execOp a8.eval o0).run Try.prog w8 = .ok (.value (a8.eval (.tmp 5))) w8 by simp [execOp, p0]]
    simp only [Oper.upon, d0]
    refine hK _ _ ?_
    clear hK Kk
    rw [hv5]
    have n9 : (a8.put (some 48) (.map (some gm))).tmps.size = 51 := by simp [Act.put, hn8]
    have v9 : (a8.put (some 48) (.map (some gm))).eval (.tmp 48) = .map (some gm) := by simp [Act.put, Act.eval, hn8]
    have v9' : (a8.put (some 48) (.map (some gm))).tmps[48]?.getD (Value.tuple #[]) = .map (some gm) := by simp [Act.put, hn8]
    have f9 : (a8.put (some 48) (.map (some gm))).defers = [] := h8.df
    generalize a8.put (some 48) (.map (some gm)) = a9 at n9 v9 v9' f9 ⊢
    refine z4d g1 fun Kk hK => ?_
    unfold Oper.wp
    rw [show (execOp a9.eval o1).run Try.prog w8 = .ok (.enter 24 #[.map (some gm)]) w8 by
      simp [execOp, p1, v9, v9', resolve, invoke, go_sem, enters_of Try.func24 (by kernel_rfl) rfl]]
    rw [Oper.upon_enter]
    refine (callsIn_wide.1 (AnyZ.keys_in Try.keys24 Fence.wide 5 trivial rfl (some gm) w8)).mono fun e W hh => ?_
    obtain ⟨rfl, rfl⟩ := hh
    simp only [d1]
    refine hK _ _ ?_
    clear hK Kk
    generalize hw9 : w8.alloc (.cells #[.map (some gm)] (Try.keys24_ren.t 23)) = w9
    have hs9 : w9.heap.size = w8.heap.size + 1 := by rw [← hw9]; simp
    have hb9 : Below w8.heap.size w8 w9 := by rw [← hw9]; exact (Below.refl _ w8).alloc (Nat.le_refl _) _
    have hown9 : w9.ownsMap Try.prog 9 (fun _ => some (.nil, [])) gm ks.length D0 := by
      have hbl := hown.lt
      obtain ⟨es', clock', hb', Ft, hs', hD⟩ := hown
      exact ⟨es', clock', (hb9.block gm hbl).trans hb', Ft, hs', hD⟩
    have hcell9 : w9.cell? ⟨w8.heap.size, 0, none⟩ = some (.map (some gm)) := by rw [← hw9]; simp
    have hseq : SeqGives Fence.wide 2 Try.prog 35 #[.pointer (some ⟨w8.heap.size, 0, none⟩)] encStr (fun ss => ss.Perm (strKeys D0)) (Maps.size D0) w9 :=
      AnyZ.keys_gives (ρ := Try.keys24_ren) { Try.keys24 with } Fence.wide _ trivial rfl (by omega) w8.heap.size gm ks.length D0 w9 (by omega) hcell9 hown9
    have n10 : (a9.put (some 49) (.func (.func 35) #[] #[.pointer (some ⟨w8.heap.size, 0, none⟩)])).tmps.size = 51 := by simp [Act.put, n9]
    have v10 : (a9.put (some 49) (.func (.func 35) #[] #[.pointer (some ⟨w8.heap.size, 0, none⟩)])).eval (.tmp 49) = .func (.func 35) #[] #[.pointer (some ⟨w8.heap.size, 0, none⟩)] := by simp [Act.put, Act.eval, n9]
    have v10' : (a9.put (some 49) (.func (.func 35) #[] #[.pointer (some ⟨w8.heap.size, 0, none⟩)])).tmps[49]?.getD (Value.tuple #[]) = .func (.func 35) #[] #[.pointer (some ⟨w8.heap.size, 0, none⟩)] := by simp [Act.put, n9]
    have f10 : (a9.put (some 49) (.func (.func 35) #[] #[.pointer (some ⟨w8.heap.size, 0, none⟩)])).defers = [] := f9
    change wpList _ _ _ _ (a9.put (some 49) (.func (.func 35) #[] #[.pointer (some ⟨w8.heap.size, 0, none⟩)])) w9
    generalize a9.put (some 49) (.func (.func 35) #[] #[.pointer (some ⟨w8.heap.size, 0, none⟩)]) = a10 at n10 v10 v10' f10 ⊢
    refine z4d g2 fun Kk hK => ?_
    unfold Oper.wp
    rw [show (execOp a10.eval o2).run Try.prog w9 = .ok (.enter 23 #[.func (.func 35) #[] #[.pointer (some ⟨w8.heap.size, 0, none⟩)], .func (.func 15) #[] #[]]) w9 by
      simp [execOp, p2, v10, v10', resolve, invoke, go_sem, enters_of Try.func23 (by kernel_rfl) rfl]]
    rw [Oper.upon_enter]
    refine (zbk 35 _ (enters_of Try.func35 (by kernel_rfl) rfl) _ _ (by rw [hsize]; exact hml) (by rw [hsize]; exact hby) (fun ss hss x hx => ?_) w9 hseq).mono fun e W hh => ?_
    · obtain ⟨s, hs1, rfl⟩ := List.mem_map.1 (hperm.mem_iff.1 (hss.mem_iff.1 hx))
      exact hsz s hs1
    obtain ⟨v, ss, rfl, hss, hrow, hbW⟩ := hh
    simp only [d2]
    refine hK _ _ ?_
    clear hK Kk
    have hkb : (ss.map mkB).Perm ks := by
      have e1 : (ks.map fun s => s.data.toList).map mkB = ks := by
        rw [List.map_map]
        conv => rhs; rw [← List.map_id ks]
        exact List.map_congr_left fun s _ => by obtain ⟨⟨l⟩⟩ := s; rfl
      rw [← e1]
      exact (hss.trans hperm).map _
    rw [zad hkb] at hrow
    have n11 : (a10.put (some 50) v).tmps.size = 51 := by simp [Act.put, n10]
    have v11 : (a10.put (some 50) v).eval (.tmp 50) = v := by simp [Act.put, Act.eval, n10]
    have f11' : (a10.put (some 50) v).defers = [] := f10
    generalize a10.put (some 50) v = a11 at n11 v11 f11' ⊢
    refine z4d g3 fun Kk hK => ?_
    unfold Oper.wp
    rw [show (execOp a11.eval o3).run Try.prog W = .ok (.value v) W by simp [execOp, p3, v11]]
    simp only [Oper.upon, d3]
    refine hK _ _ (wpList_nil ?_)
    clear hK Kk
    show (Code.ret).wp _ _ _ _
    refine wp_ret ?_
    have hlen : (z4P ks).length = ks.length := (z2K ks).length_eq
    have hBW : Below w8.heap.size w8 W := hb9.trans (hbW.mono (by omega))
    refine ⟨f11', v, ?_, v, zfl w.heap.size K, rfl, ?_, fun i t hi hio' => (z4J i t hio hi hio').elim, ⟨hBW.os.trans s8.os, hBW.tape.trans s8.tape, hBW.output.trans s8.output, Nat.le_trans s8.size hBW.size, fun b hb hcb => ⟨by unfold zfl; rw [if_pos hb], (hBW.block b (Nat.lt_of_lt_of_le hb s8.size)).trans (s8.old b hb hcb).2⟩, fun b arr e fz hb => ?_⟩⟩
    · rw [show (results Try.f11 (a11.put (some 4) v).tmps).run Try.prog W = .ok ((a11.put (some 4) v).tmps.getD 4 undef) W from results_tmp rfl _ _ _]
      simp [Act.put, n11]
    · rw [← hlen]
      exact zbx (by have := s8.size; omega) hrow
    · obtain ⟨a1, e1, z1, h1, h2⟩ := s8.sz b arr e fz hb
      exact ⟨a1, e1, z1, (hBW.block b (z0g h1)).trans h1, h2⟩
end
section
open Go Go.RowKit Go.Maps Go.Sort
set_option maxRecDepth 100000
set_option maxHeartbeats 4000000
theorem zdf {w : World} {g : Nat} {ents : Array MapEntry} {clock : Nat} {es : List (Value × Value)} {ks : List (Int × ByteArray)} (hg : w.heap[g]? = some (.map ents clock)) (hm : z5G (some .i64) ents clock es) (hk : kvI es = some ks) (hn : (ks.map (·.1)).Nodup) (hs : ∀ p ∈ ks, (Lit.int .i64 p.1).wf = true /\ p.2.size <= maxLen) (hl : ks.length <= maxLen) :
    ∃ D0 : DataW Unit, w.ownsMap Try.prog 3 (plainElem Try.prog 9) g ks.length D0 /\ (intKeys D0).Perm (ks.map (·.1)) /\ Maps.size D0 = ks.length /\ ∀ p ∈ ks, z7Z D0 (p.1, p.2.data.toList) := by
  obtain ⟨h1, h2, h3, h4⟩ := hm
  have t3 : Try.prog.underlying 3 = some (.int .i64) := Try.underlying3
  have t9 : Try.prog.underlying 9 = some .string := Try.underlying9
  have hkv : ents.toList.map (fun e => (e.key, e.val)) = ks.map fun p => (.int .i64 p.1, .string p.2) := by rw [h1, zbZ hk]
  have hkeys : ents.toList.map (·.key) = (ks.map (·.1)).map fun k => Value.int .i64 k := by
    have := congrArg (List.map fun p : Value × Value => p.1) hkv
    rw [List.map_map, List.map_map] at this
    rw [List.map_map]
    exact this
  have hlen : ents.toList.length = ks.length := by simpa using congrArg List.length hkv
  have hrd : ∀ x ∈ ents.toList, ∃ p ∈ ks, WideElems.rd (H := Unit) Try.prog 3 (plainElem Try.prog 9) x = some (.int .i64 p.1, .lit (.string p.2.data.toList)) /\ x.key = .int .i64 p.1 /\ x.val = .string p.2 := fun x hx => by
    have : (x.key, x.val) ∈ ks.map fun p => (Value.int .i64 p.1, Value.string p.2) := by rw [← hkv]; exact List.mem_map.2 ⟨x, hx, rfl⟩
    obtain ⟨p, hp1, hp2⟩ := List.mem_map.1 this
    obtain ⟨e1, e2⟩ := Prod.mk.inj hp2
    refine ⟨p, hp1, ?_, e1.symm, e2.symm⟩
    obtain ⟨key, val, born⟩ := x
    simp only at e1 e2
    subst e1 e2
    exact WideElems.rd_mk (yv := (.lit (.string p.2.data.toList), [])) (keyOf_int_mk t3 (hs p hp1).1) (plainElem_string t9 (hs p hp1).2)
  have hrg : ents.toList.map (WideElems.rg (H := Unit) Try.prog 3 (plainElem Try.prog 9)) = ks.map fun p => (Lit.int .i64 p.1, DataW.lit (.string p.2.data.toList)) := by
    have e : (ents.toList.map (fun e => (e.key, e.val))).map (fun v : Value × Value => match v with | (.int .i64 a, .string s) => (Lit.int .i64 a, (DataW.lit (.string s.data.toList) : DataW Unit)) | _ => (.bool false, .nil)) = ks.map fun p => (Lit.int .i64 p.1, DataW.lit (.string p.2.data.toList)) := by
      rw [hkv, List.map_map]
      rfl
    rw [← e, List.map_map]
    refine List.map_congr_left fun x hx => ?_
    obtain ⟨p, _, h5, h6, h7⟩ := hrd x hx
    simp only [Function.comp_apply, WideElems.rg_of h5, h6, h7]
  have hown : w.ownsMap Try.prog 3 (plainElem Try.prog 9) g ks.length (.map ((ents.toList.map (WideElems.rg (H := Unit) Try.prog 3 (plainElem Try.prog 9))).foldr DataW.insert [])) :=
    ⟨ents, clock, hg, ⟨by rw [← Array.length_toList, hlen]; exact hl, ⟨h3, h4, by rw [hkeys]; exact List.pairwise_map.2 (hn.imp fun hab e => hab (by injection e))⟩, fun x hx => by obtain ⟨p, _, h5, _⟩ := hrd x hx; exact ⟨_, h5⟩⟩, by rw [← Array.length_toList, hlen]; exact Nat.le_refl _, rfl⟩
  refine ⟨_, hown, ?_, ?_, fun p hp zd => ?_⟩
  · show (List.map (fun p : Lit × DataW Unit => Go.intOf p.1) _).Perm _
    have e2 : (ks.map fun p => (Lit.int .i64 p.1, (DataW.lit (.string p.2.data.toList) : DataW Unit))).map (fun p => Go.intOf p.1) = ks.map (·.1) := by
      rw [List.map_map]; rfl
    rw [← e2, ← hrg]
    exact (WideShapes.sorted_perm _).map _
  · show List.length _ = _
    rw [(WideShapes.sorted_perm _).length_eq, List.length_map, hlen]
  · obtain ⟨es', hD, hpw, _⟩ := hown.entries (int_keyed t3)
    have hD' := DataW.map.inj hD
    rw [hD']
    refine WideAt.atKey_mem zd (by trivial) hpw ?_
    rw [← hD']
    refine (WideShapes.sorted_perm _).mem_iff.2 ?_
    rw [hrg]
    exact List.mem_map.2 ⟨p, hp, rfl⟩
theorem z6Q {H : Type} (n : Nat) (hn : 1 <= n) (Bm b nn : Nat) (D0 : DataW H) (w : World) (hBm : Bm < w.heap.size) (hm : w.cell? ⟨Bm, 0, none⟩ = some (.map (some b))) (hown : w.ownsMap Try.prog 3 (plainElem Try.prog 9) b nn D0) :
    SeqGives Fence.wide n Try.prog 29 #[.pointer (some ⟨Bm, 0, none⟩)] encStr (fun ss => ∃ ps : List (Int × List UInt8), ps.map (·.2) = ss /\ (ps.map (·.1)).Perm (intKeys D0) /\ ∀ p ∈ ps, z7Z D0 p) (Maps.size D0) w := fun l J W hW hJ hY h0 => by
  have hown' : W.ownsMap Try.prog 3 (plainElem Try.prog 9) b nn D0 := by
    have hbl := hown.lt
    obtain ⟨es, clock, hb, Ft, hs, hD⟩ := hown
    exact ⟨es, clock, (hW.block b hbl).trans hb, Ft, hs, hD⟩
  refine (za6 n hn l Bm b nn D0 J hY W hJ ((hW.cell (p := ⟨Bm, 0, none⟩) hBm).trans hm) hown' h0).mono fun e W' hh => ?_
  obtain ⟨h1, ps, h2, h3, h4⟩ := hh
  exact ⟨h1, ps.map (·.2), ⟨ps, rfl, h2, h3⟩, h4⟩
def zfw {H : Type} : DataW H -> List UInt8
  | .lit (.string s) => s
  | _ => []
theorem zb8 {H : Type} {D0 : DataW H} {ps qs : List (Int × List UInt8)} (h : (ps.map (·.1)).Perm (qs.map (·.1))) (hp : ∀ p ∈ ps, z7Z D0 p) (hq : ∀ p ∈ qs, z7Z D0 p) : (ps.map (·.2)).Perm (qs.map (·.2)) := by
  have e : ∀ {l : List (Int × List UInt8)}, (∀ p ∈ l, z7Z D0 p) -> l.map (·.2) = (l.map (·.1)).map fun k => zfw (D0.atKey (.int .i64 k) .nil) := fun {l} hl => by
    rw [List.map_map]
    refine List.map_congr_left fun p hp => ?_
    simp only [Function.comp_apply, hl p hp .nil, zfw]
  rw [e hp, e hq]
  exact h.map _
theorem zb7 (mb : Option Nat) (w : World) : Calls Try.prog 18 #[.map mb] w fun e w' => e = .returned (.func (.func 29) #[] #[.pointer (some ⟨w.heap.size, 0, none⟩)]) /\ w' = w.alloc (.cells #[.map mb] 32) := by
  go_enter Try.func18, Try.ntmps18
  go_wp2
  go_ret
  exact ⟨rfl, rfl⟩
theorem zei : AnyZ.SortsIn Try.prog Try.sorted17_ren Fence.wide 4 := ⟨fun blk off cap ss W hH hb hs => callsIn_wide.2 (Try.slices_Sort_string blk off cap ss W hH hb hs), fun p cap W => callsIn_wide.2 (Try.slices_Sort_string_none p cap W)⟩
noncomputable def rF : Code := zfe (z7b 5 z4a)
theorem zgJ : z7b 5 z4a = .seq (.region 11 (rgO rF) false) .ret := rfl
theorem za2 {I : World -> (Nat -> z0a) -> Prop} {C : z0b} (hI : EnvS I) (hC : z1y Try.prog I C) {args : List T} {r : T} {outs : List T} (h : zf9 C args = some (r, outs)) : CallOk Try.prog I 7 args r outs := by
  have hm : Try.prog.follows .mixedOrders = true := by kernel_rfl
  unfold zf9 at h
  split at h
  case isFalse => cases h
  rename_i hc
  obtain ⟨hal, hio⟩ := hc
  have hb : Try.f7.body = some z4a := rfl
  refine ⟨fun vals w => ?_, fun w K vals hs ha hIw => ?_⟩
  · have hname : Try.f7.name ≠ "runtime.NumGoroutine" := by decide
    simp [callFunc, program, Sem.run, Try.func7, hname, hb]
  have hent := z5o (nt := 41) hs ha hal
  have okp : okC zf2 (zaR 5 z4a) = true := by kernel_rfl
  refine calls_of_wp Try.func7 hb ?_
  have hsq : zd2 5 z4a := ⟨rfl, rfl, rfl, rfl, rfl, trivial⟩
  split at h
  case h_3 => cases h
  ·
    rename_i fr hcode
    refine z7P hI hC hm 5 z4a hsq okp hent hIw hcode fun a8 w8 K8 R8 h8 s8 => ?_
    rw [Option.bind_eq_some_iff] at h
    obtain ⟨⟨r0, o0⟩, h1, h2⟩ := h
    split at h2
    case isFalse => cases h2
    rename_i ho
    simp only at ho
    subst ho
    obtain ⟨rfl, rfl⟩ : z0l r0 = r /\ (args.map fun _ => T.dead) = outs := by simpa using h2
    obtain ⟨v, K9, r1, r2, -, r4⟩ := z8C h8 h1 (by simp)
    refine ⟨h8.df, v, r1, v, fun b => dz (K9 b), rfl, ?_, fun i t hi hio' => (z4J i t hio hi hio').elim, (s8.trans r4).trans ⟨rfl, rfl, rfl, Nat.le_refl _, fun b hb hcc => ⟨by
      show dz (K9 b) = K9 b
      rcases hcc with q | q <;> rw [q] <;> rfl, rfl⟩, .same rfl⟩⟩
    exact r2.freeze (fun b s hb hcc hK => ⟨by show dz (K9 b) = []; rw [hK]; rfl, rfl⟩) (fun b hb hK => ⟨by show dz (K9 b) = []; rw [hK]; rfl, rfl⟩) (Nat.le_refl _) [0]
  · rename_i fr hcode
    split at h
    case h_2 => cases h
    rename_i es h5 o5
    split at h
    case h_2 => cases h
    rename_i ks hks
    split at h
    case isFalse => cases h
    rename_i hcc
    obtain ⟨hnd, hsz, hby, hnt⟩ := hcc
    obtain ⟨rfl, rfl⟩ : T.sl ks.length (zdS (z2g (ks.map (·.2)))) = r /\ (args.map fun _ => T.dead) = outs := by simpa using h
    refine z7P hI hC hm 5 z4a hsq okp hent hIw hcode fun a8 w8 K8 R8 h8 s8 => ?_
    show (z7b 5 z4a).wp _ _ a8 w8
    rw [zgJ]
    obtain ⟨gm, ents, clock, hv5, hKg, hg, hmi⟩ : ∃ g ents clock, a8.eval (.tmp 5) = .map (some g) /\ K8 g = col 5 /\ w8.heap[g]? = some (.map ents clock) /\ z5G (some .i64) ents clock es := by
      have e1 := h8.opE (.tmp 5)
      have e2 : opE fr (.tmp 5) = .one (.h 5 []) := by simp only [opE]; rw [if_pos (show 5 < fr.nt by omega), h5]
      rw [e2] at e1
      obtain ⟨e3, -⟩ := e1
      have e4 : a8.eval (.tmp 5) = R8 5 := by simpa [nav] using e3.symm
      have e5 := h8.ob 5 _ o5
      rw [e4]
      generalize hu : R8 5 = u at e5
      cases e5 with
      | mp _ g _ _ ents clock hc0 hK hg hh => exact ⟨g, ents, clock, rfl, hK, hg, hh⟩
    have hml : ks.length <= maxLen := by unfold maxLen; omega
    obtain ⟨D0, hown, hperm, hsize, hvals⟩ := zdf hg hmi hks hnd hsz hml
    obtain ⟨o0, o1, o2, o3, q17, p0, d0, g0, p1, d1, g1, p2, d2, g2, p3, d3, g3⟩ : ∃ (o0 o1 o2 o3 : Oper), (rgO rF).toList = [o0, o1, o2, o3] /\ o0.op = .move (.tmp 5) /\ o0.dst = some 38 /\ o0.guard = none /\ o1.op = .call { callee := .value (.func 18), args := #[.tmp 38], argTypes := #[32] } /\ o1.dst = some 39 /\ o1.guard = none /\ o2.op = .call { callee := .value (.func 17), args := #[.tmp 39], argTypes := #[37] } /\ o2.dst = some 40 /\ o2.guard = none /\ o3.op = .assign (.tmp 40) /\ o3.dst = some 4 /\ o3.guard = none := ⟨_, _, _, _, rfl, rfl, rfl, rfl, rfl, rfl, rfl, rfl, rfl, rfl, rfl, rfl, rfl⟩
    refine wp_seq (wp_region_list ?_)
    rw [q17]
    have hn8 : a8.tmps.size = 41 := h8.nt.trans hnt
    refine z4d g0 fun Kk hK => ?_
    unfold Oper.wp
    rw [show (execOp a8.eval o0).run Try.prog w8 = .ok (.value (a8.eval (.tmp 5))) w8 by simp [execOp, p0]]
    simp only [Oper.upon, d0]
    refine hK _ _ ?_
    clear hK Kk
    rw [hv5]
    have n9 : (a8.put (some 38) (.map (some gm))).tmps.size = 41 := by simp [Act.put, hn8]
    have v9 : (a8.put (some 38) (.map (some gm))).eval (.tmp 38) = .map (some gm) := by simp [Act.put, Act.eval, hn8]
    have v9' : (a8.put (some 38) (.map (some gm))).tmps[38]?.getD (Value.tuple #[]) = .map (some gm) := by simp [Act.put, hn8]
    have f9 : (a8.put (some 38) (.map (some gm))).defers = [] := h8.df
    generalize a8.put (some 38) (.map (some gm)) = a9 at n9 v9 v9' f9 ⊢
    refine z4d g1 fun Kk hK => ?_
    unfold Oper.wp
    rw [show (execOp a9.eval o1).run Try.prog w8 = .ok (.enter 18 #[.map (some gm)]) w8 by
      simp [execOp, p1, v9, v9', resolve, invoke, go_sem, enters_of Try.func18 (by kernel_rfl) rfl]]
    rw [Oper.upon_enter]
    refine (zb7 (some gm) w8).mono fun e W hh => ?_
    obtain ⟨rfl, rfl⟩ := hh
    simp only [d1]
    refine hK _ _ ?_
    clear hK Kk
    generalize hw9 : w8.alloc (.cells #[.map (some gm)] 32) = w9
    have hs9 : w9.heap.size = w8.heap.size + 1 := by rw [← hw9]; simp
    have hb9 : Below w8.heap.size w8 w9 := by rw [← hw9]; exact (Below.refl _ w8).alloc (Nat.le_refl _) _
    have hown9 : w9.ownsMap Try.prog 3 (plainElem Try.prog 9) gm ks.length D0 := by
      have hbl := hown.lt
      obtain ⟨es', clock', hb', Ft, hs', hD⟩ := hown
      exact ⟨es', clock', (hb9.block gm hbl).trans hb', Ft, hs', hD⟩
    have hcell9 : w9.cell? ⟨w8.heap.size, 0, none⟩ = some (.map (some gm)) := by rw [← hw9]; simp
    have hseq := z6Q 2 (by omega) w8.heap.size gm ks.length D0 w9 (by omega) hcell9 hown9
    have n10 : (a9.put (some 39) (.func (.func 29) #[] #[.pointer (some ⟨w8.heap.size, 0, none⟩)])).tmps.size = 41 := by simp [Act.put, n9]
    have v10 : (a9.put (some 39) (.func (.func 29) #[] #[.pointer (some ⟨w8.heap.size, 0, none⟩)])).eval (.tmp 39) = .func (.func 29) #[] #[.pointer (some ⟨w8.heap.size, 0, none⟩)] := by simp [Act.put, Act.eval, n9]
    have v10' : (a9.put (some 39) (.func (.func 29) #[] #[.pointer (some ⟨w8.heap.size, 0, none⟩)])).tmps[39]?.getD (Value.tuple #[]) = .func (.func 29) #[] #[.pointer (some ⟨w8.heap.size, 0, none⟩)] := by simp [Act.put, n9]
    have f10 : (a9.put (some 39) (.func (.func 29) #[] #[.pointer (some ⟨w8.heap.size, 0, none⟩)])).defers = [] := f9
    change wpList _ _ _ _ (a9.put (some 39) (.func (.func 29) #[] #[.pointer (some ⟨w8.heap.size, 0, none⟩)])) w9
    generalize a9.put (some 39) (.func (.func 29) #[] #[.pointer (some ⟨w8.heap.size, 0, none⟩)]) = a10 at n10 v10 v10' f10 ⊢
    refine z4d g2 fun Kk hK => ?_
    unfold Oper.wp
    rw [show (execOp a10.eval o2).run Try.prog w9 = .ok (.enter 17 #[.func (.func 29) #[] #[.pointer (some ⟨w8.heap.size, 0, none⟩)]]) w9 by
      simp [execOp, p2, v10, v10', resolve, invoke, go_sem, enters_of Try.func17 (by kernel_rfl) rfl]]
    rw [Oper.upon_enter]
    have eg := enters_of Try.func29 (by kernel_rfl) rfl
    refine (callsIn_wide.1 (AnyZ.sorted_in (ρ := Try.sorted17_ren) { Try.sorted17 with } Fence.wide 5 trivial trivial trivial trivial rfl (by omega) zei (enters_of Try.func28 (by kernel_rfl) rfl) 29 _ trivial eg _ _ (by rw [hsize]; exact hml) (by rw [hsize]; exact hby) w9 hseq)).mono fun e W hh => ?_
    obtain ⟨v, ss, rfl, ⟨ps, rfl, hpk, hpv⟩, hrow, -, hbW⟩ := hh
    simp only [d2]
    refine hK _ _ ?_
    clear hK Kk
    have hpq : (ps.map (·.2)).Perm ((ks.map (·.2)).map fun s => s.data.toList) := by
      have := zb8 (D0 := D0) (qs := ks.map fun p => (p.1, p.2.data.toList)) (by rw [List.map_map]; exact hpk.trans hperm) hpv (fun p hp => by obtain ⟨q, hq, rfl⟩ := List.mem_map.1 hp; exact hvals q hq)
      rw [List.map_map] at this
      rw [List.map_map]
      exact this
    have hrow2 : W.ownsRow w9.heap.size (Try.sorted17_ren.t 26) 1 v (z2g (ks.map (·.2))).length ((z2g (ks.map (·.2))).map Value.string) := by
      have e1 : ((ps.map (·.2)).mergeSort fun x y => decide (x <= y)) = (((ks.map (·.2)).map fun s => s.data.toList).mergeSort fun x y => decide (x <= y)) := mergeSort_of_perm hpq
      have e2 : (z2g (ks.map (·.2))).map Value.string = (((ks.map (·.2)).map fun s => s.data.toList).mergeSort fun x y => decide (x <= y)).map encStr := by
        unfold z2g
        rw [List.map_map]
        exact List.map_congr_left fun x _ => by simp [encStr]
      have e3 : (z2g (ks.map (·.2))).length = (ps.map (·.2)).length := by
        unfold z2g
        rw [List.length_map, (List.mergeSort_perm _ _).length_eq, hpq.length_eq]
      rw [e2, e3, ← e1]
      exact hrow
    clear hrow
    have n11 : (a10.put (some 40) v).tmps.size = 41 := by simp [Act.put, n10]
    have v11 : (a10.put (some 40) v).eval (.tmp 40) = v := by simp [Act.put, Act.eval, n10]
    have f11' : (a10.put (some 40) v).defers = [] := f10
    generalize a10.put (some 40) v = a11 at n11 v11 f11' ⊢
    refine z4d g3 fun Kk hK => ?_
    unfold Oper.wp
    rw [show (execOp a11.eval o3).run Try.prog W = .ok (.value v) W by simp [execOp, p3, v11]]
    simp only [Oper.upon, d3]
    refine hK _ _ (wpList_nil ?_)
    clear hK Kk
    show (Code.ret).wp _ _ _ _
    refine wp_ret ?_
    have hlen : (z2g (ks.map (·.2))).length = ks.length := by
      unfold z2g
      rw [List.length_map, (List.mergeSort_perm _ _).length_eq, List.length_map, List.length_map]
    have hBW : Below w8.heap.size w8 W := hb9.trans (hbW.mono (by omega))
    refine ⟨f11', v, ?_, v, zfl w.heap.size K, rfl, ?_, fun i t hi hio' => (z4J i t hio hi hio').elim, ⟨hBW.os.trans s8.os, hBW.tape.trans s8.tape, hBW.output.trans s8.output, Nat.le_trans s8.size hBW.size, fun b hb hcb => ⟨by unfold zfl; rw [if_pos hb], (hBW.block b (Nat.lt_of_lt_of_le hb s8.size)).trans (s8.old b hb hcb).2⟩, fun b arr e fz hb => ?_⟩⟩
    · rw [show (results Try.f7 (a11.put (some 4) v).tmps).run Try.prog W = .ok ((a11.put (some 4) v).tmps.getD 4 undef) W from results_tmp rfl _ _ _]
      simp [Act.put, n11]
    · rw [← hlen]
      exact zbx (by have := s8.size; omega) hrow2
    · obtain ⟨a1, e1, z1, h1, h2⟩ := s8.sz b arr e fz hb
      exact ⟨a1, e1, z1, (hBW.block b (z0g h1)).trans h1, h2⟩
end
section
open Go
theorem z8U {w : World} {K : Nat -> z0a} {vals : Array Value} {a b : Value} (hs : vals.size = 2) (ha : ∀ i t, [T.sc a, T.sc b][i]? = some t -> z5y w K i (vals.getD i undef) t) : vals = #[a, b] := by
  obtain ⟨l⟩ := vals
  match l, hs with
  | [v, u], _ =>
    have h0 : TRep w K [] v (.sc a) := ha 0 _ rfl
    have h1 : TRep w K [] u (.sc b) := ha 1 _ rfl
    rw [h0.sc_eq, h1.sc_eq]
theorem za3 {I : World -> (Nat -> z0a) -> Prop} {args : List T} {r : T} {outs : List T} (h : zgh args = some (r, outs)) : CallOk Try.prog I 26 args r outs := by
  unfold zgh at h
  split at h
  case h_2 => cases h
  rename_i u v
  obtain ⟨rfl, rfl⟩ : T.sc (.int .i64 (Lib.compareBytes u.data.toList v.data.toList)) = r /\ [T.dead, T.dead] = outs := by simpa [zgj] using h
  refine ⟨enters_of Try.func26 (by kernel_rfl) rfl, fun w K vals hs ha hI => ?_⟩
  obtain rfl := z8U hs ha
  refine (Try.strings_Compare u v w).mono fun e w' ⟨he, hw⟩ => ?_
  subst hw
  exact ⟨_, K, he, .sc _ _ rfl, fun i t hi hio => (by match i, hi with | 0, hi => cases hi; cases hio | 1, hi => cases hi; cases hio), Step.refl _ _⟩
theorem z8d {I : World -> (Nat -> z0a) -> Prop} {args : List T} {r : T} {outs : List T} (h : zcT args = some (r, outs)) : CallOk Try.prog I 25 args r outs := by
  unfold zcT at h
  split at h
  case h_2 => cases h
  rename_i u v
  obtain ⟨rfl, rfl⟩ : T.sc (.int .i64 (Lib.compareInt u v)) = r /\ [T.dead, T.dead] = outs := by simpa [zcX] using h
  refine ⟨enters_of Try.func25 (by kernel_rfl) rfl, fun w K vals hs ha hI => ?_⟩
  obtain rfl := z8U hs ha
  refine (Try.cmp_Compare_int u v w).mono fun e w' ⟨he, hw⟩ => ?_
  subst hw
  exact ⟨_, K, he, .sc _ _ rfl, fun i t hi hio => (by match i, hi with | 0, hi => cases hi; cases hio | 1, hi => cases hi; cases hio), Step.refl _ _⟩
theorem za1 {I : World -> (Nat -> z0a) -> Prop} {args : List T} {r : T} {outs : List T} (h : zgg args = some (r, outs)) : CallOk Try.prog I 14 args r outs := by
  unfold zgg at h
  split at h
  case h_2 => cases h
  rename_i u v m
  unfold zgi at h
  split at h
  case isFalse => cases h
  rename_i hc
  obtain ⟨rfl, rfl⟩ : T.sc (.int .i64 ((zdi u.data.toList v.data.toList m : Nat) : Int)) = r /\ [T.dead, T.dead, T.dead] = outs := by simpa using h
  refine ⟨enters_of Try.func14 (by kernel_rfl) rfl, fun w K vals hs ha hI => ?_⟩
  obtain rfl : vals = #[.string u, .string v, .int .i64 m] := by
    obtain ⟨l⟩ := vals
    match l, hs with
    | [a, b, c], _ =>
      have h0 : TRep w K [] a (.sc (.string u)) := ha 0 _ rfl
      have h1 : TRep w K [] b (.sc (.string v)) := ha 1 _ rfl
      have h2 : TRep w K [] c (.sc (.int .i64 m)) := ha 2 _ rfl
      rw [h0.sc_eq, h1.sc_eq, h2.sc_eq]
  refine (zeC u v m w hc.1 hc.2).mono fun e w' ⟨he, hb⟩ => ?_
  refine ⟨_, K, he, .sc _ _ rfl, fun i t hi hio => (by match i, hi with | 0, hi => cases hi; cases hio | 1, hi => cases hi; cases hio | 2, hi => cases hi; cases hio), hb.os, hb.tape, hb.output, hb.size, fun b hlt _ => ⟨rfl, hb.block b hlt⟩, fun b arr e fz hbb => ⟨arr, e, fz, (hb.block b (z0g hbb)).trans hbb, rfl⟩⟩
theorem zb1 {I : World -> (Nat -> z0a) -> Prop} (hI : EnvS I) : ∀ C, z1y Try.prog I C -> z1y Try.prog I (xtF C) := by
  intro C hC f args r outs h
  unfold xtF at h
  split at h
  case isTrue hf => subst hf; exact za0 hI hC h
  split at h
  case isTrue hf => subst hf; exact za2 hI hC h
  unfold xtC at h
  split at h
  case isTrue hf => subst hf; exact za3 h
  split at h
  case isTrue hf => subst hf; exact z8d h
  split at h
  case isTrue hf => subst hf; exact za1 h
  cases h
theorem zhz : ∀ C, z1y Try.prog (fun _ _ => True) C -> z1y Try.prog (fun _ _ => True) (xtF C) := zb1 EnvS.none
end
section
structure StOk (ops : Array Oper) (t : SchT) (L : Array Bool) (d : Nat) (ns : List Nat) : Prop where
  ord : z0M .any ops true t L = true
  dep : t.depth = d
  nx : ∀ z ∈ t.nexts, z ∈ ns
structure BrOk (ops : Array Oper) (t : SchT) (L : Array Bool) (d : Nat) (ns hs : List Nat) : Prop where
  ord : z0M .any ops false t L = true
  dep : t.depth = d
  nx : ∀ z ∈ t.nexts, z ∈ ns
  hd : ∀ i ∈ hs, i ∈ t.heads
end
section
open Go
set_option maxRecDepth 100000
theorem zi2 : z4Z Try.prog 3 cf3 = true := by kernel_rfl
theorem zi1 : z4Z Try.prog 6 cf6 = true := by kernel_rfl
theorem zi0 : z4Z Try.prog 8 cf8 = true := by kernel_rfl
theorem zhZ : z4Z Try.prog 9 cf9 = true := by kernel_rfl
theorem zhm : z4Z Try.prog 10 cf10 = true := by kernel_rfl
theorem zhl : z4Z Try.prog 12 cf12 = true := by kernel_rfl
theorem zhk : z4Z Try.prog 13 cf13 = true := by kernel_rfl
theorem zhj : z4Z Try.prog 15 cf15 = true := by kernel_rfl
theorem zhi : z4Z Try.prog 16 cf16 = true := by kernel_rfl
theorem zhh : z4Z Try.prog 19 cf19 = true := by kernel_rfl
theorem zhg : z4Z Try.prog 20 cf20 = true := by kernel_rfl
theorem zhf : z4Z Try.prog 21 cf21 = true := by kernel_rfl
theorem zhe : z4Z Try.prog 22 cf22 = true := by kernel_rfl
theorem zhd : z4Z Try.prog 30 cf30 = true := by kernel_rfl
theorem zhc : z4Z Try.prog 31 cf31 = true := by kernel_rfl
theorem zhb : z4Z Try.prog 33 cf33 = true := by kernel_rfl
theorem zha : z4Z Try.prog 41 cf41 = true := by kernel_rfl
theorem z2y {p : Prop} [Decidable p] {a c : Cfg} {r : Option Cfg} {G : Prop} (h : (if p then some a else r) = some c) (h1 : p -> a = c -> G) (h2 : r = some c -> G) : G := by
  split at h
  · rename_i hp; exact h1 hp (Option.some.inj h)
  · exact h2 h
theorem zi6 : ∀ f c, z2F f = some c -> z4Z Try.prog f c = true := by
  intro f c h
  unfold z2F at h
  refine z2y h (fun e h => by rw [e, ← h]; exact zi2) fun h => ?_
  refine z2y h (fun e h => by rw [e, ← h]; exact zi1) fun h => ?_
  refine z2y h (fun e h => by rw [e, ← h]; exact zi0) fun h => ?_
  refine z2y h (fun e h => by rw [e, ← h]; exact zhZ) fun h => ?_
  refine z2y h (fun e h => by rw [e, ← h]; exact zhm) fun h => ?_
  refine z2y h (fun e h => by rw [e, ← h]; exact zhl) fun h => ?_
  refine z2y h (fun e h => by rw [e, ← h]; exact zhk) fun h => ?_
  refine z2y h (fun e h => by rw [e, ← h]; exact zhj) fun h => ?_
  refine z2y h (fun e h => by rw [e, ← h]; exact zhi) fun h => ?_
  refine z2y h (fun e h => by rw [e, ← h]; exact zhh) fun h => ?_
  refine z2y h (fun e h => by rw [e, ← h]; exact zhg) fun h => ?_
  refine z2y h (fun e h => by rw [e, ← h]; exact zhf) fun h => ?_
  refine z2y h (fun e h => by rw [e, ← h]; exact zhe) fun h => ?_
  refine z2y h (fun e h => by rw [e, ← h]; exact zhd) fun h => ?_
  refine z2y h (fun e h => by rw [e, ← h]; exact zhc) fun h => ?_
  refine z2y h (fun e h => by rw [e, ← h]; exact zhb) fun h => ?_
  refine z2y h (fun e h => by rw [e, ← h]; exact zha) fun h => ?_
  cases h
end
section
open Go.RowKit
def z5j (P : Program) : Nat -> TypeId -> Bool
  | 0, _ => false
  | m + 1, t =>
    match P.underlying t with
    | some (.slice e) => P.cellsOf e != 0 && z5j P m e
    | some (.pointer e) => z5j P m e
    | some (.struct fs) => fs.toList.all fun f => z5j P m f.type
    | some (.array _ e) => z5j P m e
    | some (.map _ e) => z5j P m e
    | _ => true
section
variable {H : Type} {enc : TypeId × Value -> H} {P : Program} {w : World} {base : Nat}
theorem z5A {m : Nat} {r r' : TypeId -> List Value -> Option (DataW H × List MemPlace)}
    (hr : ∀ t cs x, z5j P m t = true -> r t cs = some x -> r' t cs = some x) {t : TypeId} {cs : List Value} {x : DataW H × List MemPlace} (hf : z5j P (m + 1) t = true)
    (h : DataW.trodStep enc P w base (fun _ => true) true r t cs = some x) : DataW.trodStep enc P w base (fun b => decide (b < w.heap.size)) true r' t cs = some x := by
  unfold DataW.trodStep at h ⊢
  unfold z5j at hf
  split at h
  case h_1 => exact h
  case h_2 => exact h
  case h_3 => exact h
  case h_4 => exact h
  case h_5 => exact h
  case h_6 e a hu =>
    rw [hu] at hf
    simp only [Option.map_eq_some_iff, Option.bind_eq_some_iff] at h ⊢
    obtain ⟨y, ⟨cs', hc, hy⟩, rfl⟩ := h
    exact ⟨y, ⟨cs', hc, hr _ _ _ hf hy⟩, rfl⟩
  case h_7 => exact h
  case h_8 e a len cap hu =>
    rw [hu] at hf
    simp only [Bool.and_eq_true, bne_iff_ne, ne_eq] at hf
    obtain ⟨hcell, hfe⟩ := hf
    simp only at h ⊢
    split at h
    · rename_i hc
      rw [if_pos hc]
      simp only [Option.map_eq_some_iff, Option.bind_eq_some_iff, if_true] at h ⊢
      obtain ⟨elems, he, rest, hrest, rfl⟩ := h
      have one : ∀ (i : Nat) (y : DataW H × List MemPlace), (w.cells? base (a.add (i * P.cellsOf e)) (P.cellsOf e)).bind (r e) = some y -> (w.cells? base (a.add (i * P.cellsOf e)) (P.cellsOf e)).bind (r' e) = some y := by
        intro i y hv
        simp only [Option.bind_eq_some_iff] at hv ⊢
        obtain ⟨cs', hc', hy'⟩ := hv
        exact ⟨cs', hc', hr _ _ _ hfe hy'⟩
      refine ⟨elems, mapM_carry he (fun i y _ _ hy => one i y hy), rest, ?_, rfl⟩
      by_cases hb : a.block < w.heap.size
      · rw [if_pos (by simpa using hb)]
        exact mapM_carry hrest (fun j y _ _ hy => one (len + j) y hy)
      · rw [if_neg (by simpa using hb)]
        have hz : cap - len = 0 := by
          rcases Nat.eq_zero_or_pos (cap - len) with h0 | h0
          · exact h0
          · exfalso
            have hl : rest.length = cap - len := by simpa using mapM_some_length hrest
            have h1 := mapM_some_get hrest 0 0 (by simp [h0])
            obtain ⟨y, hy⟩ : ∃ y, rest[0]? = some y := ⟨rest[0], List.getElem?_eq_getElem (by omega)⟩
            rw [hy] at h1
            simp only [Option.bind_eq_some_iff] at h1
            obtain ⟨cs', hc', _⟩ := h1
            have h2 := World.cells?_block hc' (by omega)
            have h3 : (a.add ((len + 0) * P.cellsOf e)).block = a.block := by unfold Addr.add; split <;> rfl
            omega
        rw [hz] at hrest
        simpa using hrest
    · cases h
  case h_9 fs _ hu =>
    rw [hu] at hf
    split at h
    · rename_i hc
      rw [if_pos hc]
      simp only [Option.map_eq_some_iff] at h ⊢
      obtain ⟨xs, hx, rfl⟩ := h
      exact ⟨xs, mapM_carry hx (fun f y hin _ hv => hr _ _ _ (List.all_eq_true.1 hf f hin) hv), rfl⟩
    · cases h
  case h_10 n e _ hu =>
    rw [hu] at hf
    split at h
    · rename_i hc
      rw [if_pos hc]
      simp only [Option.map_eq_some_iff] at h ⊢
      obtain ⟨xs, hx, rfl⟩ := h
      exact ⟨xs, mapM_carry hx (fun f y _ _ hv => hr _ _ _ hf hv), rfl⟩
    · cases h
  case h_11 => exact h
  case h_12 => exact h
  case h_13 => exact h
  case h_14 k e b hu =>
    rw [hu] at hf
    split at h
    · rename_i es clock hb
      split at h
      · rename_i hc
        simp only [Option.bind_eq_some_iff] at h
        obtain ⟨entries, he, hd⟩ := h
        split at hd
        · rename_i hris
          have hx := Option.some.inj hd
          subst hx
          simp only [if_pos hc, Option.bind_eq_some_iff]
          refine ⟨entries, mapM_carry he (fun x y _ hy hv => ?_), by simp [hris]⟩
          simp only [Option.bind_eq_some_iff] at hv ⊢
          obtain ⟨key, hk, hz⟩ := hv
          refine ⟨key, hk, ?_⟩
          split at hz
          · rename_i hfm
            rw [if_pos hfm]
            simp only [Option.map_eq_some_iff] at hz ⊢
            obtain ⟨q, hq, rfl⟩ := hz
            exact ⟨q, hr _ _ _ hf hq, rfl⟩
          · cases hz
        · cases hd
      · cases h
    · cases h
  case h_15 => exact h
  case h_16 => exact h
  case h_17 => exact h
  case h_18 => exact h
  case h_19 => exact h
  case h_20 => exact h
  case h_21 => cases h
theorem za7 : ∀ (n m : Nat) (t : TypeId) (cs : List Value) (x : DataW H × List MemPlace), z5j P m t = true ->
    DataW.trod enc P w base (fun _ => true) true n t cs = some x -> DataW.trod enc P w base (fun b => decide (b < w.heap.size)) true n t cs = some x := by
  intro n
  induction n with
  | zero => intro m t cs x _ h; simp [DataW.trod] at h
  | succ n ih =>
    intro m t cs x hf h
    cases m with
    | zero => simp [z5j] at hf
    | succ m =>
      rw [DataW.trod_step] at h ⊢
      exact z5A (m := m) (fun t cs x hf hx => ih m t cs x hf hx) hf h
theorem z6Z {w' : World} (hb : Below w.heap.size w w') {p : MemPlace} (hp : p.block < w.heap.size) : w.sameAt w' p := by
  cases p with
  | cell b off => exact hb.cell (p := ⟨b, off, none⟩) hp
  | map b => exact hb.block b hp
theorem z3r {w' : World} (m : Nat) (hb : Below w.heap.size w w') : ∀ {ts : List TypeId} {vs : List Value} {ds : List (DataW H)} {ps : List MemPlace}, (ts.all (z5j P m)) = true ->
    DataW.TrodAll enc P w 0 (fun _ => true) true ts vs ds ps -> DataW.TrodAll enc P w' 0 (fun b => decide (b < w.heap.size)) true ts vs ds ps
  | [], [], [], ps, _, h => h
  | t :: ts, v :: vs, d :: ds, ps, hf, ⟨p, q, ⟨n, h1⟩, h2, e⟩ => by
    simp only [List.all_cons, Bool.and_eq_true] at hf
    have h3 := za7 n m t _ _ hf.1 h1
    exact ⟨p, q, ⟨n, DataW.trod_carry n _ _ _ h3 (fun z hz => z6Z hb (DataW.trod_lt n _ _ _ h3 z hz))⟩, z3r m hb hf.2 h2, e⟩
  | [], _ :: _, _, _, _, h => by cases h
  | [], [], _ :: _, _, _, h => by cases h
  | _ :: _, [], _, _, _, h => by cases h
  | _ :: _, _ :: _, [], _, _, h => by cases h
end
section
variable {H : Type} {enc : TypeId × Value -> H} {P : Program} {w : World} {r : Reach} {b0 : Nat}
open Go.ChangeShapes Go.WideShapes
open Go.Deep (open_bools)
end
end
section
open Go.ChangeShapes Go.WideShapes Go.RowKit
def KZ : Nat -> z0a := fun _ => []
theorem zbU {P : Program} {Xc : z0b -> z0b} {cf : FuncId -> Option Cfg} {f : FuncId} {args : List T} {outs : List T} (hX : ∀ C, z1y P (fun _ _ => True) C -> z1y P (fun _ _ => True) (Xc C)) (hm : P.follows .mixedOrders = true) (hf : ∀ f c, cf f = some c -> z4Z P f c = true)
    (h : Lim P Xc cf f args = some (.sc (.bool true), outs)) (hio : args.all (fun t => !z1g t) = true) (W : World) (vals : Array Value) (hs : vals.size = args.length)
    (ha : ∀ i t, args[i]? = some t -> TRep W KZ [] (vals.getD i undef) t) : Calls P f vals W fun e W' => e = .returned (.bool true) /\ Below W.heap.size W W' := by
  have hc := zfZ (I := fun _ _ => True) EnvS.none hX hm hf h
  refine (hc.calls W KZ vals hs (fun i t hi => ?_) trivial).mono fun e W' ⟨v, K', he, hv, _, hst⟩ => ?_
  · have h1 := List.all_eq_true.1 hio t (List.mem_of_getElem? hi)
    unfold z5y
    rw [if_neg (by simpa using h1)]
    exact ha i t hi
  · generalize hT : T.sc (.bool true) = t at hv
    cases hv with
    | sc c v hb => cases hT; exact ⟨he, hst.os, hst.tape, hst.output, hst.size, fun b hb => (hst.old b hb (.inl rfl)).2⟩
    | _ => cases hT
section
variable {H : Type} {enc : TypeId × Value -> H} {P : Program} {w : World} {r : Reach} {b0 : Nat}
end
end
end Go.Proofs.Ytcjljokldnpgfaa
section
/- Proved here: the law WordFactors returns true for every input, and its arguments read afterwards as before. No condition. -/
namespace Go.Proofs.Ytcjljokldnpgfaa.wordFactors
open Go.ChangeShapes Go.WideShapes Go.ChangeAt Go.RowKit
open Go.ChangeMaps (open_string shut_string)
theorem own : ownKnob Try.prog.godebug = none := by kernel_rfl
set_option maxRecDepth 100000 in
theorem zdC (H : Type) (enc : TypeId × Value -> H) (W : World) (base : Nat) (args : Array Value) (ds gs : List (DataW H)) (before : List MemPlace)
    (hval0 : ∀ (j : Nat) t v, Try.f3.params[j]? = some t -> args[j]? = some v -> Value.okWide Try.prog W .any base t v)
    (hW : DataW.Whole enc Try.prog Try.f3.params.toList Rows.wordFactorsSpec.vars false W args.toList ds gs before) :
    Calls Try.prog 3 args W fun e W' => ∃ v, e = .returned v /\ Rows.wordFactorsSpec.post enc Try.prog Try.f3 false true false false W args v W' := by
  have hW' := hW
  obtain ⟨p, q, hA0, hV, rfl, hfz, hnd⟩ := hW
  have hval := hval0
  have hA : DataW.TrodAll enc Try.prog W 0 (fun _ => true) true Try.f3.params.toList args.toList ds p := hA0
  rw [Try.params3] at hA hval
  obtain ⟨v0, vs0, d0, ds0, p0, q0, hargs, rfl, rfl, h0, r0⟩ := trodAll_cons hA
  obtain ⟨v1, vs1, d1, ds1, p1, q1, rfl, rfl, rfl, h1, r1⟩ := trodAll_cons r0
  obtain ⟨rfl, rfl, rfl⟩ := trodAll_nil r1
  obtain rfl : args = #[v0, v1] := by cases args; simp_all
  obtain ⟨rfl, rfl⟩ := trodVars_none hV
  obtain ⟨a0, rfl, rfl, rfl, w0⟩ := open_string Try.underlying9 (hval 0 9 v0 rfl rfl) h0
  obtain ⟨a1, rfl, rfl, rfl, w1⟩ := open_int Try.underlying3 (hval 1 3 v1 rfl rfl) h1
  obtain ⟨outs, hlaw⟩ := zeK a0 w0 a1 w1
  refine (zbU zhz (by kernel_rfl) zi6 hlaw rfl W _ rfl (fun i t hi => ?_)).mono fun e W' ⟨he, bel⟩ => ?_
  · match i, hi with
    | 0, hi => cases hi; exact .sc _ _ rfl
    | 1, hi => cases hi; exact .sc _ _ rfl
  · subst he
    exact ⟨_, rfl, _, _, _, [], _, [], hW', trodAll_mk1 (shut_bool Try.underlying4 _), z3r 12 bel (by kernel_rfl) hA0, rfl, bel.frame _, fun h => by cases h⟩
theorem z3o {a b : Bool} (ha : a = true) (hb : b = true) : (a && b) = true := by rw [ha, hb]; rfl
set_option maxHeartbeats 4000000 in
theorem zh6 : joinedFacts Try.checked.prog 3 Try.f3 Rows.wordFactorsSpec Rows.wordFactorsRow = true :=
  (z3o (z3o (z3o (z3o (z3o (z3o (z3o (z3o (z3o (z3o (z3o (z3o (z3o (z3o (z3o (z3o (z3o (z3o (z3o (z3o (z3o (z3o (z3o (z3o (z3o (z3o (z3o (z3o (z3o (z3o (z3o (by as_aux_lemma => kernel_rfl)
    (by as_aux_lemma => kernel_rfl))
    (by as_aux_lemma => kernel_rfl))
    (by as_aux_lemma => kernel_rfl))
    (by as_aux_lemma => kernel_rfl))
    (by as_aux_lemma => kernel_rfl))
    (by as_aux_lemma => kernel_rfl))
    (by as_aux_lemma => kernel_rfl))
    (by as_aux_lemma => kernel_rfl))
    (by as_aux_lemma => kernel_rfl))
    (by as_aux_lemma => kernel_rfl))
    (by as_aux_lemma => kernel_rfl))
    (by as_aux_lemma => kernel_rfl))
    (by as_aux_lemma => kernel_rfl))
    (by as_aux_lemma => kernel_rfl))
    (by as_aux_lemma => kernel_rfl))
    (by as_aux_lemma => kernel_rfl))
    (by as_aux_lemma => kernel_rfl))
    (by as_aux_lemma => kernel_rfl))
    (by as_aux_lemma => kernel_rfl))
    (by as_aux_lemma => kernel_rfl))
    (by as_aux_lemma => kernel_rfl))
    (by as_aux_lemma => kernel_rfl))
    (by as_aux_lemma => kernel_rfl))
    (by as_aux_lemma => kernel_rfl))
    (by as_aux_lemma => kernel_rfl))
    (by as_aux_lemma => kernel_rfl))
    (by as_aux_lemma => kernel_rfl))
    (by as_aux_lemma => kernel_rfl))
    (by as_aux_lemma => kernel_rfl))
    (by as_aux_lemma => kernel_rfl))
    (by as_aux_lemma => kernel_rfl))
set_option maxRecDepth 100000 in
theorem zg0 (os : Os) (started : os.Started) (H : Type) (enc : TypeId × Value -> H) :
    ReturnsInHanded {} Try.checked os 3 .any (Rows.wordFactorsSpec.pre6 enc Try.prog Try.f3 Rows.wordFactorsRow.domain false) (Rows.wordFactorsSpec.post enc Try.prog Try.f3 false true false false) := by
  refine returnsInHanded_of_change (C := Try.checked) (by kernel_rfl) started (by kernel_rfl) Try.func3
    (ChangeSpec.witness6 (enc := enc) (C := Try.checked) false ⟨#[], #[.string ByteArray.empty, .int .i64 0], []⟩ 8 (by kernel_rfl) (by kernel_rfl) (by kernel_rfl) (by kernel_rfl)) ?_
  intro W base args ds gs before hval0 hW hcnd _
  exact zdC H enc W base args ds gs before hval0 hW
theorem zhP : Rows.wordFactorsRow.holds Try.pinned (OpenSpec.ofChange Rows.wordFactorsSpec) :=
  OpenClaim.holds_of_wide 3 Try.f3 rfl rfl rfl rfl rfl rfl rfl ⟨rfl, rfl, rfl, rfl, rfl⟩ rfl rfl rfl rfl rfl (by kernel_rfl) Try.func3 zh6
    (of_decide_eq_true (by kernel_rfl)) (by unfold Func.isWrapper; first | (rw [if_pos (by decide +kernel)]; kernel_rfl) | (rw [if_neg (by decide +kernel)]; exact ⟨rfl, rfl⟩))
    (fun os started H enc _ => zg0 os started H enc)
theorem proved : Rows.WordFactorsSaid :=
  zhP
#print axioms proved
end Go.Proofs.Ytcjljokldnpgfaa.wordFactors
end

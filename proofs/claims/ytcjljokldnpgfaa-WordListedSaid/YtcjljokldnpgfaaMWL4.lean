/- Proved here: the law WordListed returns true for every input, and its arguments read afterwards as before. No condition. -/
import Derived.Test.YtcjljokldnpgfaaMWL3
import Derived.Maps.RangeRun
import Derived.StringKeys
import Derived.ChangeOld
import Derived.ChangeReads
import Derived.Below
import Derived.ChangeSlices
import Derived.Deep.Grids
import Derived.WideShapes
import Derived.WalkKit
import Derived.ProofKit
import Derived.Test.YtcjljokldnpgfaaRows
import Derived.Test.YtcjljokldnpgfaaChecked
import Derived.OpenShut
import Derived.ShutString
import Derived.Deep.DeepHandedRow
set_option linter.unusedVariables false
set_option linter.unusedSimpArgs false
namespace Go.Proofs.Ytcjljokldnpgfaa
section
open Go
set_option maxRecDepth 100000
instance : XMo xt := inferInstanceAs (XMo xtF)
theorem cKl : z7i Try.prog xt z2w (tab []) 12 8 [] = some (.sc (.bool true), []) := by kernel_rfl
theorem cK : L 8 [] = some (.sc (.bool true), []) := zeu [] 12 cKl (fun x h => by cases h)
def z4C : Option Bool := some true
instance : Ok z4C (fun r => L 8 [] = some (.sc (.bool r), [])) := ⟨fun r h => by cases h; exact cK⟩
end
section
open Go
noncomputable section
set_option maxRecDepth 100000
set_option maxHeartbeats 6000000
instance {a0 : ByteArray} {a1 : Int} : Ok (z1U a0 a1) (fun r => L 6 [.sc (.string a0), .sc (.int .i64 a1)] = some (.sc (.string r), [.dead, .dead])) := ⟨fun r h => z4b h⟩
end
end
section
open Go
theorem zfL (w : ByteArray) (k : Nat) : ∃ v, z1U w (k : Int) = some v /\ v.size <= k := by
  unfold z1U
  by_cases h : (k : Int) < (w.size : Int)
  · rw [if_pos h]
    have := z5X (s := w) (a := 0) (n := k) (by omega)
    rw [Nat.zero_add] at this
    rw [show ((0 : Nat) : Int) = 0 from rfl] at this
    rw [this]
    refine ⟨_, rfl, ?_⟩
    rw [z2c, List.length_take]
    omega
  · rw [if_neg h]
    have := z5X (s := w) (a := 0) (n := w.size) (by omega)
    rw [Nat.zero_add] at this
    rw [show ((0 : Nat) : Int) = 0 from rfl] at this
    rw [this]
    refine ⟨_, rfl, ?_⟩
    rw [z2c, List.length_take]
    omega
end
section
open Go
theorem zdH {k : Nat} (h : k < 9223372036854775807) : IntKind.i64.wrap ((k : Int) + 1) = ((k + 1 : Nat) : Int) := by
  rw [IntKind.wrap_i64]; omega
theorem z9i {u w : ByteArray} (hu : u.size <= maxLen) (hw : w.size <= maxLen) : z0s u w = some (u.data.toList.isSublist w.data.toList) := by
  unfold maxLen at hu hw
  have hul : u.data.toList.length = u.size := by rw [Array.length_toList]; rfl
  have hwl : w.data.toList.length = w.size := by rw [Array.length_toList]; rfl
  unfold z0s
  refine zd1 (fun z => ∃ k i : Nat, z = ((k : Int), (i : Int)) /\ k <= u.size /\ i <= w.size /\ (u.data.toList.drop k).isSublist (w.data.toList.drop i) = u.data.toList.isSublist w.data.toList) (fun z => w.size + 1 - z.2.toNat) ⟨0, 0, rfl, Nat.zero_le _, Nat.zero_le _, rfl⟩ (by simp only [LFm]; omega) ?_
  rintro z ⟨k, i, rfl, hk, hi, he⟩
  simp only [z1l]
  by_cases c1 : i < w.size
  · rw [if_pos (by omega)]
    by_cases c2 : k < u.size
    · left
      have hkl : k < u.data.toList.length := by omega
      have hil : i < w.data.toList.length := by omega
      rw [if_pos (by omega), z5f c1, Option.bind_some, z5f c2, Option.bind_some, z8G c1 hil, z8G c2 hkl]
      rw [List.drop_eq_getElem_cons hkl, List.drop_eq_getElem_cons hil] at he
      by_cases c3 : u.data.toList[k] = w.data.toList[i]
      · rw [if_pos (by rw [c3]), zdH (by omega), zdH (by omega)]
        refine ⟨_, rfl, ⟨k + 1, i + 1, rfl, by omega, by omega, ?_⟩, by simp only; omega⟩
        rw [← he, List.isSublist, if_pos (by simp [c3])]
      · rw [if_neg (fun e => c3 (UInt8.toNat_inj.1 (by omega))), zdH (by omega)]
        refine ⟨_, rfl, ⟨k, i + 1, rfl, hk, by omega, ?_⟩, by simp only; omega⟩
        rw [← he, List.isSublist, if_neg (by rw [beq_iff_eq]; exact c3), List.drop_eq_getElem_cons hkl]
    · right
      have hke : k = u.size := by omega
      subst hke
      rw [if_neg (by omega)]
      rw [← hul, List.drop_length] at he
      rw [← he]
      simp [List.isSublist, z1K]
  · right
    have hie : i = w.size := by omega
    subst hie
    rw [if_neg (by omega)]
    rw [← hwl, List.drop_length] at he
    rw [← he]
    by_cases c2 : k < u.size
    · rw [List.drop_eq_getElem_cons (show k < u.data.toList.length by omega), List.isSublist.eq_def]
      rw [decide_eq_false (by omega)]
    · have hke : k = u.size := by omega
      subst hke
      rw [← hul, List.drop_length]
      simp [List.isSublist, z1K]
theorem zc5 (u : List UInt8) (b : UInt8) (w : List UInt8) : z7C u w <= z7C u (b :: w) := by
  cases u with
  | nil => simp [z6w]
  | cons a u => simp only [z7C]; omega
theorem zdh {u w : List UInt8} (h : u.Sublist w) : 1 <= z7C u w := by
  induction h with
  | slnil => simp [z7C]
  | cons a h ih => exact Nat.le_trans ih (zc5 _ _ _)
  | cons_cons a h ih => simp only [z7C, if_true]; omega
theorem z8z : ∀ (w u : List UInt8), z7C u w <= 2 ^ w.length
  | [], u => by cases u <;> simp [z7C]
  | b :: w, [] => by rw [z6w]; exact Nat.one_le_two_pow
  | b :: w, a :: u => by
    have h1 := z8z w (a :: u)
    have h2 := z8z w u
    simp only [z7C, List.length_cons, Nat.pow_succ]
    split <;> omega
theorem zcT {u w : ByteArray} (h : u.data.toList.Sublist w.data.toList) (hw : w.size <= 10) : ∃ k, zdN u w 2147483648 = some k /\ ¬ k < 1 := by
  have hwl : w.data.toList.length = w.size := by rw [Array.length_toList]; rfl
  have hul : u.data.toList.length = u.size := by rw [Array.length_toList]; rfl
  have hl := h.length_le
  have h1 : 1 <= occ u.data.toList w.data.toList := zdh h.reverse
  have h2 : occ u.data.toList w.data.toList <= 2 ^ w.data.toList.reverse.length := z8z _ _
  rw [List.length_reverse, hwl] at h2
  have h3 : 2 ^ w.size <= 2 ^ 10 := Nat.pow_le_pow_right (by omega) hw
  refine ⟨_, by unfold zdN; rw [if_pos ⟨by omega, by unfold maxLen; omega⟩], ?_⟩
  unfold zct
  rw [if_pos (by omega)]
  have : occ u.data.toList w.data.toList % (2147483648 : Int).toNat = occ u.data.toList w.data.toList := Nat.mod_eq_of_lt (by show _ < 2147483648; omega)
  rw [this]
  omega
theorem zfN (u v : ByteArray) : z1y u v = some (z1w u v) := by
  unfold z1y zeM z9W
  rcases Nat.lt_trichotomy u.size v.size with h | h | h
  · rw [if_neg (by omega), Option.bind_some, z8A h]
    unfold Lib.compareInt
    rw [if_pos (by omega)]
  · rw [if_pos (by omega), Option.bind_some, z5c h]
  · rw [if_neg (by omega), Option.bind_some, z8B h]
    unfold Lib.compareInt
    rw [if_neg (by omega), if_pos (by omega)]
end
section
open Go
noncomputable section
set_option maxRecDepth 100000
set_option maxHeartbeats 6000000
instance {a0 : ByteArray} {a1 : Int} : Ok (z1U a0 a1) (fun r => L 6 [.sc (.string a0), .sc (.int .i64 a1)] = some (.sc (.string r), [.dead, .dead])) := ⟨fun r h => z4b h⟩
abbrev z0o (a1 : ByteArray) (a2 : Int) (v24 : ByteArray) (v25 : List ByteArray) : Bool × Int -> Option ((Bool × Int) ⊕ Bool)
  | (w31, w32) =>
  if w32 < (v25.length : Int) then
    (atI v25 w32).bind fun v38 =>
    if a2 < (v38.size : Int) then
      z1K <|
      some false
    else
      (z0s v38 v24).bind fun v39 =>
      if v39 = true then
        (zdN v38 v24 2147483648).bind fun v40 =>
        if v40 < 1 then
          z1K <|
          some false
        else
          if 0 < w32 then
            (atI v25 (IntKind.i64.wrap (w32 - 1))).bind fun v41 =>
            (z1y v41 v38).bind fun v42 =>
            if 0 <= v42 then
              z1K <|
              some false
            else
              if w31 = true then
                z1E (true, IntKind.i64.wrap (w32 + 1))
              else
                z1E (decide (v38 = a1), IntKind.i64.wrap (w32 + 1))
          else
            if w31 = true then
              z1E (true, IntKind.i64.wrap (w32 + 1))
            else
              z1E (decide (v38 = a1), IntKind.i64.wrap (w32 + 1))
      else
        z1K <|
        some false
  else
    z1K <|
    if 0 <= a2 then
      if (a1.size : Int) <= a2 then
        (z0s a1 v24).bind fun v43 =>
        if (w31 == v43) = true then
          (z4C).bind fun v44 =>
          some v44
        else
          some false
      else
        if (w31 == false) = true then
          (z4C).bind fun v45 =>
          some v45
        else
          some false
    else
      if (w31 == false) = true then
        (z4C).bind fun v46 =>
        some v46
      else
        some false
instance {a1 : ByteArray} {a2 : Int} {v24 : ByteArray} {v25 : List ByteArray} : Hd (z0o a1 a2 v24 v25) := ⟨fun (w31, w32) => ([(8, xB w31), (18, xI w32)], [])⟩
def z0S (a0 : ByteArray) (a1 : ByteArray) (a2 : Int) : Option (Bool) :=
  (z1U a0 10).bind fun v24 =>
  (zdv v24 a2).bind fun v25 =>
  z1Y (z0o a1 a2 v24 v25) LFm (false, 0)
theorem z3i {a0 : ByteArray} {a1 : ByteArray} {a2 : Int} {r : Bool} (h : z0S a0 a1 a2 = some r) : L 5 [.sc (.string a0), .sc (.string a1), .sc (.int .i64 a2)] = some (.sc (.bool r), [.dead, .dead, .dead]) := by
  have h := zbo h; unfold z0S at h; exact zeK zhE fn5 bd5
end
end
section
open Go
theorem z9d {u : ByteArray} {n : Int} {w : ByteArray} {F : List ByteArray} {b : Bool} {A : Option Bool} (hA : A = some true) (hu : u.size <= maxLen) (hw : w.size <= maxLen) (hb : b = true ↔ 0 <= n /\ zcr w.data.toList n u) :
    (if 0 <= n then
      if (u.size : Int) <= n then
        (z0s u w).bind fun v43 =>
        if (b == v43) = true then
          (z4C).bind fun v44 =>
          some v44
        else
          some false
      else
        if (b == false) = true then
          (z4C).bind fun v45 =>
          some v45
        else
          some false
    else
      if (b == false) = true then
        (z4C).bind fun v46 =>
        some v46
      else
        some false) = some true := by
  by_cases c1 : 0 <= n
  · rw [if_pos c1]
    by_cases c2 : (u.size : Int) <= n
    · rw [if_pos c2, z9i hu hw, Option.bind_some]
      have e : b = u.data.toList.isSublist w.data.toList := by
        rw [Bool.eq_iff_iff, hb, List.isSublist_iff_sublist]
        constructor
        · rintro ⟨_, x, h1, h2, h3⟩
          have : x = u.data.toList := by
            rw [h3]; rfl
          rw [← this]; exact h1
        · exact fun h => ⟨c1, _, h, by rw [Array.length_toList]; exact c2, (zcX u).symm⟩
      rw [if_pos (by rw [e]; exact beq_self_eq_true _)]
      rfl
    · rw [if_neg c2]
      have e : b = false := by
        rw [← Bool.not_eq_true, hb]
        rintro ⟨_, x, h1, h2, rfl⟩
        rw [z2c] at c2
        omega
      rw [e, if_pos (beq_self_eq_true _)]
      rfl
  · rw [if_neg c1]
    have e : b = false := by
      rw [← Bool.not_eq_true, hb]
      rintro ⟨h, _⟩
      exact c1 h
    rw [e, if_pos (beq_self_eq_true _)]
    rfl
theorem zd2 {a1 : ByteArray} (h1 : a1.size <= maxLen) (a0 : ByteArray) (a2 : Int) : z0S a0 a1 a2 = some true := by
  unfold z0S
  obtain ⟨w, e1, e2⟩ := zfL a0 10
  rw [show ((10 : Nat) : Int) = 10 from rfl] at e1
  rw [e1, Option.bind_some]
  have hw : w.size <= maxLen := by unfold maxLen; omega
  by_cases c1 : a2 < 0
  · have : zdv w a2 = some [] := by unfold zdv; rw [if_pos (.inl c1)]
    rw [this, Option.bind_some]
    refine z8k (s := (false, (0 : Int))) 0 (fun k => (false, 0)) rfl (by simp only [LFm]; omega) (fun k hk => by omega) ?_
    simp only [z0o]
    rw [if_neg (by simp)]
    rw [z9d (F := []) (A := some true) rfl h1 hw (by simp; omega)]
  · obtain ⟨F, f1, f2, f3, f4, f5⟩ := zdX (w := w) (by omega) (n := a2) (by omega)
    rw [f1, Option.bind_some]
    refine z8k (s := (false, (0 : Int))) F.length (fun k => ((F.take k).any fun x => decide (x = a1), (k : Int))) rfl (by simp only [LFm]; omega) (fun k hk => ?_) ?_
    · simp only [z0o]
      obtain ⟨x, g1, g2, g3⟩ := (f4 F[k]).1 (List.getElem_mem hk)
      have hxd : F[k].data.toList = x := by rw [g3]; rfl
      have hxs : F[k].size = x.length := by rw [g3]; rfl
      have hxl := g1.length_le
      have hwl : w.data.toList.length = w.size := by rw [Array.length_toList]; rfl
      rw [if_pos (by omega), z6A hk, Option.bind_some, if_neg (by omega), z9i (by unfold maxLen; omega) hw, Option.bind_some, if_pos (by rw [List.isSublist_iff_sublist, hxd]; exact g1)]
      obtain ⟨o, o1, o2⟩ := zcT (u := F[k]) (w := w) (by rw [hxd]; exact g1) e2
      rw [o1, Option.bind_some, if_neg o2]
      have hfin : (if ((F.take k).any fun x => decide (x = a1)) = true then z1E (true, IntKind.i64.wrap ((k : Int) + 1)) else z1E (decide (F[k] = a1), IntKind.i64.wrap ((k : Int) + 1)) : Option ((Bool × Int) ⊕ Bool)) = z1E ((F.take (k + 1)).any fun x => decide (x = a1), ((k + 1 : Nat) : Int)) := by
        rw [z7T (by omega), List.take_succ_eq_append_getElem hk]
        rw [List.any_append]
        cases hb : (F.take k).any fun x => decide (x = a1)
        · rw [if_neg (by simp)]; simp
        · rw [if_pos rfl]; rfl
      by_cases c2 : 0 < k
      · have hk1 : k - 1 < F.length := by omega
        have hlt := List.pairwise_iff_getElem.1 f3 (k - 1) k hk1 hk (by omega)
        rw [if_pos (by omega), zeZ (by omega) c2, z6A hk1, Option.bind_some, zfN, Option.bind_some, if_neg (by omega)]
        exact hfin
      · rw [if_neg (by omega)]
        exact hfin
    · simp only [z0o]
      rw [if_neg (by omega), List.take_length]
      rw [z9d (F := F) (A := some true) rfl h1 hw (by
        rw [List.any_eq_true]
        constructor
        · rintro ⟨x, hx, e⟩
          rw [decide_eq_true_iff] at e
          subst e
          exact ⟨by omega, (f4 x).1 hx⟩
        · exact fun h => ⟨a1, (f4 a1).2 h.2, decide_eq_true rfl⟩)]
theorem zew (a0 : ByteArray) (_ : a0.size <= maxLen) (a1 : ByteArray) (h1 : a1.size <= maxLen) (a2 : Int) (_ : (Lit.int .i64 a2).wf = true) : ∃ outs, L 5 [.sc (.string a0), .sc (.string a1), .sc (.int .i64 a2)] = some (.sc (.bool true), outs) := ⟨_, z3i (zd2 h1 a0 a2)⟩
end
section
def No1 (c : z0a) : Prop := c.head? ≠ some 1
theorem Keep.frz1 {w w' : World} {K K' : Nat -> z0a} (k : Keep w w' K K' No1) (dep : Option Nat) : Keep w w' (frz K dep) (frz K' dep) No1 := by
  have hn : ∀ b id, b < w.heap.size -> (K b).head? = some (id + 2) -> K' b = K b /\ w'.heap[b]? = w.heap[b]? := fun b id hb e => k.own b hb (by unfold No1; rw [e]; simp)
  refine ⟨fun b hb e => ?_, fun b hb e => ?_, k.size⟩
  · cases dep with
    | none => exact k.fro b hb e
    | some id =>
      simp only [frz] at e ⊢
      by_cases h : (K b).head? = some (id + 2)
      · obtain ⟨e1, e2⟩ := hn b id hb h
        rw [e1, if_pos h]; exact ⟨rfl, e2⟩
      · rw [if_neg h] at e
        obtain ⟨e1, e2⟩ := k.fro b hb e
        rw [e1]; exact ⟨by simp, e2⟩
  · cases dep with
    | none => exact k.own b hb e
    | some id =>
      simp only [frz] at e ⊢
      by_cases h : (K b).head? = some (id + 2)
      · obtain ⟨e1, e2⟩ := hn b id hb h
        rw [e1]; exact ⟨rfl, e2⟩
      · rw [if_neg h] at e
        obtain ⟨e1, e2⟩ := k.own b hb e
        rw [e1]; exact ⟨rfl, e2⟩
theorem ARep.keep1 {w w' : World} {K K' : Nat -> z0a} {R : Nat -> Value} {ob : List (Nat × T)} {x : A} {u : Value} (h : ARep w K R ob x u)
    (hob : ∀ id t, z0i ob id = some t -> TRep w K (col id) (R id) t) (k : Keep w w' K K' No1) : ARep w' K' R ob x u := by
  have k1 : ∀ id (r : z0a) gb, K gb = col id ++ r -> gb < w.heap.size -> w'.heap[gb]? = w.heap[gb]? := fun id r gb e hb => (k.own gb hb (by unfold No1; rw [e]; simp [col])).2
  cases x with
  | dead => trivial
  | k v => exact h
  | t dep x => exact ⟨TRep.keep h.1 (k.frz1 dep) (fun _ hc => absurd rfl hc), h.2⟩
  | h id p =>
    obtain ⟨h1, t, h2, h3⟩ := h
    refine ⟨?_, t, h2, h3⟩
    rw [z1f (hob id t h2) (z0g id) h3 (fun r j s gb _ e hb => z0e (k1 id r gb e hb) j)]; exact h1
  | a id p off =>
    obtain ⟨hv, g, h1, h4, h5, t, h2, h3⟩ := h
    refine ⟨hv, g, ?_, h4, h5, t, h2, h3⟩
    rw [z1f (hob id t h2) (z0g id) h3 (fun r j s gb _ e hb => z0e (k1 id r gb e hb) j)]; exact h1
  | tf n cs => exact ⟨h.1, TRep.keep h.2 (k.frz1 none) (fun _ hc => absurd rfl hc)⟩
  | ea dep cs off =>
    obtain ⟨g, o, F, h1, h2, h3, h4, h5, h6⟩ := h
    obtain ⟨e1, e2⟩ := (k.frz1 dep).fro g h3 h2
    exact ⟨g, o, F, h1, e1, Nat.lt_of_lt_of_le h3 k.size, fun j hj => by rw [z0e e2]; exact h4 j hj, fun j t ht => (h5 j t ht).keep (k.frz1 dep) (fun _ hc => absurd rfl hc), h6⟩
theorem FRep.keep1 {w w' : World} {K K' : Nat -> z0a} {R G : Nat -> Value} {fr : Fr} {a : Act} (h : FRep w K R G fr a) (k : Keep w w' K K' No1) : FRep w' K' R G fr a :=
  ⟨fun i => (h.tm i).mono fun x u hx => hx.keep1 h.ob k, fun id t ht => (h.ob id t ht).keep k (fun s _ => by unfold No1; simp [col]), h.nt, h.df⟩
theorem FRep.put1 {w : World} {K : Nat -> z0a} {R G : Nat -> Value} {fr : Fr} {a : Act} (h : FRep w K R G fr a) {d : Nat} {x : A} {v : Value} (hd : d < fr.nt) (hx : ARep w K R fr.ob x v) :
    FRep w K R G { fr with tm := z4o fr.tm d (.one x) } (a.put (some d) v) := h.put hd hx
structure ItStep (r : Nat) (w w' : World) : Prop where
  os : w'.os = w.os
  tape : w'.tape = w.tape
  output : w'.output = w.output
  size : w'.heap.size = w.heap.size
  other : ∀ b, b ≠ r -> w'.heap[b]? = w.heap[b]?
theorem ItStep.later {r : Nat} {w0 w w' : World} {K0 K : Nat -> z0a} (h : ItStep r w w') (s : Step w0 K0 w K) (hr : w0.heap.size <= r) : Step w0 K0 w' K :=
  ⟨h.os.trans s.os, h.tape.trans s.tape, h.output.trans s.output, by rw [h.size]; exact s.size, fun b hb hc => ⟨(s.old b hb hc).1, (h.other b (by omega)).trans (s.old b hb hc).2⟩,
   fun b arr e fz hb => by
    obtain ⟨a1, e1, f1, h1, h2⟩ := s.sz b arr e fz hb
    exact ⟨a1, e1, f1, by rw [h.other b (by have := z0h hb; omega)]; exact h1, h2⟩⟩
theorem FRep.itStep {r : Nat} {w w' : World} {K : Nat -> z0a} {R G : Nat -> Value} {fr : Fr} {a : Act} (h : FRep w K R G fr a) (hr : K r = [1]) (s : ItStep r w w') : FRep w' K R G fr a :=
  h.keep1 ⟨fun b hb e => ⟨e, s.other b (by rintro rfl; rw [hr] at e; cases e)⟩, fun b hb e => ⟨rfl, s.other b (by rintro rfl; unfold No1 at e; rw [hr] at e; simp at e)⟩, by rw [s.size]; exact Nat.le_refl _⟩
section
variable {kk : Option IntKind} {ents : Array MapEntry} {clock : Nat} {ks : List Value} {n : Nat} {F : Nat -> Value}
theorem MapTs.size (h : MapTs kk ents clock ks n F) : ents.size = n := by
  obtain ⟨h1, h2, _⟩ := h
  have := congrArg List.length h1
  simpa [h2] using this
theorem MapTs.old (h : MapTs kk ents clock ks n F) : ∀ x ∈ ents.toList, x.born < clock := fun x hx => by
  obtain ⟨j, hj, e⟩ := List.getElem_of_mem hx
  obtain ⟨_, _, _, _, h5, _⟩ := h
  exact h5 j x (by rw [← Array.getElem?_toList, List.getElem?_eq_getElem hj, e])
theorem MapTs.nodup (h : MapTs kk ents clock ks n F) : (ents.toList.map (·.born)).Nodup := by
  obtain ⟨_, _, _, _, _, h6⟩ := h
  rw [List.nodup_iff_pairwise_ne, List.pairwise_iff_getElem]
  intro i j hi hj hij e
  simp only [List.length_map] at hi hj
  simp only [List.getElem_map] at e
  have := h6 i j _ _ (by rw [← Array.getElem?_toList, List.getElem?_eq_getElem hi]) (by rw [← Array.getElem?_toList, List.getElem?_eq_getElem hj]) e
  omega
end
theorem z8L {P : Program} {ops : Array Oper} {Q : Exit -> Act -> World -> Prop} {l : List Oper} {o : Oper} {a : Act} {w : World} (hg : o.guard = none) (h : ∀ Kk : Act -> World -> Prop, (∀ a w, wpList P ops Q l a w -> Kk a w) -> o.wp P a w Kk Q) : wpList P ops Q (o :: l) a w := by
  refine wpList_step fun Kk hK => ?_
  simp only [Region.wanted, hg, if_true]
  exact h Kk hK
end
section
open Go Go.RowKit Go.Maps
set_option maxRecDepth 100000
set_option maxHeartbeats 4000000
def zbf : Nat -> Code -> Code
  | 0, c => c
  | k + 1, c => zbf k (zeR c)
def ze4 : Nat -> Code -> Prop
  | 0, _ => True
  | k + 1, c => c = .seq (zf9 c) (zeR c) /\ ze4 k (zeR c)
theorem zbe {P : Program} {C : z0b} {cf : Cfg} {LF : Nat} {x y : Code} {fr fr' : Fr} {e : X} (h : z0k P C cf LF (.seq x y) fr = some (e, fr')) : (∃ f1, z0k P C cf LF x fr = some (.n, f1) /\ z0k P C cf LF y f1 = some (e, fr')) ∨ (z0k P C cf LF x fr = some (e, fr') /\ e ≠ .n) := by
  simp only [z0k] at h
  split at h
  · rename_i f1 h1
    exact .inl ⟨f1, h1, h⟩
  · rename_i hne
    refine .inr ⟨h, ?_⟩
    rintro rfl
    exact hne _ h
theorem zc4 {P : Program} {I : World -> (Nat -> z0a) -> Prop} {C : z0b} {cf : Cfg} {LF : Nat} (hI : EnvS I) (hC : z1M P I C) (hm : P.follows .mixedOrders = true) {Q : Exit -> Act -> World -> Prop} : ∀ (k : Nat) (c : Code) {w : World} {K : Nat -> z0a} {R G : Nat -> Value} {fr fr' : Fr} {x : X} {a : Act}, ze4 k c -> okC cf (zdd k c) = true -> FRep w K R G fr a -> I w K ->
    z0k P C cf LF (zdd k c) fr = some (x, fr') -> (∀ a' w' K' R', FRep w' K' R' G fr' a' -> Step w K w' K' -> (Exit.then ((zbf k c).wp P Q) Q) (z8O x) a' w') -> c.wp P Q a w
  | 0, c, w, K, R, G, fr, fr', x, a, _, _, h, hIw, hf, hq => by
    cases hf
    exact hq a w K R h (Step.refl _ _)
  | k + 1, c, w, K, R, G, fr, fr', x, a, hs, ho, h, hIw, hf, hq => by
    obtain ⟨e1, e2⟩ := hs
    simp only [zdd, okC, Bool.and_eq_true] at ho
    simp only [zdd] at hf
    rw [e1]
    refine wp_seq ?_
    rcases zbe hf with ⟨f1, h1, h2⟩ | ⟨h1, hne⟩
    · exact z8y hI hC hm _ ho.1 h hIw h1 fun a1 w1 K1 R1 r1 s1 => zc4 hI hC hm k _ e2 ho.2 r1 (hI.step hIw s1) h2 fun a2 w2 K2 R2 r2 s2 => hq a2 w2 K2 R2 r2 (s1.trans s2)
    · refine z8y hI hC hm _ ho.1 h hIw h1 fun a1 w1 K1 R1 r1 s1 => ?_
      have := hq a1 w1 K1 R1 r1 s1
      cases x with
      | n => exact absurd rfl hne
      | r => exact this
      | x id => exact this
theorem zek {w : World} {g : Nat} {ents : Array MapEntry} {clock : Nat} {es : List (Value × Value)} {ks : List ByteArray} (hg : w.heap[g]? = some (.map ents clock)) (hm : z7N none ents clock es) (hk : zdD es = some ks) (hn : ks.Nodup) (hs : ∀ s ∈ ks, s.size <= maxLen) (hl : ks.length <= maxLen) :
    ∃ D0 : DataW Unit, w.ownsMap Try.prog 9 (fun _ => some (.nil, [])) g ks.length D0 /\ (strKeys D0).Perm (ks.map fun s => s.data.toList) /\ Maps.size D0 = ks.length := by
  obtain ⟨h1, h2, h3, h4⟩ := hm
  have hkeys : ents.toList.map (·.key) = ks.map fun s => .string s := by
    have := z9g hk
    rw [← h1, List.map_map] at this
    exact this
  have hlen : ents.toList.length = ks.length := by simpa using congrArg List.length hkeys
  have hrd : ∀ x ∈ ents.toList, ∃ s ∈ ks, WideElems.rd (H := Unit) Try.prog 9 (fun _ => some (.nil, [])) x = some (.string s.data.toList, .nil) /\ x.key = .string s := fun x hx => by
    have : x.key ∈ ks.map fun s => Value.string s := by rw [← hkeys]; exact List.mem_map.2 ⟨x, hx, rfl⟩
    obtain ⟨s, hs1, hs2⟩ := List.mem_map.1 this
    refine ⟨s, hs1, ?_, hs2.symm⟩
    obtain ⟨key, val, born⟩ := x
    simp only at hs2
    subst hs2
    exact WideElems.rd_mk (R := fun _ => some (.nil, [])) (yv := (.nil, [])) (WideMaps.keyOf_string_mk (by kernel_rfl) (hs s hs1)) rfl
  have hrg : (ents.toList.map (WideElems.rg (H := Unit) Try.prog 9 (fun _ => some (.nil, [])))).map (fun p : Lit × DataW Unit => strOf p.1) = ks.map fun s => s.data.toList := by
    have e : ents.toList.map (fun x => match x.key with | .string s => s.data.toList | _ => []) = ks.map fun s => s.data.toList := by
      have := congrArg (List.map fun v => match v with | Value.string s => s.data.toList | _ => []) hkeys
      rw [List.map_map, List.map_map] at this
      exact this
    rw [← e, List.map_map]
    refine List.map_congr_left fun x hx => ?_
    obtain ⟨s, _, h5, h6⟩ := hrd x hx
    simp only [Function.comp_apply, WideElems.rg_of h5, h6, strOf]
  refine ⟨_, ⟨ents, clock, hg, ⟨by rw [← Array.length_toList, hlen]; exact hl, ⟨h3, h4, by rw [hkeys]; exact List.pairwise_map.2 (hn.imp fun hab e => hab (Value.string.inj e))⟩, fun x hx => ?_⟩, by rw [← Array.length_toList, hlen]; exact Nat.le_refl _, rfl⟩, ?_, ?_⟩
  · obtain ⟨s, _, h5, _⟩ := hrd x hx
    exact ⟨_, h5⟩
  · show (List.map (fun p : Lit × DataW Unit => strOf p.1) _).Perm _
    rw [← hrg]
    exact (WideShapes.sorted_perm _).map _
  · show List.length _ = _
    rw [(WideShapes.sorted_perm _).length_eq, List.length_map, hlen]
noncomputable def rS : Code := zf9 (zbf 4 z5g)
theorem zgi : zbf 4 z5g = .seq (.region 17 (rgO rS) false) .ret := rfl
theorem z9O {args : List T} : ∀ (i : Nat) (t : T), args.all (fun t => !z1v t) = true -> args[i]? = some t -> z1v t = true -> False := fun i t ha hi hio => by
  rw [List.all_eq_true] at ha
  have := ha t (List.mem_of_getElem? hi)
  rw [hio] at this
  cases this
def zg5 (B : Nat) (K : Nat -> z0a) (b : Nat) : z0a := if b < B then K b else []
theorem ze9 {w w' : World} {K : Nat -> z0a} {base : Nat} {e : TypeId} {v : Value} {l : List ByteArray} {n : Nat} (hB : w.heap.size <= base) (h : w'.ownsRow base e 1 v n (l.map Value.string)) : TRep w' (zg5 w.heap.size K) [0] v (.sl l.length (zeO l)) := by
  obtain ⟨hl, h⟩ := h
  rw [List.length_map, Nat.mul_one] at hl
  subst hl
  rcases h with ⟨rfl, hz⟩ | ⟨g, cap, cur, rfl, hbase, hg, h1, h2, h3, h4⟩
  · have := List.eq_nil_of_length_eq_zero hz
    subst this
    exact .emp _ _ _ (Nat.zero_le _)
  · have hc : ∀ j (hj : j < l.length), cur[j]? = some (.string l[j]) := fun j hj => by
      rw [Nat.mul_one] at h4
      have := congrArg (·[j]?) h4
      simp only [List.getElem?_take_of_lt hj, Array.getElem?_toList, List.getElem?_map, List.getElem?_eq_getElem hj, Option.map_some] at this
      exact this
    refine .fro _ g 0 l.length cap (zeO l) (fun j => .string (l.getD j ByteArray.empty)) (by unfold zg5; rw [if_neg (by omega)]) (z0h hg) h1 h2 (fun j hj => ?_) (fun j t ht => ?_)
    · have hj' : j < l.length := by simpa [zeO] using hj
      rw [Nat.zero_add, z0t hg, hc j hj', List.getD, List.getElem?_eq_getElem hj']; rfl
    · simp only [zeO, List.getElem?_map, Option.map_eq_some_iff] at ht
      obtain ⟨s, hs, rfl⟩ := ht
      have : l.getD j ByteArray.empty = s := by rw [List.getD, hs]; rfl
      simp only [this]
      exact .sc _ _ rfl
theorem z9S {I : World -> (Nat -> z0a) -> Prop} {C : z0b} (hI : EnvS I) (hC : z1M Try.prog I C) {args : List T} {r : T} {outs : List T} (h : zeL C args = some (r, outs)) : CallOk Try.prog I 11 args r outs := by
  have hm : Try.prog.follows .mixedOrders = true := by kernel_rfl
  unfold zeL at h
  split at h
  case isFalse => cases h
  rename_i hc
  obtain ⟨hal, hio⟩ := hc
  have hb : Try.f11.body = some z5g := rfl
  refine ⟨fun vals w => ?_, fun w K vals hs ha hIw => ?_⟩
  · have hname : Try.f11.name ≠ "runtime.NumGoroutine" := by decide
    simp [callFunc, program, Sem.run, Try.func11, hname, hb]
  have hent := z7w (nt := 51) hs ha hal
  have okp : okC zfO (zdd 4 z5g) = true := by kernel_rfl
  refine calls_of_wp Try.func11 hb ?_
  have hsq : ze4 4 z5g := ⟨rfl, rfl, rfl, rfl, trivial⟩
  split at h
  case h_3 => cases h
  ·
    rename_i fr hcode
    refine zc4 hI hC hm 4 z5g hsq okp hent hIw hcode fun a8 w8 K8 R8 h8 s8 => ?_
    rw [Option.bind_eq_some_iff] at h
    obtain ⟨⟨r0, o0⟩, h1, h2⟩ := h
    split at h2
    case isFalse => cases h2
    rename_i ho
    simp only at ho
    subst ho
    obtain ⟨rfl, rfl⟩ : z0m r0 = r /\ (args.map fun _ => T.dead) = outs := by simpa using h2
    obtain ⟨v, K9, r1, r2, -, r4⟩ := zbY h8 h1 (by simp)
    refine ⟨h8.df, v, r1, v, fun b => dz (K9 b), rfl, ?_, fun i t hi hio' => (z9O i t hio hi hio').elim, (s8.trans r4).trans ⟨rfl, rfl, rfl, Nat.le_refl _, fun b hb hcc => ⟨by
      show dz (K9 b) = K9 b
      rcases hcc with q | q <;> rw [q] <;> rfl, rfl⟩, .same rfl⟩⟩
    exact r2.freeze (fun b s hb hcc hK => ⟨by show dz (K9 b) = []; rw [hK]; rfl, rfl⟩) (fun b hb hK => ⟨by show dz (K9 b) = []; rw [hK]; rfl, rfl⟩) (Nat.le_refl _) [0]
  · rename_i fr hcode
    split at h
    case h_2 => cases h
    rename_i es h5 o5
    split at h
    case h_2 => cases h
    rename_i ks hks
    split at h
    case isFalse => cases h
    rename_i hcc
    obtain ⟨hnd, hsz, hby, hnt⟩ := hcc
    obtain ⟨rfl, rfl⟩ : T.sl ks.length (zeO (z3f ks)) = r /\ (args.map fun _ => T.dead) = outs := by simpa using h
    refine zc4 hI hC hm 4 z5g hsq okp hent hIw hcode fun a8 w8 K8 R8 h8 s8 => ?_
    show (zbf 4 z5g).wp _ _ a8 w8
    rw [zgi]
    obtain ⟨gm, ents, clock, hv5, hKg, hg, hmi⟩ : ∃ g ents clock, a8.eval (.tmp 5) = .map (some g) /\ K8 g = col 5 /\ w8.heap[g]? = some (.map ents clock) /\ z7N none ents clock es := by
      have e1 := h8.opE (.tmp 5)
      have e2 : opE fr (.tmp 5) = .one (.h 5 []) := by simp only [opE]; rw [if_pos (show 5 < fr.nt by omega), h5]
      rw [e2] at e1
      obtain ⟨e3, -⟩ := e1
      have e4 : a8.eval (.tmp 5) = R8 5 := by simpa [nav] using e3.symm
      have e5 := h8.ob 5 _ o5
      rw [e4]
      generalize hu : R8 5 = u at e5
      cases e5 with
      | mp _ g _ _ ents clock hc0 hK hg hh => exact ⟨g, ents, clock, rfl, hK, hg, hh⟩
    have hml : ks.length <= maxLen := by unfold maxLen; omega
    obtain ⟨D0, hown, hperm, hsize⟩ := zek hg hmi hks hnd hsz hml
    obtain ⟨o0, o1, o2, o3, q17, p0, d0, g0, p1, d1, g1, p2, d2, g2, p3, d3, g3⟩ : ∃ (o0 o1 o2 o3 : Oper), (rgO rS).toList = [o0, o1, o2, o3] /\ o0.op = .move (.tmp 5) /\ o0.dst = some 48 /\ o0.guard = none /\ o1.op = .call { callee := .value (.func 24), args := #[.tmp 48], argTypes := #[42] } /\ o1.dst = some 49 /\ o1.guard = none /\ o2.op = .call { callee := .value (.func 23), args := #[.tmp 49, .func 15], argTypes := #[37, 30] } /\ o2.dst = some 50 /\ o2.guard = none /\ o3.op = .assign (.tmp 50) /\ o3.dst = some 4 /\ o3.guard = none := ⟨_, _, _, _, rfl, rfl, rfl, rfl, rfl, rfl, rfl, rfl, rfl, rfl, rfl, rfl, rfl⟩
    refine wp_seq (wp_region_list ?_)
    rw [q17]
    have hn8 : a8.tmps.size = 51 := h8.nt.trans hnt
    refine z8L g0 fun Kk hK => ?_
    unfold Oper.wp
    rw [show (execOp a8.eval o0).run Try.prog w8 = .ok (.value (a8.eval (.tmp 5))) w8 by simp [execOp, p0]]
    simp only [Oper.upon, d0]
    refine hK _ _ ?_
    clear hK Kk
    rw [hv5]
    have n9 : (a8.put (some 48) (.map (some gm))).tmps.size = 51 := by simp [Act.put, hn8]
    have v9 : (a8.put (some 48) (.map (some gm))).eval (.tmp 48) = .map (some gm) := by simp [Act.put, Act.eval, hn8]
    have v9' : (a8.put (some 48) (.map (some gm))).tmps[48]?.getD (Value.tuple #[]) = .map (some gm) := by simp [Act.put, hn8]
    have f9 : (a8.put (some 48) (.map (some gm))).defers = [] := h8.df
    generalize a8.put (some 48) (.map (some gm)) = a9 at n9 v9 v9' f9 ⊢
    refine z8L g1 fun Kk hK => ?_
    unfold Oper.wp
    rw [show (execOp a9.eval o1).run Try.prog w8 = .ok (.enter 24 #[.map (some gm)]) w8 by
      simp [execOp, p1, v9, v9', resolve, invoke, go_sem, enters_of Try.func24 (by kernel_rfl) rfl]]
    rw [Oper.upon_enter]
    refine (callsIn_wide.1 (AnyZ.keys_in Try.keys24 Fence.wide 5 trivial rfl (some gm) w8)).mono fun e W hh => ?_
    obtain ⟨rfl, rfl⟩ := hh
    simp only [d1]
    refine hK _ _ ?_
    clear hK Kk
    generalize hw9 : w8.alloc (.cells #[.map (some gm)] (Try.keys24_ren.t 23)) = w9
    have hs9 : w9.heap.size = w8.heap.size + 1 := by rw [← hw9]; simp
    have hb9 : Below w8.heap.size w8 w9 := by rw [← hw9]; exact (Below.refl _ w8).alloc (Nat.le_refl _) _
    have hown9 : w9.ownsMap Try.prog 9 (fun _ => some (.nil, [])) gm ks.length D0 := by
      have hbl := hown.lt
      obtain ⟨es', clock', hb', Ft, hs', hD⟩ := hown
      exact ⟨es', clock', (hb9.block gm hbl).trans hb', Ft, hs', hD⟩
    have hcell9 : w9.cell? ⟨w8.heap.size, 0, none⟩ = some (.map (some gm)) := by rw [← hw9]; simp
    have hseq : SeqGives Fence.wide 2 Try.prog 35 #[.pointer (some ⟨w8.heap.size, 0, none⟩)] encStr (fun ss => ss.Perm (strKeys D0)) (Maps.size D0) w9 :=
      AnyZ.keys_gives (ρ := Try.keys24_ren) { Try.keys24 with } Fence.wide _ trivial rfl (by omega) w8.heap.size gm ks.length D0 w9 (by omega) hcell9 hown9
    have n10 : (a9.put (some 49) (.func (.func 35) #[] #[.pointer (some ⟨w8.heap.size, 0, none⟩)])).tmps.size = 51 := by simp [Act.put, n9]
    have v10 : (a9.put (some 49) (.func (.func 35) #[] #[.pointer (some ⟨w8.heap.size, 0, none⟩)])).eval (.tmp 49) = .func (.func 35) #[] #[.pointer (some ⟨w8.heap.size, 0, none⟩)] := by simp [Act.put, Act.eval, n9]
    have v10' : (a9.put (some 49) (.func (.func 35) #[] #[.pointer (some ⟨w8.heap.size, 0, none⟩)])).tmps[49]?.getD (Value.tuple #[]) = .func (.func 35) #[] #[.pointer (some ⟨w8.heap.size, 0, none⟩)] := by simp [Act.put, n9]
    have f10 : (a9.put (some 49) (.func (.func 35) #[] #[.pointer (some ⟨w8.heap.size, 0, none⟩)])).defers = [] := f9
    change wpList _ _ _ _ (a9.put (some 49) (.func (.func 35) #[] #[.pointer (some ⟨w8.heap.size, 0, none⟩)])) w9
    generalize a9.put (some 49) (.func (.func 35) #[] #[.pointer (some ⟨w8.heap.size, 0, none⟩)]) = a10 at n10 v10 v10' f10 ⊢
    refine z8L g2 fun Kk hK => ?_
    unfold Oper.wp
    rw [show (execOp a10.eval o2).run Try.prog w9 = .ok (.enter 23 #[.func (.func 35) #[] #[.pointer (some ⟨w8.heap.size, 0, none⟩)], .func (.func 15) #[] #[]]) w9 by
      simp [execOp, p2, v10, v10', resolve, invoke, go_sem, enters_of Try.func23 (by kernel_rfl) rfl]]
    rw [Oper.upon_enter]
    refine (zb4 35 _ (enters_of Try.func35 (by kernel_rfl) rfl) _ _ (by rw [hsize]; exact hml) (by rw [hsize]; exact hby) (fun ss hss x hx => ?_) w9 hseq).mono fun e W hh => ?_
    · obtain ⟨s, hs1, rfl⟩ := List.mem_map.1 (hperm.mem_iff.1 (hss.mem_iff.1 hx))
      exact hsz s hs1
    obtain ⟨v, ss, rfl, hss, hrow, hbW⟩ := hh
    simp only [d2]
    refine hK _ _ ?_
    clear hK Kk
    have hkb : (ss.map mkB).Perm ks := by
      have e1 : (ks.map fun s => s.data.toList).map mkB = ks := by
        rw [List.map_map]
        conv => rhs; rw [← List.map_id ks]
        exact List.map_congr_left fun s _ => by obtain ⟨⟨l⟩⟩ := s; rfl
      rw [← e1]
      exact (hss.trans hperm).map _
    rw [za3 hkb] at hrow
    have n11 : (a10.put (some 50) v).tmps.size = 51 := by simp [Act.put, n10]
    have v11 : (a10.put (some 50) v).eval (.tmp 50) = v := by simp [Act.put, Act.eval, n10]
    have f11' : (a10.put (some 50) v).defers = [] := f10
    generalize a10.put (some 50) v = a11 at n11 v11 f11' ⊢
    refine z8L g3 fun Kk hK => ?_
    unfold Oper.wp
    rw [show (execOp a11.eval o3).run Try.prog W = .ok (.value v) W by simp [execOp, p3, v11]]
    simp only [Oper.upon, d3]
    refine hK _ _ (wpList_nil ?_)
    clear hK Kk
    show (Code.ret).wp _ _ _ _
    refine wp_ret ?_
    have hlen : (z3f ks).length = ks.length := (z1m ks).length_eq
    have hBW : Below w8.heap.size w8 W := hb9.trans (hbW.mono (by omega))
    refine ⟨f11', v, ?_, v, zg5 w.heap.size K, rfl, ?_, fun i t hi hio' => (z9O i t hio hi hio').elim, ⟨hBW.os.trans s8.os, hBW.tape.trans s8.tape, hBW.output.trans s8.output, Nat.le_trans s8.size hBW.size, fun b hb hcb => ⟨by unfold zg5; rw [if_pos hb], (hBW.block b (Nat.lt_of_lt_of_le hb s8.size)).trans (s8.old b hb hcb).2⟩, fun b arr e fz hb => ?_⟩⟩
    · rw [show (results Try.f11 (a11.put (some 4) v).tmps).run Try.prog W = .ok ((a11.put (some 4) v).tmps.getD 4 undef) W from results_tmp rfl _ _ _]
      simp [Act.put, n11]
    · rw [← hlen]
      exact ze9 (by have := s8.size; omega) hrow
    · obtain ⟨a1, e1, z1, h1, h2⟩ := s8.sz b arr e fz hb
      exact ⟨a1, e1, z1, (hBW.block b (z0h h1)).trans h1, h2⟩
end
section
open Go
theorem z8M {w : World} {K : Nat -> z0a} {vals : Array Value} {a b : Value} (hs : vals.size = 2) (ha : ∀ i t, [T.sc a, T.sc b][i]? = some t -> z5m w K i (vals.getD i undef) t) : vals = #[a, b] := by
  obtain ⟨l⟩ := vals
  match l, hs with
  | [v, u], _ =>
    have h0 : TRep w K [] v (.sc a) := ha 0 _ rfl
    have h1 : TRep w K [] u (.sc b) := ha 1 _ rfl
    rw [h0.sc_eq, h1.sc_eq]
theorem z9U {I : World -> (Nat -> z0a) -> Prop} {args : List T} {r : T} {outs : List T} (h : zfV args = some (r, outs)) : CallOk Try.prog I 26 args r outs := by
  unfold zfV at h
  split at h
  case h_2 => cases h
  rename_i u v
  obtain ⟨rfl, rfl⟩ : T.sc (.int .i64 (Lib.compareBytes u.data.toList v.data.toList)) = r /\ [T.dead, T.dead] = outs := by simpa [zeM] using h
  refine ⟨enters_of Try.func26 (by kernel_rfl) rfl, fun w K vals hs ha hI => ?_⟩
  obtain rfl := z8M hs ha
  refine (Try.strings_Compare u v w).mono fun e w' ⟨he, hw⟩ => ?_
  subst hw
  exact ⟨_, K, he, .sc _ _ rfl, fun i t hi hio => (by match i, hi with | 0, hi => cases hi; cases hio | 1, hi => cases hi; cases hio), Step.refl _ _⟩
theorem z7R {I : World -> (Nat -> z0a) -> Prop} {args : List T} {r : T} {outs : List T} (h : zcx args = some (r, outs)) : CallOk Try.prog I 25 args r outs := by
  unfold zcx at h
  split at h
  case h_2 => cases h
  rename_i u v
  obtain ⟨rfl, rfl⟩ : T.sc (.int .i64 (Lib.compareInt u v)) = r /\ [T.dead, T.dead] = outs := by simpa [z9W] using h
  refine ⟨enters_of Try.func25 (by kernel_rfl) rfl, fun w K vals hs ha hI => ?_⟩
  obtain rfl := z8M hs ha
  refine (Try.cmp_Compare_int u v w).mono fun e w' ⟨he, hw⟩ => ?_
  subst hw
  exact ⟨_, K, he, .sc _ _ rfl, fun i t hi hio => (by match i, hi with | 0, hi => cases hi; cases hio | 1, hi => cases hi; cases hio), Step.refl _ _⟩
theorem z9T {I : World -> (Nat -> z0a) -> Prop} {args : List T} {r : T} {outs : List T} (h : zfU args = some (r, outs)) : CallOk Try.prog I 14 args r outs := by
  unfold zfU at h
  split at h
  case h_2 => cases h
  rename_i u v m
  unfold zdN at h
  split at h
  case isFalse => cases h
  rename_i hc
  obtain ⟨rfl, rfl⟩ : T.sc (.int .i64 ((zct u.data.toList v.data.toList m : Nat) : Int)) = r /\ [T.dead, T.dead, T.dead] = outs := by simpa using h
  refine ⟨enters_of Try.func14 (by kernel_rfl) rfl, fun w K vals hs ha hI => ?_⟩
  obtain rfl : vals = #[.string u, .string v, .int .i64 m] := by
    obtain ⟨l⟩ := vals
    match l, hs with
    | [a, b, c], _ =>
      have h0 : TRep w K [] a (.sc (.string u)) := ha 0 _ rfl
      have h1 : TRep w K [] b (.sc (.string v)) := ha 1 _ rfl
      have h2 : TRep w K [] c (.sc (.int .i64 m)) := ha 2 _ rfl
      rw [h0.sc_eq, h1.sc_eq, h2.sc_eq]
  refine (zep u v m w hc.1 hc.2).mono fun e w' ⟨he, hb⟩ => ?_
  refine ⟨_, K, he, .sc _ _ rfl, fun i t hi hio => (by match i, hi with | 0, hi => cases hi; cases hio | 1, hi => cases hi; cases hio | 2, hi => cases hi; cases hio), hb.os, hb.tape, hb.output, hb.size, fun b hlt _ => ⟨rfl, hb.block b hlt⟩, fun b arr e fz hbb => ⟨arr, e, fz, (hb.block b (z0h hbb)).trans hbb, rfl⟩⟩
theorem zaN {I : World -> (Nat -> z0a) -> Prop} (hI : EnvS I) : ∀ C, z1M Try.prog I C -> z1M Try.prog I (xtF C) := by
  intro C hC f args r outs h
  unfold xtF at h
  split at h
  case isTrue hf => subst hf; exact z9S hI hC h
  unfold xtC at h
  split at h
  case isTrue hf => subst hf; exact z9U h
  split at h
  case isTrue hf => subst hf; exact z7R h
  split at h
  case isTrue hf => subst hf; exact z9T h
  cases h
theorem zh8 : ∀ C, z1M Try.prog (fun _ _ => True) C -> z1M Try.prog (fun _ _ => True) (xtF C) := zaN EnvS.none
end
section
structure StOk (ops : Array Oper) (t : SchT) (L : Array Bool) (d : Nat) (ns : List Nat) : Prop where
  ord : z0N .any ops true t L = true
  dep : t.depth = d
  nx : ∀ z ∈ t.nexts, z ∈ ns
structure BrOk (ops : Array Oper) (t : SchT) (L : Array Bool) (d : Nat) (ns hs : List Nat) : Prop where
  ord : z0N .any ops false t L = true
  dep : t.depth = d
  nx : ∀ z ∈ t.nexts, z ∈ ns
  hd : ∀ i ∈ hs, i ∈ t.heads
end
section
open Go
set_option maxRecDepth 100000
theorem zhC : z5o Try.prog 5 cf5 = true := by kernel_rfl
theorem zhB : z5o Try.prog 6 cf6 = true := by kernel_rfl
theorem zhA : z5o Try.prog 8 cf8 = true := by kernel_rfl
theorem zhz : z5o Try.prog 9 cf9 = true := by kernel_rfl
theorem zgU : z5o Try.prog 10 cf10 = true := by kernel_rfl
theorem zgT : z5o Try.prog 12 cf12 = true := by kernel_rfl
theorem zgS : z5o Try.prog 13 cf13 = true := by kernel_rfl
theorem zgR : z5o Try.prog 15 cf15 = true := by kernel_rfl
theorem zgQ : z5o Try.prog 19 cf19 = true := by kernel_rfl
theorem zgP : z5o Try.prog 20 cf20 = true := by kernel_rfl
theorem zgO : z5o Try.prog 21 cf21 = true := by kernel_rfl
theorem zgN : z5o Try.prog 22 cf22 = true := by kernel_rfl
theorem zgM : z5o Try.prog 30 cf30 = true := by kernel_rfl
theorem zgL : z5o Try.prog 31 cf31 = true := by kernel_rfl
theorem zgK : z5o Try.prog 33 cf33 = true := by kernel_rfl
theorem zgJ : z5o Try.prog 41 cf41 = true := by kernel_rfl
theorem z2V {p : Prop} [Decidable p] {a c : Cfg} {r : Option Cfg} {G : Prop} (h : (if p then some a else r) = some c) (h1 : p -> a = c -> G) (h2 : r = some c -> G) : G := by
  split at h
  · rename_i hp; exact h1 hp (Option.some.inj h)
  · exact h2 h
theorem zhF : ∀ f c, z2w f = some c -> z5o Try.prog f c = true := by
  intro f c h
  unfold z2w at h
  refine z2V h (fun e h => by rw [e, ← h]; exact zhC) fun h => ?_
  refine z2V h (fun e h => by rw [e, ← h]; exact zhB) fun h => ?_
  refine z2V h (fun e h => by rw [e, ← h]; exact zhA) fun h => ?_
  refine z2V h (fun e h => by rw [e, ← h]; exact zhz) fun h => ?_
  refine z2V h (fun e h => by rw [e, ← h]; exact zgU) fun h => ?_
  refine z2V h (fun e h => by rw [e, ← h]; exact zgT) fun h => ?_
  refine z2V h (fun e h => by rw [e, ← h]; exact zgS) fun h => ?_
  refine z2V h (fun e h => by rw [e, ← h]; exact zgR) fun h => ?_
  refine z2V h (fun e h => by rw [e, ← h]; exact zgQ) fun h => ?_
  refine z2V h (fun e h => by rw [e, ← h]; exact zgP) fun h => ?_
  refine z2V h (fun e h => by rw [e, ← h]; exact zgO) fun h => ?_
  refine z2V h (fun e h => by rw [e, ← h]; exact zgN) fun h => ?_
  refine z2V h (fun e h => by rw [e, ← h]; exact zgM) fun h => ?_
  refine z2V h (fun e h => by rw [e, ← h]; exact zgL) fun h => ?_
  refine z2V h (fun e h => by rw [e, ← h]; exact zgK) fun h => ?_
  refine z2V h (fun e h => by rw [e, ← h]; exact zgJ) fun h => ?_
  cases h
end
section
open Go.RowKit
def z4Z (P : Program) : Nat -> TypeId -> Bool
  | 0, _ => false
  | m + 1, t =>
    match P.underlying t with
    | some (.slice e) => P.cellsOf e != 0 && z4Z P m e
    | some (.pointer e) => z4Z P m e
    | some (.struct fs) => fs.toList.all fun f => z4Z P m f.type
    | some (.array _ e) => z4Z P m e
    | some (.map _ e) => z4Z P m e
    | _ => true
section
variable {H : Type} {enc : TypeId × Value -> H} {P : Program} {w : World} {base : Nat}
theorem z5p {m : Nat} {r r' : TypeId -> List Value -> Option (DataW H × List MemPlace)}
    (hr : ∀ t cs x, z4Z P m t = true -> r t cs = some x -> r' t cs = some x) {t : TypeId} {cs : List Value} {x : DataW H × List MemPlace} (hf : z4Z P (m + 1) t = true)
    (h : DataW.trodStep enc P w base (fun _ => true) true r t cs = some x) : DataW.trodStep enc P w base (fun b => decide (b < w.heap.size)) true r' t cs = some x := by
  unfold DataW.trodStep at h ⊢
  unfold z4Z at hf
  split at h
  case h_1 => exact h
  case h_2 => exact h
  case h_3 => exact h
  case h_4 => exact h
  case h_5 => exact h
  case h_6 e a hu =>
    rw [hu] at hf
    simp only [Option.map_eq_some_iff, Option.bind_eq_some_iff] at h ⊢
    obtain ⟨y, ⟨cs', hc, hy⟩, rfl⟩ := h
    exact ⟨y, ⟨cs', hc, hr _ _ _ hf hy⟩, rfl⟩
  case h_7 => exact h
  case h_8 e a len cap hu =>
    rw [hu] at hf
    simp only [Bool.and_eq_true, bne_iff_ne, ne_eq] at hf
    obtain ⟨hcell, hfe⟩ := hf
    simp only at h ⊢
    split at h
    · rename_i hc
      rw [if_pos hc]
      simp only [Option.map_eq_some_iff, Option.bind_eq_some_iff, if_true] at h ⊢
      obtain ⟨elems, he, rest, hrest, rfl⟩ := h
      have one : ∀ (i : Nat) (y : DataW H × List MemPlace), (w.cells? base (a.add (i * P.cellsOf e)) (P.cellsOf e)).bind (r e) = some y -> (w.cells? base (a.add (i * P.cellsOf e)) (P.cellsOf e)).bind (r' e) = some y := by
        intro i y hv
        simp only [Option.bind_eq_some_iff] at hv ⊢
        obtain ⟨cs', hc', hy'⟩ := hv
        exact ⟨cs', hc', hr _ _ _ hfe hy'⟩
      refine ⟨elems, mapM_carry he (fun i y _ _ hy => one i y hy), rest, ?_, rfl⟩
      by_cases hb : a.block < w.heap.size
      · rw [if_pos (by simpa using hb)]
        exact mapM_carry hrest (fun j y _ _ hy => one (len + j) y hy)
      · rw [if_neg (by simpa using hb)]
        have hz : cap - len = 0 := by
          rcases Nat.eq_zero_or_pos (cap - len) with h0 | h0
          · exact h0
          · exfalso
            have hl : rest.length = cap - len := by simpa using mapM_some_length hrest
            have h1 := mapM_some_get hrest 0 0 (by simp [h0])
            obtain ⟨y, hy⟩ : ∃ y, rest[0]? = some y := ⟨rest[0], List.getElem?_eq_getElem (by omega)⟩
            rw [hy] at h1
            simp only [Option.bind_eq_some_iff] at h1
            obtain ⟨cs', hc', _⟩ := h1
            have h2 := World.cells?_block hc' (by omega)
            have h3 : (a.add ((len + 0) * P.cellsOf e)).block = a.block := by unfold Addr.add; split <;> rfl
            omega
        rw [hz] at hrest
        simpa using hrest
    · cases h
  case h_9 fs _ hu =>
    rw [hu] at hf
    split at h
    · rename_i hc
      rw [if_pos hc]
      simp only [Option.map_eq_some_iff] at h ⊢
      obtain ⟨xs, hx, rfl⟩ := h
      exact ⟨xs, mapM_carry hx (fun f y hin _ hv => hr _ _ _ (List.all_eq_true.1 hf f hin) hv), rfl⟩
    · cases h
  case h_10 n e _ hu =>
    rw [hu] at hf
    split at h
    · rename_i hc
      rw [if_pos hc]
      simp only [Option.map_eq_some_iff] at h ⊢
      obtain ⟨xs, hx, rfl⟩ := h
      exact ⟨xs, mapM_carry hx (fun f y _ _ hv => hr _ _ _ hf hv), rfl⟩
    · cases h
  case h_11 => exact h
  case h_12 => exact h
  case h_13 => exact h
  case h_14 k e b hu =>
    rw [hu] at hf
    split at h
    · rename_i es clock hb
      split at h
      · rename_i hc
        simp only [Option.bind_eq_some_iff] at h
        obtain ⟨entries, he, hd⟩ := h
        split at hd
        · rename_i hris
          have hx := Option.some.inj hd
          subst hx
          simp only [if_pos hc, Option.bind_eq_some_iff]
          refine ⟨entries, mapM_carry he (fun x y _ hy hv => ?_), by simp [hris]⟩
          simp only [Option.bind_eq_some_iff] at hv ⊢
          obtain ⟨key, hk, hz⟩ := hv
          refine ⟨key, hk, ?_⟩
          split at hz
          · rename_i hfm
            rw [if_pos hfm]
            simp only [Option.map_eq_some_iff] at hz ⊢
            obtain ⟨q, hq, rfl⟩ := hz
            exact ⟨q, hr _ _ _ hf hq, rfl⟩
          · cases hz
        · cases hd
      · cases h
    · cases h
  case h_15 => exact h
  case h_16 => exact h
  case h_17 => exact h
  case h_18 => exact h
  case h_19 => exact h
  case h_20 => exact h
  case h_21 => cases h
theorem z9X : ∀ (n m : Nat) (t : TypeId) (cs : List Value) (x : DataW H × List MemPlace), z4Z P m t = true ->
    DataW.trod enc P w base (fun _ => true) true n t cs = some x -> DataW.trod enc P w base (fun b => decide (b < w.heap.size)) true n t cs = some x := by
  intro n
  induction n with
  | zero => intro m t cs x _ h; simp [DataW.trod] at h
  | succ n ih =>
    intro m t cs x hf h
    cases m with
    | zero => simp [z4Z] at hf
    | succ m =>
      rw [DataW.trod_step] at h ⊢
      exact z5p (m := m) (fun t cs x hf hx => ih m t cs x hf hx) hf h
theorem z6P {w' : World} (hb : Below w.heap.size w w') {p : MemPlace} (hp : p.block < w.heap.size) : w.sameAt w' p := by
  cases p with
  | cell b off => exact hb.cell (p := ⟨b, off, none⟩) hp
  | map b => exact hb.block b hp
theorem z3q {w' : World} (m : Nat) (hb : Below w.heap.size w w') : ∀ {ts : List TypeId} {vs : List Value} {ds : List (DataW H)} {ps : List MemPlace}, (ts.all (z4Z P m)) = true ->
    DataW.TrodAll enc P w 0 (fun _ => true) true ts vs ds ps -> DataW.TrodAll enc P w' 0 (fun b => decide (b < w.heap.size)) true ts vs ds ps
  | [], [], [], ps, _, h => h
  | t :: ts, v :: vs, d :: ds, ps, hf, ⟨p, q, ⟨n, h1⟩, h2, e⟩ => by
    simp only [List.all_cons, Bool.and_eq_true] at hf
    have h3 := z9X n m t _ _ hf.1 h1
    exact ⟨p, q, ⟨n, DataW.trod_carry n _ _ _ h3 (fun z hz => z6P hb (DataW.trod_lt n _ _ _ h3 z hz))⟩, z3q m hb hf.2 h2, e⟩
  | [], _ :: _, _, _, _, h => by cases h
  | [], [], _ :: _, _, _, h => by cases h
  | _ :: _, [], _, _, _, h => by cases h
  | _ :: _, _ :: _, [], _, _, h => by cases h
end
section
variable {H : Type} {enc : TypeId × Value -> H} {P : Program} {w : World} {r : Reach} {b0 : Nat}
open Go.ChangeShapes Go.WideShapes
open Go.Deep (open_bools)
end
end
section
open Go.ChangeShapes Go.WideShapes Go.RowKit
def KZ : Nat -> z0a := fun _ => []
theorem zbB {P : Program} {Xc : z0b -> z0b} {cf : FuncId -> Option Cfg} {f : FuncId} {args : List T} {outs : List T} (hX : ∀ C, z1M P (fun _ _ => True) C -> z1M P (fun _ _ => True) (Xc C)) (hm : P.follows .mixedOrders = true) (hf : ∀ f c, cf f = some c -> z5o P f c = true)
    (h : Lim P Xc cf f args = some (.sc (.bool true), outs)) (hio : args.all (fun t => !z1v t) = true) (W : World) (vals : Array Value) (hs : vals.size = args.length)
    (ha : ∀ i t, args[i]? = some t -> TRep W KZ [] (vals.getD i undef) t) : Calls P f vals W fun e W' => e = .returned (.bool true) /\ Below W.heap.size W W' := by
  have hc := zfC (I := fun _ _ => True) EnvS.none hX hm hf h
  refine (hc.calls W KZ vals hs (fun i t hi => ?_) trivial).mono fun e W' ⟨v, K', he, hv, _, hst⟩ => ?_
  · have h1 := List.all_eq_true.1 hio t (List.mem_of_getElem? hi)
    unfold z5m
    rw [if_neg (by simpa using h1)]
    exact ha i t hi
  · generalize hT : T.sc (.bool true) = t at hv
    cases hv with
    | sc c v hb => cases hT; exact ⟨he, hst.os, hst.tape, hst.output, hst.size, fun b hb => (hst.old b hb (.inl rfl)).2⟩
    | _ => cases hT
section
variable {H : Type} {enc : TypeId × Value -> H} {P : Program} {w : World} {r : Reach} {b0 : Nat}
end
end
end Go.Proofs.Ytcjljokldnpgfaa
section
/- Proved here: the law WordListed returns true for every input, and its arguments read afterwards as before. No condition. -/
namespace Go.Proofs.Ytcjljokldnpgfaa.wordListed
open Go.ChangeShapes Go.WideShapes Go.ChangeAt Go.RowKit
open Go.ChangeMaps (open_string shut_string)
theorem own : ownKnob Try.prog.godebug = none := by kernel_rfl
set_option maxRecDepth 100000 in
theorem zdg (H : Type) (enc : TypeId × Value -> H) (W : World) (base : Nat) (args : Array Value) (ds gs : List (DataW H)) (before : List MemPlace)
    (hval0 : ∀ (j : Nat) t v, Try.f5.params[j]? = some t -> args[j]? = some v -> Value.okWide Try.prog W .any base t v)
    (hW : DataW.Whole enc Try.prog Try.f5.params.toList Rows.wordListedSpec.vars false W args.toList ds gs before) :
    Calls Try.prog 5 args W fun e W' => ∃ v, e = .returned v /\ Rows.wordListedSpec.post enc Try.prog Try.f5 false true false false W args v W' := by
  have hW' := hW
  obtain ⟨p, q, hA0, hV, rfl, hfz, hnd⟩ := hW
  have hval := hval0
  have hA : DataW.TrodAll enc Try.prog W 0 (fun _ => true) true Try.f5.params.toList args.toList ds p := hA0
  rw [Try.params5] at hA hval
  obtain ⟨v0, vs0, d0, ds0, p0, q0, hargs, rfl, rfl, h0, r0⟩ := trodAll_cons hA
  obtain ⟨v1, vs1, d1, ds1, p1, q1, rfl, rfl, rfl, h1, r1⟩ := trodAll_cons r0
  obtain ⟨v2, vs2, d2, ds2, p2, q2, rfl, rfl, rfl, h2, r2⟩ := trodAll_cons r1
  obtain ⟨rfl, rfl, rfl⟩ := trodAll_nil r2
  obtain rfl : args = #[v0, v1, v2] := by cases args; simp_all
  obtain ⟨rfl, rfl⟩ := trodVars_none hV
  obtain ⟨a0, rfl, rfl, rfl, w0⟩ := open_string Try.underlying9 (hval 0 9 v0 rfl rfl) h0
  obtain ⟨a1, rfl, rfl, rfl, w1⟩ := open_string Try.underlying9 (hval 1 9 v1 rfl rfl) h1
  obtain ⟨a2, rfl, rfl, rfl, w2⟩ := open_int Try.underlying3 (hval 2 3 v2 rfl rfl) h2
  obtain ⟨outs, hlaw⟩ := zew a0 w0 a1 w1 a2 w2
  refine (zbB zh8 (by kernel_rfl) zhF hlaw rfl W _ rfl (fun i t hi => ?_)).mono fun e W' ⟨he, bel⟩ => ?_
  · match i, hi with
    | 0, hi => cases hi; exact .sc _ _ rfl
    | 1, hi => cases hi; exact .sc _ _ rfl
    | 2, hi => cases hi; exact .sc _ _ rfl
  · subst he
    exact ⟨_, rfl, _, _, _, [], _, [], hW', trodAll_mk1 (shut_bool Try.underlying4 _), z3q 12 bel (by kernel_rfl) hA0, rfl, bel.frame _, fun h => by cases h⟩
theorem z3n {a b : Bool} (ha : a = true) (hb : b = true) : (a && b) = true := by rw [ha, hb]; rfl
set_option maxHeartbeats 4000000 in
theorem zgF : joinedFacts Try.checked.prog 5 Try.f5 Rows.wordListedSpec Rows.wordListedRow = true :=
  (z3n (z3n (z3n (z3n (z3n (z3n (z3n (z3n (z3n (z3n (z3n (z3n (z3n (z3n (z3n (z3n (z3n (z3n (z3n (z3n (z3n (z3n (z3n (z3n (z3n (z3n (z3n (z3n (z3n (z3n (z3n (by as_aux_lemma => kernel_rfl)
    (by as_aux_lemma => kernel_rfl))
    (by as_aux_lemma => kernel_rfl))
    (by as_aux_lemma => kernel_rfl))
    (by as_aux_lemma => kernel_rfl))
    (by as_aux_lemma => kernel_rfl))
    (by as_aux_lemma => kernel_rfl))
    (by as_aux_lemma => kernel_rfl))
    (by as_aux_lemma => kernel_rfl))
    (by as_aux_lemma => kernel_rfl))
    (by as_aux_lemma => kernel_rfl))
    (by as_aux_lemma => kernel_rfl))
    (by as_aux_lemma => kernel_rfl))
    (by as_aux_lemma => kernel_rfl))
    (by as_aux_lemma => kernel_rfl))
    (by as_aux_lemma => kernel_rfl))
    (by as_aux_lemma => kernel_rfl))
    (by as_aux_lemma => kernel_rfl))
    (by as_aux_lemma => kernel_rfl))
    (by as_aux_lemma => kernel_rfl))
    (by as_aux_lemma => kernel_rfl))
    (by as_aux_lemma => kernel_rfl))
    (by as_aux_lemma => kernel_rfl))
    (by as_aux_lemma => kernel_rfl))
    (by as_aux_lemma => kernel_rfl))
    (by as_aux_lemma => kernel_rfl))
    (by as_aux_lemma => kernel_rfl))
    (by as_aux_lemma => kernel_rfl))
    (by as_aux_lemma => kernel_rfl))
    (by as_aux_lemma => kernel_rfl))
    (by as_aux_lemma => kernel_rfl))
    (by as_aux_lemma => kernel_rfl))
set_option maxRecDepth 100000 in
theorem zfD (os : Os) (started : os.Started) (H : Type) (enc : TypeId × Value -> H) :
    ReturnsInHanded {} Try.checked os 5 .any (Rows.wordListedSpec.pre6 enc Try.prog Try.f5 Rows.wordListedRow.domain false) (Rows.wordListedSpec.post enc Try.prog Try.f5 false true false false) := by
  refine returnsInHanded_of_change (C := Try.checked) (by kernel_rfl) started (by kernel_rfl) Try.func5
    (ChangeSpec.witness6 (enc := enc) (C := Try.checked) false ⟨#[], #[.string ByteArray.empty, .string ByteArray.empty, .int .i64 0], []⟩ 8 (by kernel_rfl) (by kernel_rfl) (by kernel_rfl) (by kernel_rfl)) ?_
  intro W base args ds gs before hval0 hW hcnd _
  exact zdg H enc W base args ds gs before hval0 hW
theorem zhm : Rows.wordListedRow.holds Try.pinned (OpenSpec.ofChange Rows.wordListedSpec) :=
  OpenClaim.holds_of_wide 5 Try.f5 rfl rfl rfl rfl rfl rfl rfl ⟨rfl, rfl, rfl, rfl, rfl⟩ rfl rfl rfl rfl rfl (by kernel_rfl) Try.func5 zgF
    (of_decide_eq_true (by kernel_rfl)) (by unfold Func.isWrapper; first | (rw [if_pos (by decide +kernel)]; kernel_rfl) | (rw [if_neg (by decide +kernel)]; exact ⟨rfl, rfl⟩))
    (fun os started H enc _ => zfD os started H enc)
theorem proved : Rows.WordListedSaid :=
  zhm
#print axioms proved
end Go.Proofs.Ytcjljokldnpgfaa.wordListed
end

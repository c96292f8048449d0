/- Proved here: a part of the proof of the law at hand, in one text: no condition. -/
import Derived.Test.YtcjljokldnpgfaaMFA1
import Derived.MapKept
import Derived.WideKeyRuns
import Derived.Laws.StructEq
import Derived.OrdersHeld
import Derived.Tactics
import Derived.Still
import Derived.Deep.Quiet
import Derived.Scope
set_option linter.unusedVariables false
set_option linter.unusedSimpArgs false
namespace Go.Proofs.Ytcjljokldnpgfaa
section
theorem z4W {w : World} {K : Nat -> z0a} {c : z0a} {v : Value} {sz n : Nat} {cs : List T} (h : TRep w K c v (.os sz n cs)) :
    (v = .slice none 0 0 /\ n = 0 /\ cs = []) ∨ ∃ g cap arr e fz, ∃ F : Nat -> Value, v = .slice (some ⟨g, 0, none⟩) n cap /\ c ≠ [] /\ K g = c /\ w.heap[g]? = some (.cells arr e fz) /\ arr.size = cap * sz /\ cs.length = n * sz /\ 0 < sz /\ n <= cap /\ cap <= maxLen /\
      (∀ i, i < arr.size -> ¬ (fz.1 <= i /\ fz.1 ≠ fz.2)) /\ (∀ j, j < cs.length -> arr[j]? = some (F j)) /\ ∀ j t, cs[j]? = some t -> TRep w K (c ++ [j]) (F j) t := by
  cases h with
  | nil => exact .inl ⟨rfl, rfl, rfl⟩
  | own c g n cap size cs arr e fz F hfz hc0 hK hg hs hl hz hn hc hF hh => exact .inr ⟨g, cap, arr, e, fz, F, rfl, hc0, hK, hg, hs, hl, hz, hn, hc, hfz, hF, hh⟩
theorem z3p {P : Program} {w : World} {K : Nat -> z0a} {d : Nat} {v : Value} {sz n m : Nat} {cs news : List T} {st xt el ty : TypeId} {ti tx : TyI} {xval : Value} {us : List Value} {s1 s2 : Nat} {s3 : Option (List T)} {zs : List T} (hsz : sz = 0 ∨ sz = ti.size)
    (hst : z0t P st = some ⟨.slice el, s1, s2, s3⟩) (hti : z0t P el = some ti) (hzs : ti.zero = some zs) (hzl : zs.length = ti.size) (hpos : 0 < ti.size) (hxt : z0t P xt = some tx) (hnx : ∀ k, tx.u ≠ .int k)
    (hv : TRep w K (col d) v (.os sz n cs) ∨ (0 < m /\ 0 < n /\ (∃ p, v = .slice p n n) /\ TRep w K [] v (.sl n cs) /\ cs.length = n * ti.size))
    (hlen : ∀ w'', (Builtin.lenOf xval).run P w'' = .ok m w'') (hfc : ∀ w'' : World, w''.heap = w.heap -> (Builtin.firstCells ti.size m xval).run P w'' = .ok us.toArray w'') (hul : us.length = m * ti.size) (hnl : news.length = us.length)
    (h1 : ∀ u ∈ us, u.oneCell' = true) (hnew : ∀ (j : Nat) (t : T) (u : Value), news[j]? = some t -> us[j]? = some u -> TRep w K [] u t)
    (hb : (n + m) * ti.bytes <= 140737488355328) (hnm : n + m <= 4611686018427387904) :
    ∃ v' w', (Builtin.append_ #[st, xt] ty #[v, xval]).run P w = .ok v' w' /\ TRep w' (fun b => if b = w.heap.size then col d else K b) (col d) v' (.os ti.size (n + m) (cs ++ news)) /\
      Keep w w' K (fun b => if b = w.heap.size then col d else K b) (But d) /\ Step w K w' (fun b => if b = w.heap.size then col d else K b) /\
      (cs.length = n * ti.size) /\ (∀ g, z1j v' = some g -> (w'.heap[g]?).isSome) /\ (∀ j u, us[j]? = some u -> z4q w' v' (n * ti.size + j) = some u) := by
  have hu := z0j hst w
  have hux := z0j hxt w
  simp only [] at hu
  obtain ⟨q1, ji, q2, q3, q4, q5⟩ := z0u hti
  rw [hzs] at q5
  cases hz : ji.zero with
  | none => rw [hz] at q5; cases q5
  | some z =>
  rw [hz] at q5
  simp only [Option.some.injEq] at q5
  have hzsz : z.cells.size = ti.size := by rw [← hzl, ← q5, z0S]; simp
  have htyi : ∀ w'', (typeInfo el).run P w'' = .ok ji w'' := fun w'' => by simp [typeInfo, q2]
  have hzv : ∀ w'', (zeroValue el).run P w'' = .ok z w'' := fun w'' => by simp [zeroValue, typeInfo, q2, hz]
  have hszr : ∀ w'', (sizeOf el).run P w'' = .ok ti.size w'' := fun w'' => z1S hti w''
  have hxm : (match tx.u with | .int _ => true | _ => false) = false := by
    cases hh : tx.u <;> first | rfl | exact absurd hh (hnx _)
  let K' : Nat -> z0a := fun b => if b = w.heap.size then col d else K b
  have hK' : ∀ b, b < w.heap.size -> K' b = K b := fun b hb => by show (if b = w.heap.size then col d else K b) = K b; rw [if_neg (by omega)]
  have hK0 : K' w.heap.size = col d := by simp [K']
  have h48 : Builtin.nextslicecap (n + m) (n + m) * 0 = 0 := by omega
  have hmx : (n : Nat) + m <= maxLen := by unfold maxLen; omega
  have grow : ∀ (b0 : Option Addr) (cap : Nat) (olds : List Value) (F : Nat -> Value), v = .slice b0 n cap -> cap < n + m -> olds.length = n * ti.size -> (∀ w'' : World, w''.heap = w.heap -> (Builtin.firstCells ti.size n v).run P w'' = .ok olds.toArray w'') ->
      cs.length = n * ti.size -> (∀ j, j < cs.length -> olds[j]? = some (F j)) -> (∀ j t, cs[j]? = some t -> TRep w K (col d ++ [j]) (F j) t) ->
      ∃ v' w', (Builtin.append_ #[st, xt] ty #[v, xval]).run P w = .ok v' w' /\ TRep w' K' (col d) v' (.os ti.size (n + m) (cs ++ news)) /\ Keep w w' K K' (But d) /\ Step w K w' K' /\ (cs.length = n * ti.size) /\ (∀ g, z1j v' = some g -> (w'.heap[g]?).isSome) /\ (∀ j u, us[j]? = some u -> z4q w' v' (n * ti.size + j) = some u) := by
    intro b0 cap olds F hve hcap hol hofc hcl hoF hoR
    subst hve
    have hfit : ¬ Builtin.nextslicecap (n + m) cap * ti.bytes > 2 ^ 48 := by
      have := growslice_fits hcap hb; omega
    let nc := grownCap w (n + m) cap el
    have hnc : n + m <= nc := grownCap_ge w (n + m) cap el
    have hncm : nc <= maxLen := grownCap_le_maxLen w (n + m) cap el hmx
    let arr : Array Value := olds.toArray ++ us.toArray ++ Builtin.zeroCells z.cells (nc - (n + m))
    have hzc : (Builtin.zeroCells z.cells (nc - (n + m))).size = (nc - (n + m)) * ti.size := by simp [Builtin.zeroCells, hzsz]
    have harr : arr.size = nc * ti.size := by
      simp only [arr, Array.size_append, List.size_toArray, hzc, hol, hul]
      rw [← Nat.add_mul, ← Nat.add_mul]; congr 1; omega
    have hrun : (Builtin.append_ #[st, xt] ty #[.slice b0 n cap, xval]).run P w = .ok (.slice (some ⟨w.heap.size, 0, none⟩) (n + m) nc) { w with drawn := w.drawn + 1, heap := w.heap.push (.cells arr el) } := by
      unfold Builtin.append_
      simp only [List.getElem?_toArray, List.getElem?_cons_zero, List.getElem?_cons_succ, Sem.run_bind, hu, Result.andThen_ok, hszr, hux, Sem.run_pure, hxm, Bool.false_eq_true, if_false, hlen, Bool.not_false, if_true]
      rw [if_neg (by omega)]
      simp only [Sem.run_bind, htyi, Result.andThen_ok, q4]
      rw [if_neg (by
        intro hc
        have : IntKind.i64.max = 9223372036854775807 := rfl
        rw [this] at hc
        omega)]
      simp only [Sem.run_bind, Sem.run_pure, Result.andThen_ok, htyi, q4]
      rw [if_neg hfit]
      have hch : (choose (.appendCap (n + m) cap el)).run P w = .ok nc { w with drawn := w.drawn + 1 } := by
        simp [choose, Sem.run, Question.forced, nc, grownCap]
      have hroom : ∀ x w'', (askRoom x).run P w'' = .ok () w'' := fun x w'' => by
        unfold askRoom
        split <;> simp [mark, Sem.run]
      simp only [Sem.run_bind, Sem.run_pure, Result.andThen_ok, hch, htyi, hroom, hofc { w with drawn := w.drawn + 1 } rfl, hfc { w with drawn := w.drawn + 1 } rfl, hzv]
      simp [newRow, newObj, Sem.run, arr]
      refine ⟨?_, rfl, rfl⟩
      show w.heap.push _ = _
      rw [← List.append_toArray, Array.append_assoc]
    have hnew' : ({ w with drawn := w.drawn + 1, heap := w.heap.push (.cells arr el) } : World).heap[w.heap.size]? = some (.cells arr el (0, 0)) := by
      show (w.heap.push _)[w.heap.size]? = _
      rw [Array.getElem?_push, if_pos rfl]
    have hold' : ∀ b, b < w.heap.size -> ({ w with drawn := w.drawn + 1, heap := w.heap.push (.cells arr el) } : World).heap[b]? = w.heap[b]? := fun b hb => by
      show (w.heap.push _)[b]? = _
      rw [Array.getElem?_push, if_neg (by omega)]
    have hk : Keep w { w with drawn := w.drawn + 1, heap := w.heap.push (.cells arr el) } K K' (fun _ => True) := ⟨fun b hb e => ⟨(hK' b hb).trans e, hold' b hb⟩, fun b hb _ => ⟨hK' b hb, hold' b hb⟩, by simp⟩
    have hget1 : ∀ j, j < olds.length -> arr[j]? = olds[j]? := fun j hj => by
      simp only [arr, Array.getElem?_append, List.size_toArray, Array.size_append]
      rw [if_pos (by omega), if_pos hj]; simp
    have hget2 : ∀ j, j < us.length -> arr[n * ti.size + j]? = us[j]? := fun j hj => by
      simp only [arr, Array.getElem?_append, List.size_toArray, Array.size_append]
      rw [if_pos (by omega), if_neg (by omega), show n * ti.size + j - olds.length = j by omega]; simp
    refine ⟨_, _, hrun, ?_, hk.mono fun _ _ => trivial, ⟨rfl, rfl, rfl, by simp, fun b hb _ => ⟨hK' b hb, hold' b hb⟩, .olds hold'⟩, hcl, fun g hg => by cases hg; rw [hnew']; rfl, fun j u hj => ?_⟩
    · refine .own (col d) _ (n + m) nc ti.size _ arr el (0, 0) (fun j => arr.getD j undef) (fun i _ => by omega) (z0f d) hK0 hnew' harr (by rw [List.length_append, hcl, hnl, hul, Nat.add_mul]) hpos hnc hncm (fun j hj => z0F _ _ ?_) (fun j t ht => ?_)
      · rw [List.length_append, hcl, hnl, hul, ← Nat.add_mul] at hj
        rw [harr]
        exact Nat.lt_of_lt_of_le hj (Nat.mul_le_mul_right _ hnc)
      · by_cases hj : j < cs.length
        · rw [List.getElem?_append_left hj] at ht
          have e1 : arr.getD j undef = F j := by
            rw [Array.getD_eq_getD_getElem?, hget1 j (by omega), hoF j hj]; rfl
          rw [e1]
          exact (hoR j t ht).keep hk fun _ _ => trivial
        · rw [List.getElem?_append_right (by omega)] at ht
          have hlt : j - cs.length < news.length := (List.getElem?_eq_some_iff.1 ht).1
          have hlt' : j - cs.length < us.length := by omega
          have e1 : arr.getD j undef = us[j - cs.length] := by
            have e2 := hget2 (j - cs.length) (by omega)
            rw [show n * ti.size + (j - cs.length) = j by omega] at e2
            rw [Array.getD_eq_getD_getElem?, e2, List.getElem?_eq_getElem hlt']; rfl
          rw [e1]
          exact (TRep.fz (hnew _ t _ ht (List.getElem?_eq_getElem hlt')) hk.fro hk.size).any rfl _
    · have hlt := (List.getElem?_eq_some_iff.1 hj).1
      simp only [z4q]
      rw [z0s hnew', hget2 j hlt]; exact hj
  rcases hv with hv | ⟨hm0, hn0, ⟨p, rfl⟩, hv, hcl⟩
  rotate_left
  · generalize hvv : Value.slice p n n = vv at hv
    generalize htt : T.sl n cs = tt at hv
    cases hv with
    | emp c a cap hc =>
      cases htt
      omega
    | fro c g o n' cap cs' F hK hg hn hc hF hh =>
      cases htt; cases hvv
      refine grow _ n ((List.range (n * ti.size)).map F) F rfl (by omega) (by simp) (fun w'' hw'' => ?_) hcl (fun j hj => ?_) (fun j t ht => (hh j t ht).any rfl _)
      · have := run_loadCells_list (P := P) w'' ⟨g, o, none⟩ ((List.range (n * ti.size)).map F) (fun j v hv => by
          simp only [List.getElem?_map, Option.map_eq_some_iff] at hv
          obtain ⟨i, hi, rfl⟩ := hv
          obtain ⟨h2, h3⟩ := List.getElem?_eq_some_iff.1 hi
          simp at h2 h3; subst h3
          rw [z2l, z0d (show w''.heap[g]? = w.heap[g]? by rw [hw''])]
          exact hF _ (by omega))
        simpa [Builtin.firstCells] using this
      · have hj' : j < n * ti.size := by omega
        simp [hj']
    | _ => cases htt
  rcases z4W hv with ⟨rfl, rfl, rfl⟩ | ⟨g, cap, arr, e, fz, F, rfl, hc0, hKg, hg, hs, hl, hz', hn, hc, hfz, hF, hh⟩
  ·
    by_cases hm : m = 0
    · subst hm
      have hus : us = [] := List.eq_nil_of_length_eq_zero (by rw [hul]; simp)
      subst hus
      have hnews : news = [] := List.eq_nil_of_length_eq_zero (by simpa using hnl)
      subst hnews
      have hrun : (Builtin.append_ #[st, xt] ty #[.slice none 0 0, xval]).run P w = .ok (.slice none 0 0) w := by
        unfold Builtin.append_
        simp only [List.getElem?_toArray, List.getElem?_cons_zero, List.getElem?_cons_succ, Sem.run_bind, hu, Result.andThen_ok, hszr, hux, Sem.run_pure, hxm, Bool.false_eq_true, if_false, hlen, Bool.not_false, if_true]
        rw [if_pos (by omega)]
        simp only [Sem.run_bind, hfc w rfl, Result.andThen_ok, Sem.run_pure]
      exact ⟨_, w, hrun, .nil _ _, ⟨fun b hb e => ⟨(hK' b hb).trans e, rfl⟩, fun b hb _ => ⟨hK' b hb, rfl⟩, Nat.le_refl _⟩, ⟨rfl, rfl, rfl, Nat.le_refl _, fun b hb _ => ⟨hK' b hb, rfl⟩, .same rfl⟩, by simp, fun g hg => (by cases hg), fun j u hj => (by cases hj)⟩
    · exact grow none 0 [] (fun _ => undef) rfl (by omega) (by simp) (fun w'' _ => by simp [Builtin.firstCells]) (by simp) (fun j hj => by simp at hj) (fun j t ht => by cases ht)
  · obtain rfl : sz = ti.size := by omega
    by_cases hroom : n + m <= cap
    ·
      have hle : (n + m) * ti.size <= cap * ti.size := Nat.mul_le_mul_right _ hroom
      obtain ⟨w', arr', r1, k1⟩ := z1a (P := P) (g := g) (o := n * ti.size) us 0 arr w hg (by rw [hs, hul, Nat.add_zero, ← Nat.add_mul]; exact hle) hfz h1
      have hrun : (Builtin.append_ #[st, xt] ty #[.slice (some ⟨g, 0, none⟩) n cap, xval]).run P w = .ok (.slice (some ⟨g, 0, none⟩) (n + m) cap) w' := by
        unfold Builtin.append_
        simp only [List.getElem?_toArray, List.getElem?_cons_zero, List.getElem?_cons_succ, Sem.run_bind, hu, Result.andThen_ok, hszr, hux, Sem.run_pure, hxm, Bool.false_eq_true, if_false, hlen, Bool.not_false, if_true]
        rw [if_pos hroom]
        simp only [Sem.run_bind, hfc w rfl, Result.andThen_ok, z2l, Nat.zero_add]
        rw [r1]
        simp
      simp only [Nat.add_zero] at k1
      have hne : ∀ b, K b ≠ col d -> b ≠ g := fun b hb e => by subst e; exact hb hKg
      have hsz' : w'.heap.size = w.heap.size := k1.size
      have hkk : Keep w w' K K' (fun c => c ≠ col d) := ⟨fun b hb e => ⟨(hK' b hb).trans e, k1.oth b (hne b (by rw [e]; simp [col]))⟩, fun b hb hc => ⟨hK' b hb, k1.oth b (hne b hc)⟩, by omega⟩
      refine ⟨_, w', hrun, ?_, hkk.mono fun c ⟨i, s, e, hi⟩ => (by rw [e]; intro e2; simp [col] at e2; exact hi e2.1), ⟨k1.os, k1.tape, k1.output, by omega, fun b hb hc => ⟨hK' b hb, k1.oth b (hne b (by rcases hc with e | e <;> rw [e] <;> simp [col]))⟩, .one hg k1.new k1.len k1.oth⟩, hl,
        fun g' hg' => by cases hg'; rw [k1.new]; rfl, fun j u hj => ?_⟩
      · refine .own (col d) g (n + m) cap ti.size _ arr' e fz (fun j => arr'.getD j undef) (by rw [k1.len]; exact hfz) (z0f d) ((hK' g (z0g hg)).trans hKg) k1.new (by rw [k1.len, hs]) (by rw [List.length_append, hl, hnl, hul, Nat.add_mul]) hz' hroom hc (fun j hj => z0F _ _ ?_) (fun j t ht => ?_)
        · rw [List.length_append, hl, hnl, hul, ← Nat.add_mul] at hj
          rw [k1.len, hs]; omega
        · by_cases hj : j < cs.length
          · rw [List.getElem?_append_left hj] at ht
            have e1 : arr'.getD j undef = F j := by
              rw [Array.getD_eq_getD_getElem?, k1.cells j, if_neg (by omega), hF j hj]; rfl
            rw [e1]
            exact (hh j t ht).keep hkk fun s _ => by simp [col]
          · rw [List.getElem?_append_right (by omega)] at ht
            have hlt : j - cs.length < news.length := (List.getElem?_eq_some_iff.1 ht).1
            have hlt' : j - cs.length < us.length := by omega
            have e1 : arr'.getD j undef = us[j - cs.length] := by
              rw [Array.getD_eq_getD_getElem?, k1.cells j, if_pos (by omega), show j - n * ti.size = j - cs.length by omega, List.getElem?_eq_getElem hlt']; rfl
            rw [e1]
            exact (TRep.fz (hnew _ t _ ht (List.getElem?_eq_getElem hlt')) hkk.fro hkk.size).any rfl _
      · have hlt := (List.getElem?_eq_some_iff.1 hj).1
        simp only [z4q]
        rw [z0s k1.new, k1.cells, if_pos (by omega), show n * ti.size + j - n * ti.size = j by omega]; exact hj
    ·
      refine grow (some ⟨g, 0, none⟩) cap ((List.range (n * ti.size)).map fun j => arr.getD j undef) F rfl (by omega) (by simp) (fun w'' hw'' => ?_) hl (fun j hj => ?_) hh
      · have hle : n * ti.size <= cap * ti.size := Nat.mul_le_mul_right _ hn
        have := run_loadCells_list (P := P) w'' ⟨g, 0, none⟩ ((List.range (n * ti.size)).map fun j => arr.getD j undef) (fun j v hv => by
          simp only [List.getElem?_map, Option.map_eq_some_iff] at hv
          obtain ⟨i, hi, rfl⟩ := hv
          obtain ⟨h2, h3⟩ := List.getElem?_eq_some_iff.1 hi
          simp at h2 h3; subst h3
          rw [z2l, Nat.zero_add, z0s (w := w'') (by rw [hw'']; exact hg)]
          exact z0F _ _ (by rw [hs]; omega))
        simpa [Builtin.firstCells] using this
      · rw [hl] at hj
        have hj2 : j < arr.size := by
          rw [hs]; exact Nat.lt_of_lt_of_le hj (Nat.mul_le_mul_right _ hn)
        have := hF j (by omega)
        simp [hj, Array.getD_eq_getD_getElem?, this]
end
section
def zcH (fr : Fr) (d : Nat) (e : E) : Option Fr :=
  match e with
  | .one (.k (.slice none 0 0)) => some { fr with tm := z1m (kill d) fr.tm, ob := z0X fr.ob d (.os 0 0 []) }
  | .one (.h id p) => z3N fr id p d
  | _ => none
def z6K (e : E) : List Nat := match e with | .one (.h id _) => [id] | _ => []
theorem z8X {fr fr' : Fr} {id d : Nat} {p : List Nat} (hs : z3N fr id p d = some fr') : fr'.nt = fr.nt := by
  unfold z3N at hs
  split at hs
  · cases hs
  · split at hs
    · cases hs
    · split at hs
      · cases hs; rfl
      · split at hs
        · cases hs
        · cases hs; rfl
theorem z9T {w : World} {K : Nat -> z0a} {R G : Nat -> Value} {fr fr1 : Fr} {a : Act} {d : Nat} {e : E} {v : Value} (h : FRep w K R G fr a) (he : ERep w K R fr.ob e v) (hf : zcH fr d e = some fr1) :
    ∃ K1 R1, FRep w K1 R1 G fr1 a /\ Step w K w K1 /\ R1 d = v /\ fr1.nt = fr.nt /\ (∀ b i s, K b = (i + 2) :: s -> i ∉ z6K e -> K1 b = K b /\ i ≠ d ∨ K1 b = [1] /\ i = d) := by
  unfold zcH at hf
  split at hf
  · cases hf
    obtain rfl : v = .slice none 0 0 := he
    have := h.replace (d := d) (w' := w) (K' := fun b => if (K b).head? = some (d + 2) then [1] else K b) (v := .slice none 0 0) (t := .os 0 0 []) ⟨fun b hb e => ⟨by simp [e], rfl⟩, fun b hb ⟨i, s, e, hi⟩ => ⟨by simp [e, hi], rfl⟩, Nat.le_refl _⟩ (.nil _ _)
    refine ⟨_, _, this, ⟨rfl, rfl, rfl, Nat.le_refl _, fun b hb hc => ⟨?_, rfl⟩, .same rfl⟩, by simp [z2q], rfl, fun b i s e _ => ?_⟩
    · rcases hc with e | e <;> simp [e]
    · by_cases hi : i = d
      · right; exact ⟨by simp [e, hi], hi⟩
      · left; exact ⟨by simp [e, hi], hi⟩
  · rename_i id p
    obtain ⟨vp, t, h1, h2, h3⟩ := h.take hf
    obtain ⟨n1, _⟩ := he
    rw [n1] at h1; cases h1
    refine ⟨_, _, h3, z4u id p d, by simp [z2q], z8X hf, fun b i s e hi => ?_⟩
    have hne : i ≠ id := by simpa [z6K] using hi
    by_cases hd : i = d
    · right
      refine ⟨?_, hd⟩
      show reK id p d (K b) = [1]
      rw [e]
      subst hd
      simp [reK, hne]
    · left
      exact ⟨by show reK id p d (K b) = K b; rw [e]; exact z4U hne hd, hd⟩
  · cases hf
def zhx : T -> Bool
  | .sc _ => true
  | _ => false
def zfb (fr : Fr) (e : E) : Option (Nat × List T) :=
  match rdV e with
  | some (.string s) => some (s.size, s.data.toList.map fun b => .sc (.int .u8 b.toNat))
  | _ =>
    match e with
    | .one (.h id p) => (match z0i fr.ob id with
      | none => none
      | some root => match sub root p with
        | some (.os _ m cs) => if cs.all z3x then some (m, cs) else none
        | some (.sl m cs) => if cs.all z4s then some (m, cs) else none
        | _ => none)
    | e => match zbC fr e with
      | some (none, m, cs) => if cs.all z4s then some (m, cs) else none
      | some (some _, m, cs) => if cs.all zhx then some (m, cs) else none
      | none => none
structure Src (P : Program) (w : World) (K : Nat -> z0a) (u : Value) (m : Nat) (cs : List T) (us : List Value) : Prop where
  len : ∀ w'', (Builtin.lenOf u).run P w'' = .ok m w''
  cells : ∀ (w'' : World) size, w''.heap = w.heap -> cs.length = m * size -> (Builtin.firstCells size m u).run P w'' = .ok us.toArray w''
  n : us.length = cs.length
  one : ∀ v ∈ us, v.oneCell' = true
  rep : ∀ (j : Nat) (t : T) (v : Value), cs[j]? = some t -> us[j]? = some v -> TRep w K [] v t
theorem z3s {P : Program} {w : World} {K : Nat -> z0a} {u : Value} {m : Nat} {cs : List T} (h : (∃ a cap, u = .slice a 0 cap /\ m = 0 /\ cs = []) ∨ ∃ g o cap, ∃ F : Nat -> Value, u = .slice (some ⟨g, o, none⟩) m cap /\
    (∀ j, j < cs.length -> w.cell? ⟨g, o + j, none⟩ = some (F j)) /\ ∀ j t, cs[j]? = some t -> (z4s t = true /\ ∀ c, TRep w K c (F j) t)) : ∃ us, Src P w K u m cs us := by
  rcases h with ⟨a, cap, rfl, rfl, rfl⟩ | ⟨g, o, cap, F, rfl, hF, hr⟩
  · refine ⟨[], fun w'' => by simp [Builtin.lenOf], fun w'' size _ _ => ?_, rfl, fun v hv => (by cases hv), fun j t v hj => (by cases hj)⟩
    cases a with
    | none => simp [Builtin.firstCells]
    | some a => simp [Builtin.firstCells, loadCells, loadCellsFrom]
  · refine ⟨(List.range cs.length).map F, fun w'' => by simp [Builtin.lenOf], fun w'' size hw hl => ?_, by simp, fun v hv => ?_, fun j t v hj hv => ?_⟩
    · have := run_loadCells_list (P := P) w'' ⟨g, o, none⟩ ((List.range cs.length).map F) (fun j v hv => by
        simp only [List.getElem?_map, Option.map_eq_some_iff] at hv
        obtain ⟨i, hi, rfl⟩ := hv
        obtain ⟨h2, h3⟩ := List.getElem?_eq_some_iff.1 hi
        simp at h2 h3; subst h3
        rw [z2l, z0d (w := w) (by rw [hw])]
        exact hF _ h2)
      simp only [List.length_map, List.length_range] at this
      simp only [Builtin.firstCells]
      rw [← hl]; exact this
    · obtain ⟨j, hj, rfl⟩ := List.mem_map.1 hv
      have hj' : j < cs.length := by simpa using hj
      obtain ⟨h1, h2⟩ := hr j cs[j] (List.getElem?_eq_getElem hj')
      exact (h2 []).one h1
    · simp only [List.getElem?_map, Option.map_eq_some_iff] at hv
      obtain ⟨i, hi, rfl⟩ := hv
      obtain ⟨h2, h3⟩ := List.getElem?_eq_some_iff.1 hi
      simp at h2 h3; subst h3
      exact (hr _ t hj).2 []
theorem zbj {P : Program} {w : World} {K : Nat -> z0a} {R G : Nat -> Value} {fr : Fr} {a : Act} {e : E} {u : Value} {m : Nat} {cs : List T} (h : FRep w K R G fr a) (he : ERep w K R fr.ob e u) (hs : zfb fr e = some (m, cs)) : ∃ us, Src P w K u m cs us := by
  unfold zfb at hs
  split at hs
  · rename_i s hv
    cases hs
    obtain ⟨rfl, -⟩ := z0e he hv
    refine ⟨s.data.toList.map fun b => .int .u8 b.toNat, fun w'' => by simp [Builtin.lenOf], fun w'' size _ hl => ?_, by simp, fun v hv => ?_, fun j t v hj hv => ?_⟩
    · simp only [Builtin.firstCells, Sem.run_pure]
      congr 1
      apply Array.ext'
      simp
    · obtain ⟨b, _, rfl⟩ := List.mem_map.1 hv; rfl
    · simp only [List.getElem?_map, Option.map_eq_some_iff] at hj hv
      obtain ⟨b, hb, rfl⟩ := hj
      obtain ⟨b', hb', rfl⟩ := hv
      rw [hb] at hb'; cases hb'
      exact .sc _ _ rfl
  · split at hs
    · rename_i id p hno
      split at hs
      case h_1 => cases hs
      case h_2 root hroot =>
      obtain ⟨n1, t0, n2, n3⟩ := he
      split at hs
      · rename_i sz m' cs' hsub
        split at hs
        · rename_i hall
          cases hs
          obtain ⟨v', m1, hrep⟩ := (h.ob id root hroot).sub (z0f id) hsub
          rw [n1] at m1; cases m1
          refine z3s ?_
          rcases z4W hrep with ⟨rfl, rfl, rfl⟩ | ⟨g, cap, arr, el, fz, F, rfl, hc0, hKg, hg, hs, hl, hz', hn, hc, hfz, hF, hh⟩
          · exact .inl ⟨none, 0, rfl, rfl, rfl⟩
          · refine .inr ⟨g, 0, cap, F, rfl, fun j hj => by rw [Nat.zero_add, z0s hg]; exact hF j hj, fun j t ht => ?_⟩
            have hp : z3x t = true := List.all_eq_true.1 hall t (List.mem_of_getElem? ht)
            refine ⟨(by cases t <;> first | rfl | cases hp), (hh j t ht).free hp⟩
        · cases hs
      · rename_i m' cs' hsub
        split at hs
        · rename_i hall
          cases hs
          obtain ⟨d1, d2⟩ := z1t (K := K) (R := R) h (e := .one (.h id p)) (u := u) (dep := none) (n := m) (cs := cs) ⟨n1, t0, n2, n3⟩ (by simp [zbC, hroot, hsub])
          refine z3s ?_
          rcases d2 with ⟨a, cap, rfl, hc, rfl, rfl⟩ | ⟨g, o, cap, F, rfl, hn, hc, hK, hg, hF, hh⟩
          · exact .inl ⟨a, cap, rfl, rfl, rfl⟩
          · exact .inr ⟨g, o, cap, F, rfl, hF, fun j t ht => ⟨List.all_eq_true.1 hall t (List.mem_of_getElem? ht), (hh j t ht).any rfl⟩⟩
        · cases hs
      · cases hs
    · split at hs
      · rename_i m' cs' hrd
        split at hs
        · rename_i hall
          cases hs
          obtain ⟨d1, d2⟩ := z1t h he hrd
          refine z3s ?_
          rcases d2 with ⟨a, cap, rfl, hc, rfl, rfl⟩ | ⟨g, o, cap, F, rfl, hn, hc, hK, hg, hF, hh⟩
          · exact .inl ⟨a, cap, rfl, rfl, rfl⟩
          · exact .inr ⟨g, o, cap, F, rfl, hF, fun j t ht => ⟨List.all_eq_true.1 hall t (List.mem_of_getElem? ht), (hh j t ht).any rfl⟩⟩
        · cases hs
      · rename_i i m' cs' hrd
        split at hs
        · rename_i hall
          cases hs
          obtain ⟨d1, d2⟩ := z1t h he hrd
          refine z3s ?_
          rcases d2 with ⟨a, cap, rfl, hc, rfl, rfl⟩ | ⟨g, o, cap, F, rfl, hn, hc, hK, hg, hF, hh⟩
          · exact .inl ⟨a, cap, rfl, rfl, rfl⟩
          · refine .inr ⟨g, o, cap, F, rfl, hF, fun j t ht => ?_⟩
            have hp := List.all_eq_true.1 hall t (List.mem_of_getElem? ht)
            cases t with
            | sc v =>
              have := (hh j _ ht)
              have e1 := this.sc_eq
              exact ⟨rfl, fun c => by rw [e1]; exact .sc c _ this.sc_B⟩
            | dead => cases hp
            | agg => cases hp
            | tup => cases hp
            | sl => cases hp
            | os => cases hp
            | vr => cases hp
            | mp => cases hp
            | mr => cases hp
            | mt => cases hp
            | ms => cases hp
            | vo => cases hp
            | pr => cases hp
            | cl => cases hp
        · cases hs
      · cases hs
def zbG (fr : Fr) (e : E) : Option (Nat × Nat × List A) :=
  match e with
  | .one (.h id []) => match z0i fr.ob id with
    | some (.os _ m cs) => some (id, m, z3k id [] 0 cs)
    | _ => none
  | _ => none
def zc1 : TypeDesc -> Bool
  | .int _ => true
  | _ => false
def z5v (P : Program) (fr : Fr) (d : Nat) (st xt : TypeId) (s x : Operand) : Option Fr :=
  match z0t P st, z0t P xt with
  | some ⟨.slice el, _, _, _⟩, some tx =>
    if zc1 tx.u then none else
    match z0t P el with
    | some ⟨u, size, bytes, some zs⟩ =>
      if zs.length = size /\ 0 < size /\ d < fr.nt then
        match zcH fr d (opE fr s) with
        | none => none
        | some fr1 =>
          match z0i fr1.ob d with
          | some (.os sz n cs) =>
            if sz = 0 ∨ sz = size then
              match zfb fr1 (opE fr1 x) with
              | some (m, news) =>
                if news.length = m * size /\ (n + m) * bytes <= 140737488355328 /\ n + m <= 4611686018427387904 then
                  some { fr1 with tm := z4t (z1m (kill d) fr1.tm) d (.one (.h d [])), ob := z0X fr1.ob d (.os size (n + m) (cs ++ news)) }
                else none
              | none => match zbG fr1 (opE fr1 x) with
                | some (e, m, xs) =>
                  if e ≠ d /\ xs.length = m * size /\ xs.length <= 1000 /\ xs.any z2W = true /\ xs.all (z2G fr1) = true /\ (n + m) * bytes <= 140737488355328 /\ n + m <= 4611686018427387904 then
                    zcR true { fr1 with tm := z4t (z1m (kill d) (putR fr1.tm fr1.nt xs)) d (.one (.h d [])), ob := z0X fr1.ob d (.os size (n + m) (cs ++ xs.map z2x)) } d (z1U [] cs.length fr1.nt xs)
                  else none
                | none => none
            else none
          | _ => none
      else none
    | _ => none
  | _, _ => none
def z6M (fr : Fr) (d : Nat) (s x : Operand) : Bool := match zcH fr d (opE fr s) with | some fr1 => (zfb fr1 (opE fr1 x)).isSome | none => false
theorem z5Z {P : Program} {w : World} {K : Nat -> z0a} {R G : Nat -> Value} {fr fr' : Fr} {a : Act} {d : Nat} {st xt ty : TypeId} {s x : Operand} (h : FRep w K R G fr a) (hf : z5v P fr d st xt s x = some fr') :
    ∃ v w', (Builtin.append_ #[st, xt] ty #[a.eval s, a.eval x]).run P w = .ok v w' /\ (∃ K' R', FRep w' K' R' G fr' (a.put (some d) v) /\ Step w K w' K' /\ (z6M fr d s x = true -> ∀ M : Nat -> Bool, M d = true -> (∀ i ∈ z6K (opE fr s), M i = true) -> ∀ b, b < w.heap.size -> KMc M (K b) (K' b))) /\ Stay w w' K (fun i => (z6K (opE fr s)).contains i) := by
  unfold z5v at hf
  split at hf
  case h_2 => cases hf
  case h_1 el s1 s2 s3 tx hst hxt =>
  split at hf
  · cases hf
  rename_i hni
  have hnx : ∀ k, tx.u ≠ .int k := fun k e => hni (by rw [e]; rfl)
  split at hf
  case h_2 => cases hf
  case h_1 u size bytes zs hti =>
  split at hf
  case isFalse => cases hf
  case isTrue hc1 =>
  obtain ⟨hzl, hpos, hd⟩ := hc1
  split at hf
  case h_1 => cases hf
  case h_2 fr1 hb =>
  obtain ⟨K1, R1, f1, st1, hv1, hnt, hcol⟩ := z9T h (h.opE s) hb
  split at hf
  case h_2 => cases hf
  case h_1 sz n cs hob =>
  split at hf
  case isFalse => cases hf
  case isTrue hsz =>
  have hrepd := f1.ob d _ hob
  rw [hv1] at hrepd
  have hstay : ∀ {w' : World} {K2 : Nat -> z0a}, Keep w w' K1 K2 (But d) -> Step w K1 w' K2 -> Stay w w' K (fun i => (z6K (opE fr s)).contains i) := fun {w' K2} hk hs b hb hc => by
    rcases hc with e | ⟨i, q, e, hi⟩
    · have := st1.old b hb (.inl e)
      exact (hk.fro b hb (by rw [this.1]; exact e)).2
    · rcases hcol b i q e (by simpa using hi) with ⟨e1, hne⟩ | ⟨e1, -⟩
      · exact (hk.own b hb ⟨i, q, by rw [e1, e], hne⟩).2
      · exact (hs.old b hb (.inr e1)).2
  have fin : ∀ (G1 : Nat -> Value) (tm1 : List (Nat × E)) (v' : Value) (w' : World) (news : List T) (m : Nat), FRep w K1 R1 G1 { fr1 with tm := tm1 } a ->
      TRep w' (fun b => if b = w.heap.size then col d else K1 b) (col d) v' (.os size (n + m) (cs ++ news)) -> Keep w w' K1 (fun b => if b = w.heap.size then col d else K1 b) (But d) ->
      FRep w' (fun b => if b = w.heap.size then col d else K1 b) (z2q R1 d v') G1 { fr1 with tm := z4t (z1m (kill d) tm1) d (.one (.h d [])), ob := z0X fr1.ob d (.os size (n + m) (cs ++ news)) } (a.put (some d) v') := fun G1 tm1 v' w' news m hf1 hr hk => by
    have h3 := hf1.replace (d := d) hk hr
    exact h3.put (d := d) (x := .one (.h d [])) (v := v') (show d < fr1.nt by omega) ⟨by simp [z2q, nav], .os size (n + m) (cs ++ news), by simp [z0c], rfl⟩
  split at hf
  · rename_i m news hsrc
    split at hf
    case isFalse => cases hf
    case isTrue hc2 =>
    cases hf
    obtain ⟨hnl, hby, hnm⟩ := hc2
    obtain ⟨us, us1⟩ := zbj (P := P) f1 (f1.opE x) hsrc
    obtain ⟨v', w', r1, r2, r3, r4, r5, r6, r7⟩ := z3p (ty := ty) (ti := ⟨u, size, bytes, some zs⟩) (zs := zs) hsz hst hti rfl hzl hpos hxt hnx (.inl hrepd) us1.len (fun w'' hw => us1.cells w'' size hw hnl) (by rw [us1.n]; exact hnl) us1.n.symm us1.one us1.rep hby hnm
    refine ⟨v', w', r1, ⟨_, _, fin G fr1.tm v' w' news m f1 r2 r3, st1.trans r4, fun _ M hMd hMb b hb hc => ?_⟩, hstay r3 r4⟩
    show (if b = w.heap.size then col d else K1 b) = [] ∨ _
    rw [if_neg (by omega)]
    rcases hc with e | ⟨i, q, e, hi⟩
    · exact .inl ((st1.old b hb (.inl e)).1.trans e)
    · rcases hcol b i q e (fun hh => by rw [hMb i hh] at hi; cases hi) with ⟨e1, hne⟩ | ⟨e1, e2⟩
      · exact .inr ⟨i, q, e1.trans e, hi⟩
      · subst e2; rw [hMd] at hi; cases hi
  · rename_i hnq
    split at hf
    case h_2 => cases hf
    case h_1 e m xs hown =>
    split at hf
    case isFalse => cases hf
    case isTrue hc2 =>
    obtain ⟨hed, hxl, hx1000, hany, hall, hby, hnm⟩ := hc2
    obtain ⟨us, F1, F2, F3, F4⟩ : ∃ us : List Value, us.length = xs.length /\ (∀ w'', (Builtin.lenOf (a.eval x)).run P w'' = .ok m w'') /\ (∀ w'' : World, w''.heap = w.heap -> (Builtin.firstCells size m (a.eval x)).run P w'' = .ok us.toArray w'') /\
        ∀ j y, xs[j]? = some y -> ARep w K1 R1 fr1.ob y (us.getD j undef) := by
      have hex := f1.opE x
      unfold zbG at hown
      split at hown
      · rename_i id hop
        split at hown
        · rename_i sz' m' cs' hobi
          cases hown
          rw [hop] at hex
          obtain ⟨n1, t0, n2, n3⟩ := hex
          simp only [nav, Option.some.injEq] at n1
          have hrep := f1.ob e _ hobi
          rw [n1] at hrep
          have hkid := fun j t (ht : cs'[j]? = some t) => z3E (R := R1) (p := []) (hv := a.eval x) hobi (by rfl) (by simp [nav, n1]) (by simpa using hrep) (j := j) (s := t) ht
          have hkl : (z3k e [] 0 cs').length = cs'.length := z1u
          rcases z4W hrep with ⟨hx, rfl, rfl⟩ | ⟨g, cap, arr, el', fz, F, hx, hc0, hKg, hg, hs, hl, hz', hn, hc, hfz, hF, hh⟩
          · refine ⟨[], by simp [z3k], fun w'' => by rw [hx]; simp [Builtin.lenOf], fun w'' _ => by rw [hx]; simp [Builtin.firstCells], fun j y hy => by simp [z3k] at hy⟩
          · refine ⟨(List.range cs'.length).map F, by rw [hkl]; simp, fun w'' => by rw [hx]; simp [Builtin.lenOf], fun w'' hw => ?_, fun j y hy => ?_⟩
            · have := run_loadCells_list (P := P) w'' ⟨g, 0, none⟩ ((List.range cs'.length).map F) (fun j v hv => by
                simp only [List.getElem?_map, Option.map_eq_some_iff] at hv
                obtain ⟨i, hi, rfl⟩ := hv
                obtain ⟨h2, h3⟩ := List.getElem?_eq_some_iff.1 hi
                simp at h2 h3; subst h3
                rw [z2l, z0d (w := w) (by rw [hw]), Nat.zero_add, z0s hg]
                exact hF _ h2)
              rw [hx]
              simp only [List.length_map, List.length_range] at this
              simp only [Builtin.firstCells]
              rw [← hxl, hkl]; exact this
            · rw [z2v] at hy
              cases ht : cs'[j]? with
              | none => rw [ht] at hy; cases hy
              | some t =>
                rw [ht] at hy
                simp only [Option.map_some, Option.some.injEq, Nat.zero_add] at hy
                subst hy
                obtain ⟨v, k1, k2⟩ := hkid j t ht
                have hlt := (List.getElem?_eq_some_iff.1 ht).1
                have hvF : v = F j := by
                  rw [hx] at k1
                  simp only [z4q, z0s hg, hF j hlt, Option.some.injEq] at k1
                  exact k1.symm
                rw [hvF] at k2
                simpa [List.getD, hlt] using k2
        · cases hown
      · cases hown
    have hone : ∀ v ∈ us, v.oneCell' = true := fun v hv => by
      obtain ⟨j, hj, rfl⟩ := List.getElem_of_mem hv
      have hjx : j < xs.length := by omega
      have := f1.one (F4 j xs[j] (List.getElem?_eq_getElem hjx)) (List.all_eq_true.1 hall _ (List.getElem_mem hjx))
      simpa [List.getD, hj] using this
    obtain ⟨v', w', r1, r2, r3, r4, r5, r6, r7⟩ := z3p (ty := ty) (ti := ⟨u, size, bytes, some zs⟩) (zs := zs) (news := xs.map z2x) hsz hst hti rfl hzl hpos hxt hnx (.inl hrepd) F2 F3 (by rw [F1]; exact hxl) (by simp [F1]) hone (fun j t v ht hv => by
      simp only [List.getElem?_map, Option.map_eq_some_iff] at ht
      obtain ⟨y, hy, rfl⟩ := ht
      have := F4 j y hy
      have e1 : us.getD j undef = v := by simp [List.getD, hv]
      rw [e1] at this
      exact z5d this []) hby hnm
    have h5 := fin (gv G fr1.nt (fun j => us.getD j undef) xs.length) _ v' w' (xs.map z2x) m (f1.putR (Nat.le_refl _) F4) r2 r3
    obtain ⟨K2, R2, e1, e2, e3, _⟩ := h5.fin (mv := true) (l := z1U [] cs.length fr1.nt xs) (fun q r hm => by
      obtain ⟨j, j1, rfl, rfl⟩ := z3w hm
      refine ⟨?_, by omega⟩
      have hju : j < us.length := by omega
      rw [z6e a _ d v' (by rw [h.nt]; exact hd), if_neg (by omega)]
      have hreg : z2m a (gv G fr1.nt (fun j => us.getD j undef) xs.length) (fr1.nt + j) = us[j] := by
        rw [z2m, if_neg (by rw [h.nt]; omega)]
        simp only [gv]
        rw [if_pos (by omega), show fr1.nt + j - fr1.nt = j by omega]
        simp [List.getD, hju]
      rw [hreg]
      have := r7 j us[j] (List.getElem?_eq_getElem hju)
      rw [r5]
      simp only [List.nil_append, nav, z2q, if_true]
      simp only [] at this
      rw [this]) hf
    refine ⟨v', w', r1, ⟨K2, R2, e1.reG fun i hi => ?_, (st1.trans r4).trans e2, fun hq => by simp [z6M, hb, hnq] at hq⟩, hstay r3 r4⟩
    have e3' : fr'.nt = fr1.nt := e3
    by_cases hlt : i < fr'.nt + 1000
    · exact .inl (z5m hf (z4w hany) i hi hlt)
    · right; simp only [gv]; rw [if_neg (by omega)]
def z6L (P : Program) (fr : Fr) (d : Nat) (st xt : TypeId) (n : Nat) (cs : List T) (x : Operand) : Option Fr :=
  match z0t P st, z0t P xt with
  | some ⟨.slice el, _, _, _⟩, some tx =>
    if zc1 tx.u then none else
    match z0t P el with
    | some ⟨u, size, bytes, some zs⟩ =>
      if zs.length = size /\ 0 < size /\ d < fr.nt then
        match zfb { fr with tm := z1m (kill d) fr.tm, ob := z0X fr.ob d (.os 0 0 []) } (opE { fr with tm := z1m (kill d) fr.tm, ob := z0X fr.ob d (.os 0 0 []) } x) with
        | some (m, news) =>
          if 0 < m /\ 0 < n /\ cs.length = n * size /\ news.length = m * size /\ (n + m) * bytes <= 140737488355328 /\ n + m <= 4611686018427387904 then
            some { fr with tm := z4t (z1m (kill d) (z1m (kill d) fr.tm)) d (.one (.h d [])), ob := z0X (z0X fr.ob d (.os 0 0 [])) d (.os size (n + m) (cs ++ news)) }
          else none
        | none => none
      else none
    | _ => none
  | _, _ => none
theorem z8R {P : Program} {w : World} {K : Nat -> z0a} {R G : Nat -> Value} {fr fr' : Fr} {a : Act} {d n : Nat} {cs : List T} {st xt ty : TypeId} {s x : Operand} (h : FRep w K R G fr a) (hs : opE fr s = .one (.tf n cs)) (hf : z6L P fr d st xt n cs x = some fr') :
    ∃ v w', (Builtin.append_ #[st, xt] ty #[a.eval s, a.eval x]).run P w = .ok v w' /\ ∃ K' R', FRep w' K' R' G fr' (a.put (some d) v) /\ Step w K w' K' := by
  have hes := h.opE s
  rw [hs] at hes
  obtain ⟨⟨p, hp⟩, hrep⟩ := hes
  unfold z6L at hf
  split at hf
  case h_2 => cases hf
  case h_1 el s1 s2 s3 tx hst hxt =>
  split at hf
  · cases hf
  rename_i hni
  have hnx : ∀ k, tx.u ≠ .int k := fun k e => hni (by rw [e]; rfl)
  split at hf
  case h_2 => cases hf
  case h_1 u size bytes zs hti =>
  split at hf
  case isFalse => cases hf
  case isTrue hc1 =>
  obtain ⟨hzl, hpos, hd⟩ := hc1
  obtain ⟨K1, R1, f1, st1, hv1, hnt, hcol⟩ := z9T (d := d) (e := .one (.k (.slice none 0 0))) (v := .slice none 0 0) h rfl rfl
  split at hf
  case h_2 => cases hf
  case h_1 m news hsrc =>
  split at hf
  case isFalse => cases hf
  case isTrue hc2 =>
  cases hf
  obtain ⟨hm, hn0, hcl, hnl, hby, hnm⟩ := hc2
  obtain ⟨us, us1⟩ := zbj (P := P) f1 (f1.opE x) hsrc
  have hr1 : TRep w K1 [] (a.eval s) (.sl n cs) := TRep.fz hrep (fun b hb e => ⟨(st1.old b hb (.inl e)).1.trans e, rfl⟩) (Nat.le_refl _)
  obtain ⟨v', w', r1, r2, r3, r4, r5, r6, r7⟩ := z3p (d := d) (ty := ty) (sz := 0) (ti := ⟨u, size, bytes, some zs⟩) (zs := zs) (.inl rfl) hst hti rfl hzl hpos hxt hnx (.inr ⟨hm, hn0, ⟨p, hp⟩, hr1, hcl⟩) us1.len (fun w'' hw => us1.cells w'' size hw hnl) (by rw [us1.n]; exact hnl) us1.n.symm us1.one us1.rep hby hnm
  have h3 := f1.replace (d := d) r3 r2
  have h4 := h3.put (d := d) (x := .one (.h d [])) (v := v') (show d < fr.nt by omega) ⟨by simp [z2q, nav], .os size (n + m) (cs ++ news), by simp [z0c], rfl⟩
  exact ⟨v', w', r1, _, _, h4, st1.trans r4⟩
end
section
theorem z8A {w : World} {g n : Nat} {cs : Array Value} {el : TypeId} (hg : w.heap[g]? = some (.cells cs el (0, 0))) (b : Nat) :
    (w.freeze ⟨g, n, none⟩ 1).heap[b]? = if b = g then some (.cells cs el (n, n + 1)) else w.heap[b]? := by
  simp only [World.freeze]
  rw [if_neg (by decide)]
  simp only [z2i]
  by_cases h : g = b
  · subst h; simp [hg]
  · rw [if_neg h, if_neg (fun e => h e.symm)]
def z9R (P : Program) (fr : Fr) (src dst : TypeId) (e : E) (d : Nat) : Option Fr :=
  match z0t P src, z0t P dst with
  | some ⟨.string, _, _, _⟩, some ⟨.slice el, _, _, _⟩ => match z0t P el with
    | some ⟨.int .u8, _, _, _⟩ => (match rdV e with
      | some (.string s) => if s.size <= 140737488355328 then zdk fr d (fun _ => .os 1 s.size (s.data.toList.map fun b => .sc (.int .u8 b.toNat))) (.one (.h d [])) [] else none
      | _ => none)
    | _ => none
  | _, _ => none
theorem zcD {P : Program} {w : World} {K : Nat -> z0a} {R G : Nat -> Value} {fr fr' : Fr} {a : Act} {src dst : TypeId} {e : E} {u : Value} {d : Nat} (h : FRep w K R G fr a) (he : ERep w K R fr.ob e u) (hf : z9R P fr src dst e d = some fr') :
    ∃ v w', (convert src dst u).run P w = .ok v w' /\ (∃ K' R', FRep w' K' R' G fr' (a.put (some d) v) /\ Step w K w' K') /\ ∀ b, b < w.heap.size -> w'.heap[b]? = w.heap[b]? := by
  unfold z9R at hf
  split at hf
  case h_2 => cases hf
  case h_1 s1 s2 s3 el s4 s5 s6 h1 h2 =>
  split at hf
  case h_2 => cases hf
  case h_1 s7 s8 s9 h3 =>
  split at hf
  case h_2 => cases hf
  case h_1 s hs =>
  split at hf
  case isFalse => cases hf
  case isTrue hsz =>
  obtain ⟨rfl, -⟩ := z0e he hs
  have hu1 := z0j h1 w
  have hu2 := z0j h2 w
  have hu3 := z0j h3 w
  simp only [] at hu1 hu2 hu3
  let nc := grownCap w s.size 0 el
  have hnc : s.size <= nc := grownCap_ge w s.size 0 el
  have hncm : nc <= maxLen := grownCap_le_maxLen w s.size 0 el (by unfold maxLen; omega)
  let arr : Array Value := (s.data.map fun b => Value.int .u8 b.toNat) ++ Array.replicate (nc - s.size) (.int .u8 0)
  have harr : arr.size = nc := by
    simp only [arr, Array.size_append, Array.size_map, Array.size_replicate]
    show s.size + (nc - s.size) = nc; omega
  let w0 : World := { w with drawn := w.drawn + 1, heap := w.heap.push (.cells arr el) }
  let w1 : World := w0.freeze ⟨w.heap.size, nc, none⟩ 1
  have hg0 : w0.heap[w.heap.size]? = some (.cells arr el (0, 0)) := by
    show (w.heap.push _)[w.heap.size]? = _
    rw [Array.getElem?_push, if_pos rfl]
  have hh := z8A (n := nc) hg0
  have hfz : w1.os = w.os /\ w1.tape = w.tape /\ w1.output = w.output := by
    simp only [w1, World.freeze]; rw [if_neg (by decide)]; exact ⟨rfl, rfl, rfl⟩
  have hnew : NewB w w1 (.cells arr el (nc, nc + 1)) := by
    refine ⟨hfz.1, hfz.2.1, hfz.2.2, ?_⟩
    apply Array.ext_getElem?
    intro b
    by_cases e : b = w.heap.size
    · rw [show w1.heap[b]? = _ from hh b, if_pos e, Array.getElem?_push, if_pos e]
    · rw [show w1.heap[b]? = _ from hh b, if_neg e]
      show (w.heap.push _)[b]? = _
      rw [Array.getElem?_push, if_neg e, Array.getElem?_push, if_neg e]
  have hrun : (convert src dst (.string s)).run P w = .ok (.slice (some ⟨w.heap.size, 0, none⟩) s.size nc) w1 := by
    have hch : (choose (.appendCap s.size 0 el)).run P w = .ok nc { w with drawn := w.drawn + 1 } := by
      simp [choose, Sem.run, Question.forced, nc, grownCap]
    simp only [convert, Sem.run_bind, hu1, hu2, hu3, Result.andThen_ok, Conv.stringToBytes, hch]
    have hshape : w0.shape? w.heap.size = some (el, nc) := by simp [World.shape?, hg0, harr]
    have hpush : (newRow el (s.data.map (fun b => Value.int .u8 b.toNat) ++ Array.replicate (nc - s.size) (.int .u8 0))).run P { w with drawn := w.drawn + 1 } = .ok ⟨w.heap.size, 0, none⟩ w0 := by
      simp [newRow, newObj, Sem.run, w0, arr]
      exact And.intro rfl (And.intro rfl rfl)
    rw [hpush]
    simp only [Result.andThen_ok]
    have hmark : (markStringish ⟨w.heap.size, 0, none⟩).run P w0 = .ok () w1 := by
      simp [markStringish, shape, Sem.run, hshape, freeze, w1]
    rw [hmark]
    rfl
  refine ⟨_, w1, hrun, ?_, fun b hb => hnew.old hb⟩
  refine h.newObj hnew (xs := []) (fun j x hx => by cases hx) (Nat.zero_le _) (.inr ⟨_, _, rfl⟩) (fun w' K' cs F hl hK hg hF hk => ?_) (.inl rfl) (fun e => by cases e) hf
  refine .own (col d) _ s.size nc 1 _ arr el (nc, nc + 1) (fun j => arr.getD j undef) (fun i hi => by simp only []; omega) (z0f d) hK hg (by omega) (by simp) (by decide) hnc hncm (fun j hj => z0F _ _ (by
    rw [harr]; simp at hj; exact Nat.lt_of_lt_of_le hj hnc)) (fun j t hj => ?_)
  simp only [List.getElem?_map, Option.map_eq_some_iff, Array.getElem?_toList] at hj
  obtain ⟨b, hb, rfl⟩ := hj
  have hlt := (Array.getElem?_eq_some_iff.1 hb).1
  have : arr.getD j undef = .int .u8 b.toNat := by
    rw [Array.getD_eq_getD_getElem?]
    simp only [arr, Array.getElem?_append, Array.size_map]
    rw [if_pos hlt]
    simp [hb]
  rw [this]
  exact .sc _ _ rfl
theorem zcf {w : World} {g n lo hi : Nat} {cs : Array Value} {el : TypeId} (hg : w.heap[g]? = some (.cells cs el (lo, hi))) (b : Nat) :
    (w.freeze ⟨g, n, none⟩ 1).heap[b]? = if b = g then some (.cells cs el (if lo == hi then (n, n + 1) else (min lo n, max hi (n + 1)))) else w.heap[b]? := by
  simp only [World.freeze]
  rw [if_neg (by decide)]
  simp only [z2i]
  by_cases h : g = b
  · subst h; simp [hg]
  · rw [if_neg h, if_neg (fun e => h e.symm)]
def zdn (P : Program) (fr : Fr) (src dst : TypeId) (e : E) (d : Nat) : Option Fr :=
  match z0t P src with
  | some ⟨.slice el, _, _, _⟩ => (match z0t P el, e with
    | some ⟨.int .u8, _, _, _⟩, .one (.h id []) => if src = dst /\ d < fr.nt then (match z0i fr.ob id with
      | some (.os sz n cs) => if n = 0 then none else some { fr with tm := z4t (z1m (kill id) fr.tm) d (.one (.h id [])), ob := z0X fr.ob id (.os sz n cs) }
      | _ => none) else none
    | _, _ => none)
  | _ => none
theorem zdm {P : Program} {w : World} {K : Nat -> z0a} {R G : Nat -> Value} {fr fr' : Fr} {a : Act} {src dst : TypeId} {e : E} {u : Value} {d : Nat} (h : FRep w K R G fr a) (he : ERep w K R fr.ob e u) (hf : zdn P fr src dst e d = some fr') :
    src = dst /\ ∃ v w', (convert src dst u).run P w = .ok v w' /\ (∃ K' R', FRep w' K' R' G fr' (a.put (some d) v) /\ Step w K w' K') := by
  unfold zdn at hf
  split at hf
  case h_2 => cases hf
  case h_1 el s1 s2 s3 h1 =>
  split at hf
  case h_2 => cases hf
  case h_1 s4 s5 s6 id h2 =>
  split at hf
  case isFalse => cases hf
  case isTrue hsd =>
  obtain ⟨rfl, hd⟩ := hsd
  split at hf
  case h_2 => cases hf
  case h_1 sz n cs hob =>
  split at hf
  case isTrue => cases hf
  case isFalse hn0 =>
  cases hf
  obtain ⟨hu, -⟩ := he
  simp only [nav, Option.some.injEq] at hu
  have hr := h.ob id _ hob
  have hu1 := z0j h1 w
  have hu2 := z0j h2 w
  simp only [] at hu1 hu2
  subst hu
  generalize hT : T.os sz n cs = t at hr
  generalize hV : R id = v at hr
  generalize hC : col id = c at hr
  cases hr with
  | nil c sz => injection hT; omega
  | own c g n' cap size cs' arr e fz F hfz hc0 hK hg hs hl hz hn hc hF hh =>
    injection hT with t1 t2 t3
    subst t1
    subst t2
    subst t3
    subst hC
    obtain ⟨lo, up⟩ := fz
    have hw := zcf (n := arr.size) hg
    let w' : World := w.freeze ⟨g, arr.size, none⟩ 1
    have hw' : ∀ b, b ≠ g -> w'.heap[b]? = w.heap[b]? := fun b hb => by
      show (w.freeze _ 1).heap[b]? = _
      rw [hw b, if_neg hb]
    have hsame : w'.os = w.os /\ w'.tape = w.tape /\ w'.output = w.output /\ w'.heap.size = w.heap.size := by
      simp only [w', World.freeze]; rw [if_neg (by decide)]; exact ⟨rfl, rfl, rfl, by simp⟩
    have hrun : (convert src src (.slice (some ⟨g, 0, none⟩) n cap)).run P w = .ok (.slice (some ⟨g, 0, none⟩) n cap) w' := by
      have hshape : w.shape? g = some (e, arr.size) := by simp [World.shape?, hg]
      have hmark : (markStringish ⟨g, 0, none⟩).run P w = .ok () w' := by
        simp [markStringish, shape, Sem.run, hshape, freeze, w']
      simp [convert, Sem.run_bind, hu1, hu2, Result.andThen_ok, hmark]
    refine ⟨rfl, _, w', hrun, K, z2q R id (.slice (some ⟨g, 0, none⟩) n cap), ?_, ⟨hsame.1, hsame.2.1, hsame.2.2.1, by omega, fun b hb hcc => ⟨rfl, hw' b (fun eb => ?_)⟩, .one hg ((hw g).trans (if_pos rfl)) rfl hw'⟩⟩
    · have hT2 : TRep w' K (col id) (.slice (some ⟨g, 0, none⟩) n cap) (.os sz n cs) := by
        refine .own (col id) g n cap sz cs arr e _ F ?_ hc0 hK ((hw g).trans (if_pos rfl)) hs hl hz hn hc hF (fun j t ht => ?_)
        · intro i hi5
          have h4 := hfz i hi5
          simp only at h4
          by_cases hlh : lo = up
          · subst hlh; simp; omega
          · rw [if_neg (by simpa using hlh)]
            simp only
            omega
        · refine (hh j t ht).move (fun b s hb _ hKb => ⟨hKb, hw' b (fun eb => ?_)⟩) (fun b hb hKb => ⟨hKb, hw' b (fun eb => ?_)⟩) Iff.rfl (by omega)
          · subst eb
            rw [hK] at hKb
            simp [col] at hKb
          · subst eb
            rw [hK] at hKb
            simp [col] at hKb
      have hk : Keep w w' K K (But id) := ⟨fun b hb hKb => ⟨hKb, hw' b (fun eb => by subst eb; rw [hK] at hKb; simp [col] at hKb)⟩, fun b hb ⟨i, s, hKb, hi⟩ => ⟨rfl, hw' b (fun eb => by subst eb; rw [hK] at hKb; simp [col] at hKb; exact hi hKb.1.symm)⟩, by omega⟩
      have h3 := (h.replace hk hT2).put (d := d) (x := .one (.h id [])) (v := .slice (some ⟨g, 0, none⟩) n cap) hd ⟨by simp [z2q, nav], .os sz n cs, by simp [z0c], rfl⟩
      exact h3
    · subst eb
      rw [hK] at hcc
      rcases hcc with hcc | hcc <;> simp [col] at hcc
  | _ => cases hT
def zgt (P : Program) (fr : Fr) (o : Oper) : Option Fr :=
  match o.dst with
  | some d => (match o.op with
    | .alloc t => z9X P fr t d
    | .box t x => zgv P fr t (opE fr x) d
    | .buildSlice t n parts => z0E P fr t n parts.toList d
    | .makeSlice t l c => (match rdV (opE fr l), rdV (opE fr c) with | some (.int _ l), some (.int _ c) => z1H P fr t l c d | _, _ => none)
    | .convert s t x => (match zdn P fr s t (opE fr x) d with | some fr' => some fr' | none => if s = t then none else z9R P fr s t (opE fr x) d)
    | .call { callee := .builtin .append, args, argTypes } => (match args.toList, argTypes.toList with | [s, x], [st, xt] => (match opE fr s with | .one (.tf n cs) => z6L P fr d st xt n cs x | _ => z5v P fr d st xt s x) | _, _ => none)
    | _ => none)
  | none => (match o.op with
    | .store t ad x => zbh P fr t (opE fr ad) (opE fr x)
    | _ => none)
def z8N (o : Oper) : Bool :=
  match o.op with
  | .store _ _ _ => false
  | .call _ => false
  | .convert s t _ => s != t
  | _ => true
theorem zf1 {P : Program} {w : World} {K : Nat -> z0a} {R G : Nat -> Value} {fr fr' : Fr} {a : Act} {o : Oper} (h : FRep w K R G fr a) (hf : zgt P fr o = some fr') :
    ∃ r w', (execOp a.eval o).run P w = .ok r w' /\ ((∃ v, r = .value v /\ ∃ K' R', FRep w' K' R' G fr' (a.put o.dst v) /\ Step w K w' K') ∨ (r = .skip /\ o.dst = none /\ ∃ K' R', FRep w' K' R' G fr' a /\ Step w K w' K')) /\ (z8N o = true -> ∀ b, b < w.heap.size -> w'.heap[b]? = w.heap[b]?) := by
  have lift : ∀ {s : Sem Value} {v : Value} {w'}, s.run P w = .ok v w' -> (do pure (Next.value (← s)) : Sem Next).run P w = .ok (.value v) w' := fun {s v w'} hs => by
    simp only [Sem.run_bind, hs, Result.andThen_ok, Sem.run_pure]
  unfold zgt at hf
  split at hf
  · rename_i d hd
    split at hf
    · rename_i t hop
      obtain ⟨v, w', h1, h2, h3⟩ := zcM h hf
      exact ⟨_, w', by simp only [execOp, hop]; exact lift h1, .inl ⟨v, rfl, by rw [hd]; exact h2⟩, fun _ => h3⟩
    · rename_i t x hop
      obtain ⟨v, w', h1, h2, h3⟩ := zf5 h (h.opE x) hf
      exact ⟨_, w', by simp only [execOp, hop]; exact lift h1, .inl ⟨v, rfl, by rw [hd]; exact h2⟩, fun _ => h3⟩
    · rename_i t n parts hop
      obtain ⟨v, w', h1, h2, h3⟩ := z5E h hf
      refine ⟨_, w', ?_, .inl ⟨v, rfl, by rw [hd]; exact h2⟩, fun _ => h3⟩
      simp only [execOp, hop]
      refine lift ?_
      have : parts.map (fun (x : Nat × Operand) => (x.1, a.eval x.2)) = (parts.toList.map fun (i, x) => (i, a.eval x)).toArray := by
        apply Array.ext'; simp
      rw [this]; exact h1
    · rename_i t l c hop
      split at hf
      · rename_i k l' k' c' hl hc
        obtain ⟨e1, -⟩ := z0e (h.opE l) hl
        obtain ⟨e2, -⟩ := z0e (h.opE c) hc
        obtain ⟨v, w', h1, h2, h3⟩ := z6p (k := k) (k' := k') h hf
        exact ⟨_, w', by simp only [execOp, hop, e1, e2]; exact lift h1, .inl ⟨v, rfl, by rw [hd]; exact h2⟩, fun _ => h3⟩
      · cases hf
    · rename_i s t x hop
      split at hf
      · rename_i fr1 hm
        cases hf
        obtain ⟨rfl, v, w', h1, h2⟩ := zdm h (h.opE x) hm
        exact ⟨_, w', by simp only [execOp, hop]; exact lift h1, .inl ⟨v, rfl, by rw [hd]; exact h2⟩, fun hc => by simp [z8N, hop] at hc⟩
      · split at hf
        · cases hf
        · obtain ⟨v, w', h1, h2, h3⟩ := zcD h (h.opE x) hf
          exact ⟨_, w', by simp only [execOp, hop]; exact lift h1, .inl ⟨v, rfl, by rw [hd]; exact h2⟩, fun _ => h3⟩
    · rename_i args ats hop
      split at hf
      · rename_i s x st xt ha ht
        obtain rfl : args = #[s, x] := by apply Array.ext'; simpa using ha
        obtain rfl : ats = #[st, xt] := by apply Array.ext'; simpa using ht
        split at hf
        · rename_i n cs htf
          obtain ⟨v, w', h1, K', R', i1, i2⟩ := z8R (ty := o.type) h htf hf
          refine ⟨_, w', ?_, .inl ⟨v, rfl, by rw [hd]; exact ⟨K', R', i1, i2⟩⟩, fun hc => by simp [z8N, hop] at hc⟩
          simp only [execOp, hop, resolve, Sem.run_bind, Sem.run_pure, Result.andThen_ok, invoke, builtin]
          simp [h1]
        · obtain ⟨v, w', h1, h2, _⟩ := z5Z (ty := o.type) h hf
          refine ⟨_, w', ?_, .inl ⟨v, rfl, by rw [hd]; obtain ⟨K', R', i1, i2, _⟩ := h2; exact ⟨K', R', i1, i2⟩⟩, fun hc => by simp [z8N, hop] at hc⟩
          simp only [execOp, hop, resolve, Sem.run_bind, Sem.run_pure, Result.andThen_ok, invoke, builtin]
          simp [h1]
      · cases hf
    · cases hf
  · rename_i hd
    split at hf
    · rename_i t ad x hop
      obtain ⟨w', h1, h2, _⟩ := zbg h (h.opE ad) (h.opE x) hf
      refine ⟨.skip, w', ?_, .inr ⟨rfl, hd, h2⟩, fun hc => by simp [z8N, hop] at hc⟩
      simp only [execOp, hop, Sem.run_bind, h1, Result.andThen_ok, Sem.run_pure]
    · cases hf
theorem FRep.reput {w : World} {K : Nat -> z0a} {R G : Nat -> Value} {fr : Fr} {a : Act} (h : FRep w K R G fr a) {d : Nat} {x : E} (hx : ERep w K R fr.ob x (z2m a G d)) : FRep w K R G { fr with tm := z4t fr.tm d x } a := by
  refine ⟨fun i => ?_, h.ob, h.nt, h.df⟩
  rw [z6y]
  split
  · rename_i e; subst e; exact hx
  · exact h.tm i
def zeP (fr : Fr) (d : Nat) : Option Fr :=
  match z0Q fr d [] with
  | some fr2 => (match z0n fr2.tm d with | .one (.t none (.sl n cs)) => some { fr2 with tm := z4t fr2.tm d (.one (.tf n cs)) } | _ => none)
  | none => none
def z2U (P : Program) (fr : Fr) (t : TypeId) (n : Nat) (parts : List (Nat × Operand)) (d : Nat) : Option Fr :=
  match z0E P fr t n parts d with
  | some fr1 => zeP fr1 d
  | none => none
theorem z6I {P : Program} {w : World} {K : Nat -> z0a} {R G : Nat -> Value} {fr fr' : Fr} {a : Act} {t : TypeId} {n d : Nat} {parts : List (Nat × Operand)} (h : FRep w K R G fr a) (hd : d < fr.nt) (hf : z2U P fr t n parts d = some fr') :
    ∃ v w', (Instr.buildSlice t n (parts.map fun (i, x) => (i, a.eval x)).toArray).run P w = .ok v w' /\ ∃ K' R', FRep w' K' R' G fr' (a.put (some d) v) /\ Step w K w' K' := by
  unfold z2U at hf
  split at hf
  case h_2 => cases hf
  case h_1 fr1 h1 =>
  obtain ⟨v, w', ⟨p, hp⟩, h2, ⟨K', R', h3, h4, _⟩, _⟩ := z2H h h1
  unfold zeP at hf
  split at hf
  case h_2 => cases hf
  case h_1 fr2 hz =>
  split at hf
  case h_2 => cases hf
  case h_1 n' cs hg =>
  cases hf
  have h5 := (h3.freeze hz).1
  have h6 := h5.tm d
  rw [hg] at h6
  have hv : z2m (a.put (some d) v) G d = v := by rw [z6e a G d v (by rw [h.nt]; exact hd), if_pos rfl]
  have h7 := h6.1
  rw [hv, hp] at h7
  have hn : n' = n := by
    generalize hvv : Value.slice p n n = vv at h7
    generalize htt : T.sl n' cs = tt at h7
    cases h7 <;> first | (cases htt; cases hvv; rfl) | cases htt
  subst hn
  have h8 := h5.reput (d := d) (x := .one (.tf n' cs)) ⟨⟨p, by rw [hv, hp]⟩, h6.1⟩
  exact ⟨v, w', h2, _, _, h8, h4.trans (z2Q d [])⟩
def zgc (P : Program) (fr : Fr) (ty : TypeId) (d : Nat) : Option Fr :=
  match z0n fr.tm d with
  | .one (.h id p) =>
    if id = d then some fr
    else if p = [] || zeL (z0i fr.ob id) then z3N fr id p d
    else some fr
  | .one (.k (.slice none 0 0)) =>
    (match z0t P ty with
    | some ⟨.slice el, _, _, _⟩ => (match z0t P el with
      | some ti => some { fr with tm := z4t (z1m (kill d) fr.tm) d (.one (.h d [])), ob := z0X fr.ob d (.os ti.size 0 []) }
      | none => some fr)
    | _ => some fr)
  | _ => some fr
theorem zcK {P : Program} {w : World} {K : Nat -> z0a} {R G : Nat -> Value} {fr fr' : Fr} {a : Act} {ty : TypeId} {d : Nat} (h : FRep w K R G fr a) (hf : zgc P fr ty d = some fr') : ∃ K' R', FRep w K' R' G fr' a /\ Step w K w K' /\ fr'.nt = fr.nt /\ (∀ b i s, K b = (i + 2) :: s -> K' b = K b ∨ True) := by
  unfold zgc at hf
  split at hf
  · split at hf
    · cases hf; exact ⟨K, R, h, Step.refl _ _, rfl, fun _ _ _ _ => .inr trivial⟩
    · split at hf
      · obtain ⟨vp, t, h1, h2, h3⟩ := h.take hf
        exact ⟨_, _, h3, z4u _ _ _, z8X hf, fun _ _ _ _ => .inr trivial⟩
      · cases hf; exact ⟨K, R, h, Step.refl _ _, rfl, fun _ _ _ _ => .inr trivial⟩
  · rename_i hg
    split at hf
    · split at hf
      · rename_i ti hti
        cases hf
        have hreg := h.tm d
        rw [hg] at hreg
        have hreg' : z2m a G d = .slice none 0 0 := hreg
        have h3 := h.replace (d := d) (w' := w) (K' := fun b => if (K b).head? = some (d + 2) then [1] else K b) (v := .slice none 0 0) (t := .os ti.size 0 []) ⟨fun b hb e => ⟨by simp [e], rfl⟩, fun b hb ⟨i, s, e, hi⟩ => ⟨by simp [e, hi], rfl⟩, Nat.le_refl _⟩ (.nil _ _)
        refine ⟨_, _, h3.reput ⟨by rw [hreg']; simp [z2q, nav], .os ti.size 0 [], by simp [z0c], rfl⟩, ⟨rfl, rfl, rfl, Nat.le_refl _, fun b hb hc => ⟨?_, rfl⟩, .same rfl⟩, rfl, fun _ _ _ _ => .inr trivial⟩
        rcases hc with e | e <;> simp [e]
      · cases hf; exact ⟨K, R, h, Step.refl _ _, rfl, fun _ _ _ _ => .inr trivial⟩
    · cases hf; exact ⟨K, R, h, Step.refl _ _, rfl, fun _ _ _ _ => .inr trivial⟩
  · cases hf; exact ⟨K, R, h, Step.refl _ _, rfl, fun _ _ _ _ => .inr trivial⟩
end
section
mutual
def opn : T -> Bool
  | .sc _ => false
  | .dead => false
  | .agg cs => z5z cs
  | .tup cs => z5z cs
  | .sl n cs => !(n == 0 && cs.isEmpty)
  | .os _ _ cs => z5z cs
  | .vr cs => z5z cs
  | .vo _ cs => z5z cs
  | .pr _ => true
  | .mp _ _ => false
  | .mr _ _ => true
  | .mt _ _ _ => true
  | .ms _ _ _ => true
  | .cl _ cs => z5z cs
def z5z : List T -> Bool
  | [] => false
  | t :: ts => opn t || z5z ts
end
theorem z2M : ∀ {cs : List T} {t : T} {j : Nat}, z5z cs = false -> cs[j]? = some t -> opn t = false
  | [], t, j, h, hj => by simp at hj
  | c :: cs, t, 0, h, hj => by
    simp only [z5z, Bool.or_eq_false_iff] at h
    simp at hj; subst hj; exact h.1
  | c :: cs, t, j + 1, h, hj => by
    simp only [z5z, Bool.or_eq_false_iff] at h
    exact z2M h.2 (by simpa using hj)
theorem TRep.moveC {w w' : World} {K K' : Nat -> z0a} {c : z0a} {v : Value} {t : T} (h : TRep w K c v t) : opn t = false -> ∀ {c' : z0a},
    (∀ b s, b < w.heap.size -> c ≠ [] -> K b = c ++ s -> K' b = c' ++ s /\ w'.heap[b]? = w.heap[b]?) -> (c = [] ↔ c' = []) -> w.heap.size <= w'.heap.size -> TRep w' K' c' v t := by
  induction h with
  | sc c v h => intro _ c' _ _ _; exact .sc c' v h
  | dead c v => intro _ c' _ _ _; exact .dead c' v
  | agg c vs cs F hl hF h ih =>
    intro ho c' h1 h3 h4
    refine .agg c' vs cs F hl hF (fun j t ht => ih j t ht (z2M ho ht) ?_ ?_ h4)
    · intro b s hb hc hK
      by_cases hc0 : c = []
      · subst hc0; exact absurd rfl hc
      · have hc0' : c' ≠ [] := fun e => hc0 (h3.2 e)
        rw [z1i hc0] at hK
        rw [z1i hc0']
        have := h1 b (j :: s) hb hc0 (by simpa using hK)
        exact ⟨by simpa using this.1, this.2⟩
    · cases c with
      | nil => have := h3.1 rfl; subst this; simp [ext]
      | cons a c => cases c' with
        | nil => have := h3.2 rfl; cases this
        | cons a' c' => simp [ext]
  | tup c vs cs F hl hF h ih =>
    intro ho c' h1 h3 h4
    refine .tup c' vs cs F hl hF (fun j t ht => ih j t ht (z2M ho ht) ?_ ?_ h4)
    · intro b s hb hc hK
      by_cases hc0 : c = []
      · subst hc0; exact absurd rfl hc
      · have hc0' : c' ≠ [] := fun e => hc0 (h3.2 e)
        rw [z1i hc0] at hK
        rw [z1i hc0']
        have := h1 b (j :: s) hb hc0 (by simpa using hK)
        exact ⟨by simpa using this.1, this.2⟩
    · cases c with
      | nil => have := h3.1 rfl; subst this; simp [ext]
      | cons a c => cases c' with
        | nil => have := h3.2 rfl; cases this
        | cons a' c' => simp [ext]
  | emp c a cap hc => intro _ c' _ _ _; exact .emp c' a cap hc
  | fro c g o n cap cs F hK hg hn hc hF h ih =>
    intro ho c' h1 h3 h4
    simp only [opn, Bool.not_eq_false', Bool.and_eq_true, beq_iff_eq, List.isEmpty_iff] at ho
    obtain ⟨rfl, rfl⟩ := ho
    exact .emp c' _ cap hc
  | nil c sz => intro _ c' _ _ _; exact .nil c' sz
  | own c g n cap size cs arr e fz F hfz hc0 hK hg hs hl hz hn hc hF h ih =>
    intro ho c' h1 h3 h4
    have hc0' : c' ≠ [] := fun e => hc0 (h3.2 e)
    obtain ⟨k1, k2⟩ := h1 g [] (z0g hg) hc0 (by simpa using hK)
    refine .own c' g n cap size cs arr e fz F hfz hc0' (by simpa using k1) (by rw [k2]; exact hg) hs hl hz hn hc hF (fun j t ht => ih j t ht (z2M ho ht) ?_ (by simp) h4)
    intro b s hb _ hK
    have := h1 b (j :: s) hb hc0 (by simpa using hK)
    exact ⟨by simpa using this.1, this.2⟩
  | vr c g cs arr e fz F hfz hc0 hK hg hl hF h ih =>
    intro ho c' h1 h3 h4
    have hc0' : c' ≠ [] := fun e => hc0 (h3.2 e)
    obtain ⟨k1, k2⟩ := h1 g [] (z0g hg) hc0 (by simpa using hK)
    refine .vr c' g cs arr e fz F hfz hc0' (by simpa using k1) (by rw [k2]; exact hg) hl hF (fun j t ht => ih j t ht (z2M ho ht) ?_ (by simp) h4)
    intro b s hb _ hK
    have := h1 b (j :: s) hb hc0 (by simpa using hK)
    exact ⟨by simpa using this.1, this.2⟩
  | vo c g off cs h ih => intro ho c' h1 h3 h4; exact .vo c' g off cs (ih ho h1 h3 h4)
  | pr => intro ho; cases ho
  | mr => intro ho; cases ho
  | mt => intro ho; cases ho
  | ms => intro ho; cases ho
  | mp c g kk es ents clock hc0 hK hg hh =>
    intro ho c' h1 h3 h4
    obtain ⟨k1, k2⟩ := h1 g [] (z0g hg) hc0 (by simpa using hK)
    exact .mp c' g kk es ents clock (fun e => hc0 (h3.2 e)) (by simpa using k1) (by rw [k2]; exact hg) hh
  | cl c f vs cs F hl hF h ih =>
    intro ho c' h1 h3 h4
    exact .cl c' f vs cs F hl hF (fun j t ht => ih j t ht (z2M ho ht) (fun _ _ _ hc => absurd rfl hc) Iff.rfl h4)
def z1g : T -> Bool
  | .vr _ => true
  | .os _ _ _ => true
  | .vo _ _ => true
  | _ => false
def z5y (w : World) (K : Nat -> z0a) (i : Nat) (v : Value) (t : T) : Prop := TRep w K (if z1g t then col i else []) v t
structure EnvS (I : World -> (Nat -> z0a) -> Prop) : Prop where
  keep : ∀ {w K w' K'}, I w K -> w.heap.size <= w'.heap.size -> (∀ b, b < w.heap.size -> K b = [] -> K' b = [] /\ w'.heap[b]? = w.heap[b]?) -> I w' K'
theorem EnvS.step {I : World -> (Nat -> z0a) -> Prop} (h : EnvS I) {w w' : World} {K K' : Nat -> z0a} (hi : I w K) (s : Step w K w' K') : I w' K' :=
  h.keep hi s.size fun b hb e => by
    obtain ⟨a1, a2⟩ := s.old b hb (.inl e)
    exact ⟨a1.trans e, a2⟩
theorem EnvS.none : EnvS (fun _ _ => True) := ⟨fun _ _ _ => trivial⟩
structure CallOk (P : Program) (I : World -> (Nat -> z0a) -> Prop) (f : FuncId) (args : List T) (res : T) (outs : List T) : Prop where
  enter : ∀ (vals : Array Value) (w : World), (callFunc f vals).run P w = .ok (.enter f vals) w
  calls : ∀ (w : World) (K : Nat -> z0a) (vals : Array Value), vals.size = args.length -> (∀ i t, args[i]? = some t -> z5y w K i (vals.getD i undef) t) -> I w K ->
    Calls P f vals w fun e w' => ∃ v K', e = .returned v /\ TRep w' K' [0] v res /\ (∀ i t, args[i]? = some t -> z1g t = true -> ∃ t', outs[i]? = some t' /\ TRep w' K' (col i) (vals.getD i undef) t') /\ Step w K w' K'
abbrev z0b := FuncId -> List T -> Option (T × List T)
def z1y (P : Program) (I : World -> (Nat -> z0a) -> Prop) (C : z0b) : Prop := ∀ f args r outs, C f args = some (r, outs) -> CallOk P I f args r outs
def z8V : T -> T
  | .os _ n cs => .sl n cs
  | .vr _ => .dead
  | .vo _ _ => .dead
  | x => x
abbrev z9Y := List (Nat × List Nat)
def zf6 (fr : Fr) : A -> Option (T × z9Y)
  | .k v => some (z4j false v, [])
  | .t none x => some (z8V x, [])
  | .t (some i) x => some (z8V x, [(i, [])])
  | .tf n cs => some (.sl n cs, [])
  | .ea none cs 0 => some (.pr cs, [])
  | .ea (some i) cs 0 => some (.pr cs, [(i, [])])
  | .h id p => match z0i fr.ob id with
    | none => none
    | some root => match sub root p with
      | some t => if z3x t then some (t, []) else some (z0l t, [(id, p)])
      | none => none
  | _ => none
def zcL (fr : Fr) : List A -> Option (List T × z9Y)
  | [] => some ([], [])
  | x :: xs => match zf6 fr x, zcL fr xs with
    | some (t, d), some (ts, ds) => if z1g t then none else some (t :: ts, d ++ ds)
    | _, _ => none
def zgw (fr : Fr) (io : Bool) : E -> Option (T × z9Y × Option Nat)
  | .ag xs => (match zcL fr xs with | some (ts, d) => some (.agg ts, d, none) | none => none)
  | .one (.a id [] off) => (match z0i fr.ob id with | some (.vr cs) => if off = 0 then some (.vr cs, [], some id) else none | some (.os _ _ cs) => if io then some (.vo off cs, [], some id) else none | _ => none)
  | .one (.h id []) =>
    if io then (match z0i fr.ob id with | some (.os sz n cs) => some (.os sz n cs, [], some id) | _ => none)
    else (match zf6 fr (.h id []) with | some (t, d) => if z1g t then none else some (t, d, none) | none => none)
  | .one x => (match zf6 fr x with | some (t, d) => if z1g t then none else some (t, d, none) | none => none)
def z0x (deps : z9Y) (h : Nat) (q : List Nat) : Bool := deps.any fun x => decide (h = x.1 + 2) && (z0B x.2 q).isSome
def zcC (deps : z9Y) (io : Option (Nat × Nat)) : z0a -> z0a
  | [] => []
  | h :: q => if z0x deps h q then [] else match io with
    | some (i, id) => if h = id + 2 then (i + 2) :: q else [1]
    | none => [1]
theorem TRep.top {w : World} {K : Nat -> z0a} {v : Value} {t : T} (h : TRep w K [] v t) : TRep w K [] v (z8V t) := by
  cases h with
  | sc _ _ h => exact .sc _ _ h
  | dead => exact .dead _ _
  | agg c vs cs F hl hF h => exact .agg _ vs cs F hl hF h
  | tup c vs cs F hl hF h => exact .tup _ vs cs F hl hF h
  | emp c a cap hc => exact .emp _ a cap hc
  | fro c g o n cap cs F hK hg hn hc hF h => exact .fro _ g o n cap cs F hK hg hn hc hF h
  | nil => exact .emp _ none 0 (by decide)
  | own _ _ _ _ _ _ _ _ _ _ _ hc0 => exact absurd rfl hc0
  | vr _ _ _ _ _ _ _ _ hc0 => exact absurd rfl hc0
  | vo _ _ _ _ h => exact absurd rfl h.vr_ne
  | pr _ g o cs F hK hg hF h => exact .pr _ g o cs F hK hg hF h
  | mr _ g kk es ents clock hK hg hh => exact .mr _ g kk es ents clock hK hg hh
  | mp _ _ _ _ _ _ hc0 => exact absurd rfl hc0
  | mt _ _ _ _ _ _ _ _ hc0 => exact absurd rfl hc0
  | ms _ g kk ks cs ents clock F hK hg hh h => exact .ms _ g kk ks cs ents clock F hK hg hh h
  | cl _ f vs cs F hl hF h => exact .cl _ f vs cs F hl hF h
theorem z3X (w : World) (K : Nat -> z0a) (own : Bool) (v : Value) : TRep w K [] v (z4j own v) := by
  unfold z4j
  split
  · rename_i vs
    refine .agg _ vs _ (fun j => vs.getD j undef) (by simp) (fun j hj => z0F _ _ (by simpa using hj)) (fun j t hj => ?_)
    simp only [List.getElem?_map, Option.map_eq_some_iff, Array.getElem?_toList] at hj
    obtain ⟨v, hv, rfl⟩ := hj
    have : vs.getD j undef = v := by simp [Array.getD_eq_getD_getElem?, hv]
    rw [this]
    exact z1o _ _ _ _ _
  · exact z1o _ _ _ _ _
theorem z9W {w : World} {K K0 : Nat -> z0a} {R G : Nat -> Value} {fr : Fr} {a : Act} {x : A} {u : Value} {t : T} {deps : z9Y} (h : FRep w K R G fr a) (hx : ARep w K R fr.ob x u) (ha : zf6 fr x = some (t, deps))
    (h0 : ∀ b, K b = [] -> K0 b = []) (hd : ∀ b hh q, K b = hh :: q -> z0x deps hh q = true -> K0 b = []) : TRep w K0 [] u t := by
  unfold zf6 at ha
  split at ha
  · cases ha
    obtain rfl : u = _ := hx
    exact z3X _ _ _ _
  · cases ha
    exact (TRep.fz hx.1 (fun b _ e => ⟨h0 b e, rfl⟩) (Nat.le_refl _)).top
  · rename_i i x
    cases ha
    refine (TRep.fz hx.1 (fun b _ e => ⟨?_, rfl⟩) (Nat.le_refl _)).top
    simp only [frz] at e
    split at e
    · rename_i hh
      cases hk : K b with
      | nil => exact h0 b hk
      | cons a s =>
        rw [hk] at hh; simp at hh; subst hh
        exact hd b _ s hk (by simp [z0x, z0B])
    · exact h0 b e
  · cases ha
    exact TRep.fz hx.2 (fun b _ e => ⟨h0 b e, rfl⟩) (Nat.le_refl _)
  · rename_i cs
    cases ha
    obtain ⟨g, o, F, h1, h2, h3, h4, h5, h6⟩ := hx
    rw [h1]
    exact .pr [] g o _ F (h0 _ h2) h3 h4 (fun j t ht => TRep.fz (h5 j t ht) (fun b _ e => ⟨h0 b e, rfl⟩) (Nat.le_refl _))
  · rename_i i cs
    cases ha
    have hz : ∀ b, frz K (some i) b = [] -> K0 b = [] := fun b e => by
      simp only [frz] at e
      split at e
      · rename_i hh
        cases hk : K b with
        | nil => exact h0 b hk
        | cons a s =>
          rw [hk] at hh; simp at hh; subst hh
          exact hd b _ s hk (by simp [z0x, z0B])
      · exact h0 b e
    obtain ⟨g, o, F, h1, h2, h3, h4, h5, h6⟩ := hx
    rw [h1]
    exact .pr [] g o _ F (hz _ h2) h3 h4 (fun j t ht => TRep.fz (h5 j t ht) (fun b _ e => ⟨hz b e, rfl⟩) (Nat.le_refl _))
  · rename_i id p
    split at ha
    case h_1 => cases ha
    case h_2 root hroot =>
    split at ha
    · rename_i t' hsub
      obtain ⟨n1, _⟩ := hx
      obtain ⟨v', m1, hrep⟩ := (h.ob id root hroot).sub (z0f id) hsub
      rw [n1] at m1; cases m1
      split at ha
      · rename_i hp
        cases ha
        exact TRep.fz (hrep.free hp []) (fun b _ e => ⟨h0 b e, rfl⟩) (Nat.le_refl _)
      · cases ha
        refine hrep.freeze (fun b s hb hc hK => ⟨?_, rfl⟩) (fun b _ e => ⟨h0 b e, rfl⟩) (Nat.le_refl _) []
        exact hd b (id + 2) (p ++ s) (by simpa [col] using hK) (by simp [z0x, z1R])
    · cases ha
  · cases ha
theorem z0K (d1 d2 : z9Y) (h : Nat) (q : List Nat) : z0x (d1 ++ d2) h q = (z0x d1 h q || z0x d2 h q) := by simp [z0x]
theorem z7W {w : World} {K K0 : Nat -> z0a} {R G : Nat -> Value} {fr : Fr} {a : Act} (h : FRep w K R G fr a) (h0 : ∀ b, K b = [] -> K0 b = []) : ∀ {xs : List A} {F : Nat -> Value} {ts : List T} {deps : z9Y}, (∀ j x, xs[j]? = some x -> ARep w K R fr.ob x (F j)) ->
    zcL fr xs = some (ts, deps) -> (∀ b hh q, K b = hh :: q -> z0x deps hh q = true -> K0 b = []) -> ts.length = xs.length /\ ∀ j t, ts[j]? = some t -> TRep w K0 [] (F j) t
  | [], F, ts, deps, hx, ha, hd => by
    cases ha
    exact ⟨rfl, fun j t ht => by simp at ht⟩
  | x :: xs, F, ts, deps, hx, ha, hd => by
    simp only [zcL] at ha
    split at ha
    · rename_i t d ts' ds h1 h2
      split at ha
      · cases ha
      · cases ha
        obtain ⟨r1, r2⟩ := z7W h h0 (xs := xs) (F := fun j => F (j + 1)) (fun j y hy => hx (j + 1) y (by simpa using hy)) h2 (fun b hh q e e2 => hd b hh q e (by rw [z0K, e2, Bool.or_true]))
        refine ⟨by simp [r1], fun j t' ht => ?_⟩
        match j, ht with
        | 0, ht =>
          simp at ht; subst ht
          exact z9W h (hx 0 x rfl) h1 h0 (fun b hh q e e2 => hd b hh q e (by rw [z0K, e2, Bool.true_or]))
        | j + 1, ht => exact r2 j t' (by simpa using ht)
    · cases ha
def zcN (fr : Fr) (R : Nat -> Value) (id : Nat) (t : T) (u : Value) : Prop :=
  (z0i fr.ob id = some t /\ u = R id /\ ∀ off cs, t ≠ .vo off cs) ∨ ∃ sz n cs off g, z0i fr.ob id = some (.os sz n cs) /\ t = .vo off cs /\ z1j (R id) = some g /\ u = .pointer (some ⟨g, off, none⟩)
theorem z9V {w : World} {K K0 : Nat -> z0a} {R G : Nat -> Value} {fr : Fr} {a : Act} {e : E} {u : Value} {t : T} {deps : z9Y} {io : Option Nat} {fl : Bool} (h : FRep w K R G fr a) (he : ERep w K R fr.ob e u) (ha : zgw fr fl e = some (t, deps, io))
    (h0 : ∀ b, K b = [] -> K0 b = []) (hd : ∀ b hh q, K b = hh :: q -> z0x deps hh q = true -> K0 b = []) :
    (io = none /\ z1g t = false /\ TRep w K0 [] u t) ∨ ∃ id, io = some id /\ z1g t = true /\ deps = [] /\ zcN fr R id t u := by
  have byval : ∀ x, e = .one x -> (match zf6 fr x with | some (t, d) => if z1g t then none else some (t, d, none) | none => none) = some (t, deps, io) -> (io = none /\ z1g t = false /\ TRep w K0 [] u t) := fun x hxe hh => by
    subst hxe
    split at hh
    · rename_i t' d' h1
      split at hh
      · cases hh
      · rename_i hio
        cases hh
        exact ⟨rfl, by simpa using hio, z9W h he h1 h0 hd⟩
    · cases hh
  unfold zgw at ha
  split at ha
  · rename_i xs
    split at ha
    · rename_i ts d h1
      cases ha
      obtain ⟨arr, rfl, e2, e3⟩ := he
      obtain ⟨r1, r2⟩ := z7W h h0 (F := fun j => arr.getD j undef) e3 h1 hd
      exact .inl ⟨rfl, rfl, .agg _ arr ts (fun j => arr.getD j undef) (by omega) (fun j hj => z0F _ _ (by omega)) r2⟩
    · cases ha
  · rename_i id off
    split at ha
    · rename_i cs hob
      split at ha
      case isFalse => cases ha
      case isTrue h0 =>
      subst h0
      cases ha
      obtain ⟨hv, g, n1, n4, n5, t0, n2, n3⟩ := he
      simp only [nav, Option.some.injEq] at n1
      refine .inr ⟨id, rfl, rfl, rfl, .inl ⟨hob, ?_, fun _ _ e => by cases e⟩⟩
      have hr := h.ob id _ hob
      rw [n5, n1]
      rw [n1] at hr
      cases hr with
      | vr c g' cs arr e fz F hfz hc0 hK hg hl hF hh =>
        simp only [z1j, Option.some.injEq] at n4
        rw [n4]
    · rename_i sz n cs hob
      split at ha
      case isFalse => cases ha
      case isTrue =>
      cases ha
      obtain ⟨hv, g, n1, n4, n5, t0, n2, n3⟩ := he
      simp only [nav, Option.some.injEq] at n1
      exact .inr ⟨id, rfl, rfl, rfl, .inr ⟨sz, n, cs, off, g, hob, rfl, by rw [n1]; exact n4, n5⟩⟩
    · cases ha
  · rename_i id
    split at ha
    · split at ha
      · rename_i sz n cs hob
        cases ha
        obtain ⟨n1, _⟩ := he
        simp only [nav, Option.some.injEq] at n1
        exact .inr ⟨id, rfl, rfl, rfl, .inl ⟨hob, n1.symm, fun _ _ e => by cases e⟩⟩
      · cases ha
    · exact .inl (byval _ rfl ha)
  · exact .inl (byval _ rfl ha)
def z5F (fr : Fr) (io : Nat -> Bool) : List E -> Nat -> Option (List T × z9Y × Option (Nat × Nat))
  | [], _ => some ([], [], none)
  | x :: xs, i => match zgw fr (io i) x, z5F fr io xs (i + 1) with
    | some (t, d, none), some (ts, ds, o) => some (t :: ts, d ++ ds, o)
    | some (t, d, some id), some (ts, ds, none) => some (t :: ts, d ++ ds, some (i, id))
    | _, _ => none
theorem TRep.toVo {w : World} {K : Nat -> z0a} {c : z0a} {v : Value} {sz n : Nat} {cs : List T} {g : Nat} (h : TRep w K c v (.os sz n cs)) (hb : z1j v = some g) (off : Nat) : TRep w K c (.pointer (some ⟨g, off, none⟩)) (.vo off cs) := by
  cases h with
  | nil => cases hb
  | own c g' n cap size cs arr e fz F hfz hc0 hK hg hs hl hz hn hc hF h =>
    simp only [z1j, Option.some.injEq] at hb
    subst hb
    exact .vo _ _ _ _ (.vr c g' cs arr e fz F hfz hc0 hK hg (by rw [hl, hs]; exact Nat.mul_le_mul_right _ hn) hF h)
theorem TRep.ofVo {w w' : World} {K K' : Nat -> z0a} {c c' : z0a} {v u : Value} {sz n g off o' : Nat} {cs cs' : List T} (h : TRep w K c v (.os sz n cs)) (hb : z1j v = some g) (hz : SzK w w') (hu : u = .pointer (some ⟨g, off, none⟩)) (h' : TRep w' K' c' u (.vo o' cs')) (hl' : cs'.length = cs.length) : TRep w' K' c' v (.os sz n cs') := by
  cases h with
  | nil => cases hb
  | own c g' n cap size cs arr e fz F hfz hc0 hK hg hs hl hz0 hn hc hF h =>
    simp only [z1j, Option.some.injEq] at hb
    subst hb
    cases h' with
    | vo _ g2 _ _ h2 =>
      simp only [Value.pointer.injEq, Option.some.injEq, Addr.mk.injEq] at hu
      obtain ⟨rfl, _, _⟩ := hu
      cases h2 with
      | vr _ _ _ arr2 e2 fz2 F2 hfz2 hc2 hK2 hg2 hl2 hF2 hh2 =>
        obtain ⟨a3, e3, f3, q1, q2⟩ := hz _ _ _ _ hg
        rw [hg2] at q1
        cases q1
        exact .own c' _ n cap sz cs' arr2 e2 fz2 F2 hfz2 hc2 hK2 hg2 (by rw [q2, hs]) (by rw [hl', hl]) hz0 hn hc hF2 hh2
def z2n (d : Nat) : A -> A
  | .h i q => if i = d /\ q ≠ [] then .dead else .h i q
  | .a i q off => if i = d /\ q ≠ [] then .dead else .a i q off
  | .t (some i) x => if i = d then .dead else .t (some i) x
  | .ea (some i) cs off => if i = d then .dead else .ea (some i) cs off
  | x => x
theorem FRep.renew {w w' : World} {K K' : Nat -> z0a} {R G : Nat -> Value} {fr : Fr} {a : Act} (h : FRep w K R G fr a) {d : Nat} {t' : T} (k : Keep w w' K K' (But d)) (ht : TRep w' K' (col d) (R d) t') :
    FRep w' K' R G { fr with tm := z1m (z2n d) fr.tm, ob := z0X fr.ob d t' } a := by
  have hR : ∀ i, i ≠ d -> R i = R i /\ z0i (z0X fr.ob d t') i = z0i fr.ob i := fun i hi => ⟨rfl, by rw [z0c, if_neg (fun e => hi e.symm)]⟩
  refine ⟨fun i => ?_, fun id t ht' => ?_, h.nt, h.df⟩
  · show ERep w' K' R (z0X fr.ob d t') (z0n (z1m (z2n d) fr.tm) i) _
    rw [z0L _ rfl]
    refine (h.tm i).map _ fun x u hx => ?_
    by_cases hxd : onA x = some d
    · cases x with
      | dead => trivial
      | k v => cases hxd
      | t dep x => simp only [onA] at hxd; subst hxd; simp only [z2n, if_true]; trivial
      | h i q =>
        simp only [onA, Option.some.injEq] at hxd; subst hxd
        by_cases hq : q = []
        · subst hq
          obtain ⟨n1, _⟩ := hx
          simp only [z2n]
          rw [if_neg (by simp)]
          exact ⟨n1, t', by simp [z0c], rfl⟩
        · rw [show z2n i (.h i q) = .dead by simp [z2n, hq]]; trivial
      | a i q off =>
        simp only [onA, Option.some.injEq] at hxd; subst hxd
        by_cases hq : q = []
        · subst hq
          obtain ⟨hv, g, n1, n4, n5, _⟩ := hx
          simp only [z2n]
          rw [if_neg (by simp)]
          exact ⟨hv, g, n1, n4, n5, t', by simp [z0c], rfl⟩
        · rw [show z2n i (.a i q off) = .dead by simp [z2n, hq]]; trivial
      | ea dep cs off => simp only [onA] at hxd; subst hxd; simp only [z2n, if_true]; trivial
      | tf => cases hxd
    · have : z2n d x = x := by
        cases x with
        | dead => rfl
        | k v => rfl
        | t dep x => cases dep with
          | none => rfl
          | some i => simp only [z2n]; rw [if_neg (fun e => hxd (by simp [onA, e]))]
        | h i q => simp only [z2n]; rw [if_neg (fun e => hxd (by simp [onA, e.1]))]
        | a i q off => simp only [z2n]; rw [if_neg (fun e => hxd (by simp [onA, e.1]))]
        | tf => rfl
        | ea dep cs off => cases dep with
          | none => rfl
          | some i => simp only [z2n]; rw [if_neg (fun e => hxd (by simp [onA, e]))]
      rw [this]
      exact hx.but h.ob k hR hxd
  · rw [z0c] at ht'
    split at ht'
    · rename_i e
      subst e
      cases ht'
      exact ht
    · rename_i hne
      have hne' : id ≠ d := fun e => hne e.symm
      exact (h.ob id t ht').keep k fun s _ => ⟨id, s, rfl, hne'⟩
end
section
def z5g (fr : Fr) : z9Y -> Option Fr
  | [] => some fr
  | (id, p) :: l => match z0Q fr id p with | some fr' => z5g fr' l | none => none
theorem zaM {fr fr' : Fr} {id : Nat} {p : List Nat} (hs : z0Q fr id p = some fr') : fr'.nt = fr.nt /\ ∀ i, i ≠ id -> z0i fr'.ob i = z0i fr.ob i := by
  unfold z0Q at hs
  split at hs
  · cases hs
  · split at hs
    · cases hs
    · split at hs
      · cases hs
      · cases hs
        exact ⟨rfl, fun i hi => by rw [z0c, if_neg (fun e => hi e.symm)]⟩
theorem z5f {w : World} {R G : Nat -> Value} {a : Act} : ∀ {deps : z9Y} {K : Nat -> z0a} {fr fr1 : Fr}, FRep w K R G fr a -> z5g fr deps = some fr1 ->
    ∃ K1, FRep w K1 R G fr1 a /\ Step w K w K1 /\ (∀ b, K b = [] -> K1 b = []) /\ (∀ b h q, K b = h :: q -> z0x deps h q = true -> K1 b = []) /\ (∀ b h q, K b = h :: q -> K1 b = [] ∨ K1 b = K b) /\ (∀ b h q, K b = h :: q -> (∀ x ∈ deps, h ≠ x.1 + 2) -> K1 b = K b) /\
      (∀ i, (∀ x ∈ deps, x.1 ≠ i) -> z0i fr1.ob i = z0i fr.ob i) /\ fr1.nt = fr.nt
  | [], K, fr, fr1, h, hf => by
    cases hf
    exact ⟨K, h, Step.refl _ _, fun _ e => e, fun b hh q e hd => by simp [z0x] at hd, fun _ _ _ _ => .inr rfl, fun _ _ _ _ _ => rfl, fun _ _ => rfl, rfl⟩
  | (id, p) :: l, K, fr, fr1, h, hf => by
    simp only [z5g] at hf
    split at hf
    · rename_i fr2 h2
      obtain ⟨a1, _⟩ := h.freeze h2
      obtain ⟨n1, n2⟩ := zaM h2
      obtain ⟨K1, b1, b2, b3, b4, b5, b6, b7, b8⟩ := z5f (deps := l) a1 hf
      have hz : ∀ b, fzK id p (K b) = [] ∨ fzK id p (K b) = K b := fun b => by
        cases hk : K b with
        | nil => left; rfl
        | cons hh q => simp only [fzK]; split <;> simp
      refine ⟨K1, b1, (z2Q id p).trans b2, fun b e => b3 b (by show fzK id p (K b) = []; rw [e]; rfl), fun b hh q e hd => ?_, fun b hh q e => ?_, fun b hh q e hd => ?_, fun i hi => ?_, b8.trans n1⟩
      · rcases hz b with e1 | e1
        · exact b3 b e1
        · rw [show z0x ((id, p) :: l) hh q = (decide (hh = id + 2) && (z0B p q).isSome || z0x l hh q) from rfl, Bool.or_eq_true] at hd
          rcases hd with hd | hd
          · exfalso
            rw [e] at e1
            simp only [fzK] at e1
            simp only [Bool.and_eq_true, decide_eq_true_eq] at hd
            rw [if_pos hd] at e1
            cases e1
          · exact b4 b hh q (e1.trans e) hd
      · rcases hz b with e1 | e1
        · exact .inl (b3 b e1)
        · rcases b5 b hh q (e1.trans e) with e2 | e2
          · exact .inl e2
          · exact .inr (e2.trans e1)
      · have e1 : fzK id p (K b) = K b := by
          rw [e]; simp only [fzK]
          rw [if_neg (fun hc => hd (id, p) (by simp) hc.1)]
        rw [b6 b hh q (e1.trans e) (fun x hx => hd x (by simp [hx])), e1]
      · rw [b7 i (fun x hx => hi x (by simp [hx])), n2 i (fun e => hi (id, p) (by simp) e.symm)]
    · cases hf
theorem z5u {w : World} {K K0 : Nat -> z0a} {R G : Nat -> Value} {fr : Fr} {a : Act} (h : FRep w K R G fr a) {io : Nat -> Bool} (h0 : ∀ b, K b = [] -> K0 b = []) : ∀ {args : List E} {vs : List Value} {i0 : Nat} {ts : List T} {deps : z9Y} {o : Option (Nat × Nat)}, z5F fr io args i0 = some (ts, deps, o) ->
    vs.length = args.length -> (∀ (j : Nat) (e : E) (v : Value), args[j]? = some e -> vs[j]? = some v -> ERep w K R fr.ob e v) -> (∀ b hh q, K b = hh :: q -> z0x deps hh q = true -> K0 b = []) ->
    ts.length = args.length /\ (∀ j t, ts[j]? = some t -> ∃ x, vs[j]? = some x /\ ((z1g t = false /\ TRep w K0 [] x t) ∨ (z1g t = true /\ ∃ id, o = some (i0 + j, id) /\ zcN fr R id t x))) /\
      (∀ i id, o = some (i, id) -> ∃ j t, i = i0 + j /\ ts[j]? = some t /\ z1g t = true)
  | [], vs, i0, ts, deps, o, ha, hl, hv, hd => by
    cases ha
    exact ⟨rfl, fun j t ht => by simp at ht, fun i id e => by cases e⟩
  | x :: xs, [], i0, ts, deps, o, ha, hl, hv, hd => by simp at hl
  | x :: xs, u :: us, i0, ts, deps, o, ha, hl, hv, hd => by
    have hl' : us.length = xs.length := by simpa using hl
    have hv' : ∀ (j : Nat) (e : E) (v : Value), xs[j]? = some e -> us[j]? = some v -> ERep w K R fr.ob e v := fun j e v h1 h2 => hv (j + 1) e v (by simpa using h1) (by simpa using h2)
    have hx : ERep w K R fr.ob x u := hv 0 x u rfl rfl
    simp only [z5F] at ha
    split at ha
    · rename_i t d ts' ds o' h1 h2
      cases ha
      obtain ⟨r1, r2, r3⟩ := z5u h h0 h2 hl' hv' (fun b hh q e e2 => hd b hh q e (by rw [z0K, e2, Bool.or_true]))
      refine ⟨by simp [r1], fun j t' ht => ?_, fun i id e => ?_⟩
      · match j, ht with
        | 0, ht =>
          simp at ht; subst ht
          rcases z9V h hx h1 h0 (fun b hh q e e2 => hd b hh q e (by rw [z0K, e2, Bool.true_or])) with ⟨-, e2, e3⟩ | ⟨id, e1, _⟩
          · exact ⟨u, rfl, .inl ⟨e2, e3⟩⟩
          · cases e1
        | j + 1, ht =>
          obtain ⟨y, y1, y2⟩ := r2 j t' (by simpa using ht)
          refine ⟨y, by simpa using y1, ?_⟩
          rcases y2 with y2 | ⟨y2, id, y3, y4⟩
          · exact .inl y2
          · exact .inr ⟨y2, id, by rw [y3]; congr 2; omega, y4⟩
      · obtain ⟨j, t', j1, j2, j3⟩ := r3 i id e
        exact ⟨j + 1, t', by omega, by simpa using j2, j3⟩
    · rename_i t d id ts' ds h1 h2
      cases ha
      obtain ⟨r1, r2, r3⟩ := z5u h h0 h2 hl' hv' (fun b hh q e e2 => hd b hh q e (by rw [z0K, e2, Bool.or_true]))
      rcases z9V h hx h1 h0 (fun b hh q e e2 => hd b hh q e (by rw [z0K, e2, Bool.true_or])) with ⟨e1, _⟩ | ⟨id', e1, e2, e3, e4⟩
      · cases e1
      · cases e1
        refine ⟨by simp [r1], fun j t' ht => ?_, fun i id2 e => ?_⟩
        · match j, ht with
          | 0, ht =>
            simp at ht; subst ht
            exact ⟨u, rfl, .inr ⟨e2, id, rfl, e4⟩⟩
          | j + 1, ht =>
            obtain ⟨y, y1, y2⟩ := r2 j t' (by simpa using ht)
            refine ⟨y, by simpa using y1, ?_⟩
            rcases y2 with y2 | ⟨y2, id, y3, y4⟩
            · exact .inl y2
            · cases y3
        · cases e
          exact ⟨0, t, by omega, rfl, e2⟩
    · cases ha
def clB (r : T) (outs : List T) (io : Option (Nat × Nat)) : Bool := opn r || (match io with | some (i, _) => (match outs[i]? with | some t => opn t | none => false) | none => false)
def z7V (o : Option T) : T -> T
  | .vo _ cs' => (match o with | some (.os sz n cs) => if cs'.length = cs.length then .os sz n cs' else .dead | _ => .dead)
  | .vr cs' => (match o with | some (.os _ _ _) => .dead | _ => .vr cs')
  | .pr cs' => (match o with | some (.os _ _ _) => .dead | _ => .pr cs')
  | t => t
theorem zcI {w w' : World} {K K' : Nat -> z0a} {c c' : z0a} {R : Nat -> Value} {fr : Fr} {id : Nat} {t t' : T} {u : Value} (hh : zcN fr R id t u) (hob : ∀ t, z0i fr.ob id = some t -> TRep w K c (R id) t) (hz : SzK w w') (h' : TRep w' K' c' u t') : TRep w' K' c' (R id) (z7V (z0i fr.ob id) t') := by
  rcases hh with ⟨z1, z2, z3⟩ | ⟨sz, n, cs, off, g, z1, z2, z3, z4⟩
  · rw [z2] at h'
    have hr := hob t z1
    rw [z1]
    cases t' with
    | vo o' cs' =>
      simp only [z7V]
      split
      · rename_i sz n cs he
        cases he
        exfalso
        generalize R id = v at h' hr
        cases h' with
        | vo => cases hr
      · exact .dead _ _
    | vr cs' =>
      simp only [z7V]
      split
      · exact .dead _ _
      · exact h'
    | pr cs' =>
      simp only [z7V]
      split
      · exact .dead _ _
      · exact h'
    | _ => exact h'
  · rw [z1]
    have hr := hob _ z1
    subst z4
    cases h' with
    | dead => exact .dead _ _
    | sc _ _ hb => cases hb
    | vr => exact .dead _ _
    | pr => exact .dead _ _
    | vo _ _ _ cs' h2 =>
      simp only [z7V]
      split
      · rename_i hl
        exact hr.ofVo z3 hz rfl (.vo _ g off cs' h2) hl
      · exact .dead _ _
def ioF (fr : Fr) (deps : z9Y) (outs : List T) : Option (Nat × Nat) -> Option Fr
  | none => some fr
  | some (i, id) => if deps.any (fun x => decide (x.1 = id)) then none else match outs[i]? with
    | some t' => some { fr with tm := z1m (z2n id) fr.tm, ob := z0X fr.ob id (z7V (z0i fr.ob id) t') }
    | none => none
def zgk (d : Nat) : T -> A
  | .vr _ => .a d [] 0
  | _ => .h d []
def zgH (fr : Fr) (dst : Option Nat) (r : T) (io : Option (Nat × Nat)) : Option Fr :=
  match dst with
  | none => some fr
  | some d => if d < fr.nt /\ (io.map (·.2)) ≠ some d then
      (if z3x r then some { fr with tm := z4t fr.tm d (.one (.t none r)) } else some { fr with tm := z4t (z1m (kill d) fr.tm) d (.one (zgk d r)), ob := z0X fr.ob d r })
    else none
def z3L (C : z0b) (wio : FuncId -> Nat -> Bool) (fr : Fr) (f : FuncId) (args : List E) (dst : Option Nat) : Option Fr :=
  match z5F fr (wio f) args 0 with
  | none => none
  | some (ts, deps, io) => match C f ts with
    | none => none
    | some (r, outs) => match (if deps.isEmpty || (!clB r outs io && !wio 777777 f) then some fr else z5g fr deps) with
      | none => none
      | some fr1 => match ioF fr1 deps outs io with
        | none => none
        | some fr2 => zgH fr2 dst r io
def zff (d : Nat) (io : Option (Nat × Nat)) : z0a -> z0a
  | [] => []
  | 0 :: s => (d + 2) :: s
  | 1 :: _ => [1]
  | (j + 2) :: s => match io with | some (i, id) => if j = i then (id + 2) :: s else [1] | none => [1]
def z3l (io : Option (Nat × Nat)) (c : z0a) : Prop := ∃ i id s, io = some (i, id) /\ c = (id + 2) :: s
theorem z1Z (c : z0a) : ¬ z3l none c := fun ⟨_, _, _, e, _⟩ => by cases e
theorem z8O {P : Program} {I : World -> (Nat -> z0a) -> Prop} {C : z0b} {wio : FuncId -> Nat -> Bool} {w : World} {K : Nat -> z0a} {R G : Nat -> Value} {fr fr' : Fr} {a : Act} {o : Oper} {f : FuncId} {args : List E} {vs : List Value} {next : Act -> World -> Prop} {Q : Exit -> Act -> World -> Prop}
    (hI : EnvS I) (hC : z1y P I C) (h : FRep w K R G fr a) (hIw : I w K) (hrun0 : (callFunc f vs.toArray).run P w = .ok (.enter f vs.toArray) w -> (execOp a.eval o).run P w = .ok (.enter f vs.toArray) w) (hvl : vs.length = args.length) (hvr : ∀ (j : Nat) (e : E) (v : Value), args[j]? = some e -> vs[j]? = some v -> ERep w K R fr.ob e v) (hf : z3L C wio fr f args o.dst = some fr')
    (hn : ∀ a' w' K' R', FRep w' K' R' G fr' a' -> Step w K w' K' -> (∀ ts deps io, z5F fr (wio f) args 0 = some (ts, deps, io) -> ∀ b, b < w.heap.size -> ¬ z3l io (K b) -> (K' b = [] ∨ K' b = K b) /\ w'.heap[b]? = w.heap[b]?) -> next a' w') : o.wp P a w next Q := by
  unfold z3L at hf
  split at hf
  case h_1 => cases hf
  case h_2 ts deps io hargs =>
  split at hf
  case h_1 => cases hf
  case h_2 r outs hcf =>
  split at hf
  case h_1 => cases hf
  case h_2 fr1 hfz =>
  split at hf
  case h_1 => cases hf
  case h_2 fr2 hio =>
  have hok := hC f ts r outs hcf
  let vals : Array Value := vs.toArray
  have hrun : (execOp a.eval o).run P w = .ok (.enter f vals) w := hrun0 (hok.enter vals w)
  unfold Oper.wp
  rw [hrun]
  simp only [Oper.upon]
  obtain ⟨Kx, dx, x1, x2, x3, x4, x5, x6, x7, x8, x9, x10⟩ : ∃ Kx dx, FRep w Kx R G fr1 a /\ Step w K w Kx /\ (∀ b, K b = [] -> Kx b = []) /\ (∀ b hh q, K b = hh :: q -> z0x deps hh q = true -> Kx b = [] ∨ (Kx b = hh :: q /\ z0x dx hh q = true)) /\ (dx = [] ∨ clB r outs io = false) /\
      (∀ i, (∀ x ∈ deps, x.1 ≠ i) -> z0i fr1.ob i = z0i fr.ob i) /\ fr1.nt = fr.nt /\ (∀ b hh q, K b = hh :: q -> (∀ x ∈ deps, hh ≠ x.1 + 2) -> Kx b = K b) /\ (∀ x ∈ dx, x ∈ deps) /\ (∀ b, Kx b = [] ∨ Kx b = K b) := by
    split at hfz
    · rename_i hc
      cases hfz
      rw [Bool.or_eq_true] at hc
      rcases hc with hc | hc
      · have : deps = [] := by simpa using hc
        subst this
        exact ⟨K, [], h, Step.refl _ _, fun _ e => e, fun b hh q e hd => by simp [z0x] at hd, .inl rfl, fun _ _ => rfl, rfl, fun _ _ _ _ _ => rfl, fun _ h => h, fun _ => .inr rfl⟩
      · exact ⟨K, deps, h, Step.refl _ _, fun _ e => e, fun b hh q e hd => .inr ⟨e, hd⟩, .inr (by rw [Bool.and_eq_true] at hc; simpa using hc.1), fun _ _ => rfl, rfl, fun _ _ _ _ _ => rfl, fun _ h => h, fun _ => .inr rfl⟩
    · obtain ⟨K1, b1, b2, b3, b4, b5, b6, b7, b8⟩ := z5f h hfz
      have hz : ∀ b, K1 b = [] ∨ K1 b = K b := fun b => by
        cases hk : K b with
        | nil => exact .inl (b3 b hk)
        | cons hh q =>
          rw [← hk]
          exact b5 b hh q hk
      exact ⟨K1, [], b1, b2, b3, fun b hh q e hd => .inl (b4 b hh q e hd), .inl rfl, b7, b8, b6, fun _ h => (by cases h), hz⟩
  let K0 : Nat -> z0a := fun b => zcC dx io (Kx b)
  have k00 : ∀ b, Kx b = [] -> K0 b = [] := fun b e => by show zcC dx io (Kx b) = []; rw [e]; rfl
  have k01 : ∀ b, K b = [] -> K0 b = [] := fun b e => k00 b (x3 b e)
  have k02 : ∀ b hh q, K b = hh :: q -> z0x deps hh q = true -> K0 b = [] := fun b hh q e hd => by
    rcases x4 b hh q e hd with e1 | ⟨e1, e2⟩
    · exact k00 b e1
    · show zcC dx io (Kx b) = []
      rw [e1]; simp [zcC, e2]
  obtain ⟨g1, g2, g3⟩ := z5u (K0 := K0) h k01 hargs hvl hvr k02
  have hioid : ∀ i id, io = some (i, id) -> (∀ x ∈ deps, x.1 ≠ id) /\ (∃ t, outs[i]? = some t /\ fr2 = { fr1 with tm := z1m (z2n id) fr1.tm, ob := z0X fr1.ob id (z7V (z0i fr1.ob id) t) }) := fun i id e => by
    subst e
    simp only [ioF] at hio
    split at hio
    · cases hio
    · rename_i hd
      split at hio
      · rename_i t' ht'
        cases hio
        exact ⟨fun x hx e => hd (List.any_eq_true.2 ⟨x, hx, by simpa using e⟩), t', ht', rfl⟩
      · cases hio
  have k03 : ∀ b i id s, io = some (i, id) -> Kx b = (id + 2) :: s -> K0 b = (i + 2) :: s := fun b i id s e e1 => by
    show zcC dx io (Kx b) = _
    rw [e1, e]
    have : z0x dx (id + 2) s = false := by
      cases hb : z0x dx (id + 2) s with
      | false => rfl
      | true =>
        simp only [z0x, List.any_eq_true, Bool.and_eq_true, decide_eq_true_eq] at hb
        obtain ⟨x, hx, hh, _⟩ := hb
        exact absurd (show x.1 = id by omega) ((hioid i id e).1 x (x9 x hx))
    simp [zcC, this]
  have k04 : ∀ b, ¬ z3l io (Kx b) -> K0 b = [] ∨ K0 b = [1] := fun b hb => by
    show zcC dx io (Kx b) = [] ∨ zcC dx io (Kx b) = [1]
    cases hk : Kx b with
    | nil => left; rfl
    | cons hh q =>
      simp only [zcC]
      split
      · left; rfl
      · cases io with
        | none => right; rfl
        | some x =>
          obtain ⟨i, id⟩ := x
          simp only
          split
          · rename_i e
            exact absurd ⟨i, id, q, rfl, by rw [hk, e]⟩ hb
          · right; rfl
  have k05 : dx = [] -> ∀ b, ¬ z3l io (Kx b) -> K0 b = [] -> Kx b = [] := fun hd b hb e => by
    cases hk : Kx b with
    | nil => rfl
    | cons hh q =>
      exfalso
      have e' : zcC dx io (Kx b) = [] := e
      rw [hk, hd] at e'
      simp only [zcC] at e'
      rw [if_neg (by simp [z0x])] at e'
      cases io with
      | none => cases e'
      | some x =>
        obtain ⟨i, id⟩ := x
        simp only at e'
        split at e' <;> cases e'
  refine (hok.calls w K0 vals (by simp [vals, g1, hvl]) (fun j t ht => ?_) (hI.keep hIw (Nat.le_refl _) fun b hb e => ⟨k01 b e, rfl⟩)).mono ?_
  · obtain ⟨x, y1, y2⟩ := g2 j t ht
    have hlt := (List.getElem?_eq_some_iff.1 y1).1
    have hv : vals.getD j undef = x := by
      simp [vals, Array.getD_eq_getD_getElem?, y1]
    rw [hv]
    unfold z5y
    rcases y2 with ⟨z1, z2⟩ | ⟨z1, id, z2, z3⟩
    · rw [z1]; exact z2
    · rw [z1]
      simp only [if_true, Nat.zero_add] at z2 ⊢
      have hid := (hioid _ _ z2).1
      have hmv : ∀ t2, z0i fr.ob id = some t2 -> TRep w K0 (col j) (R id) t2 := fun t2 ht2 => by
        have hr := x1.ob id t2 (by rw [x6 id hid]; exact ht2)
        exact hr.move (fun b s hb hc hK => ⟨by simpa [col] using k03 b _ id s z2 (by simpa [col] using hK), rfl⟩) (fun b hb e => ⟨k00 b e, rfl⟩) (by simp [col]) (Nat.le_refl _)
      rcases z3 with ⟨q1, q2, _⟩ | ⟨sz, n, cs, off, g, q1, q2, q3, q4⟩
      · rw [q2]; exact hmv _ q1
      · rw [q2, q4]; exact (hmv _ q1).toVo q3 off
  · rintro e w' ⟨v, K', rfl, hres, hout, hst⟩
    simp only
    let d : Nat := o.dst.getD 0
    haveI hdec : ∀ b, Decidable (b < w.heap.size /\ ¬ z3l io (Kx b)) := fun b => Classical.propDecidable _
    let K2 : Nat -> z0a := fun b => if b < w.heap.size /\ ¬ z3l io (Kx b) then Kx b else zff d io (K' b)
    have e1 : ∀ b, b < w.heap.size -> ¬ z3l io (Kx b) -> K2 b = Kx b /\ K' b = K0 b /\ w'.heap[b]? = w.heap[b]? := fun b hb hn => by
      obtain ⟨q1, q2⟩ := hst.old b hb (k04 b hn)
      refine ⟨?_, q1, q2⟩
      show (if b < w.heap.size /\ ¬ z3l io (Kx b) then Kx b else zff d io (K' b)) = Kx b
      rw [if_pos ⟨hb, hn⟩]
    have e2 : ∀ b hh s, K' b = hh :: s -> hh ≠ 1 -> K2 b = zff d io (K' b) := fun b hh s he hne => by
      show (if b < w.heap.size /\ ¬ z3l io (Kx b) then Kx b else zff d io (K' b)) = _
      rw [if_neg]
      rintro ⟨hb, hn⟩
      obtain ⟨_, q1, _⟩ := e1 b hb hn
      rcases k04 b hn with q | q <;> rw [q, he] at q1
      · cases q1
      · cases q1; exact hne rfl
    have e3 : dx = [] -> ∀ b, K' b = [] -> K2 b = [] := fun hd b he => by
      show (if b < w.heap.size /\ ¬ z3l io (Kx b) then Kx b else zff d io (K' b)) = []
      split
      · rename_i hc
        obtain ⟨_, q1, _⟩ := e1 b hc.1 hc.2
        exact k05 hd b hc.2 (q1 ▸ he)
      · rw [he]; rfl
    have hnc : ∀ b, Kx b = [] ∨ Kx b = [1] -> ¬ z3l io (Kx b) := fun b hb ⟨i, id, s, _, e⟩ => by rcases hb with hb | hb <;> rw [e] at hb <;> simp at hb
    have hstep : Step w Kx w' K2 := ⟨hst.os, hst.tape, hst.output, hst.size, fun b hb hc => ⟨(e1 b hb (hnc b hc)).1, (e1 b hb (hnc b hc)).2.2⟩, hst.sz⟩
    have hsame : ∀ ts' deps' io', z5F fr (wio f) args 0 = some (ts', deps', io') -> ∀ b, b < w.heap.size -> ¬ z3l io' (K b) -> (K2 b = [] ∨ K2 b = K b) /\ w'.heap[b]? = w.heap[b]? := fun ts' deps' io' he b hb hn => by
      rw [hargs] at he
      cases he
      have hx : ¬ z3l io (Kx b) := by
        rcases x10 b with e | e
        · exact hnc b (.inl e)
        · rw [e]; exact hn
      obtain ⟨q1, _, q3⟩ := e1 b hb hx
      rw [q1]
      exact ⟨x10 b, q3⟩
    have hmove : ∀ (c c' : z0a) (u : Value) (t : T), TRep w' K' c u t -> c ≠ [] -> c' ≠ [] -> (∀ b s, K' b = c ++ s -> K2 b = c' ++ s) -> (dx = [] ∨ opn t = false) -> TRep w' K2 c' u t := fun c c' u t hr hc hc' hk hcl => by
      rcases hcl with hcl | hcl
      · exact hr.move (fun b s _ _ e => ⟨hk b s e, rfl⟩) (fun b _ e => ⟨e3 hcl b e, rfl⟩) (by simp [hc, hc']) (Nat.le_refl _)
      · exact hr.moveC hcl (fun b s _ _ e => ⟨hk b s e, rfl⟩) (by simp [hc, hc']) (Nat.le_refl _)
    have hclr : dx = [] ∨ opn r = false := x5.imp id fun h => by
      unfold clB at h
      rw [Bool.or_eq_false_iff] at h
      exact h.1
    have hr1 : TRep w' K2 (col d) v r := hmove [0] (col d) v r hres (by simp) (z0f d) (fun b s e => by
      have e' : K' b = 0 :: s := by simpa using e
      rw [e2 b 0 s e' (by decide), e']; rfl) hclr
    have hfr2 : FRep w' K2 R G fr2 a := by
      cases io with
      | none =>
        simp only [ioF, Option.some.injEq] at hio
        subst hio
        have hk : Keep w w' Kx K2 (fun _ => True) := ⟨fun b hb e => ⟨(e1 b hb (z1Z _)).1.trans e, (e1 b hb (z1Z _)).2.2⟩, fun b hb _ => ⟨(e1 b hb (z1Z _)).1, (e1 b hb (z1Z _)).2.2⟩, hst.size⟩
        exact x1.keep hk
      | some x =>
        obtain ⟨i, id⟩ := x
        obtain ⟨m1, t', m2, m3⟩ := hioid i id rfl
        rw [m3]
        have hnio : ∀ b i' s, Kx b = (i' + 2) :: s -> i' ≠ id -> ¬ z3l (some (i, id)) (Kx b) := fun b i' s e hne ⟨_, _, s', e2, e3⟩ => by
          cases e2
          rw [e] at e3; simp at e3; exact hne e3.1
        have hk : Keep w w' Kx K2 (But id) := ⟨fun b hb e => ⟨(e1 b hb (hnc b (.inl e))).1.trans e, (e1 b hb (hnc b (.inl e))).2.2⟩, fun b hb ⟨i', s, e, hne⟩ => ⟨(e1 b hb (hnio b i' s e hne)).1, (e1 b hb (hnio b i' s e hne)).2.2⟩, hst.size⟩
        refine x1.renew hk ?_
        obtain ⟨j, t, j1, j2, j3⟩ := g3 i id rfl
        obtain ⟨t2, p1, p2⟩ := hout j t j2 j3
        have hji : i = j := by omega
        subst hji
        rw [m2] at p1; cases p1
        obtain ⟨x, y1, y2⟩ := g2 i t j2
        have hv : vals.getD i undef = x := by
          simp [vals, Array.getD_eq_getD_getElem?, y1]
        rcases y2 with ⟨z1, z2⟩ | ⟨z1, id', z2, z3⟩
        · rw [z1] at j3; cases j3
        · rw [Nat.zero_add] at z2
          cases z2
          rw [hv] at p2
          have hid := (hioid _ _ rfl).1
          have z3' : zcN fr1 R id t x := by
            unfold zcN
            rw [x6 id hid]
            exact z3
          refine zcI (K := Kx) (c := col id) z3' (fun t2 ht2 => x1.ob id t2 ht2) hst.sz (hmove (col i) (col id) _ _ p2 (z0f _) (z0f _) (fun b s e => ?_) (x5.imp _root_.id fun h => ?_))
          · have e' : K' b = (i + 2) :: s := by simpa [col] using e
            rw [e2 b (i + 2) s e' (by omega), e']
            simp [zff, col]
          · unfold clB at h
            rw [Bool.or_eq_false_iff] at h
            simpa [m2] using h.2
    unfold zgH at hf
    split at hf
    · rename_i hdst
      cases hf
      rw [hdst]
      exact hn a w' K2 R hfr2 (x2.trans hstep) hsame
    · rename_i d' hdst
      have hdd : d = d' := by show o.dst.getD 0 = d'; rw [hdst]; rfl
      split at hf
      case isFalse => cases hf
      case isTrue hc =>
      rw [hdst]
      split at hf
      · rename_i hp
        cases hf
        refine hn _ w' K2 R (hfr2.put hc.1 ⟨?_, fun _ e => by cases e⟩) (x2.trans hstep) hsame
        have := hr1.free hp []
        exact this
      · cases hf
        subst hdd
        have h3 := hfr2.replace (d := d) (w' := w') (K' := K2) (v := v) (t := r) ⟨fun b hb e => ⟨e, rfl⟩, fun b hb _ => ⟨rfl, rfl⟩, Nat.le_refl _⟩ hr1
        refine hn _ w' K2 _ (h3.put (d := d) (x := .one (zgk d r)) (v := v) hc.1 ?_) (x2.trans hstep) hsame
        have hh : ARep w' K2 (z2q R d v) (z0X fr2.ob d r) (.h d []) v := ⟨by simp [z2q, nav], r, by simp [z0c], rfl⟩
        unfold zgk
        split
        · rename_i cs _
          cases hr1 with
          | vr c g arr2 arr e fz F hfz hc0 hK hg hl hF hh => exact ⟨.pointer (some ⟨g, 0, none⟩), g, by simp [z2q, nav], rfl, rfl, .vr cs, by simp [z0c], rfl⟩
        · exact hh
end
section
open Go.MapKept
def zfi : TypeDesc -> Option (Option IntKind)
  | .int .i8 => none
  | .int k => some (some k)
  | .string => some none
  | _ => none
def z5N (a b : Array Value) : Bool := match a.toList, b.toList with | [.int _ x, .int _ y], [.int _ x', .int _ y'] => decide (x = x' /\ y = y') | _, _ => false
def z0w : Value -> Value -> Bool
  | .int _ a, .int _ b => decide (a = b)
  | .string a, .string b => decide (a = b)
  | .agg a, .agg b => z5N a b
  | _, _ => false
def z0N (k : Value) : List (Value × Value) -> Option Value
  | [] => none
  | (a, v) :: r => if z0w a k then some v else z0N k r
def z4Q (k v : Value) : List (Value × Value) -> List (Value × Value)
  | [] => [(k, v)]
  | (a, u) :: r => if z0w a k then (k, v) :: r else (a, u) :: z4Q k v r
def KOk (P : Program) (kt : TypeId) (kk : Option IntKind) : Prop :=
  (∃ d, P.underlying kt = some d /\ zfi d = some kk) ∨ (kk = some .i8 /\ ∃ e, P.underlying kt = some (.array 2 e) /\ P.underlying e = some (.int .i64) /\ (P.info? e).map (·.size) = some 1)
theorem z1G {v : Value} (h : zan v = true) : ∃ a b, v = .agg #[.int .i64 a, .int .i64 b] := by
  unfold zan at h
  split at h
  · rename_i vs
    obtain ⟨l⟩ := vs
    simp only at h
    split at h
    · exact ⟨_, _, rfl⟩
    · cases h
  · cases h
theorem z3T {d : TypeDesc} {kk : Option IntKind} {v : Value} (hd : zfi d = some kk) (hv : z3F kk v = true) : (∃ k a, kk = some k /\ d = .int k /\ v = .int k a) ∨ ∃ s, kk = none /\ d = .string /\ v = .string s := by
  unfold zfi at hd
  split at hd
  · cases hd
  · rename_i k hk
    cases hd
    left
    cases k <;> first | exact absurd rfl hk | (cases v <;> simp_all [z3F])
  · cases hd
    right
    cases v <;> simp_all [z3F]
  · cases hd
theorem z2N {d : TypeDesc} {kk : Option IntKind} {v : Value} (hd : zfi d = some kk) (hv : z3F kk v = true) : IsKey d v := by
  rcases z3T hd hv with ⟨k, a, rfl, rfl, rfl⟩ | ⟨s, rfl, rfl, rfl⟩
  · rfl
  · trivial
theorem z5c {P : Program} {kt : TypeId} {kk : Option IntKind} {a b : Value} (hk : KOk P kt kk) (ha : z3F kk a = true) (hb : z3F kk b = true) : z0w a b = true ↔ a = b := by
  rcases hk with ⟨d, _, hd⟩ | ⟨rfl, -⟩
  · rcases z3T hd ha with ⟨k, x, h1, h2, rfl⟩ | ⟨s, h1, h2, rfl⟩ <;> rcases z3T hd hb with ⟨k', y, h3, h4, rfl⟩ | ⟨s', h3, h4, rfl⟩
    · rw [h1] at h3; cases h3; simp [z0w]
    · rw [h1] at h3; cases h3
    · rw [h1] at h3; cases h3
    · simp [z0w]
  · obtain ⟨x, y, rfl⟩ := z1G ha
    obtain ⟨x', y', rfl⟩ := z1G hb
    simp [z0w, z5N]
theorem z3u {P : Program} {w : World} {e : TypeId} {k : IntKind} (ue : P.underlying e = some (.int k)) {cs : Array Value} {v : Value} {i : Nat} (h : cs[i]? = some v) : (part e cs i).run P w = .ok v w := by
  simp [part, isAgg, run_underlying ue, h]
theorem z4S {P : Program} {w : World} {e : TypeId} (h : (P.info? e).map (·.size) = some 1) : (sizeOf e).run P w = .ok 1 w := by
  obtain ⟨i, h1, h2⟩ := Option.map_eq_some_iff.1 h
  simp [sizeOf, typeInfo, h1, h2]
theorem zhu : List.range' 0 2 1 = [0, 1] := rfl
theorem zf0 {P : Program} {e : TypeId} (n : Nat) (ue : P.underlying e = some (.int .i64)) (a b : Int) (w : World) : (Op.equalIn (n + 1) e (.int .i64 a) (.int .i64 b)).run P w = .ok (a == b) w := run_equalIn_int w n e .i64 .i64 a b ue
theorem zdw {P : Program} {w : World} {kt e : TypeId} (n : Nat) (u2 : P.underlying kt = some (.array 2 e)) (ue : P.underlying e = some (.int .i64)) (hs : (P.info? e).map (·.size) = some 1) (a b c d : Int) : (Op.equalIn (n + 2) kt (.agg #[.int .i64 a, .int .i64 b]) (.agg #[.int .i64 c, .int .i64 d])).run P w = .ok (a == c && b == d) w := by
  unfold Op.equalIn
  simp only [Sem.run_bind, run_underlying u2, Result.andThen_ok, z4S hs]
  simp only [Std.Legacy.Range.forIn_eq_forIn_range', Std.Legacy.Range.size, Nat.sub_zero, Nat.add_one_sub_one, Nat.div_one, zhu, List.forIn_cons, List.forIn_nil, Sem.run_bind]
  have p0 : ∀ x y : Int, (part e #[Value.int .i64 x, .int .i64 y] (0 * 1)).run P w = .ok (.int .i64 x) w := fun x y => z3u ue rfl
  have p1 : ∀ x y : Int, (part e #[Value.int .i64 x, .int .i64 y] (1 * 1)).run P w = .ok (.int .i64 y) w := fun x y => z3u ue rfl
  simp only [p0, p1, Result.andThen_ok, zf0 n ue]
  cases h : a == c
  · simp
  · cases h2 : b == d
    · simp [p1, zf0 n ue, h2]
    · simp [p1, zf0 n ue, h2]
theorem zeZ {P : Program} {w : World} {kt e : TypeId} (u2 : P.underlying kt = some (.array 2 e)) (ue : P.underlying e = some (.int .i64)) (hs : (P.info? e).map (·.size) = some 1) (a b c d : Int) : (Op.equal kt (.agg #[.int .i64 a, .int .i64 b]) (.agg #[.int .i64 c, .int .i64 d])).run P w = .ok (a == c && b == d) w := zdw 9998 u2 ue hs a b c d
theorem z8M {P : Program} {w : World} {kt e : TypeId} (n : Nat) (u2 : P.underlying kt = some (.array 2 e)) (ue : P.underlying e = some (.int .i64)) (hs : (P.info? e).map (·.size) = some 1) (em : Bool) (a b : Int) : (Instr.checkKey em (n + 2) kt (.agg #[.int .i64 a, .int .i64 b])).run P w = .ok () w := by
  unfold Instr.checkKey
  simp only [Sem.run_bind, run_underlying u2, Result.andThen_ok]
  simp only [Std.Legacy.Range.forIn_eq_forIn_range', Std.Legacy.Range.size, Nat.sub_zero, Nat.add_one_sub_one, Nat.div_one, zhu, List.forIn_cons, List.forIn_nil, Sem.run_bind, z4S hs, Result.andThen_ok]
  have p0 : ∀ x y : Int, (part e #[Value.int .i64 x, .int .i64 y] (0 * 1)).run P w = .ok (.int .i64 x) w := fun x y => z3u ue rfl
  have p1 : ∀ x y : Int, (part e #[Value.int .i64 x, .int .i64 y] (1 * 1)).run P w = .ok (.int .i64 y) w := fun x y => z3u ue rfl
  have hc : ∀ x : Int, (Instr.checkKey em (n + 1) e (.int .i64 x)).run P w = .ok () w := fun x => by simp [Instr.checkKey, run_underlying ue]
  simp only [p0, Result.andThen_ok, hc, Sem.run_pure]
  simp [z4S hs, p1, hc]
theorem zbi {P : Program} {w : World} (a b : Int) : (Instr.keyThatStays (.agg #[.int .i64 a, .int .i64 b]) (.agg #[.int .i64 a, .int .i64 b])).run P w = .ok (.agg #[.int .i64 a, .int .i64 b]) w := by
  have h : Instr.sameBits (9999 + 1) (.agg #[.int .i64 a, .int .i64 b]) (.agg #[.int .i64 a, .int .i64 b]) = true := by simp [Instr.sameBits]
  unfold Instr.keyThatStays
  rw [if_pos h]
  rfl
theorem z2E {P : Program} {w : World} {kt : TypeId} {kk : Option IntKind} {k : Value} (hk : KOk P kt kk) (hv : z3F kk k = true) (em : Bool) : (Instr.checkKey em 10000 kt k).run P w = .ok () w := by
  rcases hk with ⟨d, hu, hd⟩ | ⟨rfl, e, u2, ue, hs⟩
  · exact run_checkKey hu (z2N hd hv) em 9999
  · obtain ⟨x, y, rfl⟩ := z1G hv
    exact z8M 9998 u2 ue hs em x y
theorem z8Z {P : Program} {w : World} {kt : TypeId} {kk : Option IntKind} {k : Value} (hk : KOk P kt kk) (hv : z3F kk k = true) : (Instr.keyThatStays k k).run P w = .ok k w := by
  rcases hk with ⟨d, hu, hd⟩ | ⟨rfl, e, u2, ue, hs⟩
  · exact run_keyThatStays (z2N hd hv)
  · obtain ⟨x, y, rfl⟩ := z1G hv
    exact zbi x y
theorem zcJ {P : Program} {kt e : TypeId} (u2 : P.underlying kt = some (.array 2 e)) (ue : P.underlying e = some (.int .i64)) (hs : (P.info? e).map (·.size) = some 1) {k : Value} (hk : zan k = true) : ∀ (l : List MapEntry) (i : Nat), (∀ x ∈ l, zan x.key = true) ->
    ((∀ w, (Instr.findAsking kt k l i).run P w = .ok none w) /\ ∀ e ∈ l, z0w e.key k = false) ∨ ∃ j e, (∀ w, (Instr.findAsking kt k l i).run P w = .ok (some (i + j, e.val)) w) /\ l[j]? = some e /\ e.key = k /\ ∀ i < j, ∀ e', l[i]? = some e' -> z0w e'.key k = false
  | [], i, _ => .inl ⟨fun w => rfl, fun e he => by cases he⟩
  | x :: l, i, h => by
    obtain ⟨a, b, rfl⟩ := z1G hk
    obtain ⟨c, d, hx⟩ := z1G (h x (.head _))
    have hstep : ∀ w, (Instr.findAsking kt (.agg #[.int .i64 a, .int .i64 b]) (x :: l) i).run P w = if (a == c && b == d) = true then .ok (some (i, x.val)) w else (Instr.findAsking kt (.agg #[.int .i64 a, .int .i64 b]) l (i + 1)).run P w := fun w => by
      simp only [Instr.findAsking, hx, Sem.run_bind, zeZ u2 ue hs, Result.andThen_ok]
      split <;> rfl
    cases hc : a == c && b == d
    · have hne : z0w x.key (.agg #[.int .i64 a, .int .i64 b]) = false := by
        rw [hx]
        simp only [z0w, z5N, decide_eq_false_iff_not]
        rintro ⟨rfl, rfl⟩
        simp at hc
      rcases zcJ u2 ue hs (k := .agg #[.int .i64 a, .int .i64 b]) rfl l (i + 1) (fun y hy => h y (.tail _ hy)) with ⟨h1, h2⟩ | ⟨j, e', h1, h2, h3, h4⟩
      · refine .inl ⟨fun w => by rw [hstep, hc]; exact h1 w, fun e he => ?_⟩
        rcases List.mem_cons.1 he with rfl | he
        · exact hne
        · exact h2 e he
      · refine .inr ⟨j + 1, e', fun w => by rw [hstep, hc, if_neg (by simp), h1, show i + 1 + j = i + (j + 1) by omega], by simpa using h2, h3, fun i' hi e'' he => ?_⟩
        cases i' with
        | zero => simp at he; subst he; exact hne
        | succ i' => exact h4 i' (by omega) e'' (by simpa using he)
    · refine .inr ⟨0, x, fun w => by rw [hstep, hc]; rfl, rfl, ?_, fun i' hi => by omega⟩
      rw [hx]
      simp only [Bool.and_eq_true, beq_iff_eq] at hc
      rw [hc.1, hc.2]
theorem z5U {k : Value} : ∀ {l : List MapEntry}, (∀ e ∈ l, z0w e.key k = false) -> z0N k (l.map fun e => (e.key, e.val)) = none /\ ∀ v, z4Q k v (l.map fun e => (e.key, e.val)) = (l.map fun e => (e.key, e.val)) ++ [(k, v)]
  | [], _ => ⟨rfl, fun _ => rfl⟩
  | e :: es, h => by
    have e2 := h e (.head _)
    obtain ⟨h1, h2⟩ := z5U (l := es) fun x hx => h x (.tail _ hx)
    exact ⟨by simp [z0N, e2, h1], fun v => by simp [z4Q, e2, h2]⟩
theorem z5T {k : Value} (hkk : z0w k k = true) : ∀ {l : List MapEntry} {j : Nat} {e : MapEntry}, l[j]? = some e -> e.key = k -> (∀ i < j, ∀ e', l[i]? = some e' -> z0w e'.key k = false) -> z0N k (l.map fun e => (e.key, e.val)) = some e.val /\ ∀ v, z4Q k v (l.map fun e => (e.key, e.val)) = (l.map fun e => (e.key, e.val)).set j (k, v)
  | [], j, e, h, _, _ => by simp at h
  | x :: es, 0, e, h, he, _ => by
    simp at h; subst h; subst he
    exact ⟨by simp [z0N, hkk], fun v => by simp [z4Q, hkk]⟩
  | x :: es, j + 1, e, h, he, hb => by
    have e2 := hb 0 (by omega) x rfl
    obtain ⟨h1, h2⟩ := z5T hkk (l := es) (j := j) (by simpa using h) he fun i hi e' h' => hb (i + 1) (by omega) e' (by simpa using h')
    exact ⟨by simp [z0N, e2, h1], fun v => by simp [z4Q, e2, h2]⟩
theorem zbO {d : TypeDesc} {kk : Option IntKind} {k : Value} (hke : ∀ a, z3F kk a = true -> (z0w a k = true ↔ a = k)) (hd : zfi d = some kk) (hk : z3F kk k = true) : ∀ (l : List MapEntry) (i : Nat), (∀ x ∈ l, z3F kk x.key = true) ->
    (Instr.findNow d k l i = some none /\ ∀ e ∈ l, z0w e.key k = false) ∨ ∃ j e, Instr.findNow d k l i = some (some (i + j, e.val)) /\ l[j]? = some e /\ e.key = k /\ ∀ i < j, ∀ e', l[i]? = some e' -> z0w e'.key k = false
  | [], i, h => .inl ⟨rfl, fun e he => by cases he⟩
  | e :: es, i, h => by
    have he := h e (.head _)
    obtain ⟨r, hr, hiff⟩ := sameNow_of_keys (z2N hd hk) (z2N hd he)
    cases r with
    | true =>
      have e1 : e.key = k := (hiff.1 rfl).symm
      exact .inr ⟨0, e, by simp [Instr.findNow, hr], rfl, e1, fun i' hi => by omega⟩
    | false =>
      have e2 : z0w e.key k = false := by
        rw [← Bool.not_eq_true]; intro q; have := hiff.2 ((hke _ he).1 q).symm; cases this
      rcases zbO hke hd hk es (i + 1) (fun x hx => h x (.tail _ hx)) with ⟨h1, h2⟩ | ⟨j, e', h1, h2, h3, h4⟩
      · refine .inl ⟨by simp [Instr.findNow, hr, h1], fun x hx => ?_⟩
        rcases List.mem_cons.1 hx with rfl | hx
        · exact e2
        · exact h2 x hx
      · refine .inr ⟨j + 1, e', by simp [Instr.findNow, hr, h1]; omega, by simpa using h2, h3, fun i' hi e'' h' => ?_⟩
        cases i' with
        | zero => simp at h'; subst h'; exact e2
        | succ i' => exact h4 i' (by omega) e'' (by simpa using h')
theorem z7F {P : Program} {kt : TypeId} {kk : Option IntKind} {k : Value} (hk : KOk P kt kk) (hv : z3F kk k = true) (l : List MapEntry) (hl : ∀ x ∈ l, z3F kk x.key = true) :
    ((∀ w, (Instr.findKey kt k l).run P w = .ok none w) /\ ∀ e ∈ l, z0w e.key k = false) ∨ ∃ j e, (∀ w, (Instr.findKey kt k l).run P w = .ok (some (j, e.val)) w) /\ l[j]? = some e /\ e.key = k /\ ∀ i < j, ∀ e', l[i]? = some e' -> z0w e'.key k = false := by
  have hke : ∀ a, z3F kk a = true -> (z0w a k = true ↔ a = k) := fun a ha => z5c hk ha hv
  rcases hk with ⟨d, hu, hd⟩ | ⟨rfl, e, u2, ue, hs⟩
  · rcases zbO hke hd hv l 0 hl with ⟨h1, h2⟩ | ⟨j, e, h1, h2⟩
    · exact .inl ⟨fun w => run_findKey hu h1, h2⟩
    · exact .inr ⟨j, e, fun w => by rw [run_findKey hu h1, Nat.zero_add], h2⟩
  · have hw : ∀ w, (Instr.findKey kt k l).run P w = (Instr.findAsking kt k l 0).run P w := fun w => run_findKey_eq w (by rw [u2]) k l
    rcases zcJ u2 ue hs hv l 0 hl with ⟨h1, h2⟩ | ⟨j, e, h1, h2⟩
    · exact .inl ⟨fun w => (hw w).trans (h1 w), h2⟩
    · exact .inr ⟨j, e, fun w => by rw [hw, h1, Nat.zero_add], h2⟩
theorem z9z {P : Program} {kt : TypeId} {kk : Option IntKind} {k : Value} (hk : KOk P kt kk) (hv : z3F kk k = true) (l : List MapEntry) (hl : ∀ x ∈ l, z3F kk x.key = true) :
    ((∀ w, (Instr.findKey kt k l).run P w = .ok none w) /\ z0N k (l.map fun e => (e.key, e.val)) = none /\ ∀ v, z4Q k v (l.map fun e => (e.key, e.val)) = (l.map fun e => (e.key, e.val)) ++ [(k, v)]) ∨
    ∃ j e, (∀ w, (Instr.findKey kt k l).run P w = .ok (some (j, e.val)) w) /\ l[j]? = some e /\ e.key = k /\ z0N k (l.map fun e => (e.key, e.val)) = some e.val /\ ∀ v, z4Q k v (l.map fun e => (e.key, e.val)) = (l.map fun e => (e.key, e.val)).set j (k, v) := by
  rcases z7F hk hv l hl with ⟨h1, h2⟩ | ⟨j, e, h1, h2, h3, h4⟩
  · exact .inl ⟨h1, z5U h2⟩
  · exact .inr ⟨j, e, h1, h2, h3, z5T ((z5c hk hv hv).2 rfl) h2 h3 h4⟩
def zfA (fr : Fr) : E -> Option (Option Nat × Option IntKind × List (Value × Value))
  | .one (.t dep (.mr kk es)) => some (dep, kk, es)
  | .one (.h id p) => match z0i fr.ob id with
    | none => none
    | some root => match sub root p with
      | some (.mp kk es) => some (some id, kk, es)
      | some (.mr kk es) => some (none, kk, es)
      | _ => none
  | _ => none
theorem z7e {w : World} {K : Nat -> z0a} {R G : Nat -> Value} {fr : Fr} {a : Act} {e : E} {u : Value} {dep : Option Nat} {kk : Option IntKind} {es : List (Value × Value)} (h : FRep w K R G fr a) (he : ERep w K R fr.ob e u) (hr : zfA fr e = some (dep, kk, es)) :
    ∃ g ents clock, u = .map (some g) /\ frz K dep g = [] /\ w.heap[g]? = some (.map ents clock) /\ z5G kk ents clock es := by
  unfold zfA at hr
  split at hr
  · cases hr
    have h1 := he.1
    cases h1 with
    | mr _ g _ _ ents clock hK hg hh => exact ⟨g, ents, clock, rfl, hK, hg, hh⟩
  · rename_i id p
    split at hr
    case h_1 => cases hr
    case h_2 root hroot =>
    obtain ⟨n1, t, n2, n3⟩ := he
    split at hr
    · rename_i kk' es' hsub
      cases hr
      obtain ⟨v, e1, r⟩ := (h.ob id root hroot).sub (z0f id) hsub
      rw [n1] at e1; cases e1
      cases r with
      | mp _ g _ _ ents clock hc0 hK hg hh => exact ⟨g, ents, clock, rfl, by simp [frz, hK, col], hg, hh⟩
    · rename_i kk' es' hsub
      cases hr
      obtain ⟨v, e1, r⟩ := (h.ob id root hroot).sub (z0f id) hsub
      rw [n1] at e1; cases e1
      cases r with
      | mr _ g _ _ ents clock hK hg hh => exact ⟨g, ents, clock, rfl, hK, hg, hh⟩
    · cases hr
  · cases hr
def z8b (P : Program) (t : TypeId) : Option Value := match P.info? t with | some i => i.zero | none => none
theorem z7a {P : Program} {t : TypeId} {z : Value} (h : z8b P t = some z) (w : World) : (zeroValue t).run P w = .ok z w := by
  unfold z8b at h
  split at h
  · rename_i i hi
    simp [zeroValue, typeInfo, hi, h, Sem.run]
  · cases h
def z3B (P : Program) (t : TypeId) : Option (Option IntKind × TypeId) :=
  match z0t P t with
  | some ⟨.map kt et, _, _, _⟩ => match z0t P kt with
    | some ⟨.array 2 e, _, _, _⟩ => match z0t P e with
      | some ⟨.int .i64, 1, _, _⟩ => some (some .i8, et)
      | _ => none
    | some ki => match zfi ki.u with
      | some kk => some (kk, et)
      | none => none
    | none => none
  | _ => none
theorem z0T {P : Program} {t et : TypeId} {kk : Option IntKind} (h : z3B P t = some (kk, et)) : ∃ kt, P.underlying t = some (.map kt et) /\ KOk P kt kk := by
  unfold z3B at h
  split at h
  · rename_i kt et' s b z ht
    split at h
    · rename_i e s1 b1 z1 hki
      split at h
      · rename_i b2 z2 he
        cases h
        obtain ⟨h1, j, h2, h3, _⟩ := z0u he
        exact ⟨kt, (z0u ht).1, .inr ⟨rfl, e, (z0u hki).1, h1, by rw [h2]; exact congrArg some h3⟩⟩
      · cases h
    · rename_i ki hne hki
      split at h
      · rename_i kk' hkk
        cases h
        exact ⟨kt, (z0u ht).1, .inl ⟨ki.u, (z0u hki).1, hkk⟩⟩
      · cases h
    · cases h
  · cases h
def rdK : E -> Option Value
  | .ag [x, y] => (match rdV (.one x), rdV (.one y) with | some a, some b => some (.agg #[a, b]) | _, _ => none)
  | .one (.t none (.agg [.sc a, .sc b])) => some (.agg #[a, b])
  | e => rdV e
theorem z4v {w : World} {K : Nat -> z0a} {R : Nat -> Value} {ob : List (Nat × T)} {e : E} {u k : Value} (h : ERep w K R ob e u) (hr : rdK e = some k) : u = k := by
  unfold rdK at hr
  split at hr
  · rename_i x y
    split at hr
    · rename_i a b ha hb
      cases hr
      obtain ⟨arr, rfl, h1, h2⟩ := h
      have e0 : ERep w K R ob (.one x) (arr.getD 0 undef) := h2 0 x rfl
      have e1 : ERep w K R ob (.one y) (arr.getD 1 undef) := h2 1 y rfl
      have d0 := (z0e e0 ha).1
      have d1 := (z0e e1 hb).1
      obtain ⟨l⟩ := arr
      match l, h1 with
      | [p, q], _ =>
        have d0 : p = a := d0
        have d1 : q = b := d1
        subst d0 d1
        rfl
    · cases hr
  · rename_i a b
    cases hr
    have h1 := h.1
    generalize hT : T.agg [.sc a, .sc b] = t at h1
    cases h1 with
    | agg c vs cs F hl hF hh =>
      cases hT
      have g0 := (hh 0 _ rfl).sc_eq
      have g1 := (hh 1 _ rfl).sc_eq
      have f0 := hF 0 (by simp)
      have f1 := hF 1 (by simp)
      obtain ⟨l⟩ := vs
      match l, hl with
      | [p, q], _ =>
        simp at f0 f1
        rw [f0, f1, g0, g1]
    | _ => cases hT
  · exact (z0e h hr).1
def z6r (P : Program) (M : Nat -> Bool) (fr : Fr) (t : TypeId) (x key : E) (ok : Bool) : Option E :=
  match z3B P t with
  | none => none
  | some (kk, et) => match z8b P et with
    | none => none
    | some z => match zfA fr x with
      | none => none
      | some (dep, kk', es) => match rdK key with
        | none => none
        | some k => if kk = kk' /\ z3F kk k = true /\ scB z = true /\ z6G dep M = false then
            (if ok then some (.one (.t none (.tup [.sc ((z0N k es).getD z), .sc (.bool (z0N k es).isSome)]))) else some (scE ((z0N k es).getD z)))
          else none
theorem z7G {k v : Value} : ∀ {es : List (Value × Value)}, z0N k es = some v -> ∃ x ∈ es, x.2 = v
  | [], h => by cases h
  | (a, u) :: r, h => by
    simp only [z0N] at h
    split at h
    · cases h; exact ⟨_, .head _, rfl⟩
    · obtain ⟨x, hx, e⟩ := z7G h
      exact ⟨x, .tail _ hx, e⟩
theorem zat {P : Program} {w : World} {K : Nat -> z0a} {R G : Nat -> Value} {fr : Fr} {a : Act} {M : Nat -> Bool} {t : TypeId} {x key e : E} {u ku : Value} {ok : Bool} (h : FRep w K R G fr a) (hx : ERep w K R fr.ob x u) (hkey : ERep w K R fr.ob key ku) (hl : z6r P M fr t x key ok = some e) :
    ∃ v, ERep w K R fr.ob e v /\ ∀ w', Stay w w' K M -> (Instr.lookup t u ku ok).run P w' = .ok v w' := by
  unfold z6r at hl
  split at hl
  case h_1 => cases hl
  case h_2 kk et ht =>
  split at hl
  case h_1 => cases hl
  case h_2 z hz =>
  split at hl
  case h_1 => cases hl
  case h_2 dep kk' es hrd =>
  split at hl
  case h_1 => cases hl
  case h_2 k hk =>
  split at hl
  case isFalse => cases hl
  case isTrue hc =>
  obtain ⟨rfl, hkb, hzb, hdep⟩ := hc
  obtain ⟨kt, u1, u3⟩ := z0T ht
  obtain rfl := z4v hkey hk
  obtain ⟨g, ents, clock, rfl, hKg, hg, hm1, hm2, hm3, hm4⟩ := z7e h hx hrd
  subst hm1
  have hks : ∀ x ∈ ents.toList, z3F kk x.key = true := fun x hx => (hm2 (x.key, x.val) (List.mem_map.2 ⟨x, hx, rfl⟩)).1
  have hstay : ∀ w', Stay w w' K M -> w'.heap[g]? = some (.map ents clock) := fun w' hst => by
    have := hst.dep hdep (z0g hg) hKg
    rw [this]; exact hg
  have hfv : ∀ v, z0N ku (ents.toList.map fun e => (e.key, e.val)) = some v -> scB v = true := fun v hv => by
    obtain ⟨x, hx, rfl⟩ := z7G hv
    exact (hm2 x hx).2
  have hres : scB ((z0N ku (ents.toList.map fun e => (e.key, e.val))).getD z) = true := by
    cases hfd : z0N ku (ents.toList.map fun e => (e.key, e.val)) with
    | none => exact hzb
    | some v => exact hfv v hfd
  have hrun : ∀ w', Stay w w' K M -> (Instr.lookup t (.map (some g)) ku ok).run P w' = .ok (if ok then .tuple #[(z0N ku (ents.toList.map fun e => (e.key, e.val))).getD z, .bool (z0N ku (ents.toList.map fun e => (e.key, e.val))).isSome] else (z0N ku (ents.toList.map fun e => (e.key, e.val))).getD z) w' := fun w' hst => by
    have hb := hstay w' hst
    rcases z9z u3 hkb ents.toList hks with ⟨h1, h2, -⟩ | ⟨j, e', h1, h2, h3, h4, -⟩
    · rw [h2]
      simp only [Instr.lookup, Sem.run_bind, run_underlying u1, Go.MapKept.run_getObj_map hb, Result.andThen_ok, Sem.run_pure]
      rw [z2E u3 hkb]
      simp only [Result.andThen_ok, h1, z7a hz, Sem.run_bind, Sem.run_pure]
      rfl
    · rw [h4]
      simp only [Instr.lookup, Sem.run_bind, run_underlying u1, Go.MapKept.run_getObj_map hb, Result.andThen_ok, Sem.run_pure]
      rw [z2E u3 hkb]
      simp only [Result.andThen_ok, h1, Sem.run_bind, Sem.run_pure]
      rfl
  cases ok with
  | true =>
    simp only [if_true, Option.some.injEq] at hl
    subst hl
    refine ⟨_, ⟨?_, fun _ e => by cases e⟩, hrun⟩
    refine .tup _ _ _ (fun j => if j = 0 then (z0N ku (ents.toList.map fun e => (e.key, e.val))).getD z else .bool (z0N ku (ents.toList.map fun e => (e.key, e.val))).isSome) rfl (fun j hj => ?_) (fun j t ht => ?_)
    · match j, hj with
      | 0, _ => rfl
      | 1, _ => rfl
    · match j, ht with
      | 0, ht => cases ht; exact .sc _ _ hres
      | 1, ht => cases ht; exact .sc _ _ rfl
  | false =>
    simp only [Bool.false_eq_true, if_false, Option.some.injEq] at hl
    subst hl
    exact ⟨_, z0p hres, fun w' hst => by simpa using hrun w' hst⟩
def z6o (P : Program) (M : Nat -> Bool) (fr : Fr) (t : TypeId) (x : E) : Option E :=
  match z3B P t with
  | none => none
  | some _ => match zfA fr x with
    | none => none
    | some (dep, _, es) => if z6G dep M = false then some (scE (.int .i64 es.length)) else none
theorem zas {P : Program} {w : World} {K : Nat -> z0a} {R G : Nat -> Value} {fr : Fr} {a : Act} {M : Nat -> Bool} {t : TypeId} {x e : E} {u : Value} (h : FRep w K R G fr a) (hx : ERep w K R fr.ob x u) (hl : z6o P M fr t x = some e) :
    ∃ v, ERep w K R fr.ob e v /\ ∀ w', Stay w w' K M -> ∀ ty, (Builtin.len_ #[t] ty #[u]).run P w' = .ok v w' := by
  unfold z6o at hl
  split at hl
  case h_1 => cases hl
  case h_2 q ht =>
  split at hl
  case h_1 => cases hl
  case h_2 dep kk es hrd =>
  split at hl
  case isFalse => cases hl
  case isTrue hdep =>
  cases hl
  obtain ⟨kk', et⟩ := q
  obtain ⟨kt, u1, u3⟩ := z0T ht
  obtain ⟨g, ents, clock, rfl, hKg, hg, hm1, hm2, hm3, hm4⟩ := z7e h hx hrd
  refine ⟨_, z0p rfl, fun w' hst ty => ?_⟩
  have hb : w'.heap[g]? = some (.map ents clock) := by rw [hst.dep hdep (z0g hg) hKg]; exact hg
  have hlen : es.length = ents.size := by rw [← hm1]; simp
  simp [Builtin.len_, Sem.run_bind, run_underlying u1, Go.MapKept.run_getObj_map hb, Result.andThen_ok, Sem.run_pure, goInt, hlen]
def z3j (id : Nat) : A -> A
  | .t (some i) x => if i = id then .dead else .t (some i) x
  | .ea (some i) cs o => if i = id then .dead else .ea (some i) cs o
  | x => x
theorem FRep.mapset {w w' : World} {K : Nat -> z0a} {R G : Nat -> Value} {fr : Fr} {a : Act} {id : Nat} {p : List Nat} {root root' : T} {kk : Option IntKind} {es es' : List (Value × Value)} {g : Nat} {ents ents' : Array MapEntry} {clock clock' : Nat}
    (h : FRep w K R G fr a) (hroot : z0i fr.ob id = some root) (hbox : sub root p = some (.mp kk es)) (hupd : upd root p (.mp kk es') = some root') (hnav : nav w (R id) p = some (.map (some g)))
    (hg : w.heap[g]? = some (.map ents clock)) (hg' : w'.heap[g]? = some (.map ents' clock')) (hh : z5G kk ents' clock' es') (hsz : w'.heap.size = w.heap.size) (hoth : ∀ b, b ≠ g -> w'.heap[b]? = w.heap[b]?) :
    FRep w' K R G { fr with tm := z1m (z3j id) fr.tm, ob := z0X fr.ob id root' } a := by
  have hrt := h.ob id root hroot
  obtain ⟨hv2, hnav2, hrep⟩ := hrt.sub (z0f id) hbox
  rw [hnav] at hnav2; cases hnav2
  have hKg : K g = col id ++ p := by cases hrep with | mp _ g _ _ ents clock hc0 hK hg hh => exact hK
  have hne : ∀ b i s, K b = (i + 2) :: s -> i ≠ id -> b ≠ g := fun b i s e1 e2 e3 => by
    subst e3; rw [hKg] at e1; simp [col] at e1; exact e2 e1.1.symm
  have hne0 : ∀ b, K b = [] -> b ≠ g := fun b e1 e3 => by subst e3; rw [hKg] at e1; simp [col] at e1
  have hfro : ∀ b, b < w.heap.size -> K b = [] -> K b = [] /\ w'.heap[b]? = w.heap[b]? := fun b hb e1 => ⟨e1, hoth b (hne0 b e1)⟩
  have hcell : ∀ gb j, w'.cell? ⟨gb, j, none⟩ = w.cell? ⟨gb, j, none⟩ := fun gb j => by
    by_cases e1 : gb = g
    · subst e1; simp [World.cell?, hg, hg']
    · exact z0d (hoth gb e1) j
  have hway : ∀ i t q, z0i fr.ob i = some t -> (sub t q).isSome -> nav w' (R i) q = nav w (R i) q := fun i t q ho hs =>
    z1d (h.ob i t ho) (z0f i) hs fun r j s gb hq hKb hb => hcell gb j
  have hsub : ∀ q, (sub root q).isSome -> (sub root' q).isSome := fun q hs => by
    by_cases hp : p <+: q
    · obtain ⟨s, rfl⟩ := hp
      rw [z0Y hupd]
      rw [z0y hbox] at hs
      cases s with
      | nil => simp [sub]
      | cons j s => simp [sub, z8a] at hs
    · exact z0v hupd hp hs
  have hdep : ∀ i, i ≠ id -> ∀ b, b < w.heap.size -> frz K (some i) b = [] -> frz K (some i) b = [] /\ w'.heap[b]? = w.heap[b]? := fun i hi b hb e1 => by
    refine ⟨e1, ?_⟩
    simp only [frz] at e1
    split at e1
    · rename_i hh
      obtain ⟨s, hs⟩ : ∃ s, K b = (i + 2) :: s := by
        cases hk : K b with
        | nil => rw [hk] at hh; cases hh
        | cons a s => rw [hk] at hh; simp at hh; subst hh; exact ⟨s, rfl⟩
      exact hoth b (hne b i s hs hi)
    · exact (hfro b hb e1).2
  have hobi : ∀ i, i ≠ id -> z0i (z0X fr.ob id root') i = z0i fr.ob i := fun i hi => by rw [z0c, if_neg (fun e => hi e.symm)]
  refine ⟨fun i => ?_, fun i t ho => ?_, h.nt, h.df⟩
  · show ERep w' K R (z0X fr.ob id root') (z0n (z1m (z3j id) fr.tm) i) _
    rw [z0L _ rfl]
    refine (h.tm i).map _ fun x u hx => ?_
    cases x with
    | dead => trivial
    | k v => exact hx
    | t dep x =>
      cases dep with
      | none => exact ⟨TRep.fz hx.1 hfro (by omega), fun _ e => by cases e⟩
      | some i =>
        by_cases hi : i = id
        · simp only [z3j, if_pos hi]; trivial
        · simp only [z3j, if_neg hi]
          exact ⟨TRep.fz hx.1 (fun b hb e1 => hdep i hi b hb e1) (by omega), fun _ e => by cases e; rw [hobi i hi]; exact hx.2 i rfl⟩
    | h i q =>
      obtain ⟨n1, t, n2, n3⟩ := hx
      refine ⟨by rw [hway i t q n2 n3]; exact n1, ?_⟩
      by_cases hi : i = id
      · subst hi
        rw [hroot] at n2; cases n2
        exact ⟨root', by simp [z0c], hsub q n3⟩
      · exact ⟨t, by rw [hobi i hi]; exact n2, n3⟩
    | a i q o =>
      obtain ⟨hv, g, n1, n4, n5, t, n2, n3⟩ := hx
      refine ⟨hv, g, by rw [hway i t q n2 n3]; exact n1, n4, n5, ?_⟩
      by_cases hi : i = id
      · subst hi
        rw [hroot] at n2; cases n2
        exact ⟨root', by simp [z0c], hsub q n3⟩
      · exact ⟨t, by rw [hobi i hi]; exact n2, n3⟩
    | tf n cs => exact ⟨hx.1, TRep.fz hx.2 hfro (by omega)⟩
    | ea dep cs o =>
      obtain ⟨g, o, F, e1, e2, e3, e4, e5, e6⟩ := hx
      cases dep with
      | none => exact ⟨g, o, F, e1, e2, by omega, fun j hj => by rw [hcell]; exact e4 j hj, fun j t ht => TRep.fz (e5 j t ht) hfro (by omega), fun _ e => by cases e⟩
      | some i =>
        by_cases hi : i = id
        · simp only [z3j, if_pos hi]; trivial
        · simp only [z3j, if_neg hi]
          exact ⟨g, o, F, e1, e2, by omega, fun j hj => by rw [hcell]; exact e4 j hj, fun j t ht => TRep.fz (e5 j t ht) (fun b hb e1 => hdep i hi b hb e1) (by omega), fun _ e => by cases e; rw [hobi i hi]; exact e6 i rfl⟩
  · rw [z0c] at ho
    split at ho
    · rename_i e1
      subst e1; cases ho
      refine TRep.upd hrt (z0f id) hnav hupd ⟨hfro, fun b hb ⟨s, e1, hs⟩ => ?_, by omega⟩ (.mp _ g kk es' ents' clock' (by simp [col]) hKg hg' hh)
      have hb' : b ≠ g := fun e2 => by subst e2; rw [hKg] at e1; exact hs (by rw [List.append_cancel_left e1]; exact List.prefix_rfl)
      exact ⟨rfl, hoth b hb'⟩
    · rename_i e1
      refine (h.ob i t ho).keep (D := But id) ⟨hfro, fun b hb ⟨j, s, e2, hj⟩ => ⟨rfl, hoth b (hne b j s e2 hj)⟩, by omega⟩ (fun s _ => ⟨i, s, rfl, fun e => e1 e.symm⟩)
def z6m (P : Program) (fr : Fr) (t : TypeId) (m key val : E) : Option Fr :=
  match z3B P t with
  | none => none
  | some (kk, _) => match m with
    | .one (.h id p) => match z0i fr.ob id with
      | none => none
      | some root => match sub root p with
        | some (.mp kk' es) => match rdK key, rdV val with
          | some k, some v => if kk = kk' /\ z3F kk k = true then (match upd root p (.mp kk (z4Q k v es)) with
              | some root' => some { fr with tm := z1m (z3j id) fr.tm, ob := z0X fr.ob id root' }
              | none => none) else none
          | _, _ => none
        | _ => none
    | _ => none
theorem zar {P : Program} {w : World} {K : Nat -> z0a} {R G : Nat -> Value} {fr fr' : Fr} {a : Act} {t : TypeId} {m key val : E} {um uk uv : Value} (h : FRep w K R G fr a) (hm : ERep w K R fr.ob m um) (hk : ERep w K R fr.ob key uk) (hv : ERep w K R fr.ob val uv) (hf : z6m P fr t m key val = some fr') :
    ∃ w', (Instr.mapUpdate t um uk uv).run P w = .ok () w' /\ FRep w' K R G fr' a /\ Step w K w' K /\ ∀ b i s, K b = (i + 2) :: s -> (∀ id p, m = .one (.h id p) -> i ≠ id) -> w'.heap[b]? = w.heap[b]? := by
  unfold z6m at hf
  split at hf
  case h_1 => cases hf
  case h_2 kk et ht =>
  split at hf
  case h_2 => cases hf
  case h_1 id p =>
  split at hf
  case h_1 => cases hf
  case h_2 root hroot =>
  split at hf
  case h_2 => cases hf
  case h_1 kk' es hsub =>
  split at hf
  case h_2 => cases hf
  case h_1 k v hrk hrv =>
  split at hf
  case isFalse => cases hf
  case isTrue hc =>
  obtain ⟨rfl, hkb⟩ := hc
  split at hf
  case h_2 => cases hf
  case h_1 root' hupd =>
  cases hf
  obtain rfl := z4v hk hrk
  obtain ⟨rfl, hvb⟩ := z0e hv hrv
  obtain ⟨kt, u1, u3⟩ := z0T ht
  obtain ⟨n1, t0, n2, n3⟩ := hm
  obtain ⟨v0, e1, r⟩ := (h.ob id root hroot).sub (z0f id) hsub
  rw [n1] at e1; cases e1
  obtain ⟨g, ents, clock, rfl, hKg, hg, hm1, hm2, hm3, hm4⟩ : ∃ g ents clock, um = .map (some g) /\ K g = col id ++ p /\ w.heap[g]? = some (.map ents clock) /\ z5G kk ents clock es := by
    cases r with
    | mp _ g _ _ ents clock hc0 hK hg hh => exact ⟨g, ents, clock, rfl, hK, hg, hh⟩
  have hks : ∀ x ∈ ents.toList, z3F kk x.key = true := fun x hx => (hm2 (x.key, x.val) (by rw [← hm1]; exact List.mem_map.2 ⟨x, hx, rfl⟩)).1
  have main : ∃ ents' clock', (Instr.mapUpdate t (.map (some g)) uk uv).run P w = .ok () { w with heap := w.heap.setIfInBounds g (.map ents' clock') } /\ z5G kk ents' clock' (z4Q uk uv es) := by
    rcases z9z u3 hkb ents.toList hks with ⟨h1, h2, h3⟩ | ⟨j, e', h1, h2, h3, h4, h5⟩
    · refine ⟨ents.push { key := uk, val := uv, born := clock }, clock + 1, ?_, ?_, ?_, ?_, ?_⟩
      · simp only [Instr.mapUpdate, Sem.run_bind, run_underlying u1, Go.MapKept.run_getObj_map hg, Result.andThen_ok]
        rw [z2E u3 hkb]
        simp only [Result.andThen_ok, h1]
        exact run_setObj_map _ hg
      · rw [← hm1, h3]; simp
      · rw [← hm1, h3]
        intro x hx
        rcases List.mem_append.1 hx with hx | hx
        · exact hm2 x (by rw [← hm1]; exact hx)
        · simp at hx; subst hx; exact ⟨hkb, hvb⟩
      · intro x hx
        simp only [Array.toList_push, List.mem_append, List.mem_singleton] at hx
        rcases hx with hx | hx
        · have := hm3 x hx; omega
        · subst hx; exact Nat.lt_succ_self _
      · simp only [Array.toList_push, List.map_append, List.map_cons, List.map_nil]
        refine List.nodup_append.2 ⟨hm4, by simp, fun b hb c hc e => ?_⟩
        rw [List.mem_singleton] at hc
        subst hc
        obtain ⟨x, hx, rfl⟩ := List.mem_map.1 hb
        have := hm3 x hx; omega
    · have hj : ents[j]? = some e' := by simpa using h2
      have hbn : (ents.modify j fun e => { e with key := uk, val := uv }).toList.map (·.born) = ents.toList.map (·.born) := by
        apply List.ext_getElem?
        intro i
        simp only [List.getElem?_map, Array.getElem?_toList, Array.getElem?_modify]
        by_cases e : j = i
        · subst e; simp [hj]
        · simp [e]
      refine ⟨ents.modify j fun e => { e with key := uk, val := uv }, clock, ?_, ?_, ?_, ?_, ?_⟩
      · simp only [Instr.mapUpdate, Sem.run_bind, run_underlying u1, Go.MapKept.run_getObj_map hg, Result.andThen_ok]
        rw [z2E u3 hkb]
        simp only [Result.andThen_ok, h1, hj, Option.map_some, Option.getD_some, h3, Sem.run_bind, z8Z u3 hkb]
        exact run_setObj_map _ hg
      · rw [← hm1, h5]
        apply List.ext_getElem?
        intro i
        simp only [List.getElem?_map, Array.getElem?_toList, Array.getElem?_modify, List.getElem?_set]
        by_cases e : j = i
        · subst e
          have : j < ents.size := (Array.getElem?_eq_some_iff.1 hj).1
          simp [hj, this]
        · simp [e]
      · rw [← hm1, h5]
        intro x hx
        rcases List.mem_or_eq_of_mem_set hx with hx | hx
        · exact hm2 x (by rw [← hm1]; exact hx)
        · subst hx; exact ⟨hkb, hvb⟩
      · intro x hx
        have hb : x.born ∈ (ents.modify j fun e => { e with key := uk, val := uv }).toList.map (·.born) := List.mem_map.2 ⟨x, hx, rfl⟩
        rw [hbn] at hb
        obtain ⟨y, hy, e⟩ := List.mem_map.1 hb
        rw [← e]; exact hm3 y hy
      · rw [hbn]; exact hm4
  obtain ⟨ents', clock', hrun, hmi⟩ := main
  have hs := heap_set (o' := .map ents' clock') hg
  refine ⟨_, hrun, h.mapset hroot hsub hupd n1 hg hs.1 hmi (by simp) (fun b hb => hs.2 b hb), ⟨rfl, rfl, rfl, by simp, fun b hb hc => ⟨rfl, hs.2 b (fun e => ?_)⟩, fun b arr e fz hb => ⟨arr, e, fz, (hs.2 b (fun e => by subst e; rw [hg] at hb; cases hb)).trans hb, rfl⟩⟩, fun b i s hb hi => hs.2 b (fun e => ?_)⟩
  · subst e; rw [hKg] at hc; rcases hc with hc | hc <;> simp [col] at hc
  · subst e; rw [hKg] at hb; simp [col] at hb; exact hi id p rfl hb.1.symm
def zc8 : Option E -> Bool
  | none => true
  | some e => match rdV e with | some (.int _ _) => true | _ => false
def z4A (P : Program) (fr : Fr) (t : TypeId) (r : Option E) (d : Nat) : Option Fr :=
  match z3B P t with
  | none => none
  | some (kk, _) => if d < fr.nt /\ zc8 r = true then
      some { fr with tm := z4t (z1m (kill d) fr.tm) d (.one (.h d [])), ob := z0X fr.ob d (.mp kk []) } else none
theorem z8v {P : Program} {w : World} {K : Nat -> z0a} {R G : Nat -> Value} {fr fr' : Fr} {a : Act} {t : TypeId} {r : Option E} {ur : Option Value} {d : Nat} (h : FRep w K R G fr a) (hr : zdM w K R fr.ob r ur) (hf : z4A P fr t r d = some fr') :
    ∃ v w', (Instr.makeMap t ur).run P w = .ok v w' /\ (∃ K' R', FRep w' K' R' G fr' (a.put (some d) v) /\ Step w K w' K') /\ ∀ b, b < w.heap.size -> w'.heap[b]? = w.heap[b]? := by
  unfold z4A at hf
  split at hf
  case h_1 => cases hf
  case h_2 kk et ht =>
  split at hf
  case isFalse => cases hf
  case isTrue hc =>
  obtain ⟨hd, hc⟩ := hc
  cases hf
  obtain ⟨kt, u1, u3⟩ := z0T ht
  have hnew := NewB.alloc w (.map #[] 0)
  have hrun : (Instr.makeMap t ur).run P w = .ok (.map (some w.heap.size)) { w with heap := w.heap.push (.map #[] 0) } := by
    cases ur with
    | none => simp [Instr.makeMap, newObj, Sem.run]
    | some v =>
      cases r with
      | none => exact absurd hr id
      | some e =>
        simp only [zc8] at hc
        split at hc
        · rename_i k n he
          obtain ⟨rfl, -⟩ := z0e hr he
          have h2 : (asInt (.int k n)).run P w = .ok n w := by simp [asInt, asIntOf]
          simp only [Instr.makeMap, Sem.run_bind, run_underlying u1, Result.andThen_ok, h2]
          simp [newObj, Sem.run]
        · cases hc
  refine ⟨_, _, hrun, ?_, fun b hb => hnew.old hb⟩
  have h2 := h.keep (hnew.keep (c := col d))
  have h3 := h2.replace (d := d) (v := .map (some w.heap.size)) (t := .mp kk []) ⟨fun b hb e => ⟨e, rfl⟩, fun b hb _ => ⟨rfl, rfl⟩, Nat.le_refl _⟩ (.mp _ w.heap.size kk [] #[] 0 (z0f d) (by simp) hnew.new ⟨rfl, (fun x hx => by cases hx), (fun x hx => by cases hx), List.nodup_nil⟩)
  refine ⟨_, _, h3.put (d := d) (x := .one (.h d [])) hd ⟨by simp [z2q, nav], .mp kk [], by simp [z0c], rfl⟩, hnew.step⟩
def zgb : E -> Option T
  | .one (.k v) => some (z2C false v)
  | .one (.t none x) => some x
  | .one (.ea none cs 0) => some (.pr cs)
  | _ => none
def zcz (fr : Fr) : List Operand -> Option (List T)
  | [] => some []
  | x :: xs => match zgb (opE fr x), zcz fr xs with | some t, some ts => some (t :: ts) | _, _ => none
def zgu (fr : Fr) (dep : Nat) : E -> Option T
  | .one (.a id [] 0) => if id = dep then (match z0i fr.ob id with | some (.vr cs) => some (.pr (z0O cs)) | _ => none) else none
  | e => zgb e
def zcA (fr : Fr) (dep : Nat) : List Operand -> Option (List T)
  | [] => some []
  | x :: xs => match zgu fr dep (opE fr x), zcA fr dep xs with | some t, some ts => some (t :: ts) | _, _ => none
def z7N (fr : Fr) : List Operand -> Option Nat
  | [] => none
  | x :: xs => match opE fr x with | .one (.a id [] 0) => some id | _ => z7N fr xs
def z3D (fr : Fr) (fn : Fn) (first captured : List Operand) : Option E :=
  match fn, first with
  | .func f, [] => (match captured with
    | [] => some (scE (.func (.func f) #[] #[]))
    | _ => match z7N fr captured with
      | none => (match zcz fr captured with | some ts => some (.one (.t none (.cl f ts))) | none => none)
      | some id => match zcA fr id captured with | some ts => some (.one (.t (some id) (.cl f ts))) | none => none)
  | _, _ => none
theorem z9O {w : World} {K : Nat -> z0a} {R : Nat -> Value} {ob : List (Nat × T)} {e : E} {u : Value} {t : T} (h : ERep w K R ob e u) (hc : zgb e = some t) : TRep w K [] u t := by
  unfold zgb at hc
  split at hc
  · cases hc
    rename_i v
    obtain rfl : u = v := h
    exact z1o _ _ _ _ _
  · cases hc; exact h.1
  · cases hc
    obtain ⟨g, o, F, h1, h2, h3, h4, h5, h6⟩ := h
    rw [h1]
    exact .pr [] g o _ F h2 h3 h4 h5
  · cases hc
theorem z7Q {w : World} {K : Nat -> z0a} {R G : Nat -> Value} {fr : Fr} {a : Act} (h : FRep w K R G fr a) : ∀ {xs : List Operand} {ts : List T}, zcz fr xs = some ts -> ts.length = xs.length /\ ∀ (j : Nat) (t : T), ts[j]? = some t -> ∃ x, xs[j]? = some x /\ TRep w K [] (a.eval x) t
  | [], ts, hc => by cases hc; exact ⟨rfl, fun j t ht => by simp at ht⟩
  | x :: xs, ts, hc => by
    simp only [zcz] at hc
    split at hc
    · rename_i t ts' h1 h2
      cases hc
      obtain ⟨r1, r2⟩ := z7Q h h2
      refine ⟨by simp [r1], fun j t' ht => ?_⟩
      match j, ht with
      | 0, ht => simp at ht; subst ht; exact ⟨x, rfl, z9O (h.opE x) h1⟩
      | j + 1, ht => obtain ⟨y, y1, y2⟩ := r2 j t' (by simpa using ht); exact ⟨y, by simpa using y1, y2⟩
    · cases hc
theorem zdE {w : World} {K : Nat -> z0a} {R G : Nat -> Value} {fr : Fr} {a : Act} {e : E} {u : Value} {t : T} {dep : Nat} (h : FRep w K R G fr a) (he : ERep w K R fr.ob e u) (hc : zgu fr dep e = some t) : TRep w (frz K (some dep)) [] u t := by
  have h0 : ∀ b, K b = [] -> frz K (some dep) b = [] := fun b e => by simp [frz, e]
  unfold zgu at hc
  split at hc
  · rename_i id
    split at hc
    case isFalse => cases hc
    case isTrue hid =>
    subst hid
    split at hc
    case h_2 => cases hc
    case h_1 cs hob =>
    cases hc
    obtain ⟨hv, g, n1, n4, n5, -⟩ := he
    simp only [nav, Option.some.injEq] at n1
    have hr := h.ob id _ hob
    rw [n1] at hr
    rw [n5, z0q]
    cases hr with
    | vr c g' cs arr e fz F hfz hc0 hK hg hl hF hh =>
      simp only [z1j, Option.some.injEq] at n4
      subst n4
      refine .pr [] g' 0 _ F (by simp [frz, hK, col]) (z0g hg) (fun j hj => by rw [z0s hg, Nat.zero_add]; exact hF j (by simpa using hj)) (fun j t ht => ?_)
      simp only [List.getElem?_map, Option.map_eq_some_iff] at ht
      obtain ⟨t0, ht0, rfl⟩ := ht
      exact (hh j t0 ht0).freeze (fun b s hb _ hKb => ⟨by simp [frz, hKb, col], rfl⟩) (fun b _ e => ⟨h0 b e, rfl⟩) (Nat.le_refl _) []
  · exact TRep.fz (z9O he hc) (fun b _ e => ⟨h0 b e, rfl⟩) (Nat.le_refl _)
theorem z7R {w : World} {K : Nat -> z0a} {R G : Nat -> Value} {fr : Fr} {a : Act} {dep : Nat} (h : FRep w K R G fr a) : ∀ {xs : List Operand} {ts : List T}, zcA fr dep xs = some ts -> ts.length = xs.length /\ ∀ (j : Nat) (t : T), ts[j]? = some t -> ∃ x, xs[j]? = some x /\ TRep w (frz K (some dep)) [] (a.eval x) t
  | [], ts, hc => by cases hc; exact ⟨rfl, fun j t ht => by simp at ht⟩
  | x :: xs, ts, hc => by
    simp only [zcA] at hc
    split at hc
    · rename_i t ts' h1 h2
      cases hc
      obtain ⟨r1, r2⟩ := z7R h h2
      refine ⟨by simp [r1], fun j t' ht => ?_⟩
      match j, ht with
      | 0, ht => simp at ht; subst ht; exact ⟨x, rfl, zdE h (h.opE x) h1⟩
      | j + 1, ht => obtain ⟨y, y1, y2⟩ := r2 j t' (by simpa using ht); exact ⟨y, by simpa using y1, y2⟩
    · cases hc
theorem z7M {w : World} {K : Nat -> z0a} {R G : Nat -> Value} {fr : Fr} {a : Act} (h : FRep w K R G fr a) : ∀ {xs : List Operand} {id : Nat}, z7N fr xs = some id -> (z0i fr.ob id).isSome
  | [], id, hc => by cases hc
  | x :: xs, id, hc => by
    simp only [z7N] at hc
    split at hc
    · rename_i id' he
      cases hc
      have hx := h.opE x
      rw [he] at hx
      obtain ⟨hv, g, _, _, _, t, n2, _⟩ := hx
      rw [n2]; rfl
    · exact z7M h hc
theorem z7s {w : World} {K : Nat -> z0a} {R G : Nat -> Value} {fr : Fr} {a : Act} {fn : Fn} {first captured : List Operand} {e : E} (h : FRep w K R G fr a) (hf : z3D fr fn first captured = some e) :
    ERep w K R fr.ob e (.func fn (first.map a.eval).toArray (captured.map a.eval).toArray) := by
  unfold z3D at hf
  split at hf
  · rename_i f
    split at hf
    · cases hf; exact z0p rfl
    · split at hf
      · split at hf
        · rename_i ts hts
          cases hf
          obtain ⟨r1, r2⟩ := z7Q h hts
          refine ⟨.cl _ f _ _ (fun j => (captured.map a.eval).getD j undef) (by simp [r1]) (fun j hj => ?_) (fun j t ht => ?_), fun _ e => by cases e⟩
          · have : j < captured.length := by omega
            simp [List.getD, this]
          · obtain ⟨x, x1, x2⟩ := r2 j t ht
            have : (captured.map a.eval).getD j undef = a.eval x := by simp [List.getD, x1]
            rw [this]; exact x2
        · cases hf
      · rename_i id hid
        split at hf
        · rename_i ts hts
          cases hf
          obtain ⟨r1, r2⟩ := z7R h hts
          refine ⟨.cl _ f _ _ (fun j => (captured.map a.eval).getD j undef) (by simp [r1]) (fun j hj => ?_) (fun j t ht => ?_), fun i e => by cases e; exact z7M h hid⟩
          · have : j < captured.length := by omega
            simp [List.getD, this]
          · obtain ⟨x, x1, x2⟩ := r2 j t ht
            have : (captured.map a.eval).getD j undef = a.eval x := by simp [List.getD, x1]
            rw [this]; exact x2
        · cases hf
  · cases hf
def z3n (fr : Fr) (x : Operand) : Option (FuncId × List T) :=
  match opE fr x with
  | .one (.t none (.sc (.func (.func f) fs cs))) => if fs.isEmpty && cs.isEmpty then some (f, []) else none
  | .one (.k (.func (.func f) fs cs)) => if fs.isEmpty && cs.isEmpty then some (f, []) else none
  | .one (.t none (.cl f ts)) => some (f, ts)
  | _ => none
theorem z7T {w : World} {K : Nat -> z0a} {R G : Nat -> Value} {fr : Fr} {a : Act} {x : Operand} {f : FuncId} {ts : List T} (h : FRep w K R G fr a) (hc : z3n fr x = some (f, ts)) :
    ∃ vs : List Value, a.eval x = .func (.func f) #[] vs.toArray /\ vs.length = ts.length /\ ∀ (j : Nat) (t : T) (v : Value), ts[j]? = some t -> vs[j]? = some v -> TRep w K [] v t := by
  have hx := h.opE x
  unfold z3n at hc
  split at hc
  · rename_i f' fs cs he
    rw [he] at hx
    split at hc
    · rename_i hb
      cases hc
      simp only [Bool.and_eq_true, Array.isEmpty_iff] at hb
      obtain ⟨rfl, rfl⟩ := hb
      have := hx.1.sc_eq
      exact ⟨[], this, rfl, fun j t v ht => by simp at ht⟩
    · cases hc
  · rename_i f' fs cs he
    rw [he] at hx
    split at hc
    · rename_i hb
      cases hc
      simp only [Bool.and_eq_true, Array.isEmpty_iff] at hb
      obtain ⟨rfl, rfl⟩ := hb
      exact ⟨[], hx, rfl, fun j t v ht => by simp at ht⟩
    · cases hc
  · rename_i f' ts' he
    rw [he] at hx
    cases hc
    obtain ⟨h1, -⟩ := hx
    generalize a.eval x = u at h1
    cases h1 with
    | cl _ _ vs _ F hl hF hh =>
      refine ⟨vs.toList, by simp, by simp [hl], fun j t v ht hv => ?_⟩
      have hlt := (List.getElem?_eq_some_iff.1 ht).1
      have e1 := hF j hlt
      rw [Array.getElem?_toList, e1] at hv
      cases hv
      exact hh j t ht
  · cases hc
end
section
open Go.MapKept
def zfs : Option TyI -> Bool
  | some ⟨.slice _, _, _, _⟩ => true
  | some ⟨.struct _, _, _, _⟩ => true
  | _ => false
def zdp : A -> Option T
  | .t none x => some x
  | .k v => some (z2C false v)
  | _ => none
def z7y : List A -> Option (List T)
  | [] => some []
  | x :: r => match zdp x, z7y r with | some t, some ts => some (t :: ts) | _, _ => none
def zdo : E -> Option T
  | .one (.t none x) => some x
  | .one (.k v) => some (z4j false v)
  | .ag xs => (match z7y xs with | some ts => some (.agg ts) | none => none)
  | _ => none
theorem zbX {w : World} {K : Nat -> z0a} {R : Nat -> Value} {ob : List (Nat × T)} {x : A} {u : Value} {t : T} (h : ARep w K R ob x u) (hl : zdp x = some t) : TRep w K [] u t := by
  unfold zdp at hl
  split at hl
  · cases hl; exact h.1
  · cases hl
    rename_i v
    obtain rfl : u = v := h
    exact z1o _ _ _ _ _
  · cases hl
theorem z5P {w : World} {K : Nat -> z0a} {R : Nat -> Value} {ob : List (Nat × T)} : ∀ {xs : List A} {F : Nat -> Value} {ts : List T}, (∀ j x, xs[j]? = some x -> ARep w K R ob x (F j)) -> z7y xs = some ts -> ts.length = xs.length /\ ∀ (j : Nat) (t : T), ts[j]? = some t -> TRep w K [] (F j) t
  | [], F, ts, hx, hl => by cases hl; exact ⟨rfl, fun j t ht => by simp at ht⟩
  | x :: xs, F, ts, hx, hl => by
    simp only [z7y] at hl
    split at hl
    · rename_i t ts' h1 h2
      cases hl
      obtain ⟨r1, r2⟩ := z5P (F := fun j => F (j + 1)) (fun j y hy => hx (j + 1) y (by simpa using hy)) h2
      refine ⟨by simp [r1], fun j t' ht => ?_⟩
      match j, ht with
      | 0, ht => simp at ht; subst ht; exact zbX (hx 0 x rfl) h1
      | j + 1, ht => exact r2 j t' (by simpa using ht)
    · cases hl
theorem zbW {w : World} {K : Nat -> z0a} {R : Nat -> Value} {ob : List (Nat × T)} {e : E} {u : Value} {t : T} (h : ERep w K R ob e u) (hl : zdo e = some t) : TRep w K [] u t := by
  unfold zdo at hl
  split at hl
  · cases hl; exact h.1
  · cases hl
    rename_i v
    obtain rfl : u = v := h
    exact z3X _ _ _ _
  · rename_i xs
    split at hl
    · rename_i ts h1
      cases hl
      obtain ⟨arr, rfl, e2, e3⟩ := h
      obtain ⟨r1, r2⟩ := z5P (F := fun j => arr.getD j undef) e3 h1
      exact .agg _ arr ts (fun j => arr.getD j undef) (by omega) (fun j hj => z0F _ _ (by omega)) r2
    · cases hl
  · cases hl
def z2o (k : Value) : List Value -> List T -> Option T
  | a :: ks, t :: cs => if z0w a k then some t else z2o k ks cs
  | _, _ => none
def z3g (k : Value) (t : T) : List Value -> List T -> List Value × List T
  | a :: ks, c :: cs => if z0w a k then (k :: ks, t :: cs) else (a :: (z3g k t ks cs).1, c :: (z3g k t ks cs).2)
  | _, _ => ([k], [t])
theorem z5l {k : Value} : ∀ {l : List MapEntry} {cs : List T}, cs.length = l.length -> (∀ e ∈ l, z0w e.key k = false) -> z2o k (l.map fun e => e.key) cs = none /\ ∀ t, z3g k t (l.map fun e => e.key) cs = ((l.map fun e => e.key) ++ [k], cs ++ [t])
  | [], [], _, _ => ⟨rfl, fun _ => rfl⟩
  | [], _ :: _, hl, _ => by simp at hl
  | _ :: _, [], hl, _ => by simp at hl
  | e :: es, c :: cs, hl, h => by
    have e2 := h e (.head _)
    obtain ⟨h1, h2⟩ := z5l (l := es) (cs := cs) (by simpa using hl) fun x hx => h x (.tail _ hx)
    exact ⟨by simp [z2o, e2, h1], fun v => by simp [z3g, e2, h2]⟩
theorem z5k {k : Value} (hkk : z0w k k = true) : ∀ {l : List MapEntry} {cs : List T} {j : Nat} {e : MapEntry}, cs.length = l.length -> l[j]? = some e -> e.key = k -> (∀ i < j, ∀ e', l[i]? = some e' -> z0w e'.key k = false) -> ∃ c, cs[j]? = some c /\ z2o k (l.map fun e => e.key) cs = some c /\ ∀ t, z3g k t (l.map fun e => e.key) cs = ((l.map fun e => e.key).set j k, cs.set j t)
  | [], _, j, e, _, h, _, _ => by simp at h
  | _ :: _, [], _, _, hl, _, _, _ => by simp at hl
  | x :: es, c :: cs, 0, e, _, h, he, _ => by
    simp at h; subst h; subst he
    exact ⟨c, rfl, by simp [z2o, hkk], fun v => by simp [z3g, hkk]⟩
  | x :: es, c :: cs, j + 1, e, hl, h, he, hb => by
    have e2 := hb 0 (by omega) x rfl
    obtain ⟨c', h1, h2, h3⟩ := z5k hkk (l := es) (cs := cs) (j := j) (by simpa using hl) (by simpa using h) he fun i hi e' h' => hb (i + 1) (by omega) e' (by simpa using h')
    exact ⟨c', by simpa using h1, by simp [z2o, e2, h2], fun v => by simp [z3g, e2, h3]⟩
theorem z7H {P : Program} {kt : TypeId} {kk : Option IntKind} {k : Value} (hk : KOk P kt kk) (hv : z3F kk k = true) (l : List MapEntry) (cs : List T) (hl : ∀ x ∈ l, z3F kk x.key = true) (hc : cs.length = l.length) :
    ((∀ w, (Instr.findKey kt k l).run P w = .ok none w) /\ z2o k (l.map fun e => e.key) cs = none /\ ∀ t, z3g k t (l.map fun e => e.key) cs = ((l.map fun e => e.key) ++ [k], cs ++ [t])) ∨
    ∃ (j : Nat) (e : MapEntry) (c : T), (∀ w, (Instr.findKey kt k l).run P w = .ok (some (j, e.val)) w) /\ l[j]? = some e /\ e.key = k /\ cs[j]? = some c /\ z2o k (l.map fun e => e.key) cs = some c /\ ∀ t, z3g k t (l.map fun e => e.key) cs = ((l.map fun e => e.key).set j k, cs.set j t) := by
  rcases z7F hk hv l hl with ⟨h1, h2⟩ | ⟨j, e, h1, h2, h3, h4⟩
  · exact .inl ⟨h1, z5l hc h2⟩
  · obtain ⟨c, c1, c2, c3⟩ := z5k ((z5c hk hv hv).2 rfl) hc h2 h3 h4
    exact .inr ⟨j, e, c, h1, h2, h3, c1, c2, c3⟩
def zfh (fr : Fr) : E -> Option (Option Nat × Option Nat × Option IntKind × List Value × List T)
  | .one (.t dep (.ms kk ks cs)) => some (dep, dep, kk, ks, cs)
  | .one (.h id p) => match z0i fr.ob id with
    | none => none
    | some root => match sub root p with
      | some (.mt kk ks cs) => some (some id, none, kk, ks, cs)
      | some (.ms kk ks cs) => some (none, none, kk, ks, cs)
      | _ => none
  | _ => none
theorem z7d {w : World} {K : Nat -> z0a} {R G : Nat -> Value} {fr : Fr} {a : Act} {e : E} {u : Value} {dep vd : Option Nat} {kk : Option IntKind} {ks : List Value} {cs : List T} (h : FRep w K R G fr a) (he : ERep w K R fr.ob e u) (hr : zfh fr e = some (dep, vd, kk, ks, cs)) :
    ∃ g ents clock, ∃ F : Nat -> Value, u = .map (some g) /\ frz K dep g = [] /\ w.heap[g]? = some (.map ents clock) /\ MapTs kk ents clock ks cs.length F /\ ∀ j t, cs[j]? = some t -> TRep w (frz K vd) [] (F j) t := by
  have h0 : ∀ dep b, K b = [] -> frz K dep b = [] := fun dep b e => by cases dep <;> simp [frz, e]
  unfold zfh at hr
  split at hr
  · cases hr
    have h1 := he.1
    cases h1 with
    | ms _ g _ _ _ ents clock F hK hg hh h => exact ⟨g, ents, clock, F, rfl, hK, hg, hh, h⟩
  · rename_i id p
    split at hr
    case h_1 => cases hr
    case h_2 root hroot =>
    obtain ⟨n1, t, n2, n3⟩ := he
    split at hr
    · rename_i kk' ks' cs' hsub
      cases hr
      obtain ⟨v, e1, r⟩ := (h.ob id root hroot).sub (z0f id) hsub
      rw [n1] at e1; cases e1
      cases r with
      | mt _ g _ _ _ ents clock F hc0 hK hg hh hT => exact ⟨g, ents, clock, F, rfl, by simp [frz, hK, col], hg, hh, fun j t ht => TRep.fz (hT j t ht) (fun b _ e => ⟨h0 _ b e, rfl⟩) (Nat.le_refl _)⟩
    · rename_i kk' ks' cs' hsub
      cases hr
      obtain ⟨v, e1, r⟩ := (h.ob id root hroot).sub (z0f id) hsub
      rw [n1] at e1; cases e1
      cases r with
      | ms _ g _ _ _ ents clock F hK hg hh hT => exact ⟨g, ents, clock, F, rfl, hK, hg, hh, hT⟩
    · cases hr
  · cases hr
def z4B (P : Program) (M : Nat -> Bool) (fr : Fr) (t : TypeId) (x key : E) (ok : Bool) : Option E :=
  match z3B P t with
  | none => none
  | some (kk, et) => match z8b P et with
    | none => none
    | some z => match zfh fr x with
      | none => none
      | some (dep, vd, kk', ks, cs) => match rdK key with
        | none => none
        | some k => if kk = kk' /\ z3F kk k = true /\ z6G dep M = false then
            (if ok then some (.one (.t vd (.tup [(z2o k ks cs).getD (z4j false z), .sc (.bool (z2o k ks cs).isSome)]))) else some (.one (.t vd ((z2o k ks cs).getD (z4j false z)))))
          else none
theorem z7p {kk : Option IntKind} {ents : Array MapEntry} {clock : Nat} {ks : List Value} {n : Nat} {F : Nat -> Value} (h : MapTs kk ents clock ks n F) : n = ents.toList.length := by
  obtain ⟨h1, h2, _⟩ := h
  rw [← h2, ← h1]; simp
theorem z8w {P : Program} {w : World} {K : Nat -> z0a} {R G : Nat -> Value} {fr : Fr} {a : Act} {M : Nat -> Bool} {t : TypeId} {x key e : E} {u ku : Value} {ok : Bool} (h : FRep w K R G fr a) (hx : ERep w K R fr.ob x u) (hkey : ERep w K R fr.ob key ku) (hl : z4B P M fr t x key ok = some e) :
    ∃ v, ERep w K R fr.ob e v /\ ∀ w', Stay w w' K M -> (Instr.lookup t u ku ok).run P w' = .ok v w' := by
  unfold z4B at hl
  split at hl
  case h_1 => cases hl
  case h_2 kk et ht =>
  split at hl
  case h_1 => cases hl
  case h_2 z hz =>
  split at hl
  case h_1 => cases hl
  case h_2 dep vd kk' ks cs hrd =>
  split at hl
  case h_1 => cases hl
  case h_2 k hk =>
  split at hl
  case isFalse => cases hl
  case isTrue hc =>
  obtain ⟨rfl, hkb, hdep⟩ := hc
  obtain ⟨kt, u1, u3⟩ := z0T ht
  obtain rfl := z4v hkey hk
  obtain ⟨g, ents, clock, F, rfl, hKg, hg, hm, hT⟩ := z7d h hx hrd
  have hlen := z7p hm
  obtain ⟨hm1, hm2, hm3, hm4, -⟩ := hm
  subst hm1
  have hdok : z8H fr.ob vd := by
    unfold zfh at hrd
    split at hrd
    · cases hrd; exact hx.2
    · split at hrd
      · cases hrd
      · rename_i root hroot
        split at hrd
        · cases hrd; exact fun i e => by cases e
        · cases hrd; exact fun i e => by cases e
        · cases hrd
    · cases hrd
  have hks : ∀ x ∈ ents.toList, z3F kk x.key = true := fun x hx => hm3 x.key (List.mem_map.2 ⟨x, hx, rfl⟩)
  have hstay : ∀ w', Stay w w' K M -> w'.heap[g]? = some (.map ents clock) := fun w' hst => by
    have := hst.dep hdep (z0g hg) hKg
    rw [this]; exact hg
  obtain ⟨v, hv, hrun⟩ : ∃ v, TRep w (frz K vd) [] v ((z2o ku (ents.toList.map fun e => e.key) cs).getD (z4j false z)) /\ ∀ w', Stay w w' K M -> (Instr.lookup t (.map (some g)) ku ok).run P w' = .ok (if ok then .tuple #[v, .bool (z2o ku (ents.toList.map fun e => e.key) cs).isSome] else v) w' := by
    rcases z7H u3 hkb ents.toList cs hks hlen with ⟨h1, h2, -⟩ | ⟨j, e', c, h1, h2, h3, h6, h4, -⟩
    · rw [h2]
      refine ⟨z, z3X _ _ _ _, fun w' hst => ?_⟩
      simp only [Instr.lookup, Sem.run_bind, run_underlying u1, Go.MapKept.run_getObj_map (hstay w' hst), Result.andThen_ok, Sem.run_pure]
      rw [z2E u3 hkb]
      simp only [Result.andThen_ok, h1, z7a hz, Sem.run_bind, Sem.run_pure]
      rfl
    · rw [h4]
      refine ⟨e'.val, by rw [hm4 j e' (by simpa using h2)]; exact hT j c h6, fun w' hst => ?_⟩
      simp only [Instr.lookup, Sem.run_bind, run_underlying u1, Go.MapKept.run_getObj_map (hstay w' hst), Result.andThen_ok, Sem.run_pure]
      rw [z2E u3 hkb]
      simp only [Result.andThen_ok, h1, Sem.run_bind, Sem.run_pure]
      rfl
  cases ok with
  | true =>
    simp only [if_true, Option.some.injEq] at hl
    subst hl
    refine ⟨_, ⟨?_, hdok⟩, hrun⟩
    refine .tup _ _ _ (fun j => if j = 0 then v else .bool (z2o ku (ents.toList.map fun e => e.key) cs).isSome) rfl (fun j hj => ?_) (fun j t ht => ?_)
    · match j, hj with
      | 0, _ => rfl
      | 1, _ => rfl
    · match j, ht with
      | 0, ht => cases ht; exact hv
      | 1, ht => cases ht; exact .sc _ _ rfl
  | false =>
    simp only [Bool.false_eq_true, if_false, Option.some.injEq] at hl
    subst hl
    exact ⟨_, ⟨hv, hdok⟩, fun w' hst => by simpa using hrun w' hst⟩
def z4y (P : Program) (M : Nat -> Bool) (fr : Fr) (t : TypeId) (x : E) : Option E :=
  match z3B P t with
  | none => none
  | some _ => match zfh fr x with
    | none => none
    | some (dep, _, _, ks, _) => if z6G dep M = false then some (scE (.int .i64 ks.length)) else none
theorem z8s {P : Program} {w : World} {K : Nat -> z0a} {R G : Nat -> Value} {fr : Fr} {a : Act} {M : Nat -> Bool} {t : TypeId} {x e : E} {u : Value} (h : FRep w K R G fr a) (hx : ERep w K R fr.ob x u) (hl : z4y P M fr t x = some e) :
    ∃ v, ERep w K R fr.ob e v /\ ∀ w', Stay w w' K M -> ∀ ty, (Builtin.len_ #[t] ty #[u]).run P w' = .ok v w' := by
  unfold z4y at hl
  split at hl
  case h_1 => cases hl
  case h_2 q ht =>
  split at hl
  case h_1 => cases hl
  case h_2 dep vd kk ks cs hrd =>
  split at hl
  case isFalse => cases hl
  case isTrue hdep =>
  cases hl
  obtain ⟨kk', et⟩ := q
  obtain ⟨kt, u1, u3⟩ := z0T ht
  obtain ⟨g, ents, clock, F, rfl, hKg, hg, hm, -⟩ := z7d h hx hrd
  refine ⟨_, z0p rfl, fun w' hst ty => ?_⟩
  have hb : w'.heap[g]? = some (.map ents clock) := by rw [hst.dep hdep (z0g hg) hKg]; exact hg
  have hlen : ks.length = ents.size := by rw [← hm.1]; simp
  simp [Builtin.len_, Sem.run_bind, run_underlying u1, Go.MapKept.run_getObj_map hb, Result.andThen_ok, Sem.run_pure, goInt, hlen]
theorem FRep.mapsetG {w w' : World} {K : Nat -> z0a} {R G : Nat -> Value} {fr : Fr} {a : Act} {id : Nat} {p : List Nat} {root root' : T} {t0 t1 : T} {g : Nat} {ents ents' : Array MapEntry} {clock clock' : Nat}
    (h : FRep w K R G fr a) (hroot : z0i fr.ob id = some root) (hbox : sub root p = some t0) (hkid : ∀ j, z8a t0 j = none) (hupd : upd root p t1 = some root') (hnav : nav w (R id) p = some (.map (some g)))
    (hg : w.heap[g]? = some (.map ents clock)) (hg' : w'.heap[g]? = some (.map ents' clock')) (hKg : K g = col id ++ p) (hnew : TRep w' K (col id ++ p) (.map (some g)) t1) (hsz : w'.heap.size = w.heap.size) (hoth : ∀ b, b ≠ g -> w'.heap[b]? = w.heap[b]?) :
    FRep w' K R G { fr with tm := z1m (z3j id) fr.tm, ob := z0X fr.ob id root' } a := by
  have hrt := h.ob id root hroot
  have hne : ∀ b i s, K b = (i + 2) :: s -> i ≠ id -> b ≠ g := fun b i s e1 e2 e3 => by
    subst e3; rw [hKg] at e1; simp [col] at e1; exact e2 e1.1.symm
  have hne0 : ∀ b, K b = [] -> b ≠ g := fun b e1 e3 => by subst e3; rw [hKg] at e1; simp [col] at e1
  have hfro : ∀ b, b < w.heap.size -> K b = [] -> K b = [] /\ w'.heap[b]? = w.heap[b]? := fun b hb e1 => ⟨e1, hoth b (hne0 b e1)⟩
  have hcell : ∀ gb j, w'.cell? ⟨gb, j, none⟩ = w.cell? ⟨gb, j, none⟩ := fun gb j => by
    by_cases e1 : gb = g
    · subst e1; simp [World.cell?, hg, hg']
    · exact z0d (hoth gb e1) j
  have hway : ∀ i t q, z0i fr.ob i = some t -> (sub t q).isSome -> nav w' (R i) q = nav w (R i) q := fun i t q ho hs =>
    z1d (h.ob i t ho) (z0f i) hs fun r j s gb hq hKb hb => hcell gb j
  have hsub : ∀ q, (sub root q).isSome -> (sub root' q).isSome := fun q hs => by
    by_cases hp : p <+: q
    · obtain ⟨s, rfl⟩ := hp
      rw [z0Y hupd]
      rw [z0y hbox] at hs
      cases s with
      | nil => simp [sub]
      | cons j s => simp [sub, hkid] at hs
    · exact z0v hupd hp hs
  have hdep : ∀ i, i ≠ id -> ∀ b, b < w.heap.size -> frz K (some i) b = [] -> frz K (some i) b = [] /\ w'.heap[b]? = w.heap[b]? := fun i hi b hb e1 => by
    refine ⟨e1, ?_⟩
    simp only [frz] at e1
    split at e1
    · rename_i hh
      obtain ⟨s, hs⟩ : ∃ s, K b = (i + 2) :: s := by
        cases hk : K b with
        | nil => rw [hk] at hh; cases hh
        | cons a s => rw [hk] at hh; simp at hh; subst hh; exact ⟨s, rfl⟩
      exact hoth b (hne b i s hs hi)
    · exact (hfro b hb e1).2
  have hobi : ∀ i, i ≠ id -> z0i (z0X fr.ob id root') i = z0i fr.ob i := fun i hi => by rw [z0c, if_neg (fun e => hi e.symm)]
  refine ⟨fun i => ?_, fun i t ho => ?_, h.nt, h.df⟩
  · show ERep w' K R (z0X fr.ob id root') (z0n (z1m (z3j id) fr.tm) i) _
    rw [z0L _ rfl]
    refine (h.tm i).map _ fun x u hx => ?_
    cases x with
    | dead => trivial
    | k v => exact hx
    | t dep x =>
      cases dep with
      | none => exact ⟨TRep.fz hx.1 hfro (by omega), fun _ e => by cases e⟩
      | some i =>
        by_cases hi : i = id
        · simp only [z3j, if_pos hi]; trivial
        · simp only [z3j, if_neg hi]
          exact ⟨TRep.fz hx.1 (fun b hb e1 => hdep i hi b hb e1) (by omega), fun _ e => by cases e; rw [hobi i hi]; exact hx.2 i rfl⟩
    | h i q =>
      obtain ⟨n1, t, n2, n3⟩ := hx
      refine ⟨by rw [hway i t q n2 n3]; exact n1, ?_⟩
      by_cases hi : i = id
      · subst hi
        rw [hroot] at n2; cases n2
        exact ⟨root', by simp [z0c], hsub q n3⟩
      · exact ⟨t, by rw [hobi i hi]; exact n2, n3⟩
    | a i q o =>
      obtain ⟨hv, g, n1, n4, n5, t, n2, n3⟩ := hx
      refine ⟨hv, g, by rw [hway i t q n2 n3]; exact n1, n4, n5, ?_⟩
      by_cases hi : i = id
      · subst hi
        rw [hroot] at n2; cases n2
        exact ⟨root', by simp [z0c], hsub q n3⟩
      · exact ⟨t, by rw [hobi i hi]; exact n2, n3⟩
    | tf n cs => exact ⟨hx.1, TRep.fz hx.2 hfro (by omega)⟩
    | ea dep cs o =>
      obtain ⟨g, o, F, e1, e2, e3, e4, e5, e6⟩ := hx
      cases dep with
      | none => exact ⟨g, o, F, e1, e2, by omega, fun j hj => by rw [hcell]; exact e4 j hj, fun j t ht => TRep.fz (e5 j t ht) hfro (by omega), fun _ e => by cases e⟩
      | some i =>
        by_cases hi : i = id
        · simp only [z3j, if_pos hi]; trivial
        · simp only [z3j, if_neg hi]
          exact ⟨g, o, F, e1, e2, by omega, fun j hj => by rw [hcell]; exact e4 j hj, fun j t ht => TRep.fz (e5 j t ht) (fun b hb e1 => hdep i hi b hb e1) (by omega), fun _ e => by cases e; rw [hobi i hi]; exact e6 i rfl⟩
  · rw [z0c] at ho
    split at ho
    · rename_i e1
      subst e1; cases ho
      refine TRep.upd hrt (z0f id) hnav hupd ⟨hfro, fun b hb ⟨s, e1, hs⟩ => ?_, by omega⟩ hnew
      have hb' : b ≠ g := fun e2 => by subst e2; rw [hKg] at e1; exact hs (by rw [List.append_cancel_left e1]; exact List.prefix_rfl)
      exact ⟨rfl, hoth b hb'⟩
    · rename_i e1
      refine (h.ob i t ho).keep (D := But id) ⟨hfro, fun b hb ⟨j, s, e2, hj⟩ => ⟨rfl, hoth b (hne b j s e2 hj)⟩, by omega⟩ (fun s _ => ⟨i, s, rfl, fun e => e1 e.symm⟩)
def z4x (P : Program) (fr : Fr) (t : TypeId) (m key val : E) : Option Fr :=
  match z3B P t with
  | none => none
  | some (kk, _) => match m with
    | .one (.h id p) => match z0i fr.ob id with
      | none => none
      | some root => match sub root p with
        | some (.mt kk' ks cs) => match rdK key, zdo val with
          | some k, some v => if kk = kk' /\ z3F kk k = true then (match upd root p (.mt kk (z3g k v ks cs).1 (z3g k v ks cs).2) with
              | some root' => some { fr with tm := z1m (z3j id) fr.tm, ob := z0X fr.ob id root' }
              | none => none) else none
          | _, _ => none
        | _ => none
    | _ => none
theorem z8r {P : Program} {w : World} {K : Nat -> z0a} {R G : Nat -> Value} {fr fr' : Fr} {a : Act} {t : TypeId} {m key val : E} {um uk uv : Value} (h : FRep w K R G fr a) (hm : ERep w K R fr.ob m um) (hk : ERep w K R fr.ob key uk) (hv : ERep w K R fr.ob val uv) (hf : z4x P fr t m key val = some fr') :
    ∃ w', (Instr.mapUpdate t um uk uv).run P w = .ok () w' /\ FRep w' K R G fr' a /\ Step w K w' K /\ ∀ b i s, K b = (i + 2) :: s -> (∀ id p, m = .one (.h id p) -> i ≠ id) -> w'.heap[b]? = w.heap[b]? := by
  unfold z4x at hf
  split at hf
  case h_1 => cases hf
  case h_2 kk et ht =>
  split at hf
  case h_2 => cases hf
  case h_1 id p =>
  split at hf
  case h_1 => cases hf
  case h_2 root hroot =>
  split at hf
  case h_2 => cases hf
  case h_1 kk' ks cs hsub =>
  split at hf
  case h_2 => cases hf
  case h_1 k v hrk hrv =>
  split at hf
  case isFalse => cases hf
  case isTrue hc =>
  obtain ⟨rfl, hkb⟩ := hc
  split at hf
  case h_2 => cases hf
  case h_1 root' hupd =>
  cases hf
  obtain rfl := z4v hk hrk
  have hvr := zbW hv hrv
  obtain ⟨kt, u1, u3⟩ := z0T ht
  obtain ⟨n1, t0, n2, n3⟩ := hm
  obtain ⟨v0, e1, r⟩ := (h.ob id root hroot).sub (z0f id) hsub
  rw [n1] at e1; cases e1
  obtain ⟨g, ents, clock, F, rfl, hKg, hg, hm, hT⟩ : ∃ g ents clock, ∃ F : Nat -> Value, um = .map (some g) /\ K g = col id ++ p /\ w.heap[g]? = some (.map ents clock) /\ MapTs kk ents clock ks cs.length F /\ ∀ j t, cs[j]? = some t -> TRep w K [] (F j) t := by
    cases r with
    | mt _ g _ _ _ ents clock F hc0 hK hg hh hT => exact ⟨g, ents, clock, F, rfl, hK, hg, hh, hT⟩
  have hlen := z7p hm
  obtain ⟨hm1, hm2, hm3, hm4, hm5, hm6⟩ := hm
  have hks : ∀ x ∈ ents.toList, z3F kk x.key = true := fun x hx => hm3 x.key (by rw [← hm1]; exact List.mem_map.2 ⟨x, hx, rfl⟩)
  have main : ∃ ents' clock', ∃ F' : Nat -> Value, (Instr.mapUpdate t (.map (some g)) uk uv).run P w = .ok () { w with heap := w.heap.setIfInBounds g (.map ents' clock') } /\ MapTs kk ents' clock' (z3g uk v ks cs).1 (z3g uk v ks cs).2.length F' /\ ∀ j t, (z3g uk v ks cs).2[j]? = some t -> TRep w K [] (F' j) t := by
    rcases z7H u3 hkb ents.toList cs hks hlen with ⟨h1, h2, h3⟩ | ⟨j, e', c, h1, h2, h3, h6, h4, h5⟩
    · refine ⟨ents.push { key := uk, val := uv, born := clock }, clock + 1, fun j => if j = cs.length then uv else F j, ?_, ?_, ?_⟩
      · simp only [Instr.mapUpdate, Sem.run_bind, run_underlying u1, Go.MapKept.run_getObj_map hg, Result.andThen_ok]
        rw [z2E u3 hkb]
        simp only [Result.andThen_ok, h1]
        exact run_setObj_map _ hg
      · rw [← hm1, h3]
        have hps : ∀ (j : Nat) (e : MapEntry), (ents.push { key := uk, val := uv, born := clock })[j]? = some e -> (j < ents.size /\ ents[j]? = some e) ∨ (j = ents.size /\ e = { key := uk, val := uv, born := clock }) := fun j e he => by
          rw [Array.getElem?_push] at he
          split at he
          · rename_i e2; cases he; exact .inr ⟨e2, rfl⟩
          · exact .inl ⟨(Array.getElem?_eq_some_iff.1 he).1, he⟩
        refine ⟨by simp, by simp [hlen], fun x hx => ?_, fun j e he => ?_, fun j e he => ?_, fun i j e e' hi hj hb => ?_⟩
        rotate_left 2
        · rcases hps j e he with ⟨_, h⟩ | ⟨_, h⟩
          · have := hm5 j e h; omega
          · subst h; exact Nat.lt_succ_self _
        · rcases hps i e hi with ⟨a1, a2⟩ | ⟨a1, a2⟩ <;> rcases hps j e' hj with ⟨b1, b2⟩ | ⟨b1, b2⟩
          · exact hm6 i j e e' a2 b2 hb
          · subst b2; have := hm5 i e a2; simp only at hb; omega
          · subst a2; have := hm5 j e' b2; simp only at hb; omega
          · omega
        · rcases List.mem_append.1 hx with hx | hx
          · exact hm3 x (by rw [← hm1]; exact hx)
          · simp at hx; subst hx; exact hkb
        · have hle : cs.length = ents.size := by simpa using hlen
          rw [Array.getElem?_push] at he
          split at he
          · cases he; rename_i e2; simp [hle, e2]
          · have := (Array.getElem?_eq_some_iff.1 he).1
            show e.val = if j = cs.length then uv else F j
            rw [if_neg (by omega)]; exact hm4 j e he
      · rw [← hm1, h3]
        intro j t ht
        rw [List.getElem?_append] at ht
        split at ht
        · rename_i hlt; simp only [if_neg (Nat.ne_of_lt hlt)]; exact hT j t ht
        · rename_i hge
          have hj : j - cs.length < 1 := by have := (List.getElem?_eq_some_iff.1 ht).1; simpa using this
          have : j = cs.length := by omega
          subst this
          simp at ht; subst ht
          simp only [if_true]; exact hvr
    · have hj : ents[j]? = some e' := by simpa using h2
      refine ⟨ents.modify j fun e => { e with key := uk, val := uv }, clock, fun i => if i = j then uv else F i, ?_, ?_, ?_⟩
      · simp only [Instr.mapUpdate, Sem.run_bind, run_underlying u1, Go.MapKept.run_getObj_map hg, Result.andThen_ok]
        rw [z2E u3 hkb]
        simp only [Result.andThen_ok, h1, hj, Option.map_some, Option.getD_some, h3, Sem.run_bind, z8Z u3 hkb]
        exact run_setObj_map _ hg
      · rw [← hm1, h5]
        have hmd : ∀ (i : Nat) (e : MapEntry), (ents.modify j fun e => { e with key := uk, val := uv })[i]? = some e -> ∃ e0, ents[i]? = some e0 /\ e0.born = e.born := fun i e he => by
          rw [Array.getElem?_modify] at he
          by_cases e2 : j = i
          · subst e2; rw [if_pos rfl, hj] at he; simp at he; subst he; exact ⟨e', hj, rfl⟩
          · rw [if_neg e2] at he; exact ⟨e, he, rfl⟩
        refine ⟨?_, by simp [hlen], fun x hx => ?_, fun i e he => ?_, fun i e he => ?_, fun i i2 e e2 hi hi2 hb => ?_⟩
        rotate_left 3
        · obtain ⟨e0, h1, h2⟩ := hmd i e he
          rw [← h2]; exact hm5 i e0 h1
        · obtain ⟨e0, h1, h2⟩ := hmd i e hi
          obtain ⟨e1, h3, h4⟩ := hmd i2 e2 hi2
          exact hm6 i i2 e0 e1 h1 h3 (by rw [h2, h4, hb])
        · apply List.ext_getElem?
          intro i
          simp only [List.getElem?_map, Array.getElem?_toList, Array.getElem?_modify, List.getElem?_set]
          by_cases e : j = i
          · subst e
            have : j < ents.size := (Array.getElem?_eq_some_iff.1 hj).1
            simp [hj, this]
          · simp [e]
        · rcases List.mem_or_eq_of_mem_set hx with hx | hx
          · exact hm3 x (by rw [← hm1]; exact hx)
          · subst hx; exact hkb
        · rw [Array.getElem?_modify] at he
          by_cases e2 : j = i
          · subst e2; rw [if_pos rfl, hj] at he; simp at he; subst he; simp
          · rw [if_neg e2] at he
            show e.val = if i = j then uv else F i
            rw [if_neg (fun e3 => e2 (Eq.symm e3))]; exact hm4 i e he
      · rw [← hm1, h5]
        intro i t ht
        rw [List.getElem?_set] at ht
        by_cases e2 : j = i
        · subst e2; rw [if_pos rfl] at ht; split at ht <;> cases ht; simp only [if_true]; exact hvr
        · rw [if_neg e2] at ht; simp only [if_neg (fun e3 => e2 (Eq.symm e3))]; exact hT i t ht
  obtain ⟨ents', clock', F', hrun, hmi, hT'⟩ := main
  have hs := heap_set (o' := .map ents' clock') hg
  have hne0 : ∀ b, K b = [] -> b ≠ g := fun b e1 e3 => by subst e3; rw [hKg] at e1; simp [col] at e1
  refine ⟨_, hrun, h.mapsetG hroot hsub (fun _ => rfl) hupd n1 hg hs.1 hKg (.mt _ g kk _ _ ents' clock' F' (by simp [col]) hKg hs.1 hmi (fun j t ht => TRep.fz (hT' j t ht) (fun b _ e => ⟨e, hs.2 b (hne0 b e)⟩) (by simp))) (by simp) (fun b hb => hs.2 b hb), ⟨rfl, rfl, rfl, by simp, fun b hb hc => ⟨rfl, hs.2 b (fun e => ?_)⟩, fun b arr e fz hb => ⟨arr, e, fz, (hs.2 b (fun e => by subst e; rw [hg] at hb; cases hb)).trans hb, rfl⟩⟩, fun b i s hb hi => hs.2 b (fun e => ?_)⟩
  · subst e; rw [hKg] at hc; rcases hc with hc | hc <;> simp [col] at hc
  · subst e; rw [hKg] at hb; simp [col] at hb; exact hi id p rfl hb.1.symm
def z3C (P : Program) (fr : Fr) (t : TypeId) (r : Option E) (d : Nat) : Option Fr :=
  match z3B P t with
  | none => none
  | some (kk, _) => if d < fr.nt /\ zc8 r = true then
      some { fr with tm := z4t (z1m (kill d) fr.tm) d (.one (.h d [])), ob := z0X fr.ob d (.mt kk [] []) } else none
theorem z7q {P : Program} {w : World} {K : Nat -> z0a} {R G : Nat -> Value} {fr fr' : Fr} {a : Act} {t : TypeId} {r : Option E} {ur : Option Value} {d : Nat} (h : FRep w K R G fr a) (hr : zdM w K R fr.ob r ur) (hf : z3C P fr t r d = some fr') :
    ∃ v w', (Instr.makeMap t ur).run P w = .ok v w' /\ (∃ K' R', FRep w' K' R' G fr' (a.put (some d) v) /\ Step w K w' K') /\ ∀ b, b < w.heap.size -> w'.heap[b]? = w.heap[b]? := by
  unfold z3C at hf
  split at hf
  case h_1 => cases hf
  case h_2 kk et ht =>
  split at hf
  case isFalse => cases hf
  case isTrue hc =>
  obtain ⟨hd, hc⟩ := hc
  cases hf
  obtain ⟨kt, u1, u3⟩ := z0T ht
  have hnew := NewB.alloc w (.map #[] 0)
  have hrun : (Instr.makeMap t ur).run P w = .ok (.map (some w.heap.size)) { w with heap := w.heap.push (.map #[] 0) } := by
    cases ur with
    | none => simp [Instr.makeMap, newObj, Sem.run]
    | some v =>
      cases r with
      | none => exact absurd hr id
      | some e =>
        simp only [zc8] at hc
        split at hc
        · rename_i k n he
          obtain ⟨rfl, -⟩ := z0e hr he
          have h2 : (asInt (.int k n)).run P w = .ok n w := by simp [asInt, asIntOf]
          simp only [Instr.makeMap, Sem.run_bind, run_underlying u1, Result.andThen_ok, h2]
          simp [newObj, Sem.run]
        · cases hc
  refine ⟨_, _, hrun, ?_, fun b hb => hnew.old hb⟩
  have h2 := h.keep (hnew.keep (c := col d))
  have h3 := h2.replace (d := d) (v := .map (some w.heap.size)) (t := .mt kk [] []) ⟨fun b hb e => ⟨e, rfl⟩, fun b hb _ => ⟨rfl, rfl⟩, Nat.le_refl _⟩ (.mt _ w.heap.size kk [] [] #[] 0 (fun _ => undef) (z0f d) (by simp) hnew.new ⟨rfl, (rfl : ([] : List Value).length = 0), (fun x hx => by cases hx), (fun j e he => by simp at he), (fun j e he => by simp at he), (fun i j e e' he => by simp at he)⟩ (fun j t ht => by simp at ht))
  refine ⟨_, _, h3.put (d := d) (x := .one (.h d [])) hd ⟨by simp [z2q, nav], .mt kk [] [], by simp [z0c], rfl⟩, hnew.step⟩
def z4z (P : Program) (fr : Fr) (t : TypeId) (r : Option E) (d : Nat) : Option Fr :=
  match z3B P t with
  | none => none
  | some (_, et) => if zfs (z0t P et) = true then z3C P fr t r d else z4A P fr t r d
theorem z7r {P : Program} {w : World} {K : Nat -> z0a} {R G : Nat -> Value} {fr fr' : Fr} {a : Act} {t : TypeId} {r : Option E} {ur : Option Value} {d : Nat} (h : FRep w K R G fr a) (hr : zdM w K R fr.ob r ur) (hf : z4z P fr t r d = some fr') :
    ∃ v w', (Instr.makeMap t ur).run P w = .ok v w' /\ (∃ K' R', FRep w' K' R' G fr' (a.put (some d) v) /\ Step w K w' K') /\ ∀ b, b < w.heap.size -> w'.heap[b]? = w.heap[b]? := by
  unfold z4z at hf
  split at hf
  · cases hf
  · split at hf
    · exact z7q h hr hf
    · exact z8v h hr hf
def z5b (P : Program) (fr : Fr) (t : TypeId) (m key val : E) : Option Fr :=
  match z6m P fr t m key val with | some f => some f | none => z4x P fr t m key val
theorem z5a {P : Program} {w : World} {K : Nat -> z0a} {R G : Nat -> Value} {fr fr' : Fr} {a : Act} {t : TypeId} {m key val : E} {um uk uv : Value} (h : FRep w K R G fr a) (hm : ERep w K R fr.ob m um) (hk : ERep w K R fr.ob key uk) (hv : ERep w K R fr.ob val uv) (hf : z5b P fr t m key val = some fr') :
    ∃ w', (Instr.mapUpdate t um uk uv).run P w = .ok () w' /\ FRep w' K R G fr' a /\ Step w K w' K /\ ∀ b i s, K b = (i + 2) :: s -> (∀ id p, m = .one (.h id p) -> i ≠ id) -> w'.heap[b]? = w.heap[b]? := by
  unfold z5b at hf
  split at hf
  · rename_i f hf'
    cases hf; exact zar h hm hk hv hf'
  · exact z8r h hm hk hv hf
def z6q (P : Program) (M : Nat -> Bool) (fr : Fr) (t : TypeId) (x key : E) (ok : Bool) : Option E :=
  match z6r P M fr t x key ok with | some e => some e | none => z4B P M fr t x key ok
theorem z8x {P : Program} {w : World} {K : Nat -> z0a} {R G : Nat -> Value} {fr : Fr} {a : Act} {M : Nat -> Bool} {t : TypeId} {x key e : E} {u ku : Value} {ok : Bool} (h : FRep w K R G fr a) (hx : ERep w K R fr.ob x u) (hkey : ERep w K R fr.ob key ku) (hl : z6q P M fr t x key ok = some e) :
    ∃ v, ERep w K R fr.ob e v /\ ∀ w', Stay w w' K M -> (Instr.lookup t u ku ok).run P w' = .ok v w' := by
  unfold z6q at hl
  split at hl
  · rename_i f hf'
    cases hl; exact zat h hx hkey hf'
  · exact z8w h hx hkey hl
def z6n (P : Program) (M : Nat -> Bool) (fr : Fr) (t : TypeId) (x : E) : Option E :=
  match z6o P M fr t x with | some e => some e | none => z4y P M fr t x
theorem z8t {P : Program} {w : World} {K : Nat -> z0a} {R G : Nat -> Value} {fr : Fr} {a : Act} {M : Nat -> Bool} {t : TypeId} {x e : E} {u : Value} (h : FRep w K R G fr a) (hx : ERep w K R fr.ob x u) (hl : z6n P M fr t x = some e) :
    ∃ v, ERep w K R fr.ob e v /\ ∀ w', Stay w w' K M -> ∀ ty, (Builtin.len_ #[t] ty #[u]).run P w' = .ok v w' := by
  unfold z6n at hl
  split at hl
  · rename_i f hf'
    cases hl; exact zas h hx hf'
  · exact z8s h hx hl
end
section
def z8u (P : Program) (M : Nat -> Bool) (fr : Fr) (c : Call) : Option E :=
  match c.callee, c.args.toList, c.argTypes.toList with
  | .builtin .len, [x], [t] => z6n P M fr t (opE fr x)
  | _, _, _ => none
def z2u (P : Program) (M : Nat -> Bool) (fr : Fr) (op : Op) : Option E :=
  match op with
  | .build t parts => z7U P fr t parts.toList
  | .lookup t x i ok => z6q P M fr t (opE fr x) (opE fr i) ok
  | .makeFunc fn first captured => z3D fr fn first.toList captured.toList
  | .call c => (match z2t P M fr (.call c) with | some e => some e | none => z8u P M fr c)
  | op => z2t P M fr op
theorem z2L {P : Program} {w : World} {K : Nat -> z0a} {R G : Nat -> Value} {fr : Fr} {a : Act} {M : Nat -> Bool} {o : Oper} {e : E} (h : FRep w K R G fr a) (hq : z2u P M fr o.op = some e) :
    ∃ v, ERep w K R fr.ob e v /\ ∀ w', Stay w w' K M -> (execOp a.eval o).run P w' = .ok (.value v) w' := by
  have lift : ∀ {s : Sem Value} {v : Value} {w' : World}, s.run P w' = .ok v w' -> (do pure (Next.value (← s)) : Sem Next).run P w' = .ok (.value v) w' := fun {s v w'} hs => by
    simp only [Sem.run_bind, hs, Result.andThen_ok, Sem.run_pure]
  unfold z2u at hq
  split at hq
  · rename_i t parts hop
    obtain ⟨v, h1, h2⟩ := zcF h hq
    refine ⟨v, h1, fun w' _ => ?_⟩
    have : parts.map (fun (x : Nat × Operand) => (x.1, a.eval x.2)) = (parts.toList.map fun (i, x) => (i, a.eval x)).toArray := by
      apply Array.ext'; simp
    simp only [execOp, hop]
    rw [this]
    simp only [Sem.run_bind, h2, Result.andThen_ok, Sem.run_pure]
  · rename_i t x i ok hop
    obtain ⟨v, h1, h2⟩ := z8x h (h.opE x) (h.opE i) hq
    exact ⟨v, h1, fun w' hst => by simp only [execOp, hop]; exact lift (h2 w' hst)⟩
  · rename_i fn first captured hop
    refine ⟨_, z7s h hq, fun w' _ => ?_⟩
    have e1 : (first.toList.map a.eval).toArray = first.map a.eval := by apply Array.ext'; simp
    have e2 : (captured.toList.map a.eval).toArray = captured.map a.eval := by apply Array.ext'; simp
    rw [e1, e2]
    simp only [execOp, hop, Instr.makeFunc, Sem.run_bind, Sem.run_pure, Result.andThen_ok]
  · rename_i c hop
    split at hq
    · rename_i e' he'
      cases hq
      exact z7f h (by rw [hop]; exact he')
    · unfold z8u at hq
      split at hq
      · rename_i x t hc hxs hts
        obtain ⟨v, h1, h2⟩ := z8t h (h.opE x) hq
        refine ⟨v, h1, fun w' hst => ?_⟩
        obtain ⟨callee, args, ats⟩ := c
        simp only at hc hxs hts
        subst hc
        obtain rfl : args = #[x] := by apply Array.ext'; simpa using hxs
        obtain rfl : ats = #[t] := by apply Array.ext'; simpa using hts
        simp only [execOp, hop, resolve, Sem.run_bind, Sem.run_pure, Result.andThen_ok, invoke, builtin]
        simp [h2 w' hst]
      · cases hq
  · exact z7f h hq
def z7L (P : Program) (fr : Fr) (o : Oper) : Option Fr :=
  match o.op with
  | .makeMap t r => (match o.dst with | some d => z4z P fr t (r.map (opE fr)) d | none => none)
  | .mapUpdate t m k v => (match o.dst with | none => z5b P fr t (opE fr m) (opE fr k) (opE fr v) | some _ => none)
  | .insert t m k v => (match o.dst with | none => z5b P fr t (opE fr m) (opE fr k) (opE fr v) | some _ => none)
  | _ => zgt P fr o
def z5X (o : Oper) : Bool :=
  match o.op with
  | .mapUpdate _ _ _ _ => false
  | .insert _ _ _ _ => false
  | _ => z8N o
theorem z4G {P : Program} {w : World} {K : Nat -> z0a} {R G : Nat -> Value} {fr fr' : Fr} {a : Act} {o : Oper} (h : FRep w K R G fr a) (hf : z7L P fr o = some fr') :
    ∃ r w', (execOp a.eval o).run P w = .ok r w' /\ ((∃ v, r = .value v /\ ∃ K' R', FRep w' K' R' G fr' (a.put o.dst v) /\ Step w K w' K') ∨ (r = .skip /\ o.dst = none /\ ∃ K' R', FRep w' K' R' G fr' a /\ Step w K w' K')) /\ (z5X o = true -> ∀ b, b < w.heap.size -> w'.heap[b]? = w.heap[b]?) := by
  have lift : ∀ {s : Sem Value} {v : Value} {w'}, s.run P w = .ok v w' -> (do pure (Next.value (← s)) : Sem Next).run P w = .ok (.value v) w' := fun {s v w'} hs => by
    simp only [Sem.run_bind, hs, Result.andThen_ok, Sem.run_pure]
  unfold z7L at hf
  split at hf
  · rename_i t r hop
    split at hf
    · rename_i d hd
      obtain ⟨v, w', h1, h2, h3⟩ := z7r h (z6N h r) hf
      exact ⟨_, w', by simp only [execOp, hop]; exact lift h1, .inl ⟨v, rfl, by rw [hd]; exact h2⟩, fun _ => h3⟩
    · cases hf
  · rename_i t m k v hop
    split at hf
    · rename_i hd
      obtain ⟨w', h1, h2, h3, _⟩ := z5a h (h.opE m) (h.opE k) (h.opE v) hf
      exact ⟨.skip, w', by simp only [execOp, hop, Sem.run_bind, h1, Result.andThen_ok, Sem.run_pure], .inr ⟨rfl, hd, K, R, h2, h3⟩, fun hc => by simp [z5X, hop] at hc⟩
    · cases hf
  · rename_i t m k v hop
    split at hf
    · rename_i hd
      obtain ⟨w', h1, h2, h3, _⟩ := z5a h (h.opE m) (h.opE k) (h.opE v) hf
      exact ⟨.skip, w', by simp only [execOp, hop, Sem.run_bind, h1, Result.andThen_ok, Sem.run_pure], .inr ⟨rfl, hd, K, R, h2, h3⟩, fun hc => by simp [z5X, hop] at hc⟩
    · cases hf
  · rename_i h1 h2 h3
    obtain ⟨r, w', e1, e2, e3⟩ := zf1 h hf
    refine ⟨r, w', e1, e2, fun hc => e3 ?_⟩
    unfold z5X at hc
    split at hc
    · cases hc
    · cases hc
    · exact hc
def putF (fr : Fr) (dst : Option Nat) (e : E) : Option Fr :=
  match dst with
  | none => some fr
  | some d => if d < fr.nt then some { fr with tm := z4t fr.tm d e } else none
theorem FRep.putF {w : World} {K : Nat -> z0a} {R G : Nat -> Value} {fr fr' : Fr} {a : Act} {dst : Option Nat} {e : E} {v : Value} (h : FRep w K R G fr a) (he : ERep w K R fr.ob e v) (hf : putF fr dst e = some fr') : FRep w K R G fr' (a.put dst v) := by
  unfold Proofs.Ytcjljokldnpgfaa.putF at hf
  split at hf
  · cases hf; exact h
  · split at hf
    · rename_i hd
      cases hf; exact h.put hd he
    · cases hf
def opF (P : Program) (C : z0b) (wio : FuncId -> Nat -> Bool) (fr : Fr) (o : Oper) : Option Fr :=
  match o.op with
  | .assign x => (match putF fr o.dst (opE fr x) with
    | some fr1 => (match o.dst with | some d => if wio 777781 d = true then some fr1 else zgc P fr1 o.type d | none => some fr1)
    | none => none)
  | .call { callee := .value c, args, .. } => (match z3n fr c with | some (f, cs) => z3L C wio fr f (args.toList.map (opE fr) ++ cs.map fun t => .one (.t none t)) o.dst | none => none)
  | .store t ad x => if wio 999999 0 = true then (match o.dst with | none => z6S P true fr t (opE fr ad) (opE fr x) | some _ => none) else z7L P fr o
  | .buildSlice t n parts => if wio 777780 (o.dst.getD 0) = true then (match o.dst with | some d => if d < fr.nt then z2U P fr t n parts.toList d else none | none => none) else z7L P fr o
  | op => (match z2u P noM fr op with
    | some e => putF fr o.dst e
    | none => z7L P fr o)
theorem z3Z {P : Program} {w : World} {K : Nat -> z0a} {R G : Nat -> Value} {fr : Fr} {a : Act} {o : Oper} {c : Operand} {args : Array Operand} {ats : Array TypeId} {f : FuncId} {cs : List T} (h : FRep w K R G fr a) (hop : o.op = .call { callee := .value c, args := args, argTypes := ats }) (hc : z3n fr c = some (f, cs)) :
    ∃ vs : List Value, ((callFunc f vs.toArray).run P w = .ok (.enter f vs.toArray) w -> (execOp a.eval o).run P w = .ok (.enter f vs.toArray) w) /\ vs.length = (args.toList.map (opE fr) ++ cs.map fun t => E.one (.t none t)).length /\
      ∀ (j : Nat) (e : E) (v : Value), (args.toList.map (opE fr) ++ cs.map fun t => E.one (.t none t))[j]? = some e -> vs[j]? = some v -> ERep w K R fr.ob e v := by
  obtain ⟨us, u1, u2, u3⟩ := z7T h hc
  refine ⟨args.toList.map a.eval ++ us, fun hcall => ?_, by simp [u2], fun j e v he hv => ?_⟩
  · have ha : (args.toList.map a.eval ++ us).toArray = args.map a.eval ++ us.toArray := by apply Array.ext'; simp
    rw [ha] at hcall ⊢
    simp only [execOp, hop, resolve, u1, Deferred.ofValue, Sem.run_bind, Sem.run_pure, Result.andThen_ok, invoke]
    simpa using hcall
  · rcases Nat.lt_or_ge j args.toList.length with hj | hj
    · rw [List.getElem?_append_left (by simpa using hj)] at he hv
      simp only [List.getElem?_map, Option.map_eq_some_iff] at he hv
      obtain ⟨x, hx, rfl⟩ := he
      obtain ⟨y, hy, rfl⟩ := hv
      rw [hx] at hy; cases hy
      exact h.opE x
    · rw [List.getElem?_append_right (by simpa using hj)] at he hv
      simp only [List.length_map, List.getElem?_map, Option.map_eq_some_iff] at he hv
      obtain ⟨t, ht, rfl⟩ := he
      exact ⟨u3 _ t v ht hv, fun _ e => by cases e⟩
theorem zeA {P : Program} {I : World -> (Nat -> z0a) -> Prop} {C : z0b} {wio : FuncId -> Nat -> Bool} {w : World} {K : Nat -> z0a} {R G : Nat -> Value} {fr fr' : Fr} {a : Act} {o : Oper} {next : Act -> World -> Prop} {Q : Exit -> Act -> World -> Prop}
    (hI : EnvS I) (hC : z1y P I C) (h : FRep w K R G fr a) (hIw : I w K) (hf : opF P C wio fr o = some fr') (hn : ∀ a' w' K' R', FRep w' K' R' G fr' a' -> Step w K w' K' -> next a' w') : o.wp P a w next Q := by
  unfold opF at hf
  split at hf
  · rename_i x hop
    split at hf
    case h_2 => cases hf
    case h_1 fr1 h1 =>
    have h2 := h.putF (v := a.eval x) (h.opE x) h1
    have hrun : (execOp a.eval o).run P w = .ok (.value (a.eval x)) w := by simp [execOp, hop]
    unfold Oper.wp
    rw [hrun]
    simp only [Oper.upon]
    split at hf
    · rename_i d hd
      split at hf
      · cases hf
        exact hn _ w K R h2 (Step.refl _ _)
      · obtain ⟨K', R', e1, e2, e3, _⟩ := zcK h2 hf
        exact hn _ w K' R' e1 e2
    · cases hf
      exact hn _ w K R h2 (Step.refl _ _)
  · rename_i c args ats hop
    split at hf
    · rename_i f cs hc
      obtain ⟨vs, q1, q2, q3⟩ := z3Z (P := P) h hop hc
      exact z8O hI hC h hIw q1 q2 q3 hf fun a' w' K' R' h1 h2 _ => hn a' w' K' R' h1 h2
    · cases hf
  · rename_i t ad x hop
    have dflt : ∀ {fr'}, z7L P fr o = some fr' -> (∀ a' w' K' R', FRep w' K' R' G fr' a' -> Step w K w' K' -> next a' w') -> o.wp P a w next Q := fun {fr'} hf hn => by
      obtain ⟨r, w', h1, h2, _⟩ := z4G h hf
      unfold Oper.wp
      rw [h1]
      rcases h2 with ⟨v, rfl, K', R', e1, e2⟩ | ⟨rfl, hd, K', R', e1, e2⟩
      · exact hn _ w' K' R' e1 e2
      · simp only [Oper.upon, hd]
        exact hn _ w' K' R' e1 e2
    split at hf
    · split at hf
      · rename_i hd
        obtain ⟨w', h1, ⟨K', R', e1, e2⟩, _⟩ := z5J h (h.opE ad) (h.opE x) hf
        unfold Oper.wp
        have hrun : (execOp a.eval o).run P w = .ok .skip w' := by
          simp only [execOp, hop, Sem.run_bind, h1, Result.andThen_ok, Sem.run_pure]
        rw [hrun]
        simp only [Oper.upon, hd]
        exact hn _ w' K' R' e1 e2
      · cases hf
    · exact dflt hf hn
  · rename_i t n parts hop
    split at hf
    · split at hf
      · rename_i d hd
        split at hf
        · rename_i hlt
          obtain ⟨v, w', h1, K', R', e1, e2⟩ := z6I h hlt hf
          have : parts.map (fun (x : Nat × Operand) => (x.1, a.eval x.2)) = (parts.toList.map fun (i, x) => (i, a.eval x)).toArray := by
            apply Array.ext'; simp
          have hrun : (execOp a.eval o).run P w = .ok (.value v) w' := by
            simp only [execOp, hop]
            rw [this]
            simp only [Sem.run_bind, h1, Result.andThen_ok, Sem.run_pure]
          unfold Oper.wp
          rw [hrun]
          simp only [Oper.upon, hd]
          exact hn _ w' K' R' e1 e2
        · cases hf
      · cases hf
    · obtain ⟨r, w', h1, h2, _⟩ := z4G h hf
      unfold Oper.wp
      rw [h1]
      rcases h2 with ⟨v, rfl, K', R', e1, e2⟩ | ⟨rfl, hd, K', R', e1, e2⟩
      · exact hn _ w' K' R' e1 e2
      · simp only [Oper.upon, hd]
        exact hn _ w' K' R' e1 e2
  · split at hf
    · rename_i e he
      obtain ⟨v, h1, h2⟩ := z2L h he
      unfold Oper.wp
      rw [h2 w (Stay.refl w K noM)]
      exact hn _ w K R (h.putF h1 hf) (Step.refl _ _)
    · obtain ⟨r, w', h1, h2, _⟩ := z4G h hf
      unfold Oper.wp
      rw [h1]
      rcases h2 with ⟨v, rfl, K', R', e1, e2⟩ | ⟨rfl, hd, K', R', e1, e2⟩
      · exact hn _ w' K' R' e1 e2
      · simp only [Oper.upon, hd]
        exact hn _ w' K' R' e1 e2
def z8S : E -> Option (Option Bool)
  | .one (.k (.bool b)) => some (some b)
  | .one (.k _) => some none
  | .one (.t _ (.sc (.bool b))) => some (some b)
  | _ => none
def z1O (ops : Array Oper) (fr : Fr) (o : Oper) : Option Bool :=
  match o.guard with
  | none => some true
  | some (j, want) => match (ops[j]?).bind (·.dst) with
    | none => some false
    | some t => if t < fr.nt then (match z8S (z0n fr.tm t) with | some b => some (b == some want) | none => none) else none
theorem z2a {w : World} {K : Nat -> z0a} {R G : Nat -> Value} {fr : Fr} {a : Act} {ops : Array Oper} {o : Oper} {b : Bool} (h : FRep w K R G fr a) (hg : z1O ops fr o = some b) : Region.wanted o (yielded ops a.tmps) = b := by
  unfold z1O at hg
  unfold Region.wanted
  split at hg
  · rename_i hn
    rw [hn]; cases hg; rfl
  · rename_i j want hn
    rw [hn]
    simp only
    split at hg
    · rename_i hd
      cases hg
      simp [yielded, hd]
    · rename_i t hd
      split at hg
      · rename_i ht
        split at hg
        · rename_i y hy
          cases hg
          have hreg := h.tm t
          rw [z2m, if_pos (by rw [h.nt]; exact ht)] at hreg
          have htmp : a.tmps[t]? = some (a.tmps.getD t undef) := z0F _ _ (by rw [h.nt]; exact ht)
          have hyy : yielded ops a.tmps j = y := by
            simp only [yielded, hd, Option.bind_some, htmp]
            generalize a.tmps.getD t undef = u at hreg
            unfold z8S at hy
            split at hy
            · rename_i b' he
              cases hy
              rw [he] at hreg
              obtain rfl : u = .bool b' := hreg
              rfl
            · rename_i v hnb he
              cases hy
              rw [he] at hreg
              obtain rfl : u = v := hreg
              cases u <;> first | rfl | (exfalso; exact hnb _ rfl)
            · rename_i dep b' he
              cases hy
              rw [he] at hreg
              have := hreg.1.sc_eq
              subst this; rfl
            · cases hy
          rw [hyy]
        · cases hg
      · cases hg
def z8j (P : Program) (C : z0b) (wio : FuncId -> Nat -> Bool) (ops : Array Oper) : List Oper -> Fr -> Option Fr
  | [], fr => some fr
  | o :: rest, fr => match z1O ops fr o with
    | none => none
    | some true => (match opF P C wio fr o with | some fr' => z8j P C wio ops rest fr' | none => none)
    | some false => (match putF fr o.dst (.one (.k undef)) with | some fr' => z8j P C wio ops rest fr' | none => none)
theorem zbz {P : Program} {I : World -> (Nat -> z0a) -> Prop} {C : z0b} {wio : FuncId -> Nat -> Bool} {ops : Array Oper} {Q : Exit -> Act -> World -> Prop} (hI : EnvS I) (hC : z1y P I C) : ∀ {l : List Oper} {w : World} {K : Nat -> z0a} {R G : Nat -> Value} {fr fr' : Fr} {a : Act}, FRep w K R G fr a -> I w K -> z8j P C wio ops l fr = some fr' ->
    (∀ a' w' K' R', FRep w' K' R' G fr' a' -> Step w K w' K' -> Q .normal a' w') -> wpList P ops Q l a w
  | [], w, K, R, G, fr, fr', a, h, hIw, hf, hn => by
    cases hf
    exact wpList_nil (hn a w K R h (Step.refl _ _))
  | o :: rest, w, K, R, G, fr, fr', a, h, hIw, hf, hn => by
    simp only [z8j] at hf
    split at hf
    · cases hf
    · rename_i hg
      split at hf
      · rename_i fr1 h1
        refine wpList_step fun Kk hK => ?_
        rw [z2a h hg]
        simp only [if_true]
        exact zeA hI hC h hIw h1 fun a' w' K' R' hr hs => hK a' w' (zbz hI hC hr (hI.step hIw hs) hf fun a2 w2 K2 R2 hr2 hs2 => hn a2 w2 K2 R2 hr2 (hs.trans hs2))
      · cases hf
    · rename_i hg
      split at hf
      · rename_i fr1 h1
        refine wpList_step fun Kk hK => ?_
        rw [z2a h hg]
        simp only [Bool.false_eq_true, if_false]
        exact hK _ _ (zbz hI hC (h.putF (v := undef) (e := .one (.k undef)) rfl h1) hIw hf hn)
      · cases hf
end
section
section
variable {P : Program} {ops : Array Oper} {Q : Exit -> Act -> World -> Prop} {md : Region.Mode}
def NoPz (Q : Exit -> Act -> World -> Prop) : Exit -> Act -> World -> Prop
  | .panic _, _, _ => False
  | e, a, w => Q e a w
theorem NoPz.imp {Q : Exit -> Act -> World -> Prop} : ∀ (e : Exit) (a : Act) (w : World), NoPz Q e a w -> Q e a w := fun e a w h => by
  cases e <;> first | exact h | exact (h : False).elim
def ShutL (md : Region.Mode) (ops : Array Oper) (L : Array Bool) : Prop :=
  L.size = ops.size /\ ∀ (i : Nat) (o : Oper), ops[i]? = some o -> L.getD i false = true -> ∀ e ∈ o.after, Region.binds md e = true -> L.getD e.on false = true
theorem ShutL.set {L : Array Bool} {j : Nat} (h : ShutL md ops L) (hj : j ∈ Region.ready md ops L) : ShutL md ops (L.setIfInBounds j true) := by
  obtain ⟨h1, h2⟩ := h
  obtain ⟨j1, o, j2, j3⟩ := mem_ready.1 hj
  refine ⟨by simpa using h1, fun i oi hi hl e he hb => ?_⟩
  have mono : ∀ k, L.getD k false = true -> (L.setIfInBounds j true).getD k false = true := fun k hk => by
    simp only [Array.getD_eq_getD_getElem?, Array.getElem?_setIfInBounds] at hk ⊢
    split
    · split <;> simp_all
    · exact hk
  by_cases e1 : i = j
  · subst e1
    rw [j2] at hi; cases hi
    exact mono _ (j3 e he hb)
  · refine mono _ (h2 i oi hi ?_ e he hb)
    simp only [Array.getD_eq_getD_getElem?, Array.getElem?_setIfInBounds] at hl ⊢
    rw [if_neg (fun e2 => e1 e2.symm)] at hl
    exact hl
def zfF (md : Region.Mode) (ops : Array Oper) (l : List Nat) : List Nat := l.flatMap fun i => match ops[i]? with | some o => (o.after.toList.filter (Region.binds md)).map (·.on) | none => []
def zgd (md : Region.Mode) (ops : Array Oper) : Nat -> List Nat -> List Nat
  | 0, l => l
  | n + 1, l => zgd md ops n ((zfF md ops l).foldl (fun acc x => if acc.contains x then acc else x :: acc) l)
theorem z9j {x : Nat} : ∀ {m l : List Nat}, x ∈ m.foldl (fun acc x => if acc.contains x then acc else x :: acc) l -> x ∈ m ∨ x ∈ l
  | [], l, h => .inr h
  | a :: m, l, h => by
    simp only [List.foldl_cons] at h
    rcases z9j h with h | h
    · exact .inl (.tail _ h)
    · split at h
      · exact .inr h
      · rcases List.mem_cons.1 h with h | h
        · subst h; exact .inl (.head _)
        · exact .inr h
theorem z4c {L : Array Bool} (hL : ShutL md ops L) : ∀ (n : Nat) (l : List Nat), (∀ i ∈ l, L.getD i false = true) -> ∀ i ∈ zgd md ops n l, L.getD i false = true
  | 0, l, h, i, hi => h i hi
  | n + 1, l, h, i, hi => by
    refine z4c hL n _ (fun k hk => ?_) i hi
    rcases z9j hk with hk | hk
    · simp only [zfF, List.mem_flatMap] at hk
      obtain ⟨j, hj, hk⟩ := hk
      split at hk
      · rename_i o ho
        simp only [List.mem_map, List.mem_filter, Array.mem_toList_iff] at hk
        obtain ⟨e, ⟨he, hb⟩, rfl⟩ := hk
        exact hL.2 j o ho (h j hj) e he hb
      · cases hk
    · exact h k hk
def z1z (P : Program) (md : Region.Mode) (ops : Array Oper) (Q : Exit -> Act -> World -> Prop) (S : Array Bool -> World -> Prop) : Nat -> Array Bool -> Act -> World -> Prop
  | 0, L, a, w => Region.ready md ops L = [] /\ Q .normal a w
  | n + 1, L, a, w =>
    (Region.ready md ops L = [] -> Q .normal a w) /\
    ∀ i ∈ Region.ready md ops L, wpOp P ops Q i (fun a' w' => S (L.setIfInBounds i true) w' /\ z1z P md ops Q S n (L.setIfInBounds i true) a' w') a w
theorem z3M {S : Array Bool -> World -> Prop} : ∀ (n : Nat) (L : Array Bool) (a : Act) (w : World), z1z P md ops Q S n L a w -> wpAny P md ops Q n L a w
  | 0, _, _, _, h => h
  | n + 1, _, _, _, h => ⟨h.1, fun i hi => wpOp_mono (fun a' w' h' => z3M n _ a' w' h'.2) (h.2 i hi)⟩
theorem z2f {S S' : Array Bool -> World -> Prop} (p : Array Bool -> Prop) (hp : ∀ L j, p L -> p (L.setIfInBounds j true)) (h : ∀ L w, p L -> S' L w -> S L w) : ∀ (n : Nat) (L : Array Bool) (a : Act) (w : World), p L -> z1z P md ops Q S' n L a w -> z1z P md ops Q S n L a w
  | 0, _, _, _, _, hh => hh
  | n + 1, L, a, w, hL, hh => ⟨hh.1, fun i hi => wpOp_mono (fun a' w' h3 => ⟨h _ _ (hp L i hL) h3.1, z2f p hp h n _ a' w' (hp L i hL) h3.2⟩) (hh.2 i hi)⟩
theorem z4e {S : Array Bool -> World -> Prop} {C : World -> Prop} {i : Nat} {oi : Oper} {v : Value} (hi : ops[i]? = some oi) (hsel : ∀ (j : Nat) (o : Oper) cs b, ops[j]? = some o -> o.op ≠ .select cs b)
    (hQ : ∀ c a w, Q (.panic c) (a.put oi.dst v) w -> Q (.panic c) a w) (hS : ∀ L w, S (L.setIfInBounds i true) w ↔ S L w) (hC : ∀ L w, ShutL md ops L -> L.getD i true = false -> S L w -> C w) :
    ∀ (n : Nat) (L : Array Bool) (a : Act) (w : World), ShutL md ops L ->
      (∀ j oj, ops[j]? = some oj -> j ≠ i -> L.getD j true = false -> (∀ e ∈ oj.after, Region.binds md e = true -> e.on ≠ i) -> oi.apart ops oj = true) ->
      i ∈ Region.ready md ops L -> YieldsIf P ops C oi v a -> S L w ->
      z1z P md ops Q S n (L.setIfInBounds i true) (a.put oi.dst v) w -> z1z P md ops Q S (n + 1) L a w := by
  intro n
  induction n with
  | zero =>
    intro L a w hsh _ hr hy hSw H
    have hun := (mem_ready.1 hr).1
    refine ⟨fun h => (by rw [h] at hr; cases hr), fun j hj => ?_⟩
    by_cases hji : j = i
    · subst hji; exact hy.wpOp hi (hC L w hsh hun hSw) ⟨(hS L w).2 hSw, H⟩
    · have := ready_mono hj hji
      rw [H.1] at this
      cases this
  | succ n ih =>
    intro L a w hsh hfree hr hy hSw H
    have hun := (mem_ready.1 hr).1
    refine ⟨fun h => (by rw [h] at hr; cases hr), fun j hj => ?_⟩
    by_cases hji : j = i
    · subst hji; exact hy.wpOp hi (hC L w hsh hun hSw) ⟨(hS L w).2 hSw, H⟩
    · have h1 := H.2 j (ready_mono hj hji)
      obtain ⟨hjun, oj, hoj, hall⟩ := mem_ready.1 hj
      have hnot : ∀ e ∈ oj.after, Region.binds md e = true -> e.on ≠ i := fun e he hb heq => by
        have h1 := hall e he hb
        have h0 := (mem_ready.1 hr).1
        rw [heq] at h1
        rcases Nat.lt_or_ge i L.size with h' | h'
        · simp [h'] at h0 h1; rw [h0] at h1; cases h1
        · simp [Array.getElem?_eq_none h'] at h1
      have h2 := wpOp_putIf hoj (hfree j oj hoj hji hjun hnot) (fun cs b => hsel i oi cs b hi) (fun cs b => hsel j oj cs b hoj) hQ hy h1
      have hfree' : ∀ k ok, ops[k]? = some ok -> k ≠ i -> (L.setIfInBounds j true).getD k true = false ->
          (∀ e ∈ ok.after, Region.binds md e = true -> e.on ≠ i) -> oi.apart ops ok = true := fun k ok hk hki hun hno => by
        refine hfree k ok hk hki ?_ hno
        by_cases hjk : j = k
        · subst hjk; exact hjun
        · rw [getD_set_ne true hjk] at hun; exact hun
      have hcomm : (L.setIfInBounds i true).setIfInBounds j true = (L.setIfInBounds j true).setIfInBounds i true := (Array.setIfInBounds_comm _ _ (Ne.symm hji))
      refine wpOp_mono (fun a' w' h3 => ?_) h2
      have hS' : S (L.setIfInBounds j true) w' := by
        have := h3.2.1
        rw [hcomm] at this
        exact (hS _ w').1 this
      refine ⟨hS', ih (L.setIfInBounds j true) a' w' (hsh.set hj) hfree' (ready_mono hr (Ne.symm hji)) h3.1 hS' ?_⟩
      have := h3.2.2
      rwa [hcomm] at this
def z2h : List (Nat × Oper × Nat) -> Option Nat
  | [] => none
  | (k, _, m) :: r => if m = 2 then some k else z2h r
def zej (md : Region.Mode) (ops : Array Oper) (k : Nat) (rest : List (Nat × Oper × Nat)) : Bool := match z2h rest with | none => true | some z => (zgd md ops ops.size [z]).contains k
def z1L (P : Program) (md : Region.Mode) (ops : Array Oper) (Q : Exit -> Act -> World -> Prop) : List (Nat × Oper × Nat) -> (World -> Prop) -> (World -> Prop) -> (World -> Prop) -> Act -> Prop
  | [], A, B, T, a => ∀ w, T w -> Q .normal a w
  | (k, o, m) :: rest, A, B, T, a =>
    if Region.wanted o (yielded ops a.tmps) = true then
      (if m = 0 ∨ m = 3 then ∃ v, (∀ w, (if m = 0 then A w else B w) -> (execOp a.eval o).run P w = .ok (.value v) w) /\ z1L P md ops Q rest A B T (a.put o.dst v)
      else ∀ w, T w -> o.wp P a w (fun a' w' => ∃ A' B' T' : World -> Prop, T' w' /\ (∀ x, T' x -> A' x) /\ (∀ x, A' x -> B' x) /\ (∀ x, B' x -> B x) /\ (m = 2 ∨ ∀ x, A' x -> A x) /\ z1L P md ops Q rest A' B' T' a') Q)
    else z1L P md ops Q rest A B T (a.put o.dst undef)
def z5O (md : Region.Mode) (ops : Array Oper) : List (Nat × Oper × Nat) -> Array Bool -> Bool
  | [], L => decide (Region.ready md ops L = [])
  | (k, _, m) :: rest, L => (if m = 0 ∨ m = 3 then (Region.ready md ops L).contains k && Region.free md ops L k && decide (z2h rest ≠ some k) && (m == 3 || zej md ops k rest) else decide (Region.ready md ops L = [k])) && z5O md ops rest (L.setIfInBounds k true)
def z8L (z : Option Nat) (A B : World -> Prop) (L : Array Bool) (w : World) : Prop := match z with | none => A w | some z => if L.getD z false = true then B w else A w
theorem ze2 {z : Option Nat} {A B : World -> Prop} (hAB : ∀ x, A x -> B x) {L : Array Bool} {w : World} (h : z8L z A B L w) : B w := by
  unfold z8L at h
  split at h
  · exact hAB _ h
  · split at h
    · exact h
    · exact hAB _ h
theorem z8K {z : Option Nat} {A B : World -> Prop} (hAB : ∀ x, A x -> B x) {L : Array Bool} {w : World} (h : A w) : z8L z A B L w := by
  unfold z8L
  split
  · exact h
  · split
    · exact hAB _ h
    · exact h
theorem z1D {L : Array Bool} {k : Nat} (h : k < L.size) : (L.setIfInBounds k true).getD k false = true := by
  simp [Array.getD_eq_getD_getElem?, h]
theorem z2j {L : Array Bool} {k j : Nat} (h : L.getD k false = true) : (L.setIfInBounds j true).getD k false = true := by
  simp only [Array.getD_eq_getD_getElem?, Array.getElem?_setIfInBounds] at h ⊢
  split
  · split <;> simp_all
  · exact h
theorem zcb {L : Array Bool} {k : Nat} (h : L.getD k true = false) : L.getD k false = false := by
  simp only [Array.getD_eq_getD_getElem?] at h ⊢
  cases hk : L[k]? with
  | none => rfl
  | some b => rw [hk] at h; simpa using h
theorem z2e (hs : Region.noSelect ops = true) (hQ : ∀ c a d v w, Q (.panic c) (Act.put a d v) w -> Q (.panic c) a w) : ∀ (l : List (Nat × Oper × Nat)) (L : Array Bool) (A B T : World -> Prop) (a : Act),
    (∀ x ∈ l, ops[x.1]? = some x.2.1) -> ShutL md ops L -> z5O md ops l L = true -> (∀ x, A x -> B x) -> (∀ x, T x -> A x) -> z1L P md ops Q l A B T a -> ∀ w, T w -> z1z P md ops Q (z8L (z2h l) A B) l.length L a w
  | [], L, A, B, T, a, _, hsh, hO, hAB, hTA, h, w, hw => ⟨by simpa [z5O] using hO, h w hw⟩
  | (k, o, m) :: rest, L, A, B, T, a, hl, hsh, hO, hAB, hTA, h, w, hw => by
    have h0 : ops[k]? = some o := hl (k, o, m) (by simp)
    have hk : k < L.size := by rw [hsh.1]; exact (Array.getElem?_eq_some_iff.1 h0).1
    have hl' : ∀ x ∈ rest, ops[x.1]? = some x.2.1 := fun x hx => hl x (by simp [hx])
    simp only [z5O, Bool.and_eq_true] at hO
    obtain ⟨hO1, hO2⟩ := hO
    by_cases hm : m = 0 ∨ m = 3
    · rw [if_pos hm] at hO1
      simp only [Bool.and_eq_true, decide_eq_true_eq] at hO1
      obtain ⟨⟨⟨hr, hf⟩, hzk⟩, hso⟩ := hO1
      have hm2 : m ≠ 2 := by rcases hm with e | e <;> omega
      have hr' : k ∈ Region.ready md ops L := by simpa using hr
      have key : ∃ v, YieldsIf P ops (fun w => if m = 0 then A w else B w) o v a /\ z1L P md ops Q rest A B T (a.put o.dst v) := by
        simp only [z1L, if_pos hm] at h
        split at h
        · rename_i hwt
          obtain ⟨v, h1, h2⟩ := h
          exact ⟨v, .inl ⟨hwt, h1⟩, h2⟩
        · rename_i hwt
          exact ⟨undef, .inr ⟨by simpa using hwt, rfl⟩, h⟩
      obtain ⟨v, hy, hK⟩ := key
      have hnz : z2h ((k, o, m) :: rest) = z2h rest := by simp [z2h, hm2]
      rw [hnz]
      refine z4e (C := fun w => if m = 0 then A w else B w) h0 (Region.noSelect_spec hs) (fun c a w h => hQ c a _ _ w h) (fun L' w' => ?_) (fun L' w' hsh' hun hS => ?_) rest.length L a w hsh (Region.free_spec h0 hf) hr' hy (z8K hAB (hTA _ hw))
        (z2e hs hQ rest _ A B T _ hl' (hsh.set hr') hO2 hAB hTA hK w hw)
      · cases hz : z2h rest with
        | none => exact Iff.rfl
        | some z =>
          have hne : z ≠ k := fun e => hzk (by rw [hz, e])
          have : (L'.setIfInBounds k true).getD z false = L'.getD z false := by
            simp only [Array.getD_eq_getD_getElem?, Array.getElem?_setIfInBounds]
            rw [if_neg (fun e => hne e.symm)]
          simp only [z8L, this]
      · by_cases hm0 : m = 0
        · rw [if_pos hm0]
          subst hm0
          have hso : zej md ops k rest = true := by simpa using hso
          unfold zej at hso
          split at hso
          · rename_i hz
            rw [hz] at hS
            exact hS
          · rename_i z hz
            rw [hz] at hS
            simp only [z8L] at hS
            split at hS
            · rename_i hlz
              have := z4c hsh' ops.size [z] (fun i hi => by simp at hi; subst hi; exact hlz) k (by simpa using hso)
              rw [zcb hun] at this
              cases this
            · exact hS
        · rw [if_neg hm0]
          exact ze2 hAB hS
    · rw [if_neg hm] at hO1
      have hr : Region.ready md ops L = [k] := by simpa using hO1
      have hr' : k ∈ Region.ready md ops L := by rw [hr]; simp
      refine ⟨fun h1 => (by rw [h1] at hr; cases hr), fun i hi => ?_⟩
      rw [hr] at hi
      obtain rfl : i = k := by simpa using hi
      simp only [z1L, if_neg hm] at h
      unfold wpOp
      simp only [h0]
      have fin : ∀ (A' B' T' : World -> Prop) (a' : Act) (w' : World), T' w' -> (∀ x, T' x -> A' x) -> (∀ x, A' x -> B' x) -> (∀ x, B' x -> B x) -> (m = 2 ∨ ∀ x, A' x -> A x) -> z1L P md ops Q rest A' B' T' a' ->
          z8L (z2h ((i, o, m) :: rest)) A B (L.setIfInBounds i true) w' /\ z1z P md ops Q (z8L (z2h ((i, o, m) :: rest)) A B) rest.length (L.setIfInBounds i true) a' w' := fun A' B' T' a' w' t1 t2 t3 t4 t5 t6 => by
        have hrest := z2e hs hQ rest _ A' B' T' a' hl' (hsh.set hr') hO2 t3 t2 t6 w' t1
        by_cases hm2 : m = 2
        · have hz : z2h ((i, o, m) :: rest) = some i := by simp [z2h, hm2]
          rw [hz]
          have hp : ∀ (L' : Array Bool) (x : World), L'.getD i false = true -> z8L (z2h rest) A' B' L' x -> z8L (some i) A B L' x := fun L' x hL hx => by
            simp only [z8L, hL, if_true]
            exact t4 _ (ze2 t3 hx)
          refine ⟨hp _ _ (z1D hk) (z8K t3 (t2 _ t1)), z2f (fun L' => L'.getD i false = true) (fun L' j hL => z2j hL) hp rest.length _ a' w' (z1D hk) hrest⟩
        · have hz : z2h ((i, o, m) :: rest) = z2h rest := by simp [z2h, hm2]
          rw [hz]
          have t5' : ∀ x, A' x -> A x := by rcases t5 with e | e; exact absurd e hm2; exact e
          have hp : ∀ (L' : Array Bool) (x : World), True -> z8L (z2h rest) A' B' L' x -> z8L (z2h rest) A B L' x := fun L' x _ hx => by
            cases hz2 : z2h rest with
            | none => rw [hz2] at hx; exact t5' _ hx
            | some z =>
              rw [hz2] at hx
              simp only [z8L] at hx ⊢
              by_cases hh : L'.getD z false = true
              · rw [if_pos hh] at hx ⊢; exact t4 _ hx
              · rw [if_neg hh] at hx ⊢; exact t5' _ hx
          exact ⟨hp _ _ trivial (z8K t3 (t2 _ t1)), z2f (fun _ => True) (fun _ _ _ => trivial) hp rest.length _ a' w' trivial hrest⟩
      split
      · rename_i hwt
        rw [if_pos hwt] at h
        exact .inl (Oper.wp_mono (fun a' w' ⟨A', B', T', h1, h2, h3, h4, h5, h6⟩ => fin A' B' T' a' w' h1 h2 h3 h4 h5 h6) (h w hw))
      · rename_i hwt
        rw [if_neg hwt] at h
        exact fin A B T _ w hw hTA hAB (fun _ h => h) (.inr fun _ h => h) h
def z3z (ops : Array Oper) (sch : List (Nat × Nat)) : List (Nat × Oper × Nat) := sch.filterMap fun x => (ops[x.1]?).map fun o => (x.1, o, x.2)
theorem z4k {id : Nat} {a : Act} {w : World} {l : List Oper} (sch : List (Nat × Nat)) (A B T : World -> Prop) (hm : P.follows .mixedOrders = true) (hlen : (z3z l.toArray sch).length = l.length)
    (hs : Region.noSelect l.toArray = true) (hO : z5O .any l.toArray (z3z l.toArray sch) (Array.replicate l.length false) = true)
    (hAB : ∀ x, A x -> B x) (hTA : ∀ x, T x -> A x) (hT : T w.drew) (h : z1L P .any l.toArray (NoPz Q) (z3z l.toArray sch) A B T a) : (Code.region id l.toArray true).wp P Q a w := by
  refine Code.wp_mono NoPz.imp (wp_region_any hm ?_)
  have hsh : ShutL .any l.toArray (Array.replicate l.length false) := ⟨by simp, fun i o ho hL => by
    simp only [Array.getD_eq_getD_getElem?, Array.getElem?_replicate] at hL
    split at hL <;> simp at hL⟩
  have := z2e (md := .any) hs (fun _ _ _ _ _ h => h) (z3z l.toArray sch) (Array.replicate l.length false) A B T a (fun x hx => by
    simp only [z3z, List.mem_filterMap, Option.map_eq_some_iff] at hx
    obtain ⟨y, _, o, ho, rfl⟩ := hx
    exact ho) hsh hO hAB hTA h w.drew hT
  rw [hlen] at this
  have h2 := z3M _ _ _ _ this
  simpa using h2
end
end
section
inductive SchT where
  | nil
  | op (k m : Nat) (rest : SchT)
  | alt (a b : SchT)
def SchT.heads : SchT -> List Nat
  | .nil => []
  | .op k _ _ => [k]
  | .alt a b => a.heads ++ b.heads
def SchT.nexts : SchT -> List Nat
  | .nil => []
  | .op k m r => if m = 2 then [k] else r.nexts
  | .alt a b => a.nexts ++ b.nexts
def SchT.depth : SchT -> Nat
  | .nil => 0
  | .op _ _ r => r.depth + 1
  | .alt a _ => a.depth
section
variable {P : Program} {ops : Array Oper} {Q : Exit -> Act -> World -> Prop} {md : Region.Mode}
def z4l (P : Program) (md : Region.Mode) (ops : Array Oper) (Q : Exit -> Act -> World -> Prop) : SchT -> (World -> Prop) -> (World -> Prop) -> (World -> Prop) -> Act -> Prop
  | .nil, A, B, T, a => ∀ w, T w -> Q .normal a w
  | .op k m rest, A, B, T, a => ∃ o, ops[k]? = some o /\
    (if Region.wanted o (yielded ops a.tmps) = true then
      (if m = 0 ∨ m = 3 then ∃ v, (∀ w, (if m = 0 then A w else B w) -> (execOp a.eval o).run P w = .ok (.value v) w) /\ z4l P md ops Q rest A B T (a.put o.dst v)
      else ∀ w, T w -> o.wp P a w (fun a' w' => ∃ A' B' T' : World -> Prop, T' w' /\ (∀ x, T' x -> A' x) /\ (∀ x, A' x -> B' x) /\ (∀ x, B' x -> B x) /\ (m = 2 ∨ ∀ x, A' x -> A x) /\ z4l P md ops Q rest A' B' T' a') Q)
    else z4l P md ops Q rest A B T (a.put o.dst undef))
  | .alt x y, A, B, T, a => z4l P md ops Q x A B T a /\ z4l P md ops Q y A B T a
def z0M (md : Region.Mode) (ops : Array Oper) : Bool -> SchT -> Array Bool -> Bool
  | top, .nil, L => top && decide (Region.ready md ops L = [])
  | top, .op k m rest, L => (if top = true /\ (m = 0 ∨ m = 3) then (Region.ready md ops L).contains k && Region.free md ops L k && !(rest.nexts.contains k) && (m == 3 || rest.nexts.all fun z => (zgd md ops ops.size [z]).contains k) else (decide (m = 1 ∨ m = 2)) && (if top = true then decide (Region.ready md ops L = [k]) else (Region.ready md ops L).contains k)) && z0M md ops true rest (L.setIfInBounds k true)
  | top, .alt a b, L => (!top || decide (∀ i ∈ Region.ready md ops L, i ∈ a.heads ++ b.heads)) && decide (a.depth = b.depth) && z0M md ops false a L && z0M md ops false b L
def z5q (zs : List Nat) (A B : World -> Prop) (L : Array Bool) (w : World) : Prop := if ∃ z ∈ zs, L.getD z false = true then B w else A w
theorem zcv {zs : List Nat} {A B : World -> Prop} (hAB : ∀ x, A x -> B x) {L : Array Bool} {w : World} (h : z5q zs A B L w) : B w := by
  unfold z5q at h; split at h
  · exact h
  · exact hAB _ h
theorem zcu {zs : List Nat} {A B : World -> Prop} (hAB : ∀ x, A x -> B x) {L : Array Bool} {w : World} (h : A w) : z5q zs A B L w := by
  unfold z5q; split
  · exact hAB _ h
  · exact h
theorem z7C {L : Array Bool} {k z : Nat} (h : z ≠ k) : (L.setIfInBounds k true).getD z false = L.getD z false := by
  simp only [Array.getD_eq_getD_getElem?, Array.getElem?_setIfInBounds]
  rw [if_neg (fun e => h e.symm)]
theorem zdy {zs : List Nat} {k m : Nat} {rest : SchT} {L : Array Bool} {A B T : World -> Prop} {a : Act} {o : Oper} {n : Nat} (ho : ops[k]? = some o) (hk : k < L.size) (hm : m = 1 ∨ m = 2) (hz : m = 2 -> k ∈ zs) (hz1 : m ≠ 2 -> ∀ z ∈ rest.nexts, z ∈ zs)
    (hAB : ∀ x, A x -> B x) (hTA : ∀ x, T x -> A x) (h : z4l P md ops Q (.op k m rest) A B T a) {w : World} (hw : T w)
    (ih : ∀ (A' B' T' : World -> Prop) (a' : Act), (∀ x, A' x -> B' x) -> (∀ x, T' x -> A' x) -> z4l P md ops Q rest A' B' T' a' -> ∀ w, T' w -> z1z P md ops Q (z5q rest.nexts A' B') n (L.setIfInBounds k true) a' w) :
    wpOp P ops Q k (fun a' w' => z5q zs A B (L.setIfInBounds k true) w' /\ z1z P md ops Q (z5q zs A B) n (L.setIfInBounds k true) a' w') a w := by
  obtain ⟨o2, ho2, h⟩ := h
  rw [ho] at ho2; cases ho2
  have hm' : ¬ (m = 0 ∨ m = 3) := by omega
  have fin : ∀ (A' B' T' : World -> Prop) (a' : Act) (w' : World), T' w' -> (∀ x, T' x -> A' x) -> (∀ x, A' x -> B' x) -> (∀ x, B' x -> B x) -> (m = 2 ∨ ∀ x, A' x -> A x) -> z4l P md ops Q rest A' B' T' a' ->
      z5q zs A B (L.setIfInBounds k true) w' /\ z1z P md ops Q (z5q zs A B) n (L.setIfInBounds k true) a' w' := fun A' B' T' a' w' t1 t2 t3 t4 t5 t6 => by
    have hrest := ih A' B' T' a' t3 t2 t6 w' t1
    have hp : ∀ (L' : Array Bool) (x : World), L'.getD k false = true -> z5q rest.nexts A' B' L' x -> z5q zs A B L' x := fun L' x hL hx => by
      by_cases hm2 : m = 2
      · unfold z5q
        rw [if_pos ⟨k, hz hm2, hL⟩]
        exact t4 _ (zcv t3 hx)
      · have t5' : ∀ x, A' x -> A x := by rcases t5 with e | e; exact absurd e hm2; exact e
        unfold z5q
        split
        · exact t4 _ (zcv t3 hx)
        · rename_i hno
          unfold z5q at hx
          rw [if_neg (fun ⟨z, h1, h2⟩ => hno ⟨z, hz1 hm2 z h1, h2⟩)] at hx
          exact t5' _ hx
    exact ⟨hp _ _ (z1D hk) (zcu t3 (t2 _ t1)), z2f (fun L' => L'.getD k false = true) (fun L' j hL => z2j hL) hp n _ a' w' (z1D hk) hrest⟩
  unfold wpOp
  simp only [ho]
  split
  · rename_i hwt
    rw [if_pos hwt, if_neg hm'] at h
    exact .inl (Oper.wp_mono (fun a' w' ⟨A', B', T', h1, h2, h3, h4, h5, h6⟩ => fin A' B' T' a' w' h1 h2 h3 h4 h5 h6) (h w hw))
  · rename_i hwt
    rw [if_neg hwt] at h
    exact fin A B T _ w hw hTA hAB (fun _ h => h) (.inr fun _ h => h) h
theorem z1M (hs : Region.noSelect ops = true) (hQ : ∀ c a d v w, Q (.panic c) (Act.put a d v) w -> Q (.panic c) a w) : ∀ (s : SchT) (L : Array Bool) (A B T : World -> Prop) (a : Act), ShutL md ops L -> (∀ x, A x -> B x) -> (∀ x, T x -> A x) -> z4l P md ops Q s A B T a -> ∀ w, T w ->
    (z0M md ops true s L = true -> z1z P md ops Q (z5q s.nexts A B) s.depth L a w) /\
    (z0M md ops false s L = true -> ∀ (zs : List Nat) (n : Nat), (∀ z ∈ s.nexts, z ∈ zs) -> s.depth = n + 1 -> ∀ i ∈ s.heads, wpOp P ops Q i (fun a' w' => z5q zs A B (L.setIfInBounds i true) w' /\ z1z P md ops Q (z5q zs A B) n (L.setIfInBounds i true) a' w') a w)
  | .nil, L, A, B, T, a, hsh, hAB, hTA, h, w, hw => ⟨fun hO => ⟨by simpa [z0M] using hO, h w hw⟩, fun hO => by simp [z0M] at hO⟩
  | .op k m rest, L, A, B, T, a, hsh, hAB, hTA, h, w, hw => by
    obtain ⟨o, h0, h'⟩ := h
    have hk : k < L.size := by rw [hsh.1]; exact (Array.getElem?_eq_some_iff.1 h0).1
    have eff : ∀ (zs : List Nat) (n : Nat), (m = 1 ∨ m = 2) -> (∀ z ∈ (SchT.op k m rest).nexts, z ∈ zs) -> rest.depth = n -> k ∈ Region.ready md ops L -> z0M md ops true rest (L.setIfInBounds k true) = true ->
        wpOp P ops Q k (fun a' w' => z5q zs A B (L.setIfInBounds k true) w' /\ z1z P md ops Q (z5q zs A B) n (L.setIfInBounds k true) a' w') a w := fun zs n hm hz hd hr hO => by
      refine zdy h0 hk hm (fun e => hz k (by simp [SchT.nexts, e])) (fun e z hzz => hz z (by simp [SchT.nexts, e, hzz])) hAB hTA ⟨o, h0, h'⟩ hw ?_
      intro A' B' T' a' k1 k2 k3 w' k4
      subst hd
      exact (z1M hs hQ rest _ A' B' T' a' (hsh.set hr) k1 k2 k3 w' k4).1 hO
    constructor
    · intro hO
      simp only [z0M, Bool.and_eq_true] at hO
      obtain ⟨hO1, hO2⟩ := hO
      by_cases hm : m = 0 ∨ m = 3
      · rw [if_pos ⟨trivial, hm⟩] at hO1
        simp only [Bool.and_eq_true, Bool.not_eq_true'] at hO1
        obtain ⟨⟨⟨hr, hf⟩, hzk⟩, hso⟩ := hO1
        have hm2 : m ≠ 2 := by rcases hm with e | e <;> omega
        have hr' : k ∈ Region.ready md ops L := by simpa using hr
        have key : ∃ v, YieldsIf P ops (fun w => if m = 0 then A w else B w) o v a /\ z4l P md ops Q rest A B T (a.put o.dst v) := by
          rw [if_pos hm] at h'
          split at h'
          · rename_i hwt
            obtain ⟨v, h1, h2⟩ := h'
            exact ⟨v, .inl ⟨hwt, h1⟩, h2⟩
          · rename_i hwt
            exact ⟨undef, .inr ⟨by simpa using hwt, rfl⟩, h'⟩
        obtain ⟨v, hy, hK⟩ := key
        have hnz : (SchT.op k m rest).nexts = rest.nexts := by simp [SchT.nexts, hm2]
        rw [hnz]
        refine z4e (C := fun w => if m = 0 then A w else B w) h0 (Region.noSelect_spec hs) (fun c a w h => hQ c a _ _ w h) (fun L' w' => ?_) (fun L' w' hsh' hun hS => ?_) rest.depth L a w hsh (Region.free_spec h0 hf) hr' hy (zcu hAB (hTA _ hw))
          ((z1M hs hQ rest _ A B T _ (hsh.set hr') hAB hTA hK w hw).1 hO2)
        · have : (∃ z ∈ rest.nexts, (L'.setIfInBounds k true).getD z false = true) ↔ ∃ z ∈ rest.nexts, L'.getD z false = true := by
            constructor
            · rintro ⟨z, h1, h2⟩
              have hne : z ≠ k := fun e => by rw [← e] at hzk; simp [h1] at hzk
              exact ⟨z, h1, by rwa [z7C hne] at h2⟩
            · rintro ⟨z, h1, h2⟩
              exact ⟨z, h1, z2j h2⟩
          simp only [z5q, this]
        · by_cases hm0 : m = 0
          · rw [if_pos hm0]
            subst hm0
            have hso : (rest.nexts.all fun z => (zgd md ops ops.size [z]).contains k) = true := by simpa using hso
            unfold z5q at hS
            split at hS
            · rename_i hlz
              obtain ⟨z, hz1, hz2⟩ := hlz
              have h3 := List.all_eq_true.1 hso z hz1
              have := z4c hsh' ops.size [z] (fun i hi => by simp at hi; subst hi; exact hz2) k (by simpa using h3)
              rw [zcb hun] at this
              cases this
            · exact hS
          · rw [if_neg hm0]
            exact zcv hAB hS
      · rw [if_neg (fun hh => hm hh.2)] at hO1
        simp only [Bool.and_eq_true, decide_eq_true_eq, if_true] at hO1
        obtain ⟨hm1, hr⟩ := hO1
        have hr' : k ∈ Region.ready md ops L := by rw [hr]; simp
        refine ⟨fun h1 => (by rw [h1] at hr; cases hr), fun i hi => ?_⟩
        rw [hr] at hi
        obtain rfl : i = k := by simpa using hi
        exact eff _ _ hm1 (fun z hz => hz) rfl hr' hO2
    · intro hO zs n hz hd i hi
      simp only [z0M, Bool.and_eq_true] at hO
      obtain ⟨hO1, hO2⟩ := hO
      rw [if_neg (fun hh => by cases hh.1)] at hO1
      simp only [Bool.and_eq_true, decide_eq_true_eq, Bool.false_eq_true, if_false] at hO1
      obtain ⟨hm1, hr⟩ := hO1
      obtain rfl : i = k := by simpa [SchT.heads] using hi
      exact eff zs n hm1 hz (by simpa [SchT.depth] using hd) (by simpa using hr) hO2
  | .alt x y, L, A, B, T, a, hsh, hAB, hTA, h, w, hw => by
    obtain ⟨hx, hy⟩ := h
    have sx := z1M hs hQ x L A B T a hsh hAB hTA hx w hw
    have sy := z1M hs hQ y L A B T a hsh hAB hTA hy w hw
    have both : z0M md ops false x L = true -> z0M md ops false y L = true -> x.depth = y.depth -> ∀ (zs : List Nat) (n : Nat), (∀ z ∈ (SchT.alt x y).nexts, z ∈ zs) -> x.depth = n + 1 -> ∀ i ∈ x.heads ++ y.heads, wpOp P ops Q i (fun a' w' => z5q zs A B (L.setIfInBounds i true) w' /\ z1z P md ops Q (z5q zs A B) n (L.setIfInBounds i true) a' w') a w := fun o1 o2 hd zs n hz hn i hi => by
      rcases List.mem_append.1 hi with hi | hi
      · exact sx.2 o1 zs n (fun z h => hz z (by simp [SchT.nexts, h])) hn i hi
      · exact sy.2 o2 zs n (fun z h => hz z (by simp [SchT.nexts, h])) (by omega) i hi
    constructor
    · intro hO
      simp only [z0M, Bool.and_eq_true, decide_eq_true_eq, Bool.not_true, Bool.false_or] at hO
      obtain ⟨⟨⟨h1, h2⟩, h3⟩, h4⟩ := hO
      have hdep : ∀ (s : SchT), z0M md ops false s L = true -> ∃ n, s.depth = n + 1 /\ ∃ i ∈ s.heads, i ∈ Region.ready md ops L := by
        intro s
        induction s with
        | nil => intro hh; simp [z0M] at hh
        | op k m r _ =>
          intro hh
          simp only [z0M, Bool.and_eq_true] at hh
          have hh1 := hh.1
          rw [if_neg (fun hh => by cases hh.1)] at hh1
          simp only [Bool.and_eq_true, Bool.false_eq_true, if_false] at hh1
          exact ⟨r.depth, rfl, k, by simp [SchT.heads], by simpa using hh1.2⟩
        | alt p q ihp ihq =>
          intro hh
          simp only [z0M, Bool.and_eq_true] at hh
          obtain ⟨n, e1, i, e2, e3⟩ := ihp hh.1.2
          exact ⟨n, e1, i, by simp [SchT.heads, e2], e3⟩
      obtain ⟨n, hn, j, hj, hjr⟩ := hdep x h3
      show z1z P md ops Q _ x.depth L a w
      rw [hn]
      refine ⟨fun he => (by rw [he] at hjr; cases hjr), fun i hi => both h3 h4 h2 _ n (fun z hz => hz) hn i (h1 i hi)⟩
    · intro hO zs n hz hd i hi
      simp only [z0M, Bool.and_eq_true, decide_eq_true_eq] at hO
      obtain ⟨⟨⟨_, h2⟩, h3⟩, h4⟩ := hO
      exact both h3 h4 h2 zs n hz hd i hi
theorem z6a {id : Nat} {a : Act} {w : World} {l : List Oper} (s : SchT) (A B T : World -> Prop) (hm : P.follows .mixedOrders = true) (hlen : s.depth = l.length)
    (hs : Region.noSelect l.toArray = true) (hO : z0M .any l.toArray true s (Array.replicate l.length false) = true)
    (hAB : ∀ x, A x -> B x) (hTA : ∀ x, T x -> A x) (hT : T w.drew) (h : z4l P .any l.toArray (NoPz Q) s A B T a) : (Code.region id l.toArray true).wp P Q a w := by
  refine Code.wp_mono NoPz.imp (wp_region_any hm ?_)
  have hsh : ShutL .any l.toArray (Array.replicate l.length false) := ⟨by simp, fun i o ho hL => by
    simp only [Array.getD_eq_getD_getElem?, Array.getElem?_replicate] at hL
    split at hL <;> simp at hL⟩
  have := (z1M (md := .any) hs (fun _ _ _ _ _ h => h) s (Array.replicate l.length false) A B T a hsh hAB hTA h w.drew hT).1 hO
  rw [hlen] at this
  have h2 := z3M _ _ _ _ this
  simpa using h2
end
end
section
def zg5 (s : Nat) (p : List Nat) : List Nat := if s < 100000 then p else p ++ [s / 100000 - 1]
def frz1 (fr : Fr) (s : Nat) : Fr := match z0n fr.tm (s % 100000) with | .one (.h id p) => (z0Q fr id (zg5 s p)).getD fr | .one (.a id p _) => (z0Q fr id (zg5 s p)).getD fr | .one (.tf n cs) => { fr with tm := z4t fr.tm (s % 100000) (.one (.t none (.sl n cs))) } | _ => fr
def zfk (fr : Fr) : List Nat -> Fr
  | [] => fr
  | s :: l => zfk (frz1 fr s) l
theorem z9y {w : World} {G : Nat -> Value} {a : Act} : ∀ {l : List Nat} {K : Nat -> z0a} {R : Nat -> Value} {fr : Fr}, FRep w K R G fr a -> ∃ K', FRep w K' R G (zfk fr l) a /\ Step w K w K'
  | [], K, R, fr, h => ⟨K, h, Step.refl _ _⟩
  | s :: l, K, R, fr, h => by
    have h1 : ∃ K', FRep w K' R G (frz1 fr s) a /\ Step w K w K' := by
      unfold frz1
      split
      · rename_i id p he
        cases hf : z0Q fr id (zg5 s p) with
        | none => exact ⟨K, h, Step.refl _ _⟩
        | some fr' => exact ⟨_, (h.freeze hf).1, z2Q id _⟩
      · rename_i id p off he
        cases hf : z0Q fr id (zg5 s p) with
        | none => exact ⟨K, h, Step.refl _ _⟩
        | some fr' => exact ⟨_, (h.freeze hf).1, z2Q id _⟩
      · rename_i n cs he
        have h2 := h.tm (s % 100000)
        rw [he] at h2
        exact ⟨K, h.reput (d := s % 100000) (x := .one (.t none (.sl n cs))) ⟨h2.2, fun _ e => by cases e⟩, Step.refl _ _⟩
      · exact ⟨K, h, Step.refl _ _⟩
    obtain ⟨K1, h2, h3⟩ := h1
    obtain ⟨K2, h4, h5⟩ := z9y (l := l) h2
    exact ⟨K2, h4, h3.trans h5⟩
def z3a (P : Program) (C : z0b) (wio : FuncId -> Nat -> Bool) (fr : Fr) (o : Oper) : Option Fr :=
  match o.op with
  | .call { callee := .value c, args, .. } => (match z3n fr c with
    | some (f, cs) => (match z5F fr (wio f) (args.toList.map (opE fr) ++ cs.map fun t => .one (.t none t)) 0 with | some (_, _, none) => z3L C wio fr f (args.toList.map (opE fr) ++ cs.map fun t => .one (.t none t)) o.dst | _ => none)
    | none => none)
  | op => (match z2u P noM fr op with
    | some e => putF fr o.dst e
    | none => if z5X o then z7L P fr o else none)
def zgy (w x : World) : Prop := ∀ b, b < w.heap.size -> x.heap[b]? = w.heap[b]?
theorem zcB {P : Program} {I : World -> (Nat -> z0a) -> Prop} {C : z0b} {wio : FuncId -> Nat -> Bool} {w : World} {K : Nat -> z0a} {R G : Nat -> Value} {fr fr' : Fr} {a : Act} {o : Oper} {next : Act -> World -> Prop} {Q : Exit -> Act -> World -> Prop}
    (hI : EnvS I) (hC : z1y P I C) (h : FRep w K R G fr a) (hIw : I w K) (hf : z3a P C wio fr o = some fr') (hn : ∀ a' w' K' R', FRep w' K' R' G fr' a' -> Step w K w' K' -> zgy w w' -> next a' w') : o.wp P a w next Q := by
  unfold z3a at hf
  split at hf
  · rename_i c args ats hop
    split at hf
    · rename_i f cs hc
      split at hf
      · rename_i ts deps hargs
        obtain ⟨vs, q1, q2, q3⟩ := z3Z (P := P) h hop hc
        exact z8O hI hC h hIw q1 q2 q3 hf fun a' w' K' R' h1 h2 h3 => hn a' w' K' R' h1 h2 (fun b hb => (h3 _ _ _ hargs b hb (z1Z _)).2)
      · cases hf
    · cases hf
  · split at hf
    · rename_i e he
      obtain ⟨v, h1, h2⟩ := z2L h he
      unfold Oper.wp
      rw [h2 w (Stay.refl w K noM)]
      exact hn _ w K R (h.putF h1 hf) (Step.refl _ _) fun _ _ => rfl
    · split at hf
      · rename_i hc
        obtain ⟨r, w', h1, h2, h3⟩ := z4G h hf
        unfold Oper.wp
        rw [h1]
        rcases h2 with ⟨v, rfl, K', R', e1, e2⟩ | ⟨rfl, hd, K', R', e1, e2⟩
        · exact hn _ w' K' R' e1 e2 (h3 hc)
        · simp only [Oper.upon, hd]
          exact hn _ w' K' R' e1 e2 (h3 hc)
      · cases hf
def wrF (P : Program) (C : z0b) (wio : FuncId -> Nat -> Bool) (M : Nat -> Bool) (fr : Fr) (o : Oper) : Option Fr :=
  match o.op with
  | .call { callee := .value c, args, .. } => (match z3n fr c with
    | none => none
    | some (f, cs) => (match z5F fr (wio f) (args.toList.map (opE fr) ++ cs.map fun t => .one (.t none t)) 0 with
      | some (_, _, none) => z3L C wio fr f (args.toList.map (opE fr) ++ cs.map fun t => .one (.t none t)) o.dst
      | some (_, _, some (_, id)) => if M id then z3L C wio fr f (args.toList.map (opE fr) ++ cs.map fun t => .one (.t none t)) o.dst else none
      | none => none))
  | .buildSlice t n parts => (match o.dst with
    | some d => if M d = false /\ z1w P fr t n parts.toList d = true then z0E P fr t n parts.toList d else none
    | none => none)
  | .makeSlice t l c => (match o.dst, rdV (opE fr l), rdV (opE fr c) with
    | some d, some (.int _ l'), some (.int _ c') => if M d = false then z1H P fr t l' c' d else none
    | _, _, _ => none)
  | .call { callee := .builtin .append, args, argTypes } => (match o.dst, args.toList, argTypes.toList with
    | some d, [s, x], [st, xt] => if M d = true /\ (z6K (opE fr s)).all M = true /\ z6M fr d s x = true then z5v P fr d st xt s x else none
    | _, _, _ => none)
  | _ => none
theorem zfo {P : Program} {I : World -> (Nat -> z0a) -> Prop} {C : z0b} {wio : FuncId -> Nat -> Bool} {M : Nat -> Bool} {w : World} {K : Nat -> z0a} {R G : Nat -> Value} {fr fr' : Fr} {a : Act} {o : Oper} {next : Act -> World -> Prop} {Q : Exit -> Act -> World -> Prop}
    (hI : EnvS I) (hC : z1y P I C) (h : FRep w K R G fr a) (hIw : I w K) (hf : wrF P C wio M fr o = some fr') (hn : ∀ a' w' K' R', FRep w' K' R' G fr' a' -> Step w K w' K' -> (∀ x, Stay w' x K' M -> Stay w x K M) -> next a' w') : o.wp P a w next Q := by
  unfold wrF at hf
  split at hf
  · rename_i c args ats hop
    split at hf
    · cases hf
    rename_i f cs hc
    obtain ⟨vs, q1, q2, q3⟩ := z3Z (P := P) h hop hc
    have fin : ∀ ts deps io, z5F fr (wio f) (args.toList.map (opE fr) ++ cs.map fun t => .one (.t none t)) 0 = some (ts, deps, io) -> (∀ i id, io = some (i, id) -> M id = true) -> z3L C wio fr f (args.toList.map (opE fr) ++ cs.map fun t => .one (.t none t)) o.dst = some fr' -> o.wp P a w next Q := fun ts deps io hargs hM hcall =>
      z8O hI hC h hIw q1 q2 q3 hcall fun a' w' K' R' h1 h2 h3 => hn a' w' K' R' h1 h2 fun x hx b hb hcb => by
        have hno : ¬ z3l io (K b) := by
          rintro ⟨i, id, s, e1, e2⟩
          rcases hcb with e | ⟨j, q, e, hj⟩
          · rw [e] at e2; cases e2
          · rw [e] at e2
            have : j = id := by simpa using (List.cons.inj e2).1
            subst this
            have := hM i j e1
            rw [hj] at this; cases this
        obtain ⟨p1, p2⟩ := h3 _ _ _ hargs b hb hno
        rw [hx b (Nat.lt_of_lt_of_le hb h2.size) (by
          rcases p1 with e | e
          · exact .inl e
          · rcases hcb with e2 | ⟨j, q, e2, hj⟩
            · exact .inl (e.trans e2)
            · exact .inr ⟨j, q, e.trans e2, hj⟩)]
        exact p2
    split at hf
    · rename_i ts deps hargs
      exact fin _ _ _ hargs (fun i id e => by cases e) hf
    · rename_i ts deps i id hargs
      split at hf
      · rename_i hc
        exact fin _ _ _ hargs (fun i' id' e => by cases e; simpa using hc) hf
      · cases hf
    · cases hf
  · rename_i t n parts hop
    split at hf
    · rename_i d hd
      split at hf
      · rename_i hc
        obtain ⟨v, w', h1, ⟨K', R', h2, h3, h4⟩, h5⟩ := z2I h hf
        have hrun : (execOp a.eval o).run P w = .ok (.value v) w' := by
          simp only [execOp, hop]
          have : parts.map (fun (x : Nat × Operand) => (x.1, a.eval x.2)) = (parts.toList.map fun (i, x) => (i, a.eval x)).toArray := by
            apply Array.ext'; simp
          rw [this]
          simp only [Sem.run_bind, h1, Result.andThen_ok, Sem.run_pure]
        unfold Oper.wp
        rw [hrun]
        have h2' : FRep w' K' R' G fr' (a.put o.dst v) := by rw [hd]; exact h2
        exact hn _ w' K' R' h2' h3 fun x hx b hb hcb => by
          rw [hx b (Nat.lt_of_lt_of_le hb h3.size) (h4 hc.2 M hc.1 b hb hcb)]
          exact h5 b hb
      · cases hf
    · cases hf
  · rename_i t l c hop
    split at hf
    · rename_i d k l' k' c' hd hl hc'
      split at hf
      · rename_i hc
        obtain ⟨e1, -⟩ := z0e (h.opE l) hl
        obtain ⟨e2, -⟩ := z0e (h.opE c) hc'
        obtain ⟨v, w', h1, ⟨K', R', h2, h3, h4⟩, h5⟩ := z3c (k := k) (k' := k') h hf
        have hrun : (execOp a.eval o).run P w = .ok (.value v) w' := by
          simp only [execOp, hop, e1, e2, Sem.run_bind, h1, Result.andThen_ok, Sem.run_pure]
        unfold Oper.wp
        rw [hrun]
        have h2' : FRep w' K' R' G fr' (a.put o.dst v) := by rw [hd]; exact h2
        exact hn _ w' K' R' h2' h3 fun x hx b hb hcb => by
          rw [hx b (Nat.lt_of_lt_of_le hb h3.size) (h4 rfl M hc b hb hcb)]
          exact h5 b hb
      · cases hf
    · cases hf
  · rename_i args ats hop
    split at hf
    · rename_i d s x st xt hd ha ht
      split at hf
      · rename_i hc
        obtain ⟨c1, c2, c3⟩ := hc
        obtain rfl : args = #[s, x] := by apply Array.ext'; simpa using ha
        obtain rfl : ats = #[st, xt] := by apply Array.ext'; simpa using ht
        obtain ⟨v, w', h1, ⟨K', R', h2, h3, h4⟩, h5⟩ := z5Z (ty := o.type) h hf
        have hrun : (execOp a.eval o).run P w = .ok (.value v) w' := by
          simp only [execOp, hop, resolve, Sem.run_bind, Sem.run_pure, Result.andThen_ok, invoke, builtin]
          simp [h1]
        unfold Oper.wp
        rw [hrun]
        have h2' : FRep w' K' R' G fr' (a.put o.dst v) := by rw [hd]; exact h2
        have hb0 : ∀ i ∈ z6K (opE fr s), M i = true := fun i hi => List.all_eq_true.1 c2 i hi
        exact hn _ w' K' R' h2' h3 fun y hy b hb hcb => by
          rw [hy b (Nat.lt_of_lt_of_le hb h3.size) (h4 c3 M c1 hb0 b hb hcb)]
          refine h5 b hb ?_
          rcases hcb with e | ⟨i, q, e, hi⟩
          · exact .inl e
          · refine .inr ⟨i, q, e, ?_⟩
            by_cases hm : (z6K (opE fr s)).contains i = true
            · have := hb0 i (by simpa using hm)
              rw [hi] at this; cases this
            · simpa using hm
      · cases hf
    · cases hf
  · cases hf
def zdt (fr : Fr) : Option (List Nat) -> Fr
  | none => fr
  | some l => zfk fr l
theorem z9x {w : World} {G : Nat -> Value} {a : Act} {l : Option (List Nat)} {K : Nat -> z0a} {R : Nat -> Value} {fr : Fr} (h : FRep w K R G fr a) : ∃ K', FRep w K' R G (zdt fr l) a /\ Step w K w K' := by
  cases l with
  | none => exact ⟨K, h, Step.refl _ _⟩
  | some l => exact z9y h
def Fro (w : World) (K : Nat -> z0a) (x : World) : Prop := ∀ b, b < w.heap.size -> K b = [] -> x.heap[b]? = w.heap[b]?
theorem Fro.later {w w' : World} {K K' : Nat -> z0a} (s : Step w K w' K') {x : World} (h : Fro w' K' x) : Fro w K x := fun b hb e => by
  obtain ⟨a1, a2⟩ := s.old b hb (.inl e)
  rw [h b (Nat.lt_of_lt_of_le hb s.size) (a1.trans e), a2]
def clsA (same : Bool) (w : World) (K : Nat -> z0a) (M : Nat -> Bool) (x : World) : Prop := if same then zgy w x else Stay w x K M
theorem clsA.fro {same : Bool} {w : World} {K : Nat -> z0a} {M : Nat -> Bool} {x : World} (h : clsA same w K M x) : Fro w K x := fun b hb e => by
  unfold clsA at h
  split at h
  · exact h b hb
  · exact h b hb (.inl e)
theorem clsA.stay {same : Bool} {w : World} {K : Nat -> z0a} {M : Nat -> Bool} {x : World} (h : clsA same w K M x) : Stay w x K M := fun b hb e => by
  unfold clsA at h
  split at h
  · exact h b hb
  · exact h b hb e
theorem clsA.self (same : Bool) (w : World) (K : Nat -> z0a) (M : Nat -> Bool) : clsA same w K M w := by
  unfold clsA
  split
  · exact fun _ _ => rfl
  · exact Stay.refl _ _ _
def z2B (P : Program) (C : z0b) (wio : FuncId -> Nat -> Bool) (same : Bool) (M : Nat -> Bool) (ops : Array Oper) : List (Nat × Oper × Nat) -> Fr -> Option Fr
  | [], fr => some fr
  | (k, o, m) :: rest, fr => match z1O ops fr o with
    | none => none
    | some false => (match putF fr o.dst (.one (.k undef)) with | some fr' => z2B P C wio same M ops rest fr' | none => none)
    | some true =>
      if m = 0 ∨ m = 3 then (match z2u P (if m = 0 then M else zgx) fr o.op with
        | some e => (match putF fr o.dst e with | some fr' => z2B P C wio same M ops rest fr' | none => none)
        | none => none)
      else (match (if m = 2 then opF P C wio fr o else if same then z3a P C wio fr o else wrF P C wio M fr o) with | some fr' => z2B P C wio same M ops rest fr' | none => none)
theorem z1J {P : Program} {I : World -> (Nat -> z0a) -> Prop} {C : z0b} {wio : FuncId -> Nat -> Bool} {same : Bool} {M : Nat -> Bool} {ops : Array Oper} {Q : Exit -> Act -> World -> Prop} (hI : EnvS I) (hC : z1y P I C) : ∀ {l : List (Nat × Oper × Nat)} {w : World} {K : Nat -> z0a} {R G : Nat -> Value} {fr fr' : Fr} {a : Act}, FRep w K R G fr a -> I w K -> z2B P C wio same M ops l fr = some fr' ->
    (∀ a' w' K' R', FRep w' K' R' G fr' a' -> Step w K w' K' -> Q .normal a' w') -> z1L P .any ops (NoPz Q) l (clsA same w K M) (Fro w K) (fun x => x = w) a
  | [], w, K, R, G, fr, fr', a, h, hIw, hf, hn => by
    cases hf
    intro x hx
    subst hx; exact hn a x K R h (Step.refl _ _)
  | (k, o, m) :: rest, w, K, R, G, fr, fr', a, h, hIw, hf, hn => by
    simp only [z2B] at hf
    simp only [z1L]
    split at hf
    · cases hf
    · rename_i hg
      rw [if_neg (by rw [z2a h hg]; simp)]
      split at hf
      · rename_i fr1 h1
        exact z1J hI hC (h.putF (v := undef) (e := .one (.k undef)) rfl h1) hIw hf hn
      · cases hf
    · rename_i hg
      rw [if_pos (z2a h hg)]
      split at hf
      · rename_i hm
        rw [if_pos hm]
        split at hf
        · rename_i e he
          split at hf
          · rename_i fr1 h1
            obtain ⟨v, r1, r2⟩ := z2L h he
            refine ⟨v, fun x hx => r2 x ?_, z1J hI hC (h.putF r1 h1) hIw hf hn⟩
            by_cases hm0 : m = 0
            · rw [if_pos hm0] at hx ⊢; exact hx.stay
            · rw [if_neg hm0] at hx ⊢
              intro b hb hc
              rcases hc with hc | ⟨i, s, _, hc⟩
              · exact hx b hb hc
              · cases hc
          · cases hf
        · cases hf
      · rename_i hm
        rw [if_neg hm]
        intro x hx
        subst hx
        split at hf
        · rename_i fr1 h1
          by_cases hm2 : m = 2
          · rw [if_pos hm2] at h1
            exact zeA hI hC h hIw h1 fun a' w' K' R' hr hs => ⟨clsA same w' K' M, Fro w' K', fun y => y = w', rfl, fun y hy => by subst hy; exact clsA.self _ _ _ _, fun y hy => hy.fro, fun y hy => hy.later hs, .inl hm2, z1J hI hC hr (hI.step hIw hs) hf fun a2 w2 K2 R2 hr2 hs2 => hn a2 w2 K2 R2 hr2 (hs.trans hs2)⟩
          · rw [if_neg hm2] at h1
            cases same with
            | true =>
              rw [if_pos rfl] at h1
              refine zcB hI hC h hIw h1 fun a' w' K' R' hr hs hsame => ⟨clsA true w' K' M, Fro w' K', fun y => y = w', rfl, fun y hy => by subst hy; exact clsA.self _ _ _ _, fun y hy => hy.fro, fun y hy => hy.later hs, .inr fun y hy => ?_, z1J hI hC hr (hI.step hIw hs) hf fun a2 w2 K2 R2 hr2 hs2 => hn a2 w2 K2 R2 hr2 (hs.trans hs2)⟩
              intro b hb
              have : zgy w' y := hy
              rw [this b (Nat.lt_of_lt_of_le hb hs.size)]
              exact hsame b hb
            | false =>
              rw [if_neg (by simp)] at h1
              exact zfo hI hC h hIw h1 fun a' w' K' R' hr hs hstay => ⟨clsA false w' K' M, Fro w' K', fun y => y = w', rfl, fun y hy => by subst hy; exact clsA.self _ _ _ _, fun y hy => hy.fro, fun y hy => hy.later hs, .inr fun y hy => hstay y hy, z1J hI hC hr (hI.step hIw hs) hf fun a2 w2 K2 R2 hr2 hs2 => hn a2 w2 K2 R2 hr2 (hs.trans hs2)⟩
        · cases hf
def z4n (f g : Fr) : Prop := f.nt = g.nt /\ (∀ i ∈ f.tm.map (·.1) ++ g.tm.map (·.1), z0n f.tm i = z0n g.tm i) /\ (∀ i ∈ f.ob.map (·.1) ++ g.ob.map (·.1), z0i f.ob i = z0i g.ob i)
theorem z6z : ∀ {l : List (Nat × E)} {i : Nat}, i ∉ l.map (·.1) -> z0n l i = .one .dead
  | [], i, _ => rfl
  | (j, x) :: l, i, h => by
    simp only [List.map_cons, List.mem_cons, not_or] at h
    simp only [z0n]
    rw [if_neg (fun e => h.1 e.symm)]
    exact z6z h.2
theorem z6w : ∀ {l : List (Nat × T)} {i : Nat}, i ∉ l.map (·.1) -> z0i l i = none
  | [], i, _ => rfl
  | (j, x) :: l, i, h => by
    simp only [List.map_cons, List.mem_cons, not_or] at h
    simp only [z0i]
    rw [if_neg (fun e => h.1 e.symm)]
    exact z6w h.2
theorem FRep.same {f g : Fr} (h : z4n f g) {w : World} {K : Nat -> z0a} {R G : Nat -> Value} {a : Act} (hr : FRep w K R G g a) : FRep w K R G f a := by
  obtain ⟨h1, h2, h3⟩ := h
  have e2 : ∀ i, z0n f.tm i = z0n g.tm i := fun i => by
    by_cases hi : i ∈ f.tm.map (·.1) ++ g.tm.map (·.1)
    · exact h2 i hi
    · simp only [List.mem_append, not_or] at hi
      rw [z6z hi.1, z6z hi.2]
  have e3 : ∀ i, z0i f.ob i = z0i g.ob i := fun i => by
    by_cases hi : i ∈ f.ob.map (·.1) ++ g.ob.map (·.1)
    · exact h3 i hi
    · simp only [List.mem_append, not_or] at hi
      rw [z6w hi.1, z6w hi.2]
  have hA : ∀ x u, ARep w K R g.ob x u -> ARep w K R f.ob x u := fun x u hx => by
    cases x with
    | dead => trivial
    | k v => exact hx
    | t dep x => exact ⟨hx.1, fun i e => by rw [e3]; exact hx.2 i e⟩
    | h i q => obtain ⟨n1, t, n2, n3⟩ := hx; exact ⟨n1, t, by rw [e3]; exact n2, n3⟩
    | a i q off => obtain ⟨hv, g', n1, n4, n5, t, n2, n3⟩ := hx; exact ⟨hv, g', n1, n4, n5, t, by rw [e3]; exact n2, n3⟩
    | tf n cs => exact hx
    | ea dep cs off => obtain ⟨g', o, F, k1, k2, k3, k4, k5, k6⟩ := hx; exact ⟨g', o, F, k1, k2, k3, k4, k5, fun i e => by rw [e3]; exact k6 i e⟩
  refine ⟨fun i => ?_, fun id t ht => hr.ob id t (by rw [← e3]; exact ht), by rw [h1]; exact hr.nt, hr.df⟩
  rw [e2 i]
  exact (hr.tm i).mono hA
def zg3 (k : Nat) (x : E) : List (Nat × E) -> List (Nat × E)
  | [] => [(k, x)]
  | (j, y) :: r => if k < j then (k, x) :: (j, y) :: r else if k = j then (k, x) :: r else (j, y) :: zg3 k x r
def zg2 (k : Nat) (x : T) : List (Nat × T) -> List (Nat × T)
  | [] => [(k, x)]
  | (j, y) :: r => if k < j then (k, x) :: (j, y) :: r else if k = j then (k, x) :: r else (j, y) :: zg2 k x r
def zfW : List (Nat × E) -> List (Nat × E)
  | [] => []
  | (k, x) :: r => zg3 k x (zfW r)
def zfV : List (Nat × T) -> List (Nat × T)
  | [] => []
  | (k, x) :: r => zg2 k x (zfV r)
def zdW (fr : Fr) : Fr := { fr with tm := zfW fr.tm, ob := zfV fr.ob }
theorem z9w (k : Nat) (x : E) (i : Nat) : ∀ l : List (Nat × E), z0n (zg3 k x l) i = if k = i then x else z0n l i
  | [] => rfl
  | (j, y) :: r => by
    simp only [zg3]
    by_cases h1 : k < j
    · rw [if_pos h1]; rfl
    · rw [if_neg h1]
      by_cases h2 : k = j
      · rw [if_pos h2]; subst h2
        simp only [z0n]
        by_cases h3 : k = i
        · rw [if_pos h3, if_pos h3]
        · rw [if_neg h3, if_neg h3, if_neg h3]
      · rw [if_neg h2]
        simp only [z0n, z9w k x i r]
        by_cases h3 : k = i
        · subst h3
          rw [if_neg (fun e => h2 e.symm), if_pos rfl, if_pos rfl]
        · rw [if_neg h3, if_neg h3]
theorem z9s (k : Nat) (x : T) (i : Nat) : ∀ l : List (Nat × T), z0i (zg2 k x l) i = if k = i then some x else z0i l i
  | [] => rfl
  | (j, y) :: r => by
    simp only [zg2]
    by_cases h1 : k < j
    · rw [if_pos h1]; rfl
    · rw [if_neg h1]
      by_cases h2 : k = j
      · rw [if_pos h2]; subst h2
        simp only [z0i]
        by_cases h3 : k = i
        · rw [if_pos h3, if_pos h3]
        · rw [if_neg h3, if_neg h3, if_neg h3]
      · rw [if_neg h2]
        simp only [z0i, z9s k x i r]
        by_cases h3 : k = i
        · subst h3
          rw [if_neg (fun e => h2 e.symm), if_pos rfl, if_pos rfl]
        · rw [if_neg h3, if_neg h3]
theorem z9u (i : Nat) : ∀ l : List (Nat × E), z0n (zfW l) i = z0n l i
  | [] => rfl
  | (k, x) :: r => by simp only [zfW, z9w, z9u i r, z0n]
theorem z9r (i : Nat) : ∀ l : List (Nat × T), z0i (zfV l) i = z0i l i
  | [] => rfl
  | (k, x) :: r => by simp only [zfV, z9s, z9r i r, z0i]
theorem FRep.nrm {fr : Fr} {w : World} {K : Nat -> z0a} {R G : Nat -> Value} {a : Act} (h : FRep w K R G fr a) : FRep w K R G (zdW fr) a :=
  FRep.same (f := zdW fr) (g := fr) ⟨rfl, fun i _ => z9u i _, fun i _ => z9r i _⟩ h
def eqV : Value -> Value -> Bool
  | .bool a, .bool b => a == b
  | .int k n, .int l m => decide (k = l) && decide (n = m)
  | .string a, .string b => decide (a = b)
  | .pointer none, .pointer none => true
  | .slice none a b, .slice none c d => Nat.beq a c && Nat.beq b d
  | .map none, .map none => true
  | .nilFunc, .nilFunc => true
  | .nilIface, .nilIface => true
  | _, _ => false
theorem z9K {v u : Value} (h : eqV v u = true) : v = u := by
  unfold eqV at h
  split at h <;> first | (cases h; done) | rfl | (simp only [Bool.and_eq_true, decide_eq_true_eq, beq_iff_eq] at h; first | (obtain ⟨rfl, rfl⟩ := h; rfl) | (subst h; rfl)) | skip
  simp only [Bool.and_eq_true] at h
  rw [Nat.eq_of_beq_eq_true h.1, Nat.eq_of_beq_eq_true h.2]
def zg7 : List (Value × Value) -> List (Value × Value) -> Bool
  | [], [] => true
  | (a, b) :: r, (c, d) :: s => eqV a c && eqV b d && zg7 r s
  | _, _ => false
theorem z8D : ∀ {a b : List (Value × Value)}, zg7 a b = true -> a = b
  | [], [], _ => rfl
  | (a, b) :: r, (c, d) :: s, h => by
    simp only [zg7, Bool.and_eq_true] at h
    rw [z9K h.1.1, z9K h.1.2, z8D h.2]
mutual
def eqT : T -> T -> Bool
  | .sc v, .sc u => eqV v u
  | .dead, .dead => true
  | .agg a, .agg b => z8E a b
  | .tup a, .tup b => z8E a b
  | .sl n a, .sl m b => Nat.beq n m && z8E a b
  | .os s n a, .os t m b => Nat.beq s t && Nat.beq n m && z8E a b
  | .vr a, .vr b => z8E a b
  | .vo n a, .vo m b => Nat.beq n m && z8E a b
  | .pr a, .pr b => z8E a b
  | .mp k a, .mp l b => decide (k = l) && zg7 a b
  | .mr k a, .mr l b => decide (k = l) && zg7 a b
  | _, _ => false
def z8E : List T -> List T -> Bool
  | [], [] => true
  | a :: r, b :: s => eqT a b && z8E r s
  | _, _ => false
end
mutual
theorem zcm : ∀ {a b : T}, eqT a b = true -> a = b
  | .sc v, b, h => by cases b <;> simp only [eqT] at h <;> first | (cases h; done) | rw [z9K h]
  | .dead, b, h => by cases b <;> simp only [eqT] at h <;> first | (cases h; done) | rfl
  | .agg a, b, h => by cases b <;> simp only [eqT] at h <;> first | (cases h; done) | rw [z1P h]
  | .tup a, b, h => by cases b <;> simp only [eqT] at h <;> first | (cases h; done) | rw [z1P h]
  | .sl n a, b, h => by cases b <;> simp only [eqT, Bool.and_eq_true] at h <;> first | (cases h; done) | rw [Nat.eq_of_beq_eq_true h.1, z1P h.2]
  | .os s n a, b, h => by cases b <;> simp only [eqT, Bool.and_eq_true] at h <;> first | (cases h; done) | rw [Nat.eq_of_beq_eq_true h.1.1, Nat.eq_of_beq_eq_true h.1.2, z1P h.2]
  | .vr a, b, h => by cases b <;> simp only [eqT] at h <;> first | (cases h; done) | rw [z1P h]
  | .vo n a, b, h => by cases b <;> simp only [eqT, Bool.and_eq_true] at h <;> first | (cases h; done) | rw [Nat.eq_of_beq_eq_true h.1, z1P h.2]
  | .pr a, b, h => by cases b <;> simp only [eqT] at h <;> first | (cases h; done) | rw [z1P h]
  | .mp k a, b, h => by cases b <;> simp only [eqT, Bool.and_eq_true, decide_eq_true_eq] at h <;> first | (cases h; done) | rw [h.1, z8D h.2]
  | .mr k a, b, h => by cases b <;> simp only [eqT, Bool.and_eq_true, decide_eq_true_eq] at h <;> first | (cases h; done) | rw [h.1, z8D h.2]
  | .mt _ _ _, b, h => by cases b <;> simp only [eqT] at h <;> cases h
  | .ms _ _ _, b, h => by cases b <;> simp only [eqT] at h <;> cases h
  | .cl f a, b, h => by cases b <;> simp only [eqT] at h <;> cases h
theorem z1P : ∀ {a b : List T}, z8E a b = true -> a = b
  | [], [], _ => rfl
  | a :: r, b :: s, h => by
    simp only [z8E, Bool.and_eq_true] at h
    rw [zcm h.1, z1P h.2]
  | [], _ :: _, h => by simp [z8E] at h
  | _ :: _, [], h => by simp [z8E] at h
end
def eqA : A -> A -> Bool
  | .dead, .dead => true
  | .k a, .k b => eqV a b
  | .t d x, .t e y => decide (d = e) && eqT x y
  | .h i p, .h j q => decide (i = j) && decide (p = q)
  | .a i p o, .a j q o' => decide (i = j) && decide (p = q) && decide (o = o')
  | .ea d x o, .ea e y o' => decide (d = e) && z8E x y && decide (o = o')
  | .tf n x, .tf m y => decide (n = m) && z8E x y
  | _, _ => false
theorem ze0 {a b : A} (h : eqA a b = true) : a = b := by
  cases a <;> cases b <;> simp only [eqA, Bool.and_eq_true, decide_eq_true_eq] at h <;> first | (cases h; done) | rfl | (rw [z9K h]; done) | (rw [h.1, zcm h.2]; done) | (rw [h.1, h.2]; done) | (rw [h.1.1, h.1.2, h.2]; done) | (rw [h.1.1, z1P h.1.2, h.2]; done) | (rw [h.1, z1P h.2]; done)
def zgs : List A -> List A -> Bool
  | [], [] => true
  | a :: r, b :: s => eqA a b && zgs r s
  | _, _ => false
theorem zco : ∀ {a b : List A}, zgs a b = true -> a = b
  | [], [], _ => rfl
  | a :: r, b :: s, h => by
    simp only [zgs, Bool.and_eq_true] at h
    rw [ze0 h.1, zco h.2]
def eqE : E -> E -> Bool
  | .one a, .one b => eqA a b
  | .ag a, .ag b => zgs a b
  | _, _ => false
theorem zg8 {a b : E} (h : eqE a b = true) : a = b := by
  cases a <;> cases b <;> simp only [eqE] at h <;> first | (cases h; done) | (rw [ze0 h]; done) | (rw [zco h]; done)
def zgq : List (Nat × E) -> List (Nat × E) -> Bool
  | [], [] => true
  | (i, a) :: r, (j, b) :: s => Nat.beq i j && eqE a b && zgq r s
  | _, _ => false
theorem zcl : ∀ {a b : List (Nat × E)}, zgq a b = true -> a = b
  | [], [], _ => rfl
  | (i, a) :: r, (j, b) :: s, h => by
    simp only [zgq, Bool.and_eq_true] at h
    rw [Nat.eq_of_beq_eq_true h.1.1, zg8 h.1.2, zcl h.2]
def zgr : List (Nat × T) -> List (Nat × T) -> Bool
  | [], [] => true
  | (i, a) :: r, (j, b) :: s => Nat.beq i j && eqT a b && zgr r s
  | _, _ => false
theorem zcn : ∀ {a b : List (Nat × T)}, zgr a b = true -> a = b
  | [], [], _ => rfl
  | (i, a) :: r, (j, b) :: s, h => by
    simp only [zgr, Bool.and_eq_true] at h
    rw [Nat.eq_of_beq_eq_true h.1.1, zcm h.1.2, zcn h.2]
def zd4 (f g : Fr) : Bool := Nat.beq f.nt g.nt && zgq f.tm g.tm && zgr f.ob g.ob
theorem zd3 {f g : Fr} (h : zd4 f g = true) : z4n f g := by
  simp only [zd4, Bool.and_eq_true] at h
  have e1 := Nat.eq_of_beq_eq_true h.1.1
  have e2 := zcl h.1.2
  have e3 := zcn h.2
  exact ⟨e1, fun i _ => by rw [e2], fun i _ => by rw [e3]⟩
open Classical in
noncomputable def zbF (x y : Fr) : Option Fr := if zd4 x y = true then some x else if z4n x y then some x else none
theorem z3P {x y z : Fr} (h : zbF x y = some z) : x = z /\ z4n x y := by
  unfold zbF at h
  split at h
  · rename_i hb; cases h; exact ⟨rfl, zd3 hb⟩
  · split at h
    · rename_i hs; cases h; exact ⟨rfl, hs⟩
    · cases h
theorem z6i {x y : Fr} (h : z4n x y) : zbF x y = some x := by
  unfold zbF
  by_cases hb : zd4 x y = true
  · rw [if_pos hb]
  · rw [if_neg hb, if_pos h]
open Classical in
noncomputable def z1x (P : Program) (C : z0b) (wio : FuncId -> Nat -> Bool) (same : Bool) (M : Nat -> Bool) (ops : Array Oper) : SchT -> Fr -> Option Fr
  | .nil, fr => some fr
  | .op k m rest, fr => match ops[k]? with
    | none => none
    | some o => match z1O ops fr o with
      | none => none
      | some false => (match putF fr o.dst (.one (.k undef)) with | some fr' => z1x P C wio same M ops rest (zdW fr') | none => none)
      | some true =>
        if m = 0 ∨ m = 3 then (match z2u P (if m = 0 then M else zgx) fr o.op with
          | some e => (match putF fr o.dst e with | some fr' => z1x P C wio same M ops rest (zdW fr') | none => none)
          | none => none)
        else (match (if m = 2 then opF P C wio fr o else if same then z3a P C wio fr o else wrF P C wio M fr o) with | some fr' => z1x P C wio same M ops rest (zdW fr') | none => none)
  | .alt a b, fr => match z1x P C wio same M ops a fr, z1x P C wio same M ops b fr with
    | some x, some y => zbF x y
    | _, _ => none
theorem z0W {P : Program} {I : World -> (Nat -> z0a) -> Prop} {C : z0b} {wio : FuncId -> Nat -> Bool} {same : Bool} {M : Nat -> Bool} {ops : Array Oper} {Q : Exit -> Act -> World -> Prop} (hI : EnvS I) (hC : z1y P I C) : ∀ {l : SchT} {w : World} {K : Nat -> z0a} {R G : Nat -> Value} {fr fr' : Fr} {a : Act}, FRep w K R G fr a -> I w K -> z1x P C wio same M ops l fr = some fr' ->
    (∀ a' w' K' R', FRep w' K' R' G fr' a' -> Step w K w' K' -> Q .normal a' w') -> z4l P .any ops (NoPz Q) l (clsA same w K M) (Fro w K) (fun x => x = w) a
  | .nil, w, K, R, G, fr, fr', a, h, hIw, hf, hn => by
    simp only [z1x, Option.some.injEq] at hf
    subst hf
    intro x hx
    subst hx; exact hn a x K R h (Step.refl _ _)
  | .alt x y, w, K, R, G, fr, fr', a, h, hIw, hf, hn => by
    simp only [z1x] at hf
    split at hf
    · rename_i f1 f2 h1 h2
      obtain ⟨rfl, hs⟩ := z3P hf
      exact ⟨z0W hI hC h hIw h1 hn, z0W hI hC h hIw h2 fun a' w' K' R' hr hst => hn a' w' K' R' (hr.same hs) hst⟩
    · cases hf
  | .op k m rest, w, K, R, G, fr, fr', a, h, hIw, hf, hn => by
    simp only [z1x] at hf
    split at hf
    · cases hf
    rename_i o ho
    refine ⟨o, ho, ?_⟩
    split at hf
    · cases hf
    · rename_i hg
      rw [if_neg (by rw [z2a h hg]; simp)]
      split at hf
      · rename_i fr1 h1
        exact z0W hI hC (h.putF (v := undef) (e := .one (.k undef)) rfl h1).nrm hIw hf hn
      · cases hf
    · rename_i hg
      rw [if_pos (z2a h hg)]
      split at hf
      · rename_i hm
        rw [if_pos hm]
        split at hf
        · rename_i e he
          split at hf
          · rename_i fr1 h1
            obtain ⟨v, r1, r2⟩ := z2L h he
            refine ⟨v, fun x hx => r2 x ?_, z0W hI hC (h.putF r1 h1).nrm hIw hf hn⟩
            by_cases hm0 : m = 0
            · rw [if_pos hm0] at hx ⊢; exact hx.stay
            · rw [if_neg hm0] at hx ⊢
              intro b hb hc
              rcases hc with hc | ⟨i, s, _, hc⟩
              · exact hx b hb hc
              · cases hc
          · cases hf
        · cases hf
      · rename_i hm
        rw [if_neg hm]
        intro x hx
        subst hx
        split at hf
        · rename_i fr1 h1
          by_cases hm2 : m = 2
          · rw [if_pos hm2] at h1
            exact zeA hI hC h hIw h1 fun a' w' K' R' hr hs => ⟨clsA same w' K' M, Fro w' K', fun y => y = w', rfl, fun y hy => by subst hy; exact clsA.self _ _ _ _, fun y hy => hy.fro, fun y hy => hy.later hs, .inl hm2, z0W hI hC hr.nrm (hI.step hIw hs) hf fun a2 w2 K2 R2 hr2 hs2 => hn a2 w2 K2 R2 hr2 (hs.trans hs2)⟩
          · rw [if_neg hm2] at h1
            cases same with
            | true =>
              rw [if_pos rfl] at h1
              refine zcB hI hC h hIw h1 fun a' w' K' R' hr hs hsame => ⟨clsA true w' K' M, Fro w' K', fun y => y = w', rfl, fun y hy => by subst hy; exact clsA.self _ _ _ _, fun y hy => hy.fro, fun y hy => hy.later hs, .inr fun y hy => ?_, z0W hI hC hr.nrm (hI.step hIw hs) hf fun a2 w2 K2 R2 hr2 hs2 => hn a2 w2 K2 R2 hr2 (hs.trans hs2)⟩
              intro b hb
              have : zgy w' y := hy
              rw [this b (Nat.lt_of_lt_of_le hb hs.size)]
              exact hsame b hb
            | false =>
              rw [if_neg (by simp)] at h1
              exact zfo hI hC h hIw h1 fun a' w' K' R' hr hs hstay => ⟨clsA false w' K' M, Fro w' K', fun y => y = w', rfl, fun y hy => by subst hy; exact clsA.self _ _ _ _, fun y hy => hy.fro, fun y hy => hy.later hs, .inr fun y hy => hstay y hy, z0W hI hC hr.nrm (hI.step hIw hs) hf fun a2 w2 K2 R2 hr2 hs2 => hn a2 w2 K2 R2 hr2 (hs.trans hs2)⟩
        · cases hf
end
section
inductive X where
  | n
  | x (id : Nat)
  | r
def z8W : X -> Exit
  | .n => .normal
  | .x id => .exit id
  | .r => .ret
structure Cfg where
  wio : FuncId -> Nat -> Bool
  live : Nat -> Option (List Nat)
  dr : Nat -> Option (List (Nat × Nat))
  wr : Nat -> List Nat := fun _ => []
  fz : Nat -> Option (List Nat) := fun _ => none
  dt : Nat -> Option SchT := fun _ => none
def z3d : Code -> Nat
  | .region id _ _ => id
  | .seq a _ => z3d a
  | .cond _ a _ => z3d a
  | .block _ c => z3d c
  | .loop c => z3d c
  | .scope c => z3d c
  | _ => 0
def onE : E -> List Nat
  | .one x => (onA x).toList
  | .ag xs => xs.filterMap onA
def ids : List (Nat × E) -> List Nat
  | [] => []
  | (_, e) :: r => onE e ++ ids r
def z5D (ob : List (Nat × T)) : List Nat -> List (Nat × T)
  | [] => []
  | i :: r => match z0i ob i with | some t => z0X (z5D ob r) i t | none => z5D ob r
def z5C (tm : List (Nat × E)) : List Nat -> List (Nat × E)
  | [] => []
  | i :: r => (i, z0n tm i) :: z5C tm r
def z2k (n : Nat) : List (Nat × E) -> List (Nat × E)
  | [] => []
  | (i, e) :: r => if n <= i then (i, e) :: z2k n r else z2k n r
def zaJ (l : List Nat) (n : Nat) : Nat := if l.contains 999999 then 1000000000 else n
def z3e (keep : Option (List Nat)) (fr : Fr) : Fr :=
  match keep with
  | none => fr
  | some l => { fr with tm := z5C fr.tm l ++ z2k (zaJ l fr.nt) fr.tm, ob := z5D fr.ob (ids (z5C fr.tm l ++ z2k (zaJ l fr.nt) fr.tm)) }
theorem z1n (ob : List (Nat × T)) : ∀ (l : List Nat) (i : Nat), z0i (z5D ob l) i = if i ∈ l then z0i ob i else none
  | [], i => by simp [z5D, z0i]
  | j :: r, i => by
    simp only [z5D]
    split
    · rename_i t ht
      rw [z0c, z1n ob r i]
      by_cases e : j = i
      · subst e; simp [ht]
      · simp only [if_neg e, List.mem_cons, Ne.symm e, false_or]
    · rename_i hn
      rw [z1n ob r i]
      by_cases e : i = j
      · subst e; simp [hn]
      · simp [e]
theorem z8z (l m : List (Nat × E)) (i : Nat) : ((∃ e, (i, e) ∈ l) /\ z0n (l ++ m) i = z0n l i) ∨ z0n (l ++ m) i = z0n m i := by
  induction l with
  | nil => exact .inr rfl
  | cons a r ih =>
    obtain ⟨j, x⟩ := a
    simp only [List.cons_append, z0n]
    by_cases h : j = i
    · subst h; left; exact ⟨⟨x, by simp⟩, by simp⟩
    · simp only [if_neg h]
      rcases ih with ⟨⟨e, he⟩, h2⟩ | h2
      · left; exact ⟨⟨e, by simp [he]⟩, h2⟩
      · right; exact h2
theorem z7A (tm : List (Nat × E)) : ∀ (l : List Nat) (i : Nat), (∃ e, (i, e) ∈ z5C tm l) -> z0n (z5C tm l) i = z0n tm i
  | [], i, h => by obtain ⟨e, he⟩ := h; cases he
  | j :: r, i, h => by
    simp only [z5C, z0n]
    by_cases e : j = i
    · subst e; simp
    · rw [if_neg e]
      refine z7A tm r i ?_
      obtain ⟨x, hx⟩ := h
      simp only [z5C] at hx
      rcases List.mem_cons.1 hx with hx | hx
      · cases hx; exact absurd rfl e
      · exact ⟨x, hx⟩
theorem z3U (n : Nat) : ∀ (tm : List (Nat × E)) (i : Nat), z0n (z2k n tm) i = z0n tm i ∨ z0n (z2k n tm) i = .one .dead
  | [], i => .inl rfl
  | (j, x) :: r, i => by
    simp only [z2k]
    by_cases e : j = i
    · subst e
      split
      · left; simp [z0n]
      · rename_i hn
        right
        have : ∀ l : List (Nat × E), z0n (z2k n l) j = .one .dead := by
          intro l
          induction l with
          | nil => rfl
          | cons b r ih =>
            obtain ⟨k, y⟩ := b
            simp only [z2k]
            split
            · simp only [z0n]; rw [if_neg (by omega)]; exact ih
            · exact ih
        exact this r
    · split
      · simp only [z0n, if_neg e]; exact z3U n r i
      · simp only [z0n, if_neg e]; exact z3U n r i
theorem z9v : ∀ {tm : List (Nat × E)} {i : Nat}, z0n tm i = .one .dead ∨ (i, z0n tm i) ∈ tm
  | [], i => .inl rfl
  | (j, x) :: r, i => by
    simp only [z0n]
    by_cases e : j = i
    · subst e; right; simp
    · rw [if_neg e]
      rcases z9v (tm := r) (i := i) with h | h
      · exact .inl h
      · exact .inr (by simp [h])
theorem zc7 : ∀ {tm : List (Nat × E)} {i : Nat} {e : E}, (i, e) ∈ tm -> ∀ j ∈ onE e, j ∈ ids tm
  | (k, x) :: r, i, e, h, j, hj => by
    simp only [ids, List.mem_append]
    rcases List.mem_cons.1 h with h | h
    · cases h; exact .inl hj
    · exact .inr (zc7 h j hj)
theorem FRep.canon {w : World} {K : Nat -> z0a} {R G : Nat -> Value} {fr : Fr} {a : Act} (h : FRep w K R G fr a) (keep : Option (List Nat)) : FRep w K R G (z3e keep fr) a := by
  unfold z3e
  split
  · exact h
  rename_i l
  let tm' := z5C fr.tm l ++ z2k (zaJ l fr.nt) fr.tm
  have hget : ∀ i, z0n tm' i = z0n fr.tm i ∨ z0n tm' i = .one .dead := fun i => by
    rcases z8z (z5C fr.tm l) (z2k (zaJ l fr.nt) fr.tm) i with ⟨he, e⟩ | e
    · left; rw [show z0n tm' i = _ from e]; exact z7A fr.tm l i he
    · rw [show z0n tm' i = _ from e]; exact z3U (zaJ l fr.nt) fr.tm i
  have hsub : ∀ i t, z0i (z5D fr.ob (ids tm')) i = some t -> z0i fr.ob i = some t := fun i t ht => by
    rw [z1n] at ht
    split at ht
    · exact ht
    · cases ht
  have hA : ∀ x u, (∀ j, onA x = some j -> j ∈ ids tm') -> ARep w K R fr.ob x u -> ARep w K R (z5D fr.ob (ids tm')) x u := fun x u hx hr => by
    cases x with
    | dead => trivial
    | k v => exact hr
    | t dep x => exact ⟨hr.1, fun i e => by subst e; rw [z1n, if_pos (hx i rfl)]; exact hr.2 i rfl⟩
    | h i q => obtain ⟨n1, t, n2, n3⟩ := hr; exact ⟨n1, t, by rw [z1n, if_pos (hx i rfl)]; exact n2, n3⟩
    | a i q off => obtain ⟨hv, g, n1, n4, n5, t, n2, n3⟩ := hr; exact ⟨hv, g, n1, n4, n5, t, by rw [z1n, if_pos (hx i rfl)]; exact n2, n3⟩
    | tf n cs => exact hr
    | ea dep cs off => obtain ⟨g, o, F, e1, e2, e3, e4, e5, e6⟩ := hr; exact ⟨g, o, F, e1, e2, e3, e4, e5, fun i e => by subst e; rw [z1n, if_pos (hx i rfl)]; exact e6 i rfl⟩
  refine ⟨fun i => ?_, fun id t ht => h.ob id t (hsub id t ht), h.nt, h.df⟩
  show ERep w K R (z5D fr.ob (ids tm')) (z0n tm' i) _
  rcases z9v (tm := tm') (i := i) with hd | hm
  · rw [hd]; trivial
  · rcases hget i with e | e
    · have hr := h.tm i
      rw [← e] at hr
      have hon : ∀ j ∈ onE (z0n tm' i), j ∈ ids tm' := zc7 hm
      revert hr hon
      generalize z0n tm' i = ee
      intro hr hon
      cases ee with
      | one x => exact hA x _ (fun j hj => hon j (by simp [onE, hj])) hr
      | ag xs =>
        obtain ⟨arr, e1, e2, e3⟩ := hr
        exact ⟨arr, e1, e2, fun j x hx => hA x _ (fun k hk => hon k (by simp only [onE, List.mem_filterMap]; exact ⟨x, List.mem_of_getElem? hx, hk⟩)) (e3 j x hx)⟩
    · rw [e]; trivial
def z3H (body : Fr -> Option (X × Fr)) (cn : Fr -> Fr) : Nat -> Fr -> Option (X × Fr)
  | 0, _ => none
  | n + 1, fr => match body (cn fr) with
    | some (.n, fr') => z3H body cn n fr'
    | some (x, fr') => some (x, fr')
    | none => none
def z1k (P : Program) : List Oper -> Fr -> Option Fr
  | [], fr => some fr
  | o :: l, fr => match o.op, o.dst with
    | .assign _, some d => (match zgc P fr o.type d with | some fr' => z1k P l fr' | none => none)
    | _, _ => z1k P l fr
theorem z4b {P : Program} {w : World} {G : Nat -> Value} {a : Act} : ∀ {l : List Oper} {K : Nat -> z0a} {R : Nat -> Value} {fr fr' : Fr}, FRep w K R G fr a -> z1k P l fr = some fr' -> ∃ K' R', FRep w K' R' G fr' a /\ Step w K w K'
  | [], K, R, fr, fr', h, hf => by cases hf; exact ⟨K, R, h, Step.refl _ _⟩
  | o :: l, K, R, fr, fr', h, hf => by
    simp only [z1k] at hf
    split at hf
    · split at hf
      · rename_i fr1 h1
        obtain ⟨K1, R1, a1, a2, _, _⟩ := zcK h h1
        obtain ⟨K2, R2, b1, b2⟩ := z4b (l := l) a1 hf
        exact ⟨K2, R2, b1, a2.trans b2⟩
      · cases hf
    · exact z4b (l := l) h hf
noncomputable def z1W (P : Program) (C : z0b) (cf : Cfg) (id : Nat) (ops : Array Oper) (fr : Fr) : Option Fr :=
  match cf.dt id with
  | some t => z1x P C cf.wio (cf.wr id).isEmpty (cf.wr id).contains ops t fr
  | none => (match cf.dr id with
    | some sch => z2B P C cf.wio (cf.wr id).isEmpty (cf.wr id).contains ops (z3z ops sch) fr
    | none => none)
noncomputable def z0k (P : Program) (C : z0b) (cf : Cfg) (LF : Nat) : Code -> Fr -> Option (X × Fr)
  | .skip, fr => some (.n, fr)
  | .label _, fr => some (.n, fr)
  | .region id ops draw, fr =>
    if draw then (match z1W P C cf id ops (zdt fr (cf.fz id)) with
      | some fr1 => (match z1k P ops.toList fr1 with | some fr2 => some (.n, fr2) | none => none)
      | none => none)
    else (match z8j P C cf.wio ops ops.toList (zdt fr (cf.fz id)) with | some fr' => some (.n, fr') | none => none)
  | .seq a b, fr => (match z0k P C cf LF a fr with
    | some (.n, fr') => z0k P C cf LF b fr'
    | r => r)
  | .cond c x y, fr => (match rdV (opE fr c) with
    | some (.bool true) => z0k P C cf LF x fr
    | some (.bool false) => z0k P C cf LF y fr
    | _ => none)
  | .block id c, fr => (match z0k P C cf LF c fr with
    | some (.x i, fr') => if i = id then some (.n, fr') else some (.x i, fr')
    | r => r)
  | .scope c, fr => z0k P C cf LF c fr
  | .loop c, fr => z3H (fun fr => z0k P C cf LF c fr) (z3e (cf.live (z3d c))) LF fr
  | .exit id, fr => some (.x id, fr)
  | .ret, fr => some (.r, fr)
  | _, _ => none
def zdU (ops : Array Oper) (sch : List (Nat × Nat)) : Bool :=
  decide ((z3z ops sch).length = ops.toList.length) && Region.noSelect ops && z5O .any ops (z3z ops sch) (Array.replicate ops.toList.length false)
def zbL (ops : Array Oper) (t : SchT) : Bool :=
  decide (t.depth = ops.toList.length) && Region.noSelect ops && z0M .any ops true t (Array.replicate ops.toList.length false)
def okC (cf : Cfg) : Code -> Bool
  | .region id ops draw => !draw || (match cf.dt id with | some t => zbL ops t | none => (match cf.dr id with | some sch => zdU ops sch | none => true))
  | .seq a b => okC cf a && okC cf b
  | .cond _ x y => okC cf x && okC cf y
  | .block _ c => okC cf c
  | .loop c => okC cf c
  | .scope c => okC cf c
  | _ => true
theorem zh5 {p : Nat -> Prop} : ∀ {n : Nat}, p n -> ∃ m, p m /\ ∀ k, p k -> m <= k := by
  intro n
  induction n using Nat.strongRecOn with
  | _ n ih =>
    intro h
    by_cases hc : ∃ k, k < n /\ p k
    · obtain ⟨k, hk, hp⟩ := hc
      exact ih k hk hp
    · exact ⟨n, h, fun k hp => Nat.le_of_not_lt fun hk => hc ⟨k, hk, hp⟩⟩
theorem zb3 {P : Program} {c : Code} {Q : Exit -> Act -> World -> Prop} (J : Nat -> Act -> World -> Prop) (round : ∀ n a w, J n a w -> c.wp P (Exit.then (fun a' w' => ∃ m, m < n /\ J m a' w') Q) a w) {n : Nat} {a : Act} {w : World} (h : J n a w) : (Code.loop c).wp P Q a w := by
  classical
  let L : Act -> World -> Nat -> Prop := fun a w m => J m a w /\ ∀ k, J k a w -> m <= k
  have hL : ∀ a w, (∃ n, J n a w) -> ∃ m, L a w m := fun a w ⟨n, hn⟩ => zh5 hn
  refine wp_loop (fun a w => ∃ n, J n a w) (fun a w => if h : ∃ m, L a w m then h.choose else 0) ⟨n, h⟩ fun a w hI => ?_
  have hI2 := hL a w hI
  obtain ⟨hj, hmin⟩ := hI2.choose_spec
  refine Code.wp_mono (fun e a' w' hq => ?_) (round _ a w hj)
  cases e with
  | normal =>
    obtain ⟨m, hm, hJ⟩ := hq
    refine ⟨⟨m, hJ⟩, ?_⟩
    have hI' := hL a' w' ⟨m, hJ⟩
    rw [dif_pos hI', dif_pos hI2]
    exact Nat.lt_of_le_of_lt (hI'.choose_spec.2 m hJ) hm
  | exit id => exact hq
  | goto l => exact hq
  | ret => exact hq
  | panic ch => exact hq
  | outgrown => exact hq
theorem z8J {P : Program} {I : World -> (Nat -> z0a) -> Prop} {C : z0b} {cf : Cfg} {LF : Nat} (hI : EnvS I) (hC : z1y P I C) (hm : P.follows .mixedOrders = true) : ∀ (c : Code) {w : World} {K : Nat -> z0a} {R G : Nat -> Value} {fr fr' : Fr} {x : X} {a : Act} {Q : Exit -> Act -> World -> Prop}, okC cf c = true -> FRep w K R G fr a -> I w K ->
    z0k P C cf LF c fr = some (x, fr') -> (∀ a' w' K' R', FRep w' K' R' G fr' a' -> Step w K w' K' -> Q (z8W x) a' w') -> c.wp P Q a w := by
  intro c
  induction c with
  | skip => intro w K R G fr fr' x a Q ho h hIw hf hq; cases hf; exact wp_skip (hq a w K R h (Step.refl _ _))
  | label l => intro w K R G fr fr' x a Q ho h hIw hf hq; cases hf; exact wp_label (hq a w K R h (Step.refl _ _))
  | exit id => intro w K R G fr fr' x a Q ho h hIw hf hq; cases hf; exact wp_exit (hq a w K R h (Step.refl _ _))
  | ret => intro w K R G fr fr' x a Q ho h hIw hf hq; cases hf; exact wp_ret (hq a w K R h (Step.refl _ _))
  | goto l => intro w K R G fr fr' x a Q ho h hIw hf hq; cases hf
  | scope c ih =>
    intro w K R G fr fr' x a Q ho h hIw hf hq
    simp only [okC] at ho
    simp only [z0k] at hf
    refine wp_scope_straight (ih ho h hIw hf fun a' w' K' R' hr hs => ?_)
    have := hq a' w' K' R' hr hs
    cases x <;> exact this
  | refuse s => intro w K R G fr fr' x a Q ho h hIw hf hq; cases hf
  | rangeFunc => intro w K R G fr fr' x a Q ho h hIw hf hq; cases hf
  | region id ops draw =>
    intro w K R G fr fr' x a Q ho h hIw hf hq
    simp only [z0k] at hf
    split at hf
    · rename_i hd
      subst hd
      split at hf
      · rename_i fr1 h1
        split at hf
        · rename_i fr2 h2
          cases hf
          obtain ⟨Kz, hz, hsz⟩ := z9x (l := cf.fz id) h
          have hd2 : FRep w.drew Kz R G (zdt fr (cf.fz id)) a := hz.keep ⟨fun b hb e => ⟨e, rfl⟩, fun b hb _ => ⟨rfl, rfl⟩, Nat.le_refl _⟩
          have hId : I w.drew Kz := hI.keep (hI.step hIw hsz) (Nat.le_refl _) fun b hb e => ⟨e, rfl⟩
          have hfin : ∀ a' w' K' R', FRep w' K' R' G fr1 a' -> Step w.drew Kz w' K' -> Q .normal a' w' := fun a' w' K' R' hr hs => by
            obtain ⟨K2, R2, e1, e2⟩ := z4b hr h2
            have hs0 : Step w Kz w' K' := ⟨hs.os, hs.tape, hs.output, hs.size, hs.old, hs.sz⟩
            exact hq a' w' K2 R2 e1 ((hsz.trans hs0).trans e2)
          rw [show Code.region id ops true = Code.region id ops.toList.toArray true by rw [Array.toArray_toList]]
          unfold z1W at h1
          split at h1
          · rename_i t ht
            simp only [okC, ht, zbL, Bool.not_true, Bool.false_or, Bool.and_eq_true, decide_eq_true_eq] at ho
            obtain ⟨⟨o1, o2⟩, o3⟩ := ho
            refine z6a t (clsA (cf.wr id).isEmpty w.drew Kz (cf.wr id).contains) (Fro w.drew Kz) (fun y => y = w.drew) hm o1 (by rw [Array.toArray_toList]; exact o2) (by rw [Array.toArray_toList]; exact o3) (fun y hy => hy.fro) (fun y hy => by subst hy; exact clsA.self _ _ _ _) rfl ?_
            rw [Array.toArray_toList]
            exact z0W hI hC hd2 hId h1 hfin
          · rename_i ht
            split at h1
            · rename_i sch hsch
              simp only [okC, ht, hsch, zdU, Bool.not_true, Bool.false_or, Bool.and_eq_true, decide_eq_true_eq] at ho
              obtain ⟨⟨o1, o2⟩, o3⟩ := ho
              refine z4k sch (clsA (cf.wr id).isEmpty w.drew Kz (cf.wr id).contains) (Fro w.drew Kz) (fun y => y = w.drew) hm (by rw [Array.toArray_toList]; exact o1) (by rw [Array.toArray_toList]; exact o2) (by rw [Array.toArray_toList]; exact o3) (fun y hy => hy.fro) (fun y hy => by subst hy; exact clsA.self _ _ _ _) rfl ?_
              rw [Array.toArray_toList]
              exact z1J hI hC hd2 hId h1 hfin
            · cases h1
        · cases hf
      · cases hf
    · rename_i hd
      have hd' : draw = false := by simpa using hd
      subst hd'
      split at hf
      · rename_i fr1 h1
        cases hf
        obtain ⟨Kz, hz, hsz⟩ := z9x (l := cf.fz id) h
        exact wp_region_list (zbz hI hC hz (hI.step hIw hsz) h1 fun a' w' K' R' hr hs => hq a' w' K' R' hr (hsz.trans hs))
      · cases hf
  | seq c1 c2 ih1 ih2 =>
    intro w K R G fr fr' x a Q ho h hIw hf hq
    simp only [okC, Bool.and_eq_true] at ho
    simp only [z0k] at hf
    refine wp_seq ?_
    split at hf
    · rename_i fr1 h1
      exact ih1 ho.1 h hIw h1 fun a1 w1 K1 R1 hr hs => ih2 ho.2 hr (hI.step hIw hs) hf fun a2 w2 K2 R2 hr2 hs2 => hq a2 w2 K2 R2 hr2 (hs.trans hs2)
    · rename_i hne
      cases x with
      | n => exact absurd hf (hne _)
      | x id => exact ih1 ho.1 h hIw hf fun a1 w1 K1 R1 hr hs => hq a1 w1 K1 R1 hr hs
      | r => exact ih1 ho.1 h hIw hf fun a1 w1 K1 R1 hr hs => hq a1 w1 K1 R1 hr hs
  | cond c x1 y1 ih1 ih2 =>
    intro w K R G fr fr' x a Q ho h hIw hf hq
    simp only [okC, Bool.and_eq_true] at ho
    simp only [z0k] at hf
    split at hf
    · rename_i hc
      obtain ⟨e1, -⟩ := z0e (h.opE c) hc
      exact wp_cond_true e1 (ih1 ho.1 h hIw hf hq)
    · rename_i hc
      obtain ⟨e1, -⟩ := z0e (h.opE c) hc
      exact wp_cond_false e1 (ih2 ho.2 h hIw hf hq)
    · cases hf
  | block id c ih =>
    intro w K R G fr fr' x a Q ho h hIw hf hq
    simp only [okC] at ho
    simp only [z0k] at hf
    refine wp_block ?_
    split at hf
    · rename_i i fr1 h1
      split at hf
      · rename_i hi
        cases hf
        exact ih ho h hIw h1 fun a1 w1 K1 R1 hr hs => by
          simp only [z8W, Exit.inBlock, if_pos hi]; exact hq a1 w1 K1 R1 hr hs
      · rename_i hi
        cases hf
        exact ih ho h hIw h1 fun a1 w1 K1 R1 hr hs => by
          simp only [z8W, Exit.inBlock, if_neg hi]; exact hq a1 w1 K1 R1 hr hs
    · rename_i hne
      cases x with
      | n => exact ih ho h hIw hf fun a1 w1 K1 R1 hr hs => hq a1 w1 K1 R1 hr hs
      | x i => exact absurd hf (hne _ _)
      | r => exact ih ho h hIw hf fun a1 w1 K1 R1 hr hs => hq a1 w1 K1 R1 hr hs
  | loop c ih =>
    intro w K R G fr fr' x a Q ho h hIw hf hq
    simp only [okC] at ho
    simp only [z0k] at hf
    refine zb3 (fun n a1 w1 => ∃ fr1 K1 R1, FRep w1 K1 R1 G fr1 a1 /\ Step w K w1 K1 /\ z3H (fun fr => z0k P C cf LF c fr) (z3e (cf.live (z3d c))) n fr1 = some (x, fr')) (fun n a1 w1 hJ => ?_) ⟨fr, K, R, h, Step.refl _ _, hf⟩
    obtain ⟨fr1, K1, R1, h1, hs1, hi⟩ := hJ
    cases n with
    | zero => cases hi
    | succ n =>
      simp only [z3H] at hi
      split at hi
      · rename_i fr2 h2
        exact ih ho (h1.canon _) (hI.step hIw hs1) h2 fun a2 w2 K2 R2 hr hs => ⟨n, Nat.lt_succ_self n, fr2, K2, R2, hr, hs1.trans hs, hi⟩
      · rename_i x2 fr2 hne h2
        cases hi
        cases x with
        | n => exact absurd rfl (hne)
        | x i => exact ih ho (h1.canon _) (hI.step hIw hs1) h2 fun a2 w2 K2 R2 hr hs => hq a2 w2 K2 R2 hr (hs1.trans hs)
        | r => exact ih ho (h1.canon _) (hI.step hIw hs1) h2 fun a2 w2 K2 R2 hr hs => hq a2 w2 K2 R2 hr (hs1.trans hs)
      · cases hi
end
end Go.Proofs.Ytcjljokldnpgfaa

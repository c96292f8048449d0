/- Proved here: a part of the proof of the law at hand, in one text: no condition. -/
import Derived.Test.YtodliknibbafeaaGreatMEL1
import Derived.MapKept
import Derived.OrdersHeld
import Derived.Tactics
import Derived.Still
import Derived.Deep.Quiet
import Derived.Scope
set_option linter.unusedVariables false
set_option linter.unusedSimpArgs false
namespace Go.Proofs.YtodliknibbafeaaGreat
section
theorem zd7 {w : World} {g n : Nat} {cs : Array Value} {el : TypeId} (hg : w.heap[g]? = some (.cells cs el (0, 0))) (b : Nat) :
    (w.freeze ⟨g, n, none⟩ 1).heap[b]? = if b = g then some (.cells cs el (n, n + 1)) else w.heap[b]? := by
  simp only [World.freeze]
  rw [if_neg (by decide)]
  simp only [z4k]
  by_cases h : g = b
  · subst h; simp [hg]
  · rw [if_neg h, if_neg (fun e => h e.symm)]
def zes (P : Program) (fr : Fr) (src dst : TypeId) (e : E) (d : Nat) : Option Fr :=
  match z1e P src, z1e P dst with
  | some ⟨.string, _, _, _⟩, some ⟨.slice el, _, _, _⟩ => match z1e P el with
    | some ⟨.int .u8, _, _, _⟩ => (match rdV e with
      | some (.string s) => if s.size <= 140737488355328 then ziq fr d (fun _ => .os 1 s.size (s.data.toList.map fun b => .sc (.int .u8 b.toNat))) (.one (.h d [])) [] else none
      | _ => none)
    | _ => none
  | _, _ => none
theorem zhC {P : Program} {w : World} {K : Nat -> z0a} {R G : Nat -> Value} {fr fr' : Fr} {a : Act} {src dst : TypeId} {e : E} {u : Value} {d : Nat} (h : FRep w K R G fr a) (he : ERep w K R fr.ob e u) (hf : zes P fr src dst e d = some fr') :
    ∃ v w', (convert src dst u).run P w = .ok v w' /\ (∃ K' R', FRep w' K' R' G fr' (a.put (some d) v) /\ Step w K w' K') /\ ∀ b, b < w.heap.size -> w'.heap[b]? = w.heap[b]? := by
  unfold zes at hf
  split at hf
  case h_2 => cases hf
  case h_1 s1 s2 s3 el s4 s5 s6 h1 h2 =>
  split at hf
  case h_2 => cases hf
  case h_1 s7 s8 s9 h3 =>
  split at hf
  case h_2 => cases hf
  case h_1 s hs =>
  split at hf
  case isFalse => cases hf
  case isTrue hsz =>
  obtain ⟨rfl, -⟩ := z0l he hs
  have hu1 := z0u h1 w
  have hu2 := z0u h2 w
  have hu3 := z0u h3 w
  simp only [] at hu1 hu2 hu3
  let nc := grownCap w s.size 0 el
  have hnc : s.size <= nc := grownCap_ge w s.size 0 el
  have hncm : nc <= maxLen := grownCap_le_maxLen w s.size 0 el (by unfold maxLen; omega)
  let arr : Array Value := (s.data.map fun b => Value.int .u8 b.toNat) ++ Array.replicate (nc - s.size) (.int .u8 0)
  have harr : arr.size = nc := by
    simp only [arr, Array.size_append, Array.size_map, Array.size_replicate]
    show s.size + (nc - s.size) = nc; omega
  let w0 : World := { w with drawn := w.drawn + 1, heap := w.heap.push (.cells arr el) }
  let w1 : World := w0.freeze ⟨w.heap.size, nc, none⟩ 1
  have hg0 : w0.heap[w.heap.size]? = some (.cells arr el (0, 0)) := by
    show (w.heap.push _)[w.heap.size]? = _
    rw [Array.getElem?_push, if_pos rfl]
  have hh := zd7 (n := nc) hg0
  have hfz : w1.os = w.os /\ w1.tape = w.tape /\ w1.output = w.output := by
    simp only [w1, World.freeze]; rw [if_neg (by decide)]; exact ⟨rfl, rfl, rfl⟩
  have hnew : NewB w w1 (.cells arr el (nc, nc + 1)) := by
    refine ⟨hfz.1, hfz.2.1, hfz.2.2, ?_⟩
    apply Array.ext_getElem?
    intro b
    by_cases e : b = w.heap.size
    · rw [show w1.heap[b]? = _ from hh b, if_pos e, Array.getElem?_push, if_pos e]
    · rw [show w1.heap[b]? = _ from hh b, if_neg e]
      show (w.heap.push _)[b]? = _
      rw [Array.getElem?_push, if_neg e, Array.getElem?_push, if_neg e]
  have hrun : (convert src dst (.string s)).run P w = .ok (.slice (some ⟨w.heap.size, 0, none⟩) s.size nc) w1 := by
    have hch : (choose (.appendCap s.size 0 el)).run P w = .ok nc { w with drawn := w.drawn + 1 } := by
      simp [choose, Sem.run, Question.forced, nc, grownCap]
    simp only [convert, Sem.run_bind, hu1, hu2, hu3, Result.andThen_ok, Conv.stringToBytes, hch]
    have hshape : w0.shape? w.heap.size = some (el, nc) := by simp [World.shape?, hg0, harr]
    have hpush : (newRow el (s.data.map (fun b => Value.int .u8 b.toNat) ++ Array.replicate (nc - s.size) (.int .u8 0))).run P { w with drawn := w.drawn + 1 } = .ok ⟨w.heap.size, 0, none⟩ w0 := by
      simp [newRow, newObj, Sem.run, w0, arr]
      exact And.intro rfl (And.intro rfl rfl)
    rw [hpush]
    simp only [Result.andThen_ok]
    have hmark : (markStringish ⟨w.heap.size, 0, none⟩).run P w0 = .ok () w1 := by
      simp [markStringish, shape, Sem.run, hshape, freeze, w1]
    rw [hmark]
    rfl
  refine ⟨_, w1, hrun, ?_, fun b hb => hnew.old hb⟩
  refine h.newObj hnew (xs := []) (fun j x hx => by cases hx) (Nat.zero_le _) (.inr ⟨_, _, rfl⟩) (fun w' K' cs F hl hK hg hF hk => ?_) (.inl rfl) (fun e => by cases e) hf
  refine .own (col d) _ s.size nc 1 _ arr el (nc, nc + 1) (fun j => arr.getD j undef) (fun i hi => by simp only []; omega) (z0v d) hK hg (by omega) (by simp) (by decide) hnc hncm (fun j hj => z2e _ _ (by
    rw [harr]; simp at hj; exact Nat.lt_of_lt_of_le hj hnc)) (fun j t hj => ?_)
  simp only [List.getElem?_map, Option.map_eq_some_iff, Array.getElem?_toList] at hj
  obtain ⟨b, hb, rfl⟩ := hj
  have hlt := (Array.getElem?_eq_some_iff.1 hb).1
  have : arr.getD j undef = .int .u8 b.toNat := by
    rw [Array.getD_eq_getD_getElem?]
    simp only [arr, Array.getElem?_append, Array.size_map]
    rw [if_pos hlt]
    simp [hb]
  rw [this]
  exact .sc _ _ rfl
theorem zhi {w : World} {g n lo hi : Nat} {cs : Array Value} {el : TypeId} (hg : w.heap[g]? = some (.cells cs el (lo, hi))) (b : Nat) :
    (w.freeze ⟨g, n, none⟩ 1).heap[b]? = if b = g then some (.cells cs el (if lo == hi then (n, n + 1) else (min lo n, max hi (n + 1)))) else w.heap[b]? := by
  simp only [World.freeze]
  rw [if_neg (by decide)]
  simp only [z4k]
  by_cases h : g = b
  · subst h; simp [hg]
  · rw [if_neg h, if_neg (fun e => h e.symm)]
def zis (P : Program) (fr : Fr) (src dst : TypeId) (e : E) (d : Nat) : Option Fr :=
  match z1e P src with
  | some ⟨.slice el, _, _, _⟩ => (match z1e P el, e with
    | some ⟨.int .u8, _, _, _⟩, .one (.h id []) => if src = dst /\ d < fr.nt then (match z0w fr.ob id with
      | some (.os sz n cs) => if n = 0 then none else some { fr with tm := z9o (z3k (kill id) fr.tm) d (.one (.h id [])), ob := z2N fr.ob id (.os sz n cs) }
      | _ => none) else none
    | _, _ => none)
  | _ => none
theorem zir {P : Program} {w : World} {K : Nat -> z0a} {R G : Nat -> Value} {fr fr' : Fr} {a : Act} {src dst : TypeId} {e : E} {u : Value} {d : Nat} (h : FRep w K R G fr a) (he : ERep w K R fr.ob e u) (hf : zis P fr src dst e d = some fr') :
    src = dst /\ ∃ v w', (convert src dst u).run P w = .ok v w' /\ (∃ K' R', FRep w' K' R' G fr' (a.put (some d) v) /\ Step w K w' K') := by
  unfold zis at hf
  split at hf
  case h_2 => cases hf
  case h_1 el s1 s2 s3 h1 =>
  split at hf
  case h_2 => cases hf
  case h_1 s4 s5 s6 id h2 =>
  split at hf
  case isFalse => cases hf
  case isTrue hsd =>
  obtain ⟨rfl, hd⟩ := hsd
  split at hf
  case h_2 => cases hf
  case h_1 sz n cs hob =>
  split at hf
  case isTrue => cases hf
  case isFalse hn0 =>
  cases hf
  obtain ⟨hu, -⟩ := he
  simp only [nav, Option.some.injEq] at hu
  have hr := h.ob id _ hob
  have hu1 := z0u h1 w
  have hu2 := z0u h2 w
  simp only [] at hu1 hu2
  subst hu
  generalize hT : T.os sz n cs = t at hr
  generalize hV : R id = v at hr
  generalize hC : col id = c at hr
  cases hr with
  | nil c sz => injection hT; omega
  | own c g n' cap size cs' arr e fz F hfz hc0 hK hg hs hl hz hn hc hF hh =>
    injection hT with t1 t2 t3
    subst t1
    subst t2
    subst t3
    subst hC
    obtain ⟨lo, up⟩ := fz
    have hw := zhi (n := arr.size) hg
    let w' : World := w.freeze ⟨g, arr.size, none⟩ 1
    have hw' : ∀ b, b ≠ g -> w'.heap[b]? = w.heap[b]? := fun b hb => by
      show (w.freeze _ 1).heap[b]? = _
      rw [hw b, if_neg hb]
    have hsame : w'.os = w.os /\ w'.tape = w.tape /\ w'.output = w.output /\ w'.heap.size = w.heap.size := by
      simp only [w', World.freeze]; rw [if_neg (by decide)]; exact ⟨rfl, rfl, rfl, by simp⟩
    have hrun : (convert src src (.slice (some ⟨g, 0, none⟩) n cap)).run P w = .ok (.slice (some ⟨g, 0, none⟩) n cap) w' := by
      have hshape : w.shape? g = some (e, arr.size) := by simp [World.shape?, hg]
      have hmark : (markStringish ⟨g, 0, none⟩).run P w = .ok () w' := by
        simp [markStringish, shape, Sem.run, hshape, freeze, w']
      simp [convert, Sem.run_bind, hu1, hu2, Result.andThen_ok, hmark]
    refine ⟨rfl, _, w', hrun, K, z4t R id (.slice (some ⟨g, 0, none⟩) n cap), ?_, ⟨hsame.1, hsame.2.1, hsame.2.2.1, by omega, fun b hb hcc => ⟨rfl, hw' b (fun eb => ?_)⟩, .one hg ((hw g).trans (if_pos rfl)) rfl hw'⟩⟩
    · have hT2 : TRep w' K (col id) (.slice (some ⟨g, 0, none⟩) n cap) (.os sz n cs) := by
        refine .own (col id) g n cap sz cs arr e _ F ?_ hc0 hK ((hw g).trans (if_pos rfl)) hs hl hz hn hc hF (fun j t ht => ?_)
        · intro i hi5
          have h4 := hfz i hi5
          simp only at h4
          by_cases hlh : lo = up
          · subst hlh; simp; omega
          · rw [if_neg (by simpa using hlh)]
            simp only
            omega
        · refine (hh j t ht).move (fun b s hb _ hKb => ⟨hKb, hw' b (fun eb => ?_)⟩) (fun b hb hKb => ⟨hKb, hw' b (fun eb => ?_)⟩) Iff.rfl (by omega)
          · subst eb
            rw [hK] at hKb
            simp [col] at hKb
          · subst eb
            rw [hK] at hKb
            simp [col] at hKb
      have hk : Keep w w' K K (But id) := ⟨fun b hb hKb => ⟨hKb, hw' b (fun eb => by subst eb; rw [hK] at hKb; simp [col] at hKb)⟩, fun b hb ⟨i, s, hKb, hi⟩ => ⟨rfl, hw' b (fun eb => by subst eb; rw [hK] at hKb; simp [col] at hKb; exact hi hKb.1.symm)⟩, by omega⟩
      have h3 := (h.replace hk hT2).put (d := d) (x := .one (.h id [])) (v := .slice (some ⟨g, 0, none⟩) n cap) hd ⟨by simp [z4t, nav], .os sz n cs, by simp [z0h], rfl⟩
      exact h3
    · subst eb
      rw [hK] at hcc
      rcases hcc with hcc | hcc <;> simp [col] at hcc
  | _ => cases hT
def zle (P : Program) (fr : Fr) (o : Oper) : Option Fr :=
  match o.dst with
  | some d => (match o.op with
    | .alloc t => zez P fr t d
    | .box t x => zlg P fr t (opE fr x) d
    | .buildSlice t n parts => z1H P fr t n parts.toList d
    | .makeSlice t l c => (match rdV (opE fr l), rdV (opE fr c) with | some (.int _ l), some (.int _ c) => z2Z P fr t l c d | _, _ => none)
    | .convert s t x => (match zis P fr s t (opE fr x) d with | some fr' => some fr' | none => if s = t then none else zes P fr s t (opE fr x) d)
    | .call { callee := .builtin .append, args, argTypes } => (match args.toList, argTypes.toList with | [s, x], [st, xt] => (match opE fr s with | .one (.tf n cs) => zaV P fr d st xt n cs x | _ => z9l P fr d st xt s x) | _, _ => none)
    | _ => none)
  | none => (match o.op with
    | .store t ad x => zgt P fr t (opE fr ad) (opE fr x)
    | _ => none)
def zdj (o : Oper) : Bool :=
  match o.op with
  | .store _ _ _ => false
  | .call _ => false
  | .convert s t _ => s != t
  | _ => true
theorem zjP {P : Program} {w : World} {K : Nat -> z0a} {R G : Nat -> Value} {fr fr' : Fr} {a : Act} {o : Oper} (h : FRep w K R G fr a) (hf : zle P fr o = some fr') :
    ∃ r w', (execOp a.eval o).run P w = .ok r w' /\ ((∃ v, r = .value v /\ ∃ K' R', FRep w' K' R' G fr' (a.put o.dst v) /\ Step w K w' K') ∨ (r = .skip /\ o.dst = none /\ ∃ K' R', FRep w' K' R' G fr' a /\ Step w K w' K')) /\ (zdj o = true -> ∀ b, b < w.heap.size -> w'.heap[b]? = w.heap[b]?) := by
  have lift : ∀ {s : Sem Value} {v : Value} {w'}, s.run P w = .ok v w' -> (do pure (Next.value (← s)) : Sem Next).run P w = .ok (.value v) w' := fun {s v w'} hs => by
    simp only [Sem.run_bind, hs, Result.andThen_ok, Sem.run_pure]
  unfold zle at hf
  split at hf
  · rename_i d hd
    split at hf
    · rename_i t hop
      obtain ⟨v, w', h1, h2, h3⟩ := zhJ h hf
      exact ⟨_, w', by simp only [execOp, hop]; exact lift h1, .inl ⟨v, rfl, by rw [hd]; exact h2⟩, fun _ => h3⟩
    · rename_i t x hop
      obtain ⟨v, w', h1, h2, h3⟩ := zjV h (h.opE x) hf
      exact ⟨_, w', by simp only [execOp, hop]; exact lift h1, .inl ⟨v, rfl, by rw [hd]; exact h2⟩, fun _ => h3⟩
    · rename_i t n parts hop
      obtain ⟨v, w', h1, h2, h3⟩ := z9z h hf
      refine ⟨_, w', ?_, .inl ⟨v, rfl, by rw [hd]; exact h2⟩, fun _ => h3⟩
      simp only [execOp, hop]
      refine lift ?_
      have : parts.map (fun (x : Nat × Operand) => (x.1, a.eval x.2)) = (parts.toList.map fun (i, x) => (i, a.eval x)).toArray := by
        apply Array.ext'; simp
      rw [this]; exact h1
    · rename_i t l c hop
      split at hf
      · rename_i k l' k' c' hl hc
        obtain ⟨e1, -⟩ := z0l (h.opE l) hl
        obtain ⟨e2, -⟩ := z0l (h.opE c) hc
        obtain ⟨v, w', h1, h2, h3⟩ := zaA (k := k) (k' := k') h hf
        exact ⟨_, w', by simp only [execOp, hop, e1, e2]; exact lift h1, .inl ⟨v, rfl, by rw [hd]; exact h2⟩, fun _ => h3⟩
      · cases hf
    · rename_i s t x hop
      split at hf
      · rename_i fr1 hm
        cases hf
        obtain ⟨rfl, v, w', h1, h2⟩ := zir h (h.opE x) hm
        exact ⟨_, w', by simp only [execOp, hop]; exact lift h1, .inl ⟨v, rfl, by rw [hd]; exact h2⟩, fun hc => by simp [zdj, hop] at hc⟩
      · split at hf
        · cases hf
        · obtain ⟨v, w', h1, h2, h3⟩ := zhC h (h.opE x) hf
          exact ⟨_, w', by simp only [execOp, hop]; exact lift h1, .inl ⟨v, rfl, by rw [hd]; exact h2⟩, fun _ => h3⟩
    · rename_i args ats hop
      split at hf
      · rename_i s x st xt ha ht
        obtain rfl : args = #[s, x] := by apply Array.ext'; simpa using ha
        obtain rfl : ats = #[st, xt] := by apply Array.ext'; simpa using ht
        split at hf
        · rename_i n cs htf
          obtain ⟨v, w', h1, K', R', i1, i2⟩ := zdm (ty := o.type) h htf hf
          refine ⟨_, w', ?_, .inl ⟨v, rfl, by rw [hd]; exact ⟨K', R', i1, i2⟩⟩, fun hc => by simp [zdj, hop] at hc⟩
          simp only [execOp, hop, resolve, Sem.run_bind, Sem.run_pure, Result.andThen_ok, invoke, builtin]
          simp [h1]
        · obtain ⟨v, w', h1, h2, _⟩ := za0 (ty := o.type) h hf
          refine ⟨_, w', ?_, .inl ⟨v, rfl, by rw [hd]; obtain ⟨K', R', i1, i2, _⟩ := h2; exact ⟨K', R', i1, i2⟩⟩, fun hc => by simp [zdj, hop] at hc⟩
          simp only [execOp, hop, resolve, Sem.run_bind, Sem.run_pure, Result.andThen_ok, invoke, builtin]
          simp [h1]
      · cases hf
    · cases hf
  · rename_i hd
    split at hf
    · rename_i t ad x hop
      obtain ⟨w', h1, h2, _⟩ := zgs h (h.opE ad) (h.opE x) hf
      refine ⟨.skip, w', ?_, .inr ⟨rfl, hd, h2⟩, fun hc => by simp [zdj, hop] at hc⟩
      simp only [execOp, hop, Sem.run_bind, h1, Result.andThen_ok, Sem.run_pure]
    · cases hf
theorem FRep.reput {w : World} {K : Nat -> z0a} {R G : Nat -> Value} {fr : Fr} {a : Act} (h : FRep w K R G fr a) {d : Nat} {x : E} (hx : ERep w K R fr.ob x (z4s a G d)) : FRep w K R G { fr with tm := z9o fr.tm d x } a := by
  refine ⟨fun i => ?_, h.ob, h.nt, h.df⟩
  rw [zaI]
  split
  · rename_i e; subst e; exact hx
  · exact h.tm i
def zjJ (fr : Fr) (d : Nat) : Option Fr :=
  match z2j fr d [] with
  | some fr2 => (match z0W fr2.tm d with | .one (.t none (.sl n cs)) => some { fr2 with tm := z9o fr2.tm d (.one (.tf n cs)) } | _ => none)
  | none => none
def z5n (P : Program) (fr : Fr) (t : TypeId) (n : Nat) (parts : List (Nat × Operand)) (d : Nat) : Option Fr :=
  match z1H P fr t n parts d with
  | some fr1 => zjJ fr1 d
  | none => none
theorem zaS {P : Program} {w : World} {K : Nat -> z0a} {R G : Nat -> Value} {fr fr' : Fr} {a : Act} {t : TypeId} {n d : Nat} {parts : List (Nat × Operand)} (h : FRep w K R G fr a) (hd : d < fr.nt) (hf : z5n P fr t n parts d = some fr') :
    ∃ v w', (Instr.buildSlice t n (parts.map fun (i, x) => (i, a.eval x)).toArray).run P w = .ok v w' /\ ∃ K' R', FRep w' K' R' G fr' (a.put (some d) v) /\ Step w K w' K' := by
  unfold z5n at hf
  split at hf
  case h_2 => cases hf
  case h_1 fr1 h1 =>
  obtain ⟨v, w', ⟨p, hp⟩, h2, ⟨K', R', h3, h4, _⟩, _⟩ := z4R h h1
  unfold zjJ at hf
  split at hf
  case h_2 => cases hf
  case h_1 fr2 hz =>
  split at hf
  case h_2 => cases hf
  case h_1 n' cs hg =>
  cases hf
  have h5 := (h3.freeze hz).1
  have h6 := h5.tm d
  rw [hg] at h6
  have hv : z4s (a.put (some d) v) G d = v := by rw [zau a G d v (by rw [h.nt]; exact hd), if_pos rfl]
  have h7 := h6.1
  rw [hv, hp] at h7
  have hn : n' = n := by
    generalize hvv : Value.slice p n n = vv at h7
    generalize htt : T.sl n' cs = tt at h7
    cases h7 <;> first | (cases htt; cases hvv; rfl) | cases htt
  subst hn
  have h8 := h5.reput (d := d) (x := .one (.tf n' cs)) ⟨⟨p, by rw [hv, hp]⟩, h6.1⟩
  exact ⟨v, w', h2, _, _, h8, h4.trans (z5l d [])⟩
def zkX (P : Program) (fr : Fr) (ty : TypeId) (d : Nat) : Option Fr :=
  match z0W fr.tm d with
  | .one (.h id p) =>
    if id = d then some fr
    else if p = [] || zjB (z0w fr.ob id) then z9r fr id p d
    else some fr
  | .one (.k (.slice none 0 0)) =>
    (match z1e P ty with
    | some ⟨.slice el, _, _, _⟩ => (match z1e P el with
      | some ti => some { fr with tm := z9o (z3k (kill d) fr.tm) d (.one (.h d [])), ob := z2N fr.ob d (.os ti.size 0 []) }
      | none => some fr)
    | _ => some fr)
  | _ => some fr
theorem zhH {P : Program} {w : World} {K : Nat -> z0a} {R G : Nat -> Value} {fr fr' : Fr} {a : Act} {ty : TypeId} {d : Nat} (h : FRep w K R G fr a) (hf : zkX P fr ty d = some fr') : ∃ K' R', FRep w K' R' G fr' a /\ Step w K w K' /\ fr'.nt = fr.nt /\ (∀ b i s, K b = (i + 2) :: s -> K' b = K b ∨ True) := by
  unfold zkX at hf
  split at hf
  · split at hf
    · cases hf; exact ⟨K, R, h, Step.refl _ _, rfl, fun _ _ _ _ => .inr trivial⟩
    · split at hf
      · obtain ⟨vp, t, h1, h2, h3⟩ := h.take hf
        exact ⟨_, _, h3, zas _ _ _, zdM hf, fun _ _ _ _ => .inr trivial⟩
      · cases hf; exact ⟨K, R, h, Step.refl _ _, rfl, fun _ _ _ _ => .inr trivial⟩
  · rename_i hg
    split at hf
    · split at hf
      · rename_i ti hti
        cases hf
        have hreg := h.tm d
        rw [hg] at hreg
        have hreg' : z4s a G d = .slice none 0 0 := hreg
        have h3 := h.replace (d := d) (w' := w) (K' := fun b => if (K b).head? = some (d + 2) then [1] else K b) (v := .slice none 0 0) (t := .os ti.size 0 []) ⟨fun b hb e => ⟨by simp [e], rfl⟩, fun b hb ⟨i, s, e, hi⟩ => ⟨by simp [e, hi], rfl⟩, Nat.le_refl _⟩ (.nil _ _)
        refine ⟨_, _, h3.reput ⟨by rw [hreg']; simp [z4t, nav], .os ti.size 0 [], by simp [z0h], rfl⟩, ⟨rfl, rfl, rfl, Nat.le_refl _, fun b hb hc => ⟨?_, rfl⟩, .same rfl⟩, rfl, fun _ _ _ _ => .inr trivial⟩
        rcases hc with e | e <;> simp [e]
      · cases hf; exact ⟨K, R, h, Step.refl _ _, rfl, fun _ _ _ _ => .inr trivial⟩
    · cases hf; exact ⟨K, R, h, Step.refl _ _, rfl, fun _ _ _ _ => .inr trivial⟩
  · cases hf; exact ⟨K, R, h, Step.refl _ _, rfl, fun _ _ _ _ => .inr trivial⟩
end
section
mutual
def opn : T -> Bool
  | .sc _ => false
  | .dead => false
  | .agg cs => z9p cs
  | .tup cs => z9p cs
  | .sl n cs => !(n == 0 && cs.isEmpty)
  | .os _ _ cs => z9p cs
  | .vr cs => z9p cs
  | .vo _ cs => z9p cs
  | .pr _ => true
  | .mp _ _ => false
  | .mr _ _ => true
  | .cl _ cs => z9p cs
def z9p : List T -> Bool
  | [] => false
  | t :: ts => opn t || z9p ts
end
theorem z5g : ∀ {cs : List T} {t : T} {j : Nat}, z9p cs = false -> cs[j]? = some t -> opn t = false
  | [], t, j, h, hj => by simp at hj
  | c :: cs, t, 0, h, hj => by
    simp only [z9p, Bool.or_eq_false_iff] at h
    simp at hj; subst hj; exact h.1
  | c :: cs, t, j + 1, h, hj => by
    simp only [z9p, Bool.or_eq_false_iff] at h
    exact z5g h.2 (by simpa using hj)
theorem TRep.moveC {w w' : World} {K K' : Nat -> z0a} {c : z0a} {v : Value} {t : T} (h : TRep w K c v t) : opn t = false -> ∀ {c' : z0a},
    (∀ b s, b < w.heap.size -> c ≠ [] -> K b = c ++ s -> K' b = c' ++ s /\ w'.heap[b]? = w.heap[b]?) -> (c = [] ↔ c' = []) -> w.heap.size <= w'.heap.size -> TRep w' K' c' v t := by
  induction h with
  | sc c v h => intro _ c' _ _ _; exact .sc c' v h
  | dead c v => intro _ c' _ _ _; exact .dead c' v
  | agg c vs cs F hl hF h ih =>
    intro ho c' h1 h3 h4
    refine .agg c' vs cs F hl hF (fun j t ht => ih j t ht (z5g ho ht) ?_ ?_ h4)
    · intro b s hb hc hK
      by_cases hc0 : c = []
      · subst hc0; exact absurd rfl hc
      · have hc0' : c' ≠ [] := fun e => hc0 (h3.2 e)
        rw [z2v hc0] at hK
        rw [z2v hc0']
        have := h1 b (j :: s) hb hc0 (by simpa using hK)
        exact ⟨by simpa using this.1, this.2⟩
    · cases c with
      | nil => have := h3.1 rfl; subst this; simp [ext]
      | cons a c => cases c' with
        | nil => have := h3.2 rfl; cases this
        | cons a' c' => simp [ext]
  | tup c vs cs F hl hF h ih =>
    intro ho c' h1 h3 h4
    refine .tup c' vs cs F hl hF (fun j t ht => ih j t ht (z5g ho ht) ?_ ?_ h4)
    · intro b s hb hc hK
      by_cases hc0 : c = []
      · subst hc0; exact absurd rfl hc
      · have hc0' : c' ≠ [] := fun e => hc0 (h3.2 e)
        rw [z2v hc0] at hK
        rw [z2v hc0']
        have := h1 b (j :: s) hb hc0 (by simpa using hK)
        exact ⟨by simpa using this.1, this.2⟩
    · cases c with
      | nil => have := h3.1 rfl; subst this; simp [ext]
      | cons a c => cases c' with
        | nil => have := h3.2 rfl; cases this
        | cons a' c' => simp [ext]
  | emp c a cap hc => intro _ c' _ _ _; exact .emp c' a cap hc
  | fro c g o n cap cs F hK hg hn hc hF h ih =>
    intro ho c' h1 h3 h4
    simp only [opn, Bool.not_eq_false', Bool.and_eq_true, beq_iff_eq, List.isEmpty_iff] at ho
    obtain ⟨rfl, rfl⟩ := ho
    exact .emp c' _ cap hc
  | nil c sz => intro _ c' _ _ _; exact .nil c' sz
  | own c g n cap size cs arr e fz F hfz hc0 hK hg hs hl hz hn hc hF h ih =>
    intro ho c' h1 h3 h4
    have hc0' : c' ≠ [] := fun e => hc0 (h3.2 e)
    obtain ⟨k1, k2⟩ := h1 g [] (z0s hg) hc0 (by simpa using hK)
    refine .own c' g n cap size cs arr e fz F hfz hc0' (by simpa using k1) (by rw [k2]; exact hg) hs hl hz hn hc hF (fun j t ht => ih j t ht (z5g ho ht) ?_ (by simp) h4)
    intro b s hb _ hK
    have := h1 b (j :: s) hb hc0 (by simpa using hK)
    exact ⟨by simpa using this.1, this.2⟩
  | vr c g cs arr e fz F hfz hc0 hK hg hl hF h ih =>
    intro ho c' h1 h3 h4
    have hc0' : c' ≠ [] := fun e => hc0 (h3.2 e)
    obtain ⟨k1, k2⟩ := h1 g [] (z0s hg) hc0 (by simpa using hK)
    refine .vr c' g cs arr e fz F hfz hc0' (by simpa using k1) (by rw [k2]; exact hg) hl hF (fun j t ht => ih j t ht (z5g ho ht) ?_ (by simp) h4)
    intro b s hb _ hK
    have := h1 b (j :: s) hb hc0 (by simpa using hK)
    exact ⟨by simpa using this.1, this.2⟩
  | vo c g off cs h ih => intro ho c' h1 h3 h4; exact .vo c' g off cs (ih ho h1 h3 h4)
  | pr => intro ho; cases ho
  | mr => intro ho; cases ho
  | mp c g kk es ents clock hc0 hK hg hh =>
    intro ho c' h1 h3 h4
    obtain ⟨k1, k2⟩ := h1 g [] (z0s hg) hc0 (by simpa using hK)
    exact .mp c' g kk es ents clock (fun e => hc0 (h3.2 e)) (by simpa using k1) (by rw [k2]; exact hg) hh
  | cl c f vs cs F hl hF h ih =>
    intro ho c' h1 h3 h4
    exact .cl c' f vs cs F hl hF (fun j t ht => ih j t ht (z5g ho ht) (fun _ _ _ hc => absurd rfl hc) Iff.rfl h4)
def z3a : T -> Bool
  | .vr _ => true
  | .os _ _ _ => true
  | .vo _ _ => true
  | _ => false
def za1 (w : World) (K : Nat -> z0a) (i : Nat) (v : Value) (t : T) : Prop := TRep w K (if z3a t then col i else []) v t
structure EnvS (I : World -> (Nat -> z0a) -> Prop) : Prop where
  keep : ∀ {w K w' K'}, I w K -> w.heap.size <= w'.heap.size -> (∀ b, b < w.heap.size -> K b = [] -> K' b = [] /\ w'.heap[b]? = w.heap[b]?) -> I w' K'
theorem EnvS.step {I : World -> (Nat -> z0a) -> Prop} (h : EnvS I) {w w' : World} {K K' : Nat -> z0a} (hi : I w K) (s : Step w K w' K') : I w' K' :=
  h.keep hi s.size fun b hb e => by
    obtain ⟨a1, a2⟩ := s.old b hb (.inl e)
    exact ⟨a1.trans e, a2⟩
theorem EnvS.none : EnvS (fun _ _ => True) := ⟨fun _ _ _ => trivial⟩
structure CallOk (P : Program) (I : World -> (Nat -> z0a) -> Prop) (f : FuncId) (args : List T) (res : T) (outs : List T) : Prop where
  enter : ∀ (vals : Array Value) (w : World), (callFunc f vals).run P w = .ok (.enter f vals) w
  calls : ∀ (w : World) (K : Nat -> z0a) (vals : Array Value), vals.size = args.length -> (∀ i t, args[i]? = some t -> za1 w K i (vals.getD i undef) t) -> I w K ->
    Calls P f vals w fun e w' => ∃ v K', e = .returned v /\ TRep w' K' [0] v res /\ (∀ i t, args[i]? = some t -> z3a t = true -> ∃ t', outs[i]? = some t' /\ TRep w' K' (col i) (vals.getD i undef) t') /\ Step w K w' K'
abbrev z0b := FuncId -> List T -> Option (T × List T)
def z5X (P : Program) (I : World -> (Nat -> z0a) -> Prop) (C : z0b) : Prop := ∀ f args r outs, C f args = some (r, outs) -> CallOk P I f args r outs
def zdJ : T -> T
  | .os _ n cs => .sl n cs
  | .vr _ => .dead
  | .vo _ _ => .dead
  | x => x
abbrev zeA := List (Nat × List Nat)
def zjY (fr : Fr) : A -> Option (T × zeA)
  | .k v => some (zem false v, [])
  | .t none x => some (zdJ x, [])
  | .t (some i) x => some (zdJ x, [(i, [])])
  | .tf n cs => some (.sl n cs, [])
  | .h id p => match z0w fr.ob id with
    | none => none
    | some root => match sub root p with
      | some t => if z6p t then some (t, []) else some (z1b t, [(id, p)])
      | none => none
  | _ => none
def zhI (fr : Fr) : List A -> Option (List T × zeA)
  | [] => some ([], [])
  | x :: xs => match zjY fr x, zhI fr xs with
    | some (t, d), some (ts, ds) => if z3a t then none else some (t :: ts, d ++ ds)
    | _, _ => none
def zlh (fr : Fr) (io : Bool) : E -> Option (T × zeA × Option Nat)
  | .ag xs => (match zhI fr xs with | some (ts, d) => some (.agg ts, d, none) | none => none)
  | .one (.a id [] off) => (match z0w fr.ob id with | some (.vr cs) => if off = 0 then some (.vr cs, [], some id) else none | some (.os _ _ cs) => if io then some (.vo off cs, [], some id) else none | _ => none)
  | .one (.h id []) =>
    if io then (match z0w fr.ob id with | some (.os sz n cs) => some (.os sz n cs, [], some id) | _ => none)
    else (match zjY fr (.h id []) with | some (t, d) => if z3a t then none else some (t, d, none) | none => none)
  | .one x => (match zjY fr x with | some (t, d) => if z3a t then none else some (t, d, none) | none => none)
def z1z (deps : zeA) (h : Nat) (q : List Nat) : Bool := deps.any fun x => decide (h = x.1 + 2) && (z1M x.2 q).isSome
def zhB (deps : zeA) (io : Option (Nat × Nat)) : z0a -> z0a
  | [] => []
  | h :: q => if z1z deps h q then [] else match io with
    | some (i, id) => if h = id + 2 then (i + 2) :: q else [1]
    | none => [1]
theorem TRep.top {w : World} {K : Nat -> z0a} {v : Value} {t : T} (h : TRep w K [] v t) : TRep w K [] v (zdJ t) := by
  cases h with
  | sc _ _ h => exact .sc _ _ h
  | dead => exact .dead _ _
  | agg c vs cs F hl hF h => exact .agg _ vs cs F hl hF h
  | tup c vs cs F hl hF h => exact .tup _ vs cs F hl hF h
  | emp c a cap hc => exact .emp _ a cap hc
  | fro c g o n cap cs F hK hg hn hc hF h => exact .fro _ g o n cap cs F hK hg hn hc hF h
  | nil => exact .emp _ none 0 (by decide)
  | own _ _ _ _ _ _ _ _ _ _ _ hc0 => exact absurd rfl hc0
  | vr _ _ _ _ _ _ _ _ hc0 => exact absurd rfl hc0
  | vo _ _ _ _ h => exact absurd rfl h.vr_ne
  | pr _ g o cs F hK hg hF h => exact .pr _ g o cs F hK hg hF h
  | mr _ g kk es ents clock hK hg hh => exact .mr _ g kk es ents clock hK hg hh
  | mp _ _ _ _ _ _ hc0 => exact absurd rfl hc0
  | cl _ f vs cs F hl hF h => exact .cl _ f vs cs F hl hF h
theorem zfu (w : World) (K : Nat -> z0a) (own : Bool) (v : Value) : TRep w K [] v (zem own v) := by
  unfold zem
  split
  · rename_i vs
    refine .agg _ vs _ (fun j => vs.getD j undef) (by simp) (fun j hj => z2e _ _ (by simpa using hj)) (fun j t hj => ?_)
    simp only [List.getElem?_map, Option.map_eq_some_iff, Array.getElem?_toList] at hj
    obtain ⟨v, hv, rfl⟩ := hj
    have : vs.getD j undef = v := by simp [Array.getD_eq_getD_getElem?, hv]
    rw [this]
    exact z3c _ _ _ _ _
  · exact z3c _ _ _ _ _
theorem zey {w : World} {K K0 : Nat -> z0a} {R G : Nat -> Value} {fr : Fr} {a : Act} {x : A} {u : Value} {t : T} {deps : zeA} (h : FRep w K R G fr a) (hx : ARep w K R fr.ob x u) (ha : zjY fr x = some (t, deps))
    (h0 : ∀ b, K b = [] -> K0 b = []) (hd : ∀ b hh q, K b = hh :: q -> z1z deps hh q = true -> K0 b = []) : TRep w K0 [] u t := by
  unfold zjY at ha
  split at ha
  · cases ha
    obtain rfl : u = _ := hx
    exact zfu _ _ _ _
  · cases ha
    exact (TRep.fz hx.1 (fun b _ e => ⟨h0 b e, rfl⟩) (Nat.le_refl _)).top
  · rename_i i x
    cases ha
    refine (TRep.fz hx.1 (fun b _ e => ⟨?_, rfl⟩) (Nat.le_refl _)).top
    simp only [frz] at e
    split at e
    · rename_i hh
      cases hk : K b with
      | nil => exact h0 b hk
      | cons a s =>
        rw [hk] at hh; simp at hh; subst hh
        exact hd b _ s hk (by simp [z1z, z1M])
    · exact h0 b e
  · cases ha
    exact TRep.fz hx.2 (fun b _ e => ⟨h0 b e, rfl⟩) (Nat.le_refl _)
  · rename_i id p
    split at ha
    case h_1 => cases ha
    case h_2 root hroot =>
    split at ha
    · rename_i t' hsub
      obtain ⟨n1, _⟩ := hx
      obtain ⟨v', m1, hrep⟩ := (h.ob id root hroot).sub (z0v id) hsub
      rw [n1] at m1; cases m1
      split at ha
      · rename_i hp
        cases ha
        exact TRep.fz (hrep.free hp []) (fun b _ e => ⟨h0 b e, rfl⟩) (Nat.le_refl _)
      · cases ha
        refine hrep.freeze (fun b s hb hc hK => ⟨?_, rfl⟩) (fun b _ e => ⟨h0 b e, rfl⟩) (Nat.le_refl _) []
        exact hd b (id + 2) (p ++ s) (by simpa [col] using hK) (by simp [z1z, z3r])
    · cases ha
  · cases ha
theorem z1R (d1 d2 : zeA) (h : Nat) (q : List Nat) : z1z (d1 ++ d2) h q = (z1z d1 h q || z1z d2 h q) := by simp [z1z]
theorem zcA {w : World} {K K0 : Nat -> z0a} {R G : Nat -> Value} {fr : Fr} {a : Act} (h : FRep w K R G fr a) (h0 : ∀ b, K b = [] -> K0 b = []) : ∀ {xs : List A} {F : Nat -> Value} {ts : List T} {deps : zeA}, (∀ j x, xs[j]? = some x -> ARep w K R fr.ob x (F j)) ->
    zhI fr xs = some (ts, deps) -> (∀ b hh q, K b = hh :: q -> z1z deps hh q = true -> K0 b = []) -> ts.length = xs.length /\ ∀ j t, ts[j]? = some t -> TRep w K0 [] (F j) t
  | [], F, ts, deps, hx, ha, hd => by
    cases ha
    exact ⟨rfl, fun j t ht => by simp at ht⟩
  | x :: xs, F, ts, deps, hx, ha, hd => by
    simp only [zhI] at ha
    split at ha
    · rename_i t d ts' ds h1 h2
      split at ha
      · cases ha
      · cases ha
        obtain ⟨r1, r2⟩ := zcA h h0 (xs := xs) (F := fun j => F (j + 1)) (fun j y hy => hx (j + 1) y (by simpa using hy)) h2 (fun b hh q e e2 => hd b hh q e (by rw [z1R, e2, Bool.or_true]))
        refine ⟨by simp [r1], fun j t' ht => ?_⟩
        match j, ht with
        | 0, ht =>
          simp at ht; subst ht
          exact zey h (hx 0 x rfl) h1 h0 (fun b hh q e e2 => hd b hh q e (by rw [z1R, e2, Bool.true_or]))
        | j + 1, ht => exact r2 j t' (by simpa using ht)
    · cases ha
def zhM (fr : Fr) (R : Nat -> Value) (id : Nat) (t : T) (u : Value) : Prop :=
  (z0w fr.ob id = some t /\ u = R id /\ ∀ off cs, t ≠ .vo off cs) ∨ ∃ sz n cs off g, z0w fr.ob id = some (.os sz n cs) /\ t = .vo off cs /\ z2M (R id) = some g /\ u = .pointer (some ⟨g, off, none⟩)
theorem zex {w : World} {K K0 : Nat -> z0a} {R G : Nat -> Value} {fr : Fr} {a : Act} {e : E} {u : Value} {t : T} {deps : zeA} {io : Option Nat} {fl : Bool} (h : FRep w K R G fr a) (he : ERep w K R fr.ob e u) (ha : zlh fr fl e = some (t, deps, io))
    (h0 : ∀ b, K b = [] -> K0 b = []) (hd : ∀ b hh q, K b = hh :: q -> z1z deps hh q = true -> K0 b = []) :
    (io = none /\ z3a t = false /\ TRep w K0 [] u t) ∨ ∃ id, io = some id /\ z3a t = true /\ deps = [] /\ zhM fr R id t u := by
  have byval : ∀ x, e = .one x -> (match zjY fr x with | some (t, d) => if z3a t then none else some (t, d, none) | none => none) = some (t, deps, io) -> (io = none /\ z3a t = false /\ TRep w K0 [] u t) := fun x hxe hh => by
    subst hxe
    split at hh
    · rename_i t' d' h1
      split at hh
      · cases hh
      · rename_i hio
        cases hh
        exact ⟨rfl, by simpa using hio, zey h he h1 h0 hd⟩
    · cases hh
  unfold zlh at ha
  split at ha
  · rename_i xs
    split at ha
    · rename_i ts d h1
      cases ha
      obtain ⟨arr, rfl, e2, e3⟩ := he
      obtain ⟨r1, r2⟩ := zcA h h0 (F := fun j => arr.getD j undef) e3 h1 hd
      exact .inl ⟨rfl, rfl, .agg _ arr ts (fun j => arr.getD j undef) (by omega) (fun j hj => z2e _ _ (by omega)) r2⟩
    · cases ha
  · rename_i id off
    split at ha
    · rename_i cs hob
      split at ha
      case isFalse => cases ha
      case isTrue h0 =>
      subst h0
      cases ha
      obtain ⟨hv, g, n1, n4, n5, t0, n2, n3⟩ := he
      simp only [nav, Option.some.injEq] at n1
      refine .inr ⟨id, rfl, rfl, rfl, .inl ⟨hob, ?_, fun _ _ e => by cases e⟩⟩
      have hr := h.ob id _ hob
      rw [n5, n1]
      rw [n1] at hr
      cases hr with
      | vr c g' cs arr e fz F hfz hc0 hK hg hl hF hh =>
        simp only [z2M, Option.some.injEq] at n4
        rw [n4]
    · rename_i sz n cs hob
      split at ha
      case isFalse => cases ha
      case isTrue =>
      cases ha
      obtain ⟨hv, g, n1, n4, n5, t0, n2, n3⟩ := he
      simp only [nav, Option.some.injEq] at n1
      exact .inr ⟨id, rfl, rfl, rfl, .inr ⟨sz, n, cs, off, g, hob, rfl, by rw [n1]; exact n4, n5⟩⟩
    · cases ha
  · rename_i id
    split at ha
    · split at ha
      · rename_i sz n cs hob
        cases ha
        obtain ⟨n1, _⟩ := he
        simp only [nav, Option.some.injEq] at n1
        exact .inr ⟨id, rfl, rfl, rfl, .inl ⟨hob, n1.symm, fun _ _ e => by cases e⟩⟩
      · cases ha
    · exact .inl (byval _ rfl ha)
  · exact .inl (byval _ rfl ha)
def z9A (fr : Fr) (io : Nat -> Bool) : List E -> Nat -> Option (List T × zeA × Option (Nat × Nat))
  | [], _ => some ([], [], none)
  | x :: xs, i => match zlh fr (io i) x, z9A fr io xs (i + 1) with
    | some (t, d, none), some (ts, ds, o) => some (t :: ts, d ++ ds, o)
    | some (t, d, some id), some (ts, ds, none) => some (t :: ts, d ++ ds, some (i, id))
    | _, _ => none
theorem TRep.toVo {w : World} {K : Nat -> z0a} {c : z0a} {v : Value} {sz n : Nat} {cs : List T} {g : Nat} (h : TRep w K c v (.os sz n cs)) (hb : z2M v = some g) (off : Nat) : TRep w K c (.pointer (some ⟨g, off, none⟩)) (.vo off cs) := by
  cases h with
  | nil => cases hb
  | own c g' n cap size cs arr e fz F hfz hc0 hK hg hs hl hz hn hc hF h =>
    simp only [z2M, Option.some.injEq] at hb
    subst hb
    exact .vo _ _ _ _ (.vr c g' cs arr e fz F hfz hc0 hK hg (by rw [hl, hs]; exact Nat.mul_le_mul_right _ hn) hF h)
theorem TRep.ofVo {w w' : World} {K K' : Nat -> z0a} {c c' : z0a} {v u : Value} {sz n g off o' : Nat} {cs cs' : List T} (h : TRep w K c v (.os sz n cs)) (hb : z2M v = some g) (hz : SzK w w') (hu : u = .pointer (some ⟨g, off, none⟩)) (h' : TRep w' K' c' u (.vo o' cs')) (hl' : cs'.length = cs.length) : TRep w' K' c' v (.os sz n cs') := by
  cases h with
  | nil => cases hb
  | own c g' n cap size cs arr e fz F hfz hc0 hK hg hs hl hz0 hn hc hF h =>
    simp only [z2M, Option.some.injEq] at hb
    subst hb
    cases h' with
    | vo _ g2 _ _ h2 =>
      simp only [Value.pointer.injEq, Option.some.injEq, Addr.mk.injEq] at hu
      obtain ⟨rfl, _, _⟩ := hu
      cases h2 with
      | vr _ _ _ arr2 e2 fz2 F2 hfz2 hc2 hK2 hg2 hl2 hF2 hh2 =>
        obtain ⟨a3, e3, f3, q1, q2⟩ := hz _ _ _ _ hg
        rw [hg2] at q1
        cases q1
        exact .own c' _ n cap sz cs' arr2 e2 fz2 F2 hfz2 hc2 hK2 hg2 (by rw [q2, hs]) (by rw [hl', hl]) hz0 hn hc hF2 hh2
def z4r (d : Nat) : A -> A
  | .h i q => if i = d /\ q ≠ [] then .dead else .h i q
  | .a i q off => if i = d /\ q ≠ [] then .dead else .a i q off
  | .t (some i) x => if i = d then .dead else .t (some i) x
  | .ea (some i) cs off => if i = d then .dead else .ea (some i) cs off
  | x => x
theorem FRep.renew {w w' : World} {K K' : Nat -> z0a} {R G : Nat -> Value} {fr : Fr} {a : Act} (h : FRep w K R G fr a) {d : Nat} {t' : T} (k : Keep w w' K K' (But d)) (ht : TRep w' K' (col d) (R d) t') :
    FRep w' K' R G { fr with tm := z3k (z4r d) fr.tm, ob := z2N fr.ob d t' } a := by
  have hR : ∀ i, i ≠ d -> R i = R i /\ z0w (z2N fr.ob d t') i = z0w fr.ob i := fun i hi => ⟨rfl, by rw [z0h, if_neg (fun e => hi e.symm)]⟩
  refine ⟨fun i => ?_, fun id t ht' => ?_, h.nt, h.df⟩
  · show ERep w' K' R (z2N fr.ob d t') (z0W (z3k (z4r d) fr.tm) i) _
    rw [z2X _ rfl]
    refine (h.tm i).map _ fun x u hx => ?_
    by_cases hxd : onA x = some d
    · cases x with
      | dead => trivial
      | k v => cases hxd
      | t dep x => simp only [onA] at hxd; subst hxd; simp only [z4r, if_true]; trivial
      | h i q =>
        simp only [onA, Option.some.injEq] at hxd; subst hxd
        by_cases hq : q = []
        · subst hq
          obtain ⟨n1, _⟩ := hx
          simp only [z4r]
          rw [if_neg (by simp)]
          exact ⟨n1, t', by simp [z0h], rfl⟩
        · rw [show z4r i (.h i q) = .dead by simp [z4r, hq]]; trivial
      | a i q off =>
        simp only [onA, Option.some.injEq] at hxd; subst hxd
        by_cases hq : q = []
        · subst hq
          obtain ⟨hv, g, n1, n4, n5, _⟩ := hx
          simp only [z4r]
          rw [if_neg (by simp)]
          exact ⟨hv, g, n1, n4, n5, t', by simp [z0h], rfl⟩
        · rw [show z4r i (.a i q off) = .dead by simp [z4r, hq]]; trivial
      | ea dep cs off => simp only [onA] at hxd; subst hxd; simp only [z4r, if_true]; trivial
      | tf => cases hxd
    · have : z4r d x = x := by
        cases x with
        | dead => rfl
        | k v => rfl
        | t dep x => cases dep with
          | none => rfl
          | some i => simp only [z4r]; rw [if_neg (fun e => hxd (by simp [onA, e]))]
        | h i q => simp only [z4r]; rw [if_neg (fun e => hxd (by simp [onA, e.1]))]
        | a i q off => simp only [z4r]; rw [if_neg (fun e => hxd (by simp [onA, e.1]))]
        | tf => rfl
        | ea dep cs off => cases dep with
          | none => rfl
          | some i => simp only [z4r]; rw [if_neg (fun e => hxd (by simp [onA, e]))]
      rw [this]
      exact hx.but h.ob k hR hxd
  · rw [z0h] at ht'
    split at ht'
    · rename_i e
      subst e
      cases ht'
      exact ht
    · rename_i hne
      have hne' : id ≠ d := fun e => hne e.symm
      exact (h.ob id t ht').keep k fun s _ => ⟨id, s, rfl, hne'⟩
end
section
def z9a (fr : Fr) : zeA -> Option Fr
  | [] => some fr
  | (id, p) :: l => match z2j fr id p with | some fr' => z9a fr' l | none => none
theorem zfn {fr fr' : Fr} {id : Nat} {p : List Nat} (hs : z2j fr id p = some fr') : fr'.nt = fr.nt /\ ∀ i, i ≠ id -> z0w fr'.ob i = z0w fr.ob i := by
  unfold z2j at hs
  split at hs
  · cases hs
  · split at hs
    · cases hs
    · split at hs
      · cases hs
      · cases hs
        exact ⟨rfl, fun i hi => by rw [z0h, if_neg (fun e => hi e.symm)]⟩
theorem z8Z {w : World} {R G : Nat -> Value} {a : Act} : ∀ {deps : zeA} {K : Nat -> z0a} {fr fr1 : Fr}, FRep w K R G fr a -> z9a fr deps = some fr1 ->
    ∃ K1, FRep w K1 R G fr1 a /\ Step w K w K1 /\ (∀ b, K b = [] -> K1 b = []) /\ (∀ b h q, K b = h :: q -> z1z deps h q = true -> K1 b = []) /\ (∀ b h q, K b = h :: q -> K1 b = [] ∨ K1 b = K b) /\ (∀ b h q, K b = h :: q -> (∀ x ∈ deps, h ≠ x.1 + 2) -> K1 b = K b) /\
      (∀ i, (∀ x ∈ deps, x.1 ≠ i) -> z0w fr1.ob i = z0w fr.ob i) /\ fr1.nt = fr.nt
  | [], K, fr, fr1, h, hf => by
    cases hf
    exact ⟨K, h, Step.refl _ _, fun _ e => e, fun b hh q e hd => by simp [z1z] at hd, fun _ _ _ _ => .inr rfl, fun _ _ _ _ _ => rfl, fun _ _ => rfl, rfl⟩
  | (id, p) :: l, K, fr, fr1, h, hf => by
    simp only [z9a] at hf
    split at hf
    · rename_i fr2 h2
      obtain ⟨a1, _⟩ := h.freeze h2
      obtain ⟨n1, n2⟩ := zfn h2
      obtain ⟨K1, b1, b2, b3, b4, b5, b6, b7, b8⟩ := z8Z (deps := l) a1 hf
      have hz : ∀ b, fzK id p (K b) = [] ∨ fzK id p (K b) = K b := fun b => by
        cases hk : K b with
        | nil => left; rfl
        | cons hh q => simp only [fzK]; split <;> simp
      refine ⟨K1, b1, (z5l id p).trans b2, fun b e => b3 b (by show fzK id p (K b) = []; rw [e]; rfl), fun b hh q e hd => ?_, fun b hh q e => ?_, fun b hh q e hd => ?_, fun i hi => ?_, b8.trans n1⟩
      · rcases hz b with e1 | e1
        · exact b3 b e1
        · rw [show z1z ((id, p) :: l) hh q = (decide (hh = id + 2) && (z1M p q).isSome || z1z l hh q) from rfl, Bool.or_eq_true] at hd
          rcases hd with hd | hd
          · exfalso
            rw [e] at e1
            simp only [fzK] at e1
            simp only [Bool.and_eq_true, decide_eq_true_eq] at hd
            rw [if_pos hd] at e1
            cases e1
          · exact b4 b hh q (e1.trans e) hd
      · rcases hz b with e1 | e1
        · exact .inl (b3 b e1)
        · rcases b5 b hh q (e1.trans e) with e2 | e2
          · exact .inl e2
          · exact .inr (e2.trans e1)
      · have e1 : fzK id p (K b) = K b := by
          rw [e]; simp only [fzK]
          rw [if_neg (fun hc => hd (id, p) (by simp) hc.1)]
        rw [b6 b hh q (e1.trans e) (fun x hx => hd x (by simp [hx])), e1]
      · rw [b7 i (fun x hx => hi x (by simp [hx])), n2 i (fun e => hi (id, p) (by simp) e.symm)]
    · cases hf
theorem z9k {w : World} {K K0 : Nat -> z0a} {R G : Nat -> Value} {fr : Fr} {a : Act} (h : FRep w K R G fr a) {io : Nat -> Bool} (h0 : ∀ b, K b = [] -> K0 b = []) : ∀ {args : List E} {vs : List Value} {i0 : Nat} {ts : List T} {deps : zeA} {o : Option (Nat × Nat)}, z9A fr io args i0 = some (ts, deps, o) ->
    vs.length = args.length -> (∀ (j : Nat) (e : E) (v : Value), args[j]? = some e -> vs[j]? = some v -> ERep w K R fr.ob e v) -> (∀ b hh q, K b = hh :: q -> z1z deps hh q = true -> K0 b = []) ->
    ts.length = args.length /\ (∀ j t, ts[j]? = some t -> ∃ x, vs[j]? = some x /\ ((z3a t = false /\ TRep w K0 [] x t) ∨ (z3a t = true /\ ∃ id, o = some (i0 + j, id) /\ zhM fr R id t x))) /\
      (∀ i id, o = some (i, id) -> ∃ j t, i = i0 + j /\ ts[j]? = some t /\ z3a t = true)
  | [], vs, i0, ts, deps, o, ha, hl, hv, hd => by
    cases ha
    exact ⟨rfl, fun j t ht => by simp at ht, fun i id e => by cases e⟩
  | x :: xs, [], i0, ts, deps, o, ha, hl, hv, hd => by simp at hl
  | x :: xs, u :: us, i0, ts, deps, o, ha, hl, hv, hd => by
    have hl' : us.length = xs.length := by simpa using hl
    have hv' : ∀ (j : Nat) (e : E) (v : Value), xs[j]? = some e -> us[j]? = some v -> ERep w K R fr.ob e v := fun j e v h1 h2 => hv (j + 1) e v (by simpa using h1) (by simpa using h2)
    have hx : ERep w K R fr.ob x u := hv 0 x u rfl rfl
    simp only [z9A] at ha
    split at ha
    · rename_i t d ts' ds o' h1 h2
      cases ha
      obtain ⟨r1, r2, r3⟩ := z9k h h0 h2 hl' hv' (fun b hh q e e2 => hd b hh q e (by rw [z1R, e2, Bool.or_true]))
      refine ⟨by simp [r1], fun j t' ht => ?_, fun i id e => ?_⟩
      · match j, ht with
        | 0, ht =>
          simp at ht; subst ht
          rcases zex h hx h1 h0 (fun b hh q e e2 => hd b hh q e (by rw [z1R, e2, Bool.true_or])) with ⟨-, e2, e3⟩ | ⟨id, e1, _⟩
          · exact ⟨u, rfl, .inl ⟨e2, e3⟩⟩
          · cases e1
        | j + 1, ht =>
          obtain ⟨y, y1, y2⟩ := r2 j t' (by simpa using ht)
          refine ⟨y, by simpa using y1, ?_⟩
          rcases y2 with y2 | ⟨y2, id, y3, y4⟩
          · exact .inl y2
          · exact .inr ⟨y2, id, by rw [y3]; congr 2; omega, y4⟩
      · obtain ⟨j, t', j1, j2, j3⟩ := r3 i id e
        exact ⟨j + 1, t', by omega, by simpa using j2, j3⟩
    · rename_i t d id ts' ds h1 h2
      cases ha
      obtain ⟨r1, r2, r3⟩ := z9k h h0 h2 hl' hv' (fun b hh q e e2 => hd b hh q e (by rw [z1R, e2, Bool.or_true]))
      rcases zex h hx h1 h0 (fun b hh q e e2 => hd b hh q e (by rw [z1R, e2, Bool.true_or])) with ⟨e1, _⟩ | ⟨id', e1, e2, e3, e4⟩
      · cases e1
      · cases e1
        refine ⟨by simp [r1], fun j t' ht => ?_, fun i id2 e => ?_⟩
        · match j, ht with
          | 0, ht =>
            simp at ht; subst ht
            exact ⟨u, rfl, .inr ⟨e2, id, rfl, e4⟩⟩
          | j + 1, ht =>
            obtain ⟨y, y1, y2⟩ := r2 j t' (by simpa using ht)
            refine ⟨y, by simpa using y1, ?_⟩
            rcases y2 with y2 | ⟨y2, id, y3, y4⟩
            · exact .inl y2
            · cases y3
        · cases e
          exact ⟨0, t, by omega, rfl, e2⟩
    · cases ha
def clB (r : T) (outs : List T) (io : Option (Nat × Nat)) : Bool := opn r || (match io with | some (i, _) => (match outs[i]? with | some t => opn t | none => false) | none => false)
def zcz (o : Option T) : T -> T
  | .vo _ cs' => (match o with | some (.os sz n cs) => if cs'.length = cs.length then .os sz n cs' else .dead | _ => .dead)
  | .vr cs' => (match o with | some (.os _ _ _) => .dead | _ => .vr cs')
  | .pr cs' => (match o with | some (.os _ _ _) => .dead | _ => .pr cs')
  | t => t
theorem zhG {w w' : World} {K K' : Nat -> z0a} {c c' : z0a} {R : Nat -> Value} {fr : Fr} {id : Nat} {t t' : T} {u : Value} (hh : zhM fr R id t u) (hob : ∀ t, z0w fr.ob id = some t -> TRep w K c (R id) t) (hz : SzK w w') (h' : TRep w' K' c' u t') : TRep w' K' c' (R id) (zcz (z0w fr.ob id) t') := by
  rcases hh with ⟨z1, z2, z3⟩ | ⟨sz, n, cs, off, g, z1, z2, z3, z4⟩
  · rw [z2] at h'
    have hr := hob t z1
    rw [z1]
    cases t' with
    | vo o' cs' =>
      simp only [zcz]
      split
      · rename_i sz n cs he
        cases he
        exfalso
        generalize R id = v at h' hr
        cases h' with
        | vo => cases hr
      · exact .dead _ _
    | vr cs' =>
      simp only [zcz]
      split
      · exact .dead _ _
      · exact h'
    | pr cs' =>
      simp only [zcz]
      split
      · exact .dead _ _
      · exact h'
    | _ => exact h'
  · rw [z1]
    have hr := hob _ z1
    subst z4
    cases h' with
    | dead => exact .dead _ _
    | sc _ _ hb => cases hb
    | vr => exact .dead _ _
    | pr => exact .dead _ _
    | vo _ _ _ cs' h2 =>
      simp only [zcz]
      split
      · rename_i hl
        exact hr.ofVo z3 hz rfl (.vo _ g off cs' h2) hl
      · exact .dead _ _
def ioF (fr : Fr) (deps : zeA) (outs : List T) : Option (Nat × Nat) -> Option Fr
  | none => some fr
  | some (i, id) => if deps.any (fun x => decide (x.1 = id)) then none else match outs[i]? with
    | some t' => some { fr with tm := z3k (z4r id) fr.tm, ob := z2N fr.ob id (zcz (z0w fr.ob id) t') }
    | none => none
def zl2 (d : Nat) : T -> A
  | .vr _ => .a d [] 0
  | _ => .h d []
def zlp (fr : Fr) (dst : Option Nat) (r : T) (io : Option (Nat × Nat)) : Option Fr :=
  match dst with
  | none => some fr
  | some d => if d < fr.nt /\ (io.map (·.2)) ≠ some d then
      (if z6p r then some { fr with tm := z9o fr.tm d (.one (.t none r)) } else some { fr with tm := z9o (z3k (kill d) fr.tm) d (.one (zl2 d r)), ob := z2N fr.ob d r })
    else none
def z6F (C : z0b) (wio : FuncId -> Nat -> Bool) (fr : Fr) (f : FuncId) (args : List E) (dst : Option Nat) : Option Fr :=
  match z9A fr (wio f) args 0 with
  | none => none
  | some (ts, deps, io) => match C f ts with
    | none => none
    | some (r, outs) => match (if deps.isEmpty || (!clB r outs io && !wio 777777 f) then some fr else z9a fr deps) with
      | none => none
      | some fr1 => match ioF fr1 deps outs io with
        | none => none
        | some fr2 => zlp fr2 dst r io
def zk4 (d : Nat) (io : Option (Nat × Nat)) : z0a -> z0a
  | [] => []
  | 0 :: s => (d + 2) :: s
  | 1 :: _ => [1]
  | (j + 2) :: s => match io with | some (i, id) => if j = i then (id + 2) :: s else [1] | none => [1]
def z5T (io : Option (Nat × Nat)) (c : z0a) : Prop := ∃ i id s, io = some (i, id) /\ c = (id + 2) :: s
theorem z3O (c : z0a) : ¬ z5T none c := fun ⟨_, _, _, e, _⟩ => by cases e
theorem zdk {P : Program} {I : World -> (Nat -> z0a) -> Prop} {C : z0b} {wio : FuncId -> Nat -> Bool} {w : World} {K : Nat -> z0a} {R G : Nat -> Value} {fr fr' : Fr} {a : Act} {o : Oper} {f : FuncId} {args : List E} {vs : List Value} {next : Act -> World -> Prop} {Q : Exit -> Act -> World -> Prop}
    (hI : EnvS I) (hC : z5X P I C) (h : FRep w K R G fr a) (hIw : I w K) (hrun0 : (callFunc f vs.toArray).run P w = .ok (.enter f vs.toArray) w -> (execOp a.eval o).run P w = .ok (.enter f vs.toArray) w) (hvl : vs.length = args.length) (hvr : ∀ (j : Nat) (e : E) (v : Value), args[j]? = some e -> vs[j]? = some v -> ERep w K R fr.ob e v) (hf : z6F C wio fr f args o.dst = some fr')
    (hn : ∀ a' w' K' R', FRep w' K' R' G fr' a' -> Step w K w' K' -> (∀ ts deps io, z9A fr (wio f) args 0 = some (ts, deps, io) -> ∀ b, b < w.heap.size -> ¬ z5T io (K b) -> (K' b = [] ∨ K' b = K b) /\ w'.heap[b]? = w.heap[b]?) -> next a' w') : o.wp P a w next Q := by
  unfold z6F at hf
  split at hf
  case h_1 => cases hf
  case h_2 ts deps io hargs =>
  split at hf
  case h_1 => cases hf
  case h_2 r outs hcf =>
  split at hf
  case h_1 => cases hf
  case h_2 fr1 hfz =>
  split at hf
  case h_1 => cases hf
  case h_2 fr2 hio =>
  have hok := hC f ts r outs hcf
  let vals : Array Value := vs.toArray
  have hrun : (execOp a.eval o).run P w = .ok (.enter f vals) w := hrun0 (hok.enter vals w)
  unfold Oper.wp
  rw [hrun]
  simp only [Oper.upon]
  obtain ⟨Kx, dx, x1, x2, x3, x4, x5, x6, x7, x8, x9, x10⟩ : ∃ Kx dx, FRep w Kx R G fr1 a /\ Step w K w Kx /\ (∀ b, K b = [] -> Kx b = []) /\ (∀ b hh q, K b = hh :: q -> z1z deps hh q = true -> Kx b = [] ∨ (Kx b = hh :: q /\ z1z dx hh q = true)) /\ (dx = [] ∨ clB r outs io = false) /\
      (∀ i, (∀ x ∈ deps, x.1 ≠ i) -> z0w fr1.ob i = z0w fr.ob i) /\ fr1.nt = fr.nt /\ (∀ b hh q, K b = hh :: q -> (∀ x ∈ deps, hh ≠ x.1 + 2) -> Kx b = K b) /\ (∀ x ∈ dx, x ∈ deps) /\ (∀ b, Kx b = [] ∨ Kx b = K b) := by
    split at hfz
    · rename_i hc
      cases hfz
      rw [Bool.or_eq_true] at hc
      rcases hc with hc | hc
      · have : deps = [] := by simpa using hc
        subst this
        exact ⟨K, [], h, Step.refl _ _, fun _ e => e, fun b hh q e hd => by simp [z1z] at hd, .inl rfl, fun _ _ => rfl, rfl, fun _ _ _ _ _ => rfl, fun _ h => h, fun _ => .inr rfl⟩
      · exact ⟨K, deps, h, Step.refl _ _, fun _ e => e, fun b hh q e hd => .inr ⟨e, hd⟩, .inr (by rw [Bool.and_eq_true] at hc; simpa using hc.1), fun _ _ => rfl, rfl, fun _ _ _ _ _ => rfl, fun _ h => h, fun _ => .inr rfl⟩
    · obtain ⟨K1, b1, b2, b3, b4, b5, b6, b7, b8⟩ := z8Z h hfz
      have hz : ∀ b, K1 b = [] ∨ K1 b = K b := fun b => by
        cases hk : K b with
        | nil => exact .inl (b3 b hk)
        | cons hh q =>
          rw [← hk]
          exact b5 b hh q hk
      exact ⟨K1, [], b1, b2, b3, fun b hh q e hd => .inl (b4 b hh q e hd), .inl rfl, b7, b8, b6, fun _ h => (by cases h), hz⟩
  let K0 : Nat -> z0a := fun b => zhB dx io (Kx b)
  have k00 : ∀ b, Kx b = [] -> K0 b = [] := fun b e => by show zhB dx io (Kx b) = []; rw [e]; rfl
  have k01 : ∀ b, K b = [] -> K0 b = [] := fun b e => k00 b (x3 b e)
  have k02 : ∀ b hh q, K b = hh :: q -> z1z deps hh q = true -> K0 b = [] := fun b hh q e hd => by
    rcases x4 b hh q e hd with e1 | ⟨e1, e2⟩
    · exact k00 b e1
    · show zhB dx io (Kx b) = []
      rw [e1]; simp [zhB, e2]
  obtain ⟨g1, g2, g3⟩ := z9k (K0 := K0) h k01 hargs hvl hvr k02
  have hioid : ∀ i id, io = some (i, id) -> (∀ x ∈ deps, x.1 ≠ id) /\ (∃ t, outs[i]? = some t /\ fr2 = { fr1 with tm := z3k (z4r id) fr1.tm, ob := z2N fr1.ob id (zcz (z0w fr1.ob id) t) }) := fun i id e => by
    subst e
    simp only [ioF] at hio
    split at hio
    · cases hio
    · rename_i hd
      split at hio
      · rename_i t' ht'
        cases hio
        exact ⟨fun x hx e => hd (List.any_eq_true.2 ⟨x, hx, by simpa using e⟩), t', ht', rfl⟩
      · cases hio
  have k03 : ∀ b i id s, io = some (i, id) -> Kx b = (id + 2) :: s -> K0 b = (i + 2) :: s := fun b i id s e e1 => by
    show zhB dx io (Kx b) = _
    rw [e1, e]
    have : z1z dx (id + 2) s = false := by
      cases hb : z1z dx (id + 2) s with
      | false => rfl
      | true =>
        simp only [z1z, List.any_eq_true, Bool.and_eq_true, decide_eq_true_eq] at hb
        obtain ⟨x, hx, hh, _⟩ := hb
        exact absurd (show x.1 = id by omega) ((hioid i id e).1 x (x9 x hx))
    simp [zhB, this]
  have k04 : ∀ b, ¬ z5T io (Kx b) -> K0 b = [] ∨ K0 b = [1] := fun b hb => by
    show zhB dx io (Kx b) = [] ∨ zhB dx io (Kx b) = [1]
    cases hk : Kx b with
    | nil => left; rfl
    | cons hh q =>
      simp only [zhB]
      split
      · left; rfl
      · cases io with
        | none => right; rfl
        | some x =>
          obtain ⟨i, id⟩ := x
          simp only
          split
          · rename_i e
            exact absurd ⟨i, id, q, rfl, by rw [hk, e]⟩ hb
          · right; rfl
  have k05 : dx = [] -> ∀ b, ¬ z5T io (Kx b) -> K0 b = [] -> Kx b = [] := fun hd b hb e => by
    cases hk : Kx b with
    | nil => rfl
    | cons hh q =>
      exfalso
      have e' : zhB dx io (Kx b) = [] := e
      rw [hk, hd] at e'
      simp only [zhB] at e'
      rw [if_neg (by simp [z1z])] at e'
      cases io with
      | none => cases e'
      | some x =>
        obtain ⟨i, id⟩ := x
        simp only at e'
        split at e' <;> cases e'
  refine (hok.calls w K0 vals (by simp [vals, g1, hvl]) (fun j t ht => ?_) (hI.keep hIw (Nat.le_refl _) fun b hb e => ⟨k01 b e, rfl⟩)).mono ?_
  · obtain ⟨x, y1, y2⟩ := g2 j t ht
    have hlt := (List.getElem?_eq_some_iff.1 y1).1
    have hv : vals.getD j undef = x := by
      simp [vals, Array.getD_eq_getD_getElem?, y1]
    rw [hv]
    unfold za1
    rcases y2 with ⟨z1, z2⟩ | ⟨z1, id, z2, z3⟩
    · rw [z1]; exact z2
    · rw [z1]
      simp only [if_true, Nat.zero_add] at z2 ⊢
      have hid := (hioid _ _ z2).1
      have hmv : ∀ t2, z0w fr.ob id = some t2 -> TRep w K0 (col j) (R id) t2 := fun t2 ht2 => by
        have hr := x1.ob id t2 (by rw [x6 id hid]; exact ht2)
        exact hr.move (fun b s hb hc hK => ⟨by simpa [col] using k03 b _ id s z2 (by simpa [col] using hK), rfl⟩) (fun b hb e => ⟨k00 b e, rfl⟩) (by simp [col]) (Nat.le_refl _)
      rcases z3 with ⟨q1, q2, _⟩ | ⟨sz, n, cs, off, g, q1, q2, q3, q4⟩
      · rw [q2]; exact hmv _ q1
      · rw [q2, q4]; exact (hmv _ q1).toVo q3 off
  · rintro e w' ⟨v, K', rfl, hres, hout, hst⟩
    simp only
    let d : Nat := o.dst.getD 0
    haveI hdec : ∀ b, Decidable (b < w.heap.size /\ ¬ z5T io (Kx b)) := fun b => Classical.propDecidable _
    let K2 : Nat -> z0a := fun b => if b < w.heap.size /\ ¬ z5T io (Kx b) then Kx b else zk4 d io (K' b)
    have e1 : ∀ b, b < w.heap.size -> ¬ z5T io (Kx b) -> K2 b = Kx b /\ K' b = K0 b /\ w'.heap[b]? = w.heap[b]? := fun b hb hn => by
      obtain ⟨q1, q2⟩ := hst.old b hb (k04 b hn)
      refine ⟨?_, q1, q2⟩
      show (if b < w.heap.size /\ ¬ z5T io (Kx b) then Kx b else zk4 d io (K' b)) = Kx b
      rw [if_pos ⟨hb, hn⟩]
    have e2 : ∀ b hh s, K' b = hh :: s -> hh ≠ 1 -> K2 b = zk4 d io (K' b) := fun b hh s he hne => by
      show (if b < w.heap.size /\ ¬ z5T io (Kx b) then Kx b else zk4 d io (K' b)) = _
      rw [if_neg]
      rintro ⟨hb, hn⟩
      obtain ⟨_, q1, _⟩ := e1 b hb hn
      rcases k04 b hn with q | q <;> rw [q, he] at q1
      · cases q1
      · cases q1; exact hne rfl
    have e3 : dx = [] -> ∀ b, K' b = [] -> K2 b = [] := fun hd b he => by
      show (if b < w.heap.size /\ ¬ z5T io (Kx b) then Kx b else zk4 d io (K' b)) = []
      split
      · rename_i hc
        obtain ⟨_, q1, _⟩ := e1 b hc.1 hc.2
        exact k05 hd b hc.2 (q1 ▸ he)
      · rw [he]; rfl
    have hnc : ∀ b, Kx b = [] ∨ Kx b = [1] -> ¬ z5T io (Kx b) := fun b hb ⟨i, id, s, _, e⟩ => by rcases hb with hb | hb <;> rw [e] at hb <;> simp at hb
    have hstep : Step w Kx w' K2 := ⟨hst.os, hst.tape, hst.output, hst.size, fun b hb hc => ⟨(e1 b hb (hnc b hc)).1, (e1 b hb (hnc b hc)).2.2⟩, hst.sz⟩
    have hsame : ∀ ts' deps' io', z9A fr (wio f) args 0 = some (ts', deps', io') -> ∀ b, b < w.heap.size -> ¬ z5T io' (K b) -> (K2 b = [] ∨ K2 b = K b) /\ w'.heap[b]? = w.heap[b]? := fun ts' deps' io' he b hb hn => by
      rw [hargs] at he
      cases he
      have hx : ¬ z5T io (Kx b) := by
        rcases x10 b with e | e
        · exact hnc b (.inl e)
        · rw [e]; exact hn
      obtain ⟨q1, _, q3⟩ := e1 b hb hx
      rw [q1]
      exact ⟨x10 b, q3⟩
    have hmove : ∀ (c c' : z0a) (u : Value) (t : T), TRep w' K' c u t -> c ≠ [] -> c' ≠ [] -> (∀ b s, K' b = c ++ s -> K2 b = c' ++ s) -> (dx = [] ∨ opn t = false) -> TRep w' K2 c' u t := fun c c' u t hr hc hc' hk hcl => by
      rcases hcl with hcl | hcl
      · exact hr.move (fun b s _ _ e => ⟨hk b s e, rfl⟩) (fun b _ e => ⟨e3 hcl b e, rfl⟩) (by simp [hc, hc']) (Nat.le_refl _)
      · exact hr.moveC hcl (fun b s _ _ e => ⟨hk b s e, rfl⟩) (by simp [hc, hc']) (Nat.le_refl _)
    have hclr : dx = [] ∨ opn r = false := x5.imp id fun h => by
      unfold clB at h
      rw [Bool.or_eq_false_iff] at h
      exact h.1
    have hr1 : TRep w' K2 (col d) v r := hmove [0] (col d) v r hres (by simp) (z0v d) (fun b s e => by
      have e' : K' b = 0 :: s := by simpa using e
      rw [e2 b 0 s e' (by decide), e']; rfl) hclr
    have hfr2 : FRep w' K2 R G fr2 a := by
      cases io with
      | none =>
        simp only [ioF, Option.some.injEq] at hio
        subst hio
        have hk : Keep w w' Kx K2 (fun _ => True) := ⟨fun b hb e => ⟨(e1 b hb (z3O _)).1.trans e, (e1 b hb (z3O _)).2.2⟩, fun b hb _ => ⟨(e1 b hb (z3O _)).1, (e1 b hb (z3O _)).2.2⟩, hst.size⟩
        exact x1.keep hk
      | some x =>
        obtain ⟨i, id⟩ := x
        obtain ⟨m1, t', m2, m3⟩ := hioid i id rfl
        rw [m3]
        have hnio : ∀ b i' s, Kx b = (i' + 2) :: s -> i' ≠ id -> ¬ z5T (some (i, id)) (Kx b) := fun b i' s e hne ⟨_, _, s', e2, e3⟩ => by
          cases e2
          rw [e] at e3; simp at e3; exact hne e3.1
        have hk : Keep w w' Kx K2 (But id) := ⟨fun b hb e => ⟨(e1 b hb (hnc b (.inl e))).1.trans e, (e1 b hb (hnc b (.inl e))).2.2⟩, fun b hb ⟨i', s, e, hne⟩ => ⟨(e1 b hb (hnio b i' s e hne)).1, (e1 b hb (hnio b i' s e hne)).2.2⟩, hst.size⟩
        refine x1.renew hk ?_
        obtain ⟨j, t, j1, j2, j3⟩ := g3 i id rfl
        obtain ⟨t2, p1, p2⟩ := hout j t j2 j3
        have hji : i = j := by omega
        subst hji
        rw [m2] at p1; cases p1
        obtain ⟨x, y1, y2⟩ := g2 i t j2
        have hv : vals.getD i undef = x := by
          simp [vals, Array.getD_eq_getD_getElem?, y1]
        rcases y2 with ⟨z1, z2⟩ | ⟨z1, id', z2, z3⟩
        · rw [z1] at j3; cases j3
        · rw [Nat.zero_add] at z2
          cases z2
          rw [hv] at p2
          have hid := (hioid _ _ rfl).1
          have z3' : zhM fr1 R id t x := by
            unfold zhM
            rw [x6 id hid]
            exact z3
          refine zhG (K := Kx) (c := col id) z3' (fun t2 ht2 => x1.ob id t2 ht2) hst.sz (hmove (col i) (col id) _ _ p2 (z0v _) (z0v _) (fun b s e => ?_) (x5.imp _root_.id fun h => ?_))
          · have e' : K' b = (i + 2) :: s := by simpa [col] using e
            rw [e2 b (i + 2) s e' (by omega), e']
            simp [zk4, col]
          · unfold clB at h
            rw [Bool.or_eq_false_iff] at h
            simpa [m2] using h.2
    unfold zlp at hf
    split at hf
    · rename_i hdst
      cases hf
      rw [hdst]
      exact hn a w' K2 R hfr2 (x2.trans hstep) hsame
    · rename_i d' hdst
      have hdd : d = d' := by show o.dst.getD 0 = d'; rw [hdst]; rfl
      split at hf
      case isFalse => cases hf
      case isTrue hc =>
      rw [hdst]
      split at hf
      · rename_i hp
        cases hf
        refine hn _ w' K2 R (hfr2.put hc.1 ⟨?_, fun _ e => by cases e⟩) (x2.trans hstep) hsame
        have := hr1.free hp []
        exact this
      · cases hf
        subst hdd
        have h3 := hfr2.replace (d := d) (w' := w') (K' := K2) (v := v) (t := r) ⟨fun b hb e => ⟨e, rfl⟩, fun b hb _ => ⟨rfl, rfl⟩, Nat.le_refl _⟩ hr1
        refine hn _ w' K2 _ (h3.put (d := d) (x := .one (zl2 d r)) (v := v) hc.1 ?_) (x2.trans hstep) hsame
        have hh : ARep w' K2 (z4t R d v) (z2N fr2.ob d r) (.h d []) v := ⟨by simp [z4t, nav], r, by simp [z0h], rfl⟩
        unfold zl2
        split
        · rename_i cs _
          cases hr1 with
          | vr c g arr2 arr e fz F hfz hc0 hK hg hl hF hh => exact ⟨.pointer (some ⟨g, 0, none⟩), g, by simp [z4t, nav], rfl, rfl, .vr cs, by simp [z0h], rfl⟩
        · exact hh
end
section
open Go.MapKept
def zkF : TypeDesc -> Option (Option IntKind)
  | .int k => some (some k)
  | .string => some none
  | _ => none
def z6x : Value -> Value -> Bool
  | .int _ a, .int _ b => decide (a = b)
  | .string a, .string b => decide (a = b)
  | _, _ => false
def z2D (k : Value) : List (Value × Value) -> Option Value
  | [] => none
  | (a, v) :: r => if z6x a k then some v else z2D k r
def zbD (k v : Value) : List (Value × Value) -> List (Value × Value)
  | [] => [(k, v)]
  | (a, u) :: r => if z6x a k then (k, v) :: r else (a, u) :: zbD k v r
theorem z3N {d : TypeDesc} {kk : Option IntKind} {v : Value} (hd : zkF d = some kk) (hv : ze2 kk v = true) : IsKey d v := by
  unfold zkF at hd
  split at hd
  · cases hd
    cases v <;> simp_all [ze2, IsKey]
  · cases hd
    cases v <;> simp_all [ze2, IsKey]
  · cases hd
theorem zh2 {kk : Option IntKind} {a b : Value} (ha : ze2 kk a = true) (hb : ze2 kk b = true) : z6x a b = true ↔ a = b := by
  cases kk <;> cases a <;> cases b <;> simp_all [ze2, z6x]
theorem z4N {d : TypeDesc} {kk : Option IntKind} {k : Value} (hd : zkF d = some kk) (hk : ze2 kk k = true) : ∀ (l : List MapEntry) (i : Nat), (∀ x ∈ l, ze2 kk x.key = true) ->
    (Instr.findNow d k l i = some none /\ z2D k (l.map fun e => (e.key, e.val)) = none /\ ∀ v, zbD k v (l.map fun e => (e.key, e.val)) = (l.map fun e => (e.key, e.val)) ++ [(k, v)]) ∨
    ∃ j e, Instr.findNow d k l i = some (some (i + j, e.val)) /\ l[j]? = some e /\ e.key = k /\ z2D k (l.map fun e => (e.key, e.val)) = some e.val /\ ∀ v, zbD k v (l.map fun e => (e.key, e.val)) = (l.map fun e => (e.key, e.val)).set j (k, v)
  | [], i, h => .inl ⟨rfl, rfl, fun _ => rfl⟩
  | e :: es, i, h => by
    have he := h e (.head _)
    obtain ⟨r, hr, hiff⟩ := sameNow_of_keys (z3N hd hk) (z3N hd he)
    have hke := zh2 he hk
    cases r with
    | true =>
      have e1 : e.key = k := (hiff.1 rfl).symm
      have e2 : z6x e.key k = true := hke.2 e1
      exact .inr ⟨0, e, by simp [Instr.findNow, hr], rfl, e1, by simp [z2D, e2], fun v => by simp [zbD, e2]⟩
    | false =>
      have e2 : z6x e.key k = false := by
        rw [← Bool.not_eq_true]; intro q; have := hiff.2 (hke.1 q).symm; cases this
      rcases z4N hd hk es (i + 1) (fun x hx => h x (.tail _ hx)) with ⟨h1, h2, h3⟩ | ⟨j, e', h1, h2, h3, h4, h5⟩
      · exact .inl ⟨by simp [Instr.findNow, hr, h1], by simp [z2D, e2, h2], fun v => by simp [zbD, e2, h3]⟩
      · exact .inr ⟨j + 1, e', by simp [Instr.findNow, hr, h1]; omega, by simpa using h2, h3, by simp [z2D, e2, h4], fun v => by simp [zbD, e2, h5]⟩
def zkn (fr : Fr) : E -> Option (Option Nat × Option IntKind × List (Value × Value))
  | .one (.t dep (.mr kk es)) => some (dep, kk, es)
  | .one (.h id p) => match z0w fr.ob id with
    | none => none
    | some root => match sub root p with
      | some (.mp kk es) => some (some id, kk, es)
      | some (.mr kk es) => some (none, kk, es)
      | _ => none
  | _ => none
theorem zbM {w : World} {K : Nat -> z0a} {R G : Nat -> Value} {fr : Fr} {a : Act} {e : E} {u : Value} {dep : Option Nat} {kk : Option IntKind} {es : List (Value × Value)} (h : FRep w K R G fr a) (he : ERep w K R fr.ob e u) (hr : zkn fr e = some (dep, kk, es)) :
    ∃ g ents clock, u = .map (some g) /\ frz K dep g = [] /\ w.heap[g]? = some (.map ents clock) /\ zfF kk ents es := by
  unfold zkn at hr
  split at hr
  · cases hr
    have h1 := he.1
    cases h1 with
    | mr _ g _ _ ents clock hK hg hh => exact ⟨g, ents, clock, rfl, hK, hg, hh⟩
  · rename_i id p
    split at hr
    case h_1 => cases hr
    case h_2 root hroot =>
    obtain ⟨n1, t, n2, n3⟩ := he
    split at hr
    · rename_i kk' es' hsub
      cases hr
      obtain ⟨v, e1, r⟩ := (h.ob id root hroot).sub (z0v id) hsub
      rw [n1] at e1; cases e1
      cases r with
      | mp _ g _ _ ents clock hc0 hK hg hh => exact ⟨g, ents, clock, rfl, by simp [frz, hK, col], hg, hh⟩
    · rename_i kk' es' hsub
      cases hr
      obtain ⟨v, e1, r⟩ := (h.ob id root hroot).sub (z0v id) hsub
      rw [n1] at e1; cases e1
      cases r with
      | mr _ g _ _ ents clock hK hg hh => exact ⟨g, ents, clock, rfl, hK, hg, hh⟩
    · cases hr
  · cases hr
def zfK (P : Program) (t : TypeId) : Option Value := match P.info? t with | some i => i.zero | none => none
theorem zgF {P : Program} {t : TypeId} {z : Value} (h : zfK P t = some z) (w : World) : (zeroValue t).run P w = .ok z w := by
  unfold zfK at h
  split at h
  · rename_i i hi
    simp [zeroValue, typeInfo, hi, h, Sem.run]
  · cases h
def zc9 (P : Program) (t : TypeId) : Option (Option IntKind × TypeId) :=
  match z1e P t with
  | some ⟨.map kt et, _, _, _⟩ => match z1e P kt with
    | some ki => match zkF ki.u with
      | some kk => some (kk, et)
      | none => none
    | none => none
  | _ => none
theorem z5h {P : Program} {t et : TypeId} {kk : Option IntKind} (h : zc9 P t = some (kk, et)) : ∃ kt d, P.underlying t = some (.map kt et) /\ P.underlying kt = some d /\ zkF d = some kk := by
  unfold zc9 at h
  split at h
  · rename_i kt et' s b z ht
    split at h
    · rename_i ki hki
      split at h
      · rename_i kk' hkk
        cases h
        exact ⟨kt, ki.u, (z1V ht).1, (z1V hki).1, hkk⟩
      · cases h
    · cases h
  · cases h
def zaB (P : Program) (M : Nat -> Bool) (fr : Fr) (t : TypeId) (x key : E) (ok : Bool) : Option E :=
  match zc9 P t with
  | none => none
  | some (kk, et) => match zfK P et with
    | none => none
    | some z => match zkn fr x with
      | none => none
      | some (dep, kk', es) => match rdV key with
        | none => none
        | some k => if kk = kk' /\ ze2 kk k = true /\ scB z = true /\ zde dep M = false then
            (if ok then some (.one (.t none (.tup [.sc ((z2D k es).getD z), .sc (.bool (z2D k es).isSome)]))) else some (scE ((z2D k es).getD z)))
          else none
theorem zco {k v : Value} : ∀ {es : List (Value × Value)}, z2D k es = some v -> ∃ x ∈ es, x.2 = v
  | [], h => by cases h
  | (a, u) :: r, h => by
    simp only [z2D] at h
    split at h
    · cases h; exact ⟨_, .head _, rfl⟩
    · obtain ⟨x, hx, e⟩ := zco h
      exact ⟨x, .tail _ hx, e⟩
theorem zf4 {P : Program} {w : World} {K : Nat -> z0a} {R G : Nat -> Value} {fr : Fr} {a : Act} {M : Nat -> Bool} {t : TypeId} {x key e : E} {u ku : Value} {ok : Bool} (h : FRep w K R G fr a) (hx : ERep w K R fr.ob x u) (hkey : ERep w K R fr.ob key ku) (hl : zaB P M fr t x key ok = some e) :
    ∃ v, ERep w K R fr.ob e v /\ ∀ w', Stay w w' K M -> (Instr.lookup t u ku ok).run P w' = .ok v w' := by
  unfold zaB at hl
  split at hl
  case h_1 => cases hl
  case h_2 kk et ht =>
  split at hl
  case h_1 => cases hl
  case h_2 z hz =>
  split at hl
  case h_1 => cases hl
  case h_2 dep kk' es hrd =>
  split at hl
  case h_1 => cases hl
  case h_2 k hk =>
  split at hl
  case isFalse => cases hl
  case isTrue hc =>
  obtain ⟨rfl, hkb, hzb, hdep⟩ := hc
  obtain ⟨kt, d, u1, u2, u3⟩ := z5h ht
  obtain ⟨rfl, -⟩ := z0l hkey hk
  obtain ⟨g, ents, clock, rfl, hKg, hg, hm1, hm2⟩ := zbM h hx hrd
  subst hm1
  have hks : ∀ x ∈ ents.toList, ze2 kk x.key = true := fun x hx => (hm2 (x.key, x.val) (List.mem_map.2 ⟨x, hx, rfl⟩)).1
  have hstay : ∀ w', Stay w w' K M -> w'.heap[g]? = some (.map ents clock) := fun w' hst => by
    have := hst.dep hdep (z0s hg) hKg
    rw [this]; exact hg
  have hfv : ∀ v, z2D ku (ents.toList.map fun e => (e.key, e.val)) = some v -> scB v = true := fun v hv => by
    obtain ⟨x, hx, rfl⟩ := zco hv
    exact (hm2 x hx).2
  have hres : scB ((z2D ku (ents.toList.map fun e => (e.key, e.val))).getD z) = true := by
    cases hfd : z2D ku (ents.toList.map fun e => (e.key, e.val)) with
    | none => exact hzb
    | some v => exact hfv v hfd
  have hrun : ∀ w', Stay w w' K M -> (Instr.lookup t (.map (some g)) ku ok).run P w' = .ok (if ok then .tuple #[(z2D ku (ents.toList.map fun e => (e.key, e.val))).getD z, .bool (z2D ku (ents.toList.map fun e => (e.key, e.val))).isSome] else (z2D ku (ents.toList.map fun e => (e.key, e.val))).getD z) w' := fun w' hst => by
    have hb := hstay w' hst
    rcases z4N u3 hkb ents.toList 0 hks with ⟨h1, h2, -⟩ | ⟨j, e', h1, h2, h3, h4, -⟩
    · rw [h2]
      simp only [Instr.lookup, Sem.run_bind, run_underlying u1, Go.MapKept.run_getObj_map hb, Result.andThen_ok, Sem.run_pure]
      rw [run_checkKey u2 (z3N u3 hkb) _ 9999]
      simp only [Result.andThen_ok, run_findKey u2 h1, zgF hz, Sem.run_bind, Sem.run_pure]
      rfl
    · rw [h4]
      simp only [Instr.lookup, Sem.run_bind, run_underlying u1, Go.MapKept.run_getObj_map hb, Result.andThen_ok, Sem.run_pure]
      rw [run_checkKey u2 (z3N u3 hkb) _ 9999]
      simp only [Result.andThen_ok, run_findKey u2 h1, Sem.run_bind, Sem.run_pure]
      rfl
  cases ok with
  | true =>
    simp only [if_true, Option.some.injEq] at hl
    subst hl
    refine ⟨_, ⟨?_, fun _ e => by cases e⟩, hrun⟩
    refine .tup _ _ _ (fun j => if j = 0 then (z2D ku (ents.toList.map fun e => (e.key, e.val))).getD z else .bool (z2D ku (ents.toList.map fun e => (e.key, e.val))).isSome) rfl (fun j hj => ?_) (fun j t ht => ?_)
    · match j, hj with
      | 0, _ => rfl
      | 1, _ => rfl
    · match j, ht with
      | 0, ht => cases ht; exact .sc _ _ hres
      | 1, ht => cases ht; exact .sc _ _ rfl
  | false =>
    simp only [Bool.false_eq_true, if_false, Option.some.injEq] at hl
    subst hl
    exact ⟨_, z1s hres, fun w' hst => by simpa using hrun w' hst⟩
def zaz (P : Program) (M : Nat -> Bool) (fr : Fr) (t : TypeId) (x : E) : Option E :=
  match zc9 P t with
  | none => none
  | some _ => match zkn fr x with
    | none => none
    | some (dep, _, es) => if zde dep M = false then some (scE (.int .i64 es.length)) else none
theorem zf3 {P : Program} {w : World} {K : Nat -> z0a} {R G : Nat -> Value} {fr : Fr} {a : Act} {M : Nat -> Bool} {t : TypeId} {x e : E} {u : Value} (h : FRep w K R G fr a) (hx : ERep w K R fr.ob x u) (hl : zaz P M fr t x = some e) :
    ∃ v, ERep w K R fr.ob e v /\ ∀ w', Stay w w' K M -> ∀ ty, (Builtin.len_ #[t] ty #[u]).run P w' = .ok v w' := by
  unfold zaz at hl
  split at hl
  case h_1 => cases hl
  case h_2 q ht =>
  split at hl
  case h_1 => cases hl
  case h_2 dep kk es hrd =>
  split at hl
  case isFalse => cases hl
  case isTrue hdep =>
  cases hl
  obtain ⟨kk', et⟩ := q
  obtain ⟨kt, d, u1, u2, u3⟩ := z5h ht
  obtain ⟨g, ents, clock, rfl, hKg, hg, hm1, hm2⟩ := zbM h hx hrd
  refine ⟨_, z1s rfl, fun w' hst ty => ?_⟩
  have hb : w'.heap[g]? = some (.map ents clock) := by rw [hst.dep hdep (z0s hg) hKg]; exact hg
  have hlen : es.length = ents.size := by rw [← hm1]; simp
  simp [Builtin.len_, Sem.run_bind, run_underlying u1, Go.MapKept.run_getObj_map hb, Result.andThen_ok, Sem.run_pure, goInt, hlen]
def zcg (id : Nat) : A -> A
  | .t (some i) x => if i = id then .dead else .t (some i) x
  | .ea (some i) cs o => if i = id then .dead else .ea (some i) cs o
  | x => x
theorem FRep.mapset {w w' : World} {K : Nat -> z0a} {R G : Nat -> Value} {fr : Fr} {a : Act} {id : Nat} {p : List Nat} {root root' : T} {kk : Option IntKind} {es es' : List (Value × Value)} {g : Nat} {ents ents' : Array MapEntry} {clock clock' : Nat}
    (h : FRep w K R G fr a) (hroot : z0w fr.ob id = some root) (hbox : sub root p = some (.mp kk es)) (hupd : upd root p (.mp kk es') = some root') (hnav : nav w (R id) p = some (.map (some g)))
    (hg : w.heap[g]? = some (.map ents clock)) (hg' : w'.heap[g]? = some (.map ents' clock')) (hh : zfF kk ents' es') (hsz : w'.heap.size = w.heap.size) (hoth : ∀ b, b ≠ g -> w'.heap[b]? = w.heap[b]?) :
    FRep w' K R G { fr with tm := z3k (zcg id) fr.tm, ob := z2N fr.ob id root' } a := by
  have hrt := h.ob id root hroot
  obtain ⟨hv2, hnav2, hrep⟩ := hrt.sub (z0v id) hbox
  rw [hnav] at hnav2; cases hnav2
  have hKg : K g = col id ++ p := by cases hrep with | mp _ g _ _ ents clock hc0 hK hg hh => exact hK
  have hne : ∀ b i s, K b = (i + 2) :: s -> i ≠ id -> b ≠ g := fun b i s e1 e2 e3 => by
    subst e3; rw [hKg] at e1; simp [col] at e1; exact e2 e1.1.symm
  have hne0 : ∀ b, K b = [] -> b ≠ g := fun b e1 e3 => by subst e3; rw [hKg] at e1; simp [col] at e1
  have hfro : ∀ b, b < w.heap.size -> K b = [] -> K b = [] /\ w'.heap[b]? = w.heap[b]? := fun b hb e1 => ⟨e1, hoth b (hne0 b e1)⟩
  have hcell : ∀ gb j, w'.cell? ⟨gb, j, none⟩ = w.cell? ⟨gb, j, none⟩ := fun gb j => by
    by_cases e1 : gb = g
    · subst e1; simp [World.cell?, hg, hg']
    · exact z0m (hoth gb e1) j
  have hway : ∀ i t q, z0w fr.ob i = some t -> (sub t q).isSome -> nav w' (R i) q = nav w (R i) q := fun i t q ho hs =>
    z3x (h.ob i t ho) (z0v i) hs fun r j s gb hq hKb hb => hcell gb j
  have hsub : ∀ q, (sub root q).isSome -> (sub root' q).isSome := fun q hs => by
    by_cases hp : p <+: q
    · obtain ⟨s, rfl⟩ := hp
      rw [z4f hupd]
      rw [z2y hbox] at hs
      cases s with
      | nil => simp [sub]
      | cons j s => simp [sub, zd4] at hs
    · exact z1C hupd hp hs
  have hdep : ∀ i, i ≠ id -> ∀ b, b < w.heap.size -> frz K (some i) b = [] -> frz K (some i) b = [] /\ w'.heap[b]? = w.heap[b]? := fun i hi b hb e1 => by
    refine ⟨e1, ?_⟩
    simp only [frz] at e1
    split at e1
    · rename_i hh
      obtain ⟨s, hs⟩ : ∃ s, K b = (i + 2) :: s := by
        cases hk : K b with
        | nil => rw [hk] at hh; cases hh
        | cons a s => rw [hk] at hh; simp at hh; subst hh; exact ⟨s, rfl⟩
      exact hoth b (hne b i s hs hi)
    · exact (hfro b hb e1).2
  have hobi : ∀ i, i ≠ id -> z0w (z2N fr.ob id root') i = z0w fr.ob i := fun i hi => by rw [z0h, if_neg (fun e => hi e.symm)]
  refine ⟨fun i => ?_, fun i t ho => ?_, h.nt, h.df⟩
  · show ERep w' K R (z2N fr.ob id root') (z0W (z3k (zcg id) fr.tm) i) _
    rw [z2X _ rfl]
    refine (h.tm i).map _ fun x u hx => ?_
    cases x with
    | dead => trivial
    | k v => exact hx
    | t dep x =>
      cases dep with
      | none => exact ⟨TRep.fz hx.1 hfro (by omega), fun _ e => by cases e⟩
      | some i =>
        by_cases hi : i = id
        · simp only [zcg, if_pos hi]; trivial
        · simp only [zcg, if_neg hi]
          exact ⟨TRep.fz hx.1 (fun b hb e1 => hdep i hi b hb e1) (by omega), fun _ e => by cases e; rw [hobi i hi]; exact hx.2 i rfl⟩
    | h i q =>
      obtain ⟨n1, t, n2, n3⟩ := hx
      refine ⟨by rw [hway i t q n2 n3]; exact n1, ?_⟩
      by_cases hi : i = id
      · subst hi
        rw [hroot] at n2; cases n2
        exact ⟨root', by simp [z0h], hsub q n3⟩
      · exact ⟨t, by rw [hobi i hi]; exact n2, n3⟩
    | a i q o =>
      obtain ⟨hv, g, n1, n4, n5, t, n2, n3⟩ := hx
      refine ⟨hv, g, by rw [hway i t q n2 n3]; exact n1, n4, n5, ?_⟩
      by_cases hi : i = id
      · subst hi
        rw [hroot] at n2; cases n2
        exact ⟨root', by simp [z0h], hsub q n3⟩
      · exact ⟨t, by rw [hobi i hi]; exact n2, n3⟩
    | tf n cs => exact ⟨hx.1, TRep.fz hx.2 hfro (by omega)⟩
    | ea dep cs o =>
      obtain ⟨g, o, F, e1, e2, e3, e4, e5, e6⟩ := hx
      cases dep with
      | none => exact ⟨g, o, F, e1, e2, by omega, fun j hj => by rw [hcell]; exact e4 j hj, fun j t ht => TRep.fz (e5 j t ht) hfro (by omega), fun _ e => by cases e⟩
      | some i =>
        by_cases hi : i = id
        · simp only [zcg, if_pos hi]; trivial
        · simp only [zcg, if_neg hi]
          exact ⟨g, o, F, e1, e2, by omega, fun j hj => by rw [hcell]; exact e4 j hj, fun j t ht => TRep.fz (e5 j t ht) (fun b hb e1 => hdep i hi b hb e1) (by omega), fun _ e => by cases e; rw [hobi i hi]; exact e6 i rfl⟩
  · rw [z0h] at ho
    split at ho
    · rename_i e1
      subst e1; cases ho
      refine TRep.upd hrt (z0v id) hnav hupd ⟨hfro, fun b hb ⟨s, e1, hs⟩ => ?_, by omega⟩ (.mp _ g kk es' ents' clock' (by simp [col]) hKg hg' hh)
      have hb' : b ≠ g := fun e2 => by subst e2; rw [hKg] at e1; exact hs (by rw [List.append_cancel_left e1]; exact List.prefix_rfl)
      exact ⟨rfl, hoth b hb'⟩
    · rename_i e1
      refine (h.ob i t ho).keep (D := But id) ⟨hfro, fun b hb ⟨j, s, e2, hj⟩ => ⟨rfl, hoth b (hne b j s e2 hj)⟩, by omega⟩ (fun s _ => ⟨i, s, rfl, fun e => e1 e.symm⟩)
def z8O (P : Program) (fr : Fr) (t : TypeId) (m key val : E) : Option Fr :=
  match zc9 P t with
  | none => none
  | some (kk, _) => match m with
    | .one (.h id p) => match z0w fr.ob id with
      | none => none
      | some root => match sub root p with
        | some (.mp kk' es) => match rdV key, rdV val with
          | some k, some v => if kk = kk' /\ ze2 kk k = true then (match upd root p (.mp kk (zbD k v es)) with
              | some root' => some { fr with tm := z3k (zcg id) fr.tm, ob := z2N fr.ob id root' }
              | none => none) else none
          | _, _ => none
        | _ => none
    | _ => none
theorem z9R {P : Program} {w : World} {K : Nat -> z0a} {R G : Nat -> Value} {fr fr' : Fr} {a : Act} {t : TypeId} {m key val : E} {um uk uv : Value} (h : FRep w K R G fr a) (hm : ERep w K R fr.ob m um) (hk : ERep w K R fr.ob key uk) (hv : ERep w K R fr.ob val uv) (hf : z8O P fr t m key val = some fr') :
    ∃ w', (Instr.mapUpdate t um uk uv).run P w = .ok () w' /\ FRep w' K R G fr' a /\ Step w K w' K /\ ∀ b i s, K b = (i + 2) :: s -> (∀ id p, m = .one (.h id p) -> i ≠ id) -> w'.heap[b]? = w.heap[b]? := by
  unfold z8O at hf
  split at hf
  case h_1 => cases hf
  case h_2 kk et ht =>
  split at hf
  case h_2 => cases hf
  case h_1 id p =>
  split at hf
  case h_1 => cases hf
  case h_2 root hroot =>
  split at hf
  case h_2 => cases hf
  case h_1 kk' es hsub =>
  split at hf
  case h_2 => cases hf
  case h_1 k v hrk hrv =>
  split at hf
  case isFalse => cases hf
  case isTrue hc =>
  obtain ⟨rfl, hkb⟩ := hc
  split at hf
  case h_2 => cases hf
  case h_1 root' hupd =>
  cases hf
  obtain ⟨rfl, -⟩ := z0l hk hrk
  obtain ⟨rfl, hvb⟩ := z0l hv hrv
  obtain ⟨kt, d, u1, u2, u3⟩ := z5h ht
  obtain ⟨n1, t0, n2, n3⟩ := hm
  obtain ⟨v0, e1, r⟩ := (h.ob id root hroot).sub (z0v id) hsub
  rw [n1] at e1; cases e1
  obtain ⟨g, ents, clock, rfl, hKg, hg, hm1, hm2⟩ : ∃ g ents clock, um = .map (some g) /\ K g = col id ++ p /\ w.heap[g]? = some (.map ents clock) /\ zfF kk ents es := by
    cases r with
    | mp _ g _ _ ents clock hc0 hK hg hh => exact ⟨g, ents, clock, rfl, hK, hg, hh⟩
  have hks : ∀ x ∈ ents.toList, ze2 kk x.key = true := fun x hx => (hm2 (x.key, x.val) (by rw [← hm1]; exact List.mem_map.2 ⟨x, hx, rfl⟩)).1
  have hkey := z3N u3 hkb
  have main : ∃ ents' clock', (Instr.mapUpdate t (.map (some g)) uk uv).run P w = .ok () { w with heap := w.heap.setIfInBounds g (.map ents' clock') } /\ zfF kk ents' (zbD uk uv es) := by
    rcases z4N u3 hkb ents.toList 0 hks with ⟨h1, h2, h3⟩ | ⟨j, e', h1, h2, h3, h4, h5⟩
    · refine ⟨ents.push { key := uk, val := uv, born := clock }, clock + 1, ?_, ?_, ?_⟩
      · simp only [Instr.mapUpdate, Sem.run_bind, run_underlying u1, Go.MapKept.run_getObj_map hg, Result.andThen_ok]
        rw [run_checkKey u2 hkey _ 9999]
        simp only [Result.andThen_ok, run_findKey u2 h1]
        exact run_setObj_map _ hg
      · rw [← hm1, h3]; simp
      · rw [← hm1, h3]
        intro x hx
        rcases List.mem_append.1 hx with hx | hx
        · exact hm2 x (by rw [← hm1]; exact hx)
        · simp at hx; subst hx; exact ⟨hkb, hvb⟩
    · have hj : ents[j]? = some e' := by simpa using h2
      refine ⟨ents.modify j fun e => { e with key := uk, val := uv }, clock, ?_, ?_, ?_⟩
      · simp only [Instr.mapUpdate, Sem.run_bind, run_underlying u1, Go.MapKept.run_getObj_map hg, Result.andThen_ok]
        rw [run_checkKey u2 hkey _ 9999]
        simp only [Result.andThen_ok, run_findKey u2 h1, Nat.zero_add, hj, Option.map_some, Option.getD_some, h3, Sem.run_bind, run_keyThatStays hkey]
        exact run_setObj_map _ hg
      · rw [← hm1, h5]
        apply List.ext_getElem?
        intro i
        simp only [List.getElem?_map, Array.getElem?_toList, Array.getElem?_modify, List.getElem?_set]
        by_cases e : j = i
        · subst e
          have : j < ents.size := (Array.getElem?_eq_some_iff.1 hj).1
          simp [hj, this]
        · simp [e]
      · rw [← hm1, h5]
        intro x hx
        rcases List.mem_or_eq_of_mem_set hx with hx | hx
        · exact hm2 x (by rw [← hm1]; exact hx)
        · subst hx; exact ⟨hkb, hvb⟩
  obtain ⟨ents', clock', hrun, hmi⟩ := main
  have hs := heap_set (o' := .map ents' clock') hg
  refine ⟨_, hrun, h.mapset hroot hsub hupd n1 hg hs.1 hmi (by simp) (fun b hb => hs.2 b hb), ⟨rfl, rfl, rfl, by simp, fun b hb hc => ⟨rfl, hs.2 b (fun e => ?_)⟩, fun b arr e fz hb => ⟨arr, e, fz, (hs.2 b (fun e => by subst e; rw [hg] at hb; cases hb)).trans hb, rfl⟩⟩, fun b i s hb hi => hs.2 b (fun e => ?_)⟩
  · subst e; rw [hKg] at hc; rcases hc with hc | hc <;> simp [col] at hc
  · subst e; rw [hKg] at hb; simp [col] at hb; exact hi id p rfl hb.1.symm
def zjE : Option E -> Bool
  | none => true
  | some e => match rdV e with | some (.int _ _) => true | _ => false
def z7X (P : Program) (fr : Fr) (t : TypeId) (r : Option E) (d : Nat) : Option Fr :=
  match zc9 P t with
  | none => none
  | some (kk, _) => if d < fr.nt /\ zjE r = true then
      some { fr with tm := z9o (z3k (kill d) fr.tm) d (.one (.h d [])), ob := z2N fr.ob d (.mp kk []) } else none
theorem zd2 {P : Program} {w : World} {K : Nat -> z0a} {R G : Nat -> Value} {fr fr' : Fr} {a : Act} {t : TypeId} {r : Option E} {ur : Option Value} {d : Nat} (h : FRep w K R G fr a) (hr : zk1 w K R fr.ob r ur) (hf : z7X P fr t r d = some fr') :
    ∃ v w', (Instr.makeMap t ur).run P w = .ok v w' /\ (∃ K' R', FRep w' K' R' G fr' (a.put (some d) v) /\ Step w K w' K') /\ ∀ b, b < w.heap.size -> w'.heap[b]? = w.heap[b]? := by
  unfold z7X at hf
  split at hf
  case h_1 => cases hf
  case h_2 kk et ht =>
  split at hf
  case isFalse => cases hf
  case isTrue hc =>
  obtain ⟨hd, hc⟩ := hc
  cases hf
  obtain ⟨kt, dd, u1, u2, u3⟩ := z5h ht
  have hnew := NewB.alloc w (.map #[] 0)
  have hrun : (Instr.makeMap t ur).run P w = .ok (.map (some w.heap.size)) { w with heap := w.heap.push (.map #[] 0) } := by
    cases ur with
    | none => simp [Instr.makeMap, newObj, Sem.run]
    | some v =>
      cases r with
      | none => exact absurd hr id
      | some e =>
        simp only [zjE] at hc
        split at hc
        · rename_i k n he
          obtain ⟨rfl, -⟩ := z0l hr he
          have h2 : (asInt (.int k n)).run P w = .ok n w := by simp [asInt, asIntOf]
          simp only [Instr.makeMap, Sem.run_bind, run_underlying u1, Result.andThen_ok, h2]
          simp [newObj, Sem.run]
        · cases hc
  refine ⟨_, _, hrun, ?_, fun b hb => hnew.old hb⟩
  have h2 := h.keep (hnew.keep (c := col d))
  have h3 := h2.replace (d := d) (v := .map (some w.heap.size)) (t := .mp kk []) ⟨fun b hb e => ⟨e, rfl⟩, fun b hb _ => ⟨rfl, rfl⟩, Nat.le_refl _⟩ (.mp _ w.heap.size kk [] #[] 0 (z0v d) (by simp) hnew.new ⟨rfl, fun x hx => by cases hx⟩)
  refine ⟨_, _, h3.put (d := d) (x := .one (.h d [])) hd ⟨by simp [z4t, nav], .mp kk [], by simp [z0h], rfl⟩, hnew.step⟩
def zlf : E -> Option T
  | .one (.k v) => some (z5A false v)
  | .one (.t none x) => some x
  | .one (.ea none cs 0) => some (.pr cs)
  | _ => none
def zhz (fr : Fr) : List Operand -> Option (List T)
  | [] => some []
  | x :: xs => match zlf (opE fr x), zhz fr xs with | some t, some ts => some (t :: ts) | _, _ => none
def z6s (fr : Fr) (fn : Fn) (first captured : List Operand) : Option E :=
  match fn, first with
  | .func f, [] => (match captured with
    | [] => some (scE (.func (.func f) #[] #[]))
    | _ => match zhz fr captured with | some ts => some (.one (.t none (.cl f ts))) | none => none)
  | _, _ => none
theorem ziI {w : World} {K : Nat -> z0a} {R : Nat -> Value} {ob : List (Nat × T)} {e : E} {u : Value} {t : T} (h : ERep w K R ob e u) (hc : zlf e = some t) : TRep w K [] u t := by
  unfold zlf at hc
  split at hc
  · cases hc
    rename_i v
    obtain rfl : u = v := h
    exact z3c _ _ _ _ _
  · cases hc; exact h.1
  · cases hc
    obtain ⟨g, o, F, h1, h2, h3, h4, h5, h6⟩ := h
    rw [h1]
    exact .pr [] g o _ F h2 h3 h4 h5
  · cases hc
theorem zcv {w : World} {K : Nat -> z0a} {R G : Nat -> Value} {fr : Fr} {a : Act} (h : FRep w K R G fr a) : ∀ {xs : List Operand} {ts : List T}, zhz fr xs = some ts -> ts.length = xs.length /\ ∀ (j : Nat) (t : T), ts[j]? = some t -> ∃ x, xs[j]? = some x /\ TRep w K [] (a.eval x) t
  | [], ts, hc => by cases hc; exact ⟨rfl, fun j t ht => by simp at ht⟩
  | x :: xs, ts, hc => by
    simp only [zhz] at hc
    split at hc
    · rename_i t ts' h1 h2
      cases hc
      obtain ⟨r1, r2⟩ := zcv h h2
      refine ⟨by simp [r1], fun j t' ht => ?_⟩
      match j, ht with
      | 0, ht => simp at ht; subst ht; exact ⟨x, rfl, ziI (h.opE x) h1⟩
      | j + 1, ht => obtain ⟨y, y1, y2⟩ := r2 j t' (by simpa using ht); exact ⟨y, by simpa using y1, y2⟩
    · cases hc
theorem zca {w : World} {K : Nat -> z0a} {R G : Nat -> Value} {fr : Fr} {a : Act} {fn : Fn} {first captured : List Operand} {e : E} (h : FRep w K R G fr a) (hf : z6s fr fn first captured = some e) :
    ERep w K R fr.ob e (.func fn (first.map a.eval).toArray (captured.map a.eval).toArray) := by
  unfold z6s at hf
  split at hf
  · rename_i f
    split at hf
    · cases hf; exact z1s rfl
    · split at hf
      · rename_i ts hts
        cases hf
        obtain ⟨r1, r2⟩ := zcv h hts
        refine ⟨.cl _ f _ _ (fun j => (captured.map a.eval).getD j undef) (by simp [r1]) (fun j hj => ?_) (fun j t ht => ?_), fun _ e => by cases e⟩
        · have : j < captured.length := by omega
          simp [List.getD, this]
        · obtain ⟨x, x1, x2⟩ := r2 j t ht
          have : (captured.map a.eval).getD j undef = a.eval x := by simp [List.getD, x1]
          rw [this]; exact x2
      · cases hf
  · cases hf
def z5U (fr : Fr) (x : Operand) : Option (FuncId × List T) :=
  match opE fr x with
  | .one (.t none (.sc (.func (.func f) fs cs))) => if fs.isEmpty && cs.isEmpty then some (f, []) else none
  | .one (.k (.func (.func f) fs cs)) => if fs.isEmpty && cs.isEmpty then some (f, []) else none
  | .one (.t none (.cl f ts)) => some (f, ts)
  | _ => none
theorem zcx {w : World} {K : Nat -> z0a} {R G : Nat -> Value} {fr : Fr} {a : Act} {x : Operand} {f : FuncId} {ts : List T} (h : FRep w K R G fr a) (hc : z5U fr x = some (f, ts)) :
    ∃ vs : List Value, a.eval x = .func (.func f) #[] vs.toArray /\ vs.length = ts.length /\ ∀ (j : Nat) (t : T) (v : Value), ts[j]? = some t -> vs[j]? = some v -> TRep w K [] v t := by
  have hx := h.opE x
  unfold z5U at hc
  split at hc
  · rename_i f' fs cs he
    rw [he] at hx
    split at hc
    · rename_i hb
      cases hc
      simp only [Bool.and_eq_true, Array.isEmpty_iff] at hb
      obtain ⟨rfl, rfl⟩ := hb
      have := hx.1.sc_eq
      exact ⟨[], this, rfl, fun j t v ht => by simp at ht⟩
    · cases hc
  · rename_i f' fs cs he
    rw [he] at hx
    split at hc
    · rename_i hb
      cases hc
      simp only [Bool.and_eq_true, Array.isEmpty_iff] at hb
      obtain ⟨rfl, rfl⟩ := hb
      exact ⟨[], hx, rfl, fun j t v ht => by simp at ht⟩
    · cases hc
  · rename_i f' ts' he
    rw [he] at hx
    cases hc
    obtain ⟨h1, -⟩ := hx
    generalize a.eval x = u at h1
    cases h1 with
    | cl _ _ vs _ F hl hF hh =>
      refine ⟨vs.toList, by simp, by simp [hl], fun j t v ht hv => ?_⟩
      have hlt := (List.getElem?_eq_some_iff.1 ht).1
      have e1 := hF j hlt
      rw [Array.getElem?_toList, e1] at hv
      cases hv
      exact hh j t ht
  · cases hc
end
section
def zd1 (P : Program) (M : Nat -> Bool) (fr : Fr) (c : Call) : Option E :=
  match c.callee, c.args.toList, c.argTypes.toList with
  | .builtin .len, [x], [t] => zaz P M fr t (opE fr x)
  | _, _, _ => none
def z4A (P : Program) (M : Nat -> Bool) (fr : Fr) (op : Op) : Option E :=
  match op with
  | .build t parts => z5C P fr t parts.toList
  | .lookup t x i ok => zaB P M fr t (opE fr x) (opE fr i) ok
  | .makeFunc fn first captured => z6s fr fn first.toList captured.toList
  | .call c => (match z4z P M fr (.call c) with | some e => some e | none => zd1 P M fr c)
  | op => z4z P M fr op
theorem z5f {P : Program} {w : World} {K : Nat -> z0a} {R G : Nat -> Value} {fr : Fr} {a : Act} {M : Nat -> Bool} {o : Oper} {e : E} (h : FRep w K R G fr a) (hq : z4A P M fr o.op = some e) :
    ∃ v, ERep w K R fr.ob e v /\ ∀ w', Stay w w' K M -> (execOp a.eval o).run P w' = .ok (.value v) w' := by
  have lift : ∀ {s : Sem Value} {v : Value} {w' : World}, s.run P w' = .ok v w' -> (do pure (Next.value (← s)) : Sem Next).run P w' = .ok (.value v) w' := fun {s v w'} hs => by
    simp only [Sem.run_bind, hs, Result.andThen_ok, Sem.run_pure]
  unfold z4A at hq
  split at hq
  · rename_i t parts hop
    obtain ⟨v, h1, h2⟩ := zhD h hq
    refine ⟨v, h1, fun w' _ => ?_⟩
    have : parts.map (fun (x : Nat × Operand) => (x.1, a.eval x.2)) = (parts.toList.map fun (i, x) => (i, a.eval x)).toArray := by
      apply Array.ext'; simp
    simp only [execOp, hop]
    rw [this]
    simp only [Sem.run_bind, h2, Result.andThen_ok, Sem.run_pure]
  · rename_i t x i ok hop
    obtain ⟨v, h1, h2⟩ := zf4 h (h.opE x) (h.opE i) hq
    exact ⟨v, h1, fun w' hst => by simp only [execOp, hop]; exact lift (h2 w' hst)⟩
  · rename_i fn first captured hop
    refine ⟨_, zca h hq, fun w' _ => ?_⟩
    have e1 : (first.toList.map a.eval).toArray = first.map a.eval := by apply Array.ext'; simp
    have e2 : (captured.toList.map a.eval).toArray = captured.map a.eval := by apply Array.ext'; simp
    rw [e1, e2]
    simp only [execOp, hop, Instr.makeFunc, Sem.run_bind, Sem.run_pure, Result.andThen_ok]
  · rename_i c hop
    split at hq
    · rename_i e' he'
      cases hq
      exact zbN h (by rw [hop]; exact he')
    · unfold zd1 at hq
      split at hq
      · rename_i x t hc hxs hts
        obtain ⟨v, h1, h2⟩ := zf3 h (h.opE x) hq
        refine ⟨v, h1, fun w' hst => ?_⟩
        obtain ⟨callee, args, ats⟩ := c
        simp only at hc hxs hts
        subst hc
        obtain rfl : args = #[x] := by apply Array.ext'; simpa using hxs
        obtain rfl : ats = #[t] := by apply Array.ext'; simpa using hts
        simp only [execOp, hop, resolve, Sem.run_bind, Sem.run_pure, Result.andThen_ok, invoke, builtin]
        simp [h2 w' hst]
      · cases hq
  · exact zbN h hq
def zcr (P : Program) (fr : Fr) (o : Oper) : Option Fr :=
  match o.op with
  | .makeMap t r => (match o.dst with | some d => z7X P fr t (r.map (opE fr)) d | none => none)
  | .mapUpdate t m k v => (match o.dst with | none => z8O P fr t (opE fr m) (opE fr k) (opE fr v) | some _ => none)
  | .insert t m k v => (match o.dst with | none => z8O P fr t (opE fr m) (opE fr k) (opE fr v) | some _ => none)
  | _ => zle P fr o
def z9Y (o : Oper) : Bool :=
  match o.op with
  | .mapUpdate _ _ _ _ => false
  | .insert _ _ _ _ => false
  | _ => zdj o
theorem z8a {P : Program} {w : World} {K : Nat -> z0a} {R G : Nat -> Value} {fr fr' : Fr} {a : Act} {o : Oper} (h : FRep w K R G fr a) (hf : zcr P fr o = some fr') :
    ∃ r w', (execOp a.eval o).run P w = .ok r w' /\ ((∃ v, r = .value v /\ ∃ K' R', FRep w' K' R' G fr' (a.put o.dst v) /\ Step w K w' K') ∨ (r = .skip /\ o.dst = none /\ ∃ K' R', FRep w' K' R' G fr' a /\ Step w K w' K')) /\ (z9Y o = true -> ∀ b, b < w.heap.size -> w'.heap[b]? = w.heap[b]?) := by
  have lift : ∀ {s : Sem Value} {v : Value} {w'}, s.run P w = .ok v w' -> (do pure (Next.value (← s)) : Sem Next).run P w = .ok (.value v) w' := fun {s v w'} hs => by
    simp only [Sem.run_bind, hs, Result.andThen_ok, Sem.run_pure]
  unfold zcr at hf
  split at hf
  · rename_i t r hop
    split at hf
    · rename_i d hd
      obtain ⟨v, w', h1, h2, h3⟩ := zd2 h (zaX h r) hf
      exact ⟨_, w', by simp only [execOp, hop]; exact lift h1, .inl ⟨v, rfl, by rw [hd]; exact h2⟩, fun _ => h3⟩
    · cases hf
  · rename_i t m k v hop
    split at hf
    · rename_i hd
      obtain ⟨w', h1, h2, h3, _⟩ := z9R h (h.opE m) (h.opE k) (h.opE v) hf
      exact ⟨.skip, w', by simp only [execOp, hop, Sem.run_bind, h1, Result.andThen_ok, Sem.run_pure], .inr ⟨rfl, hd, K, R, h2, h3⟩, fun hc => by simp [z9Y, hop] at hc⟩
    · cases hf
  · rename_i t m k v hop
    split at hf
    · rename_i hd
      obtain ⟨w', h1, h2, h3, _⟩ := z9R h (h.opE m) (h.opE k) (h.opE v) hf
      exact ⟨.skip, w', by simp only [execOp, hop, Sem.run_bind, h1, Result.andThen_ok, Sem.run_pure], .inr ⟨rfl, hd, K, R, h2, h3⟩, fun hc => by simp [z9Y, hop] at hc⟩
    · cases hf
  · rename_i h1 h2 h3
    obtain ⟨r, w', e1, e2, e3⟩ := zjP h hf
    refine ⟨r, w', e1, e2, fun hc => e3 ?_⟩
    unfold z9Y at hc
    split at hc
    · cases hc
    · cases hc
    · exact hc
def putF (fr : Fr) (dst : Option Nat) (e : E) : Option Fr :=
  match dst with
  | none => some fr
  | some d => if d < fr.nt then some { fr with tm := z9o fr.tm d e } else none
theorem FRep.putF {w : World} {K : Nat -> z0a} {R G : Nat -> Value} {fr fr' : Fr} {a : Act} {dst : Option Nat} {e : E} {v : Value} (h : FRep w K R G fr a) (he : ERep w K R fr.ob e v) (hf : putF fr dst e = some fr') : FRep w K R G fr' (a.put dst v) := by
  unfold Proofs.YtodliknibbafeaaGreat.putF at hf
  split at hf
  · cases hf; exact h
  · split at hf
    · rename_i hd
      cases hf; exact h.put hd he
    · cases hf
def opF (P : Program) (C : z0b) (wio : FuncId -> Nat -> Bool) (fr : Fr) (o : Oper) : Option Fr :=
  match o.op with
  | .assign x => (match putF fr o.dst (opE fr x) with
    | some fr1 => (match o.dst with | some d => zkX P fr1 o.type d | none => some fr1)
    | none => none)
  | .call { callee := .value c, args, .. } => (match z5U fr c with | some (f, cs) => z6F C wio fr f (args.toList.map (opE fr) ++ cs.map fun t => .one (.t none t)) o.dst | none => none)
  | .store t ad x => if wio 999999 0 = true then (match o.dst with | none => zbB P true fr t (opE fr ad) (opE fr x) | some _ => none) else zcr P fr o
  | .buildSlice t n parts => if wio 777780 (o.dst.getD 0) = true then (match o.dst with | some d => if d < fr.nt then z5n P fr t n parts.toList d else none | none => none) else zcr P fr o
  | op => (match z4A P noM fr op with
    | some e => putF fr o.dst e
    | none => zcr P fr o)
theorem z7l {P : Program} {w : World} {K : Nat -> z0a} {R G : Nat -> Value} {fr : Fr} {a : Act} {o : Oper} {c : Operand} {args : Array Operand} {ats : Array TypeId} {f : FuncId} {cs : List T} (h : FRep w K R G fr a) (hop : o.op = .call { callee := .value c, args := args, argTypes := ats }) (hc : z5U fr c = some (f, cs)) :
    ∃ vs : List Value, ((callFunc f vs.toArray).run P w = .ok (.enter f vs.toArray) w -> (execOp a.eval o).run P w = .ok (.enter f vs.toArray) w) /\ vs.length = (args.toList.map (opE fr) ++ cs.map fun t => E.one (.t none t)).length /\
      ∀ (j : Nat) (e : E) (v : Value), (args.toList.map (opE fr) ++ cs.map fun t => E.one (.t none t))[j]? = some e -> vs[j]? = some v -> ERep w K R fr.ob e v := by
  obtain ⟨us, u1, u2, u3⟩ := zcx h hc
  refine ⟨args.toList.map a.eval ++ us, fun hcall => ?_, by simp [u2], fun j e v he hv => ?_⟩
  · have ha : (args.toList.map a.eval ++ us).toArray = args.map a.eval ++ us.toArray := by apply Array.ext'; simp
    rw [ha] at hcall ⊢
    simp only [execOp, hop, resolve, u1, Deferred.ofValue, Sem.run_bind, Sem.run_pure, Result.andThen_ok, invoke]
    simpa using hcall
  · rcases Nat.lt_or_ge j args.toList.length with hj | hj
    · rw [List.getElem?_append_left (by simpa using hj)] at he hv
      simp only [List.getElem?_map, Option.map_eq_some_iff] at he hv
      obtain ⟨x, hx, rfl⟩ := he
      obtain ⟨y, hy, rfl⟩ := hv
      rw [hx] at hy; cases hy
      exact h.opE x
    · rw [List.getElem?_append_right (by simpa using hj)] at he hv
      simp only [List.length_map, List.getElem?_map, Option.map_eq_some_iff] at he hv
      obtain ⟨t, ht, rfl⟩ := he
      exact ⟨u3 _ t v ht hv, fun _ e => by cases e⟩
theorem zju {P : Program} {I : World -> (Nat -> z0a) -> Prop} {C : z0b} {wio : FuncId -> Nat -> Bool} {w : World} {K : Nat -> z0a} {R G : Nat -> Value} {fr fr' : Fr} {a : Act} {o : Oper} {next : Act -> World -> Prop} {Q : Exit -> Act -> World -> Prop}
    (hI : EnvS I) (hC : z5X P I C) (h : FRep w K R G fr a) (hIw : I w K) (hf : opF P C wio fr o = some fr') (hn : ∀ a' w' K' R', FRep w' K' R' G fr' a' -> Step w K w' K' -> next a' w') : o.wp P a w next Q := by
  unfold opF at hf
  split at hf
  · rename_i x hop
    split at hf
    case h_2 => cases hf
    case h_1 fr1 h1 =>
    have h2 := h.putF (v := a.eval x) (h.opE x) h1
    have hrun : (execOp a.eval o).run P w = .ok (.value (a.eval x)) w := by simp [execOp, hop]
    unfold Oper.wp
    rw [hrun]
    simp only [Oper.upon]
    split at hf
    · rename_i d hd
      obtain ⟨K', R', e1, e2, e3, _⟩ := zhH h2 hf
      exact hn _ w K' R' e1 e2
    · cases hf
      exact hn _ w K R h2 (Step.refl _ _)
  · rename_i c args ats hop
    split at hf
    · rename_i f cs hc
      obtain ⟨vs, q1, q2, q3⟩ := z7l (P := P) h hop hc
      exact zdk hI hC h hIw q1 q2 q3 hf fun a' w' K' R' h1 h2 _ => hn a' w' K' R' h1 h2
    · cases hf
  · rename_i t ad x hop
    have dflt : ∀ {fr'}, zcr P fr o = some fr' -> (∀ a' w' K' R', FRep w' K' R' G fr' a' -> Step w K w' K' -> next a' w') -> o.wp P a w next Q := fun {fr'} hf hn => by
      obtain ⟨r, w', h1, h2, _⟩ := z8a h hf
      unfold Oper.wp
      rw [h1]
      rcases h2 with ⟨v, rfl, K', R', e1, e2⟩ | ⟨rfl, hd, K', R', e1, e2⟩
      · exact hn _ w' K' R' e1 e2
      · simp only [Oper.upon, hd]
        exact hn _ w' K' R' e1 e2
    split at hf
    · split at hf
      · rename_i hd
        obtain ⟨w', h1, ⟨K', R', e1, e2⟩, _⟩ := z9M h (h.opE ad) (h.opE x) hf
        unfold Oper.wp
        have hrun : (execOp a.eval o).run P w = .ok .skip w' := by
          simp only [execOp, hop, Sem.run_bind, h1, Result.andThen_ok, Sem.run_pure]
        rw [hrun]
        simp only [Oper.upon, hd]
        exact hn _ w' K' R' e1 e2
      · cases hf
    · exact dflt hf hn
  · rename_i t n parts hop
    split at hf
    · split at hf
      · rename_i d hd
        split at hf
        · rename_i hlt
          obtain ⟨v, w', h1, K', R', e1, e2⟩ := zaS h hlt hf
          have : parts.map (fun (x : Nat × Operand) => (x.1, a.eval x.2)) = (parts.toList.map fun (i, x) => (i, a.eval x)).toArray := by
            apply Array.ext'; simp
          have hrun : (execOp a.eval o).run P w = .ok (.value v) w' := by
            simp only [execOp, hop]
            rw [this]
            simp only [Sem.run_bind, h1, Result.andThen_ok, Sem.run_pure]
          unfold Oper.wp
          rw [hrun]
          simp only [Oper.upon, hd]
          exact hn _ w' K' R' e1 e2
        · cases hf
      · cases hf
    · obtain ⟨r, w', h1, h2, _⟩ := z8a h hf
      unfold Oper.wp
      rw [h1]
      rcases h2 with ⟨v, rfl, K', R', e1, e2⟩ | ⟨rfl, hd, K', R', e1, e2⟩
      · exact hn _ w' K' R' e1 e2
      · simp only [Oper.upon, hd]
        exact hn _ w' K' R' e1 e2
  · split at hf
    · rename_i e he
      obtain ⟨v, h1, h2⟩ := z5f h he
      unfold Oper.wp
      rw [h2 w (Stay.refl w K noM)]
      exact hn _ w K R (h.putF h1 hf) (Step.refl _ _)
    · obtain ⟨r, w', h1, h2, _⟩ := z8a h hf
      unfold Oper.wp
      rw [h1]
      rcases h2 with ⟨v, rfl, K', R', e1, e2⟩ | ⟨rfl, hd, K', R', e1, e2⟩
      · exact hn _ w' K' R' e1 e2
      · simp only [Oper.upon, hd]
        exact hn _ w' K' R' e1 e2
def zdn : E -> Option (Option Bool)
  | .one (.k (.bool b)) => some (some b)
  | .one (.k _) => some none
  | .one (.t _ (.sc (.bool b))) => some (some b)
  | _ => none
def z2R (ops : Array Oper) (fr : Fr) (o : Oper) : Option Bool :=
  match o.guard with
  | none => some true
  | some (j, want) => match (ops[j]?).bind (·.dst) with
    | none => some false
    | some t => if t < fr.nt then (match zdn (z0W fr.tm t) with | some b => some (b == some want) | none => none) else none
theorem z3P {w : World} {K : Nat -> z0a} {R G : Nat -> Value} {fr : Fr} {a : Act} {ops : Array Oper} {o : Oper} {b : Bool} (h : FRep w K R G fr a) (hg : z2R ops fr o = some b) : Region.wanted o (yielded ops a.tmps) = b := by
  unfold z2R at hg
  unfold Region.wanted
  split at hg
  · rename_i hn
    rw [hn]; cases hg; rfl
  · rename_i j want hn
    rw [hn]
    simp only
    split at hg
    · rename_i hd
      cases hg
      simp [yielded, hd]
    · rename_i t hd
      split at hg
      · rename_i ht
        split at hg
        · rename_i y hy
          cases hg
          have hreg := h.tm t
          rw [z4s, if_pos (by rw [h.nt]; exact ht)] at hreg
          have htmp : a.tmps[t]? = some (a.tmps.getD t undef) := z2e _ _ (by rw [h.nt]; exact ht)
          have hyy : yielded ops a.tmps j = y := by
            simp only [yielded, hd, Option.bind_some, htmp]
            generalize a.tmps.getD t undef = u at hreg
            unfold zdn at hy
            split at hy
            · rename_i b' he
              cases hy
              rw [he] at hreg
              obtain rfl : u = .bool b' := hreg
              rfl
            · rename_i v hnb he
              cases hy
              rw [he] at hreg
              obtain rfl : u = v := hreg
              cases u <;> first | rfl | (exfalso; exact hnb _ rfl)
            · rename_i dep b' he
              cases hy
              rw [he] at hreg
              have := hreg.1.sc_eq
              subst this; rfl
            · cases hy
          rw [hyy]
        · cases hg
      · cases hg
def zcS (P : Program) (C : z0b) (wio : FuncId -> Nat -> Bool) (ops : Array Oper) : List Oper -> Fr -> Option Fr
  | [], fr => some fr
  | o :: rest, fr => match z2R ops fr o with
    | none => none
    | some true => (match opF P C wio fr o with | some fr' => zcS P C wio ops rest fr' | none => none)
    | some false => (match putF fr o.dst (.one (.k undef)) with | some fr' => zcS P C wio ops rest fr' | none => none)
theorem zgI {P : Program} {I : World -> (Nat -> z0a) -> Prop} {C : z0b} {wio : FuncId -> Nat -> Bool} {ops : Array Oper} {Q : Exit -> Act -> World -> Prop} (hI : EnvS I) (hC : z5X P I C) : ∀ {l : List Oper} {w : World} {K : Nat -> z0a} {R G : Nat -> Value} {fr fr' : Fr} {a : Act}, FRep w K R G fr a -> I w K -> zcS P C wio ops l fr = some fr' ->
    (∀ a' w' K' R', FRep w' K' R' G fr' a' -> Step w K w' K' -> Q .normal a' w') -> wpList P ops Q l a w
  | [], w, K, R, G, fr, fr', a, h, hIw, hf, hn => by
    cases hf
    exact wpList_nil (hn a w K R h (Step.refl _ _))
  | o :: rest, w, K, R, G, fr, fr', a, h, hIw, hf, hn => by
    simp only [zcS] at hf
    split at hf
    · cases hf
    · rename_i hg
      split at hf
      · rename_i fr1 h1
        refine wpList_step fun Kk hK => ?_
        rw [z3P h hg]
        simp only [if_true]
        exact zju hI hC h hIw h1 fun a' w' K' R' hr hs => hK a' w' (zgI hI hC hr (hI.step hIw hs) hf fun a2 w2 K2 R2 hr2 hs2 => hn a2 w2 K2 R2 hr2 (hs.trans hs2))
      · cases hf
    · rename_i hg
      split at hf
      · rename_i fr1 h1
        refine wpList_step fun Kk hK => ?_
        rw [z3P h hg]
        simp only [Bool.false_eq_true, if_false]
        exact hK _ _ (zgI hI hC (h.putF (v := undef) (e := .one (.k undef)) rfl h1) hIw hf hn)
      · cases hf
end
section
section
variable {P : Program} {ops : Array Oper} {Q : Exit -> Act -> World -> Prop} {md : Region.Mode}
def NoPz (Q : Exit -> Act -> World -> Prop) : Exit -> Act -> World -> Prop
  | .panic _, _, _ => False
  | e, a, w => Q e a w
theorem NoPz.imp {Q : Exit -> Act -> World -> Prop} : ∀ (e : Exit) (a : Act) (w : World), NoPz Q e a w -> Q e a w := fun e a w h => by
  cases e <;> first | exact h | exact (h : False).elim
def ShutL (md : Region.Mode) (ops : Array Oper) (L : Array Bool) : Prop :=
  L.size = ops.size /\ ∀ (i : Nat) (o : Oper), ops[i]? = some o -> L.getD i false = true -> ∀ e ∈ o.after, Region.binds md e = true -> L.getD e.on false = true
theorem ShutL.set {L : Array Bool} {j : Nat} (h : ShutL md ops L) (hj : j ∈ Region.ready md ops L) : ShutL md ops (L.setIfInBounds j true) := by
  obtain ⟨h1, h2⟩ := h
  obtain ⟨j1, o, j2, j3⟩ := mem_ready.1 hj
  refine ⟨by simpa using h1, fun i oi hi hl e he hb => ?_⟩
  have mono : ∀ k, L.getD k false = true -> (L.setIfInBounds j true).getD k false = true := fun k hk => by
    simp only [Array.getD_eq_getD_getElem?, Array.getElem?_setIfInBounds] at hk ⊢
    split
    · split <;> simp_all
    · exact hk
  by_cases e1 : i = j
  · subst e1
    rw [j2] at hi; cases hi
    exact mono _ (j3 e he hb)
  · refine mono _ (h2 i oi hi ?_ e he hb)
    simp only [Array.getD_eq_getD_getElem?, Array.getElem?_setIfInBounds] at hl ⊢
    rw [if_neg (fun e2 => e1 e2.symm)] at hl
    exact hl
def zkp (md : Region.Mode) (ops : Array Oper) (l : List Nat) : List Nat := l.flatMap fun i => match ops[i]? with | some o => (o.after.toList.filter (Region.binds md)).map (·.on) | none => []
def zk0 (md : Region.Mode) (ops : Array Oper) : Nat -> List Nat -> List Nat
  | 0, l => l
  | n + 1, l => zk0 md ops n ((zkp md ops l).foldl (fun acc x => if acc.contains x then acc else x :: acc) l)
theorem zdV {x : Nat} : ∀ {m l : List Nat}, x ∈ m.foldl (fun acc x => if acc.contains x then acc else x :: acc) l -> x ∈ m ∨ x ∈ l
  | [], l, h => .inr h
  | a :: m, l, h => by
    simp only [List.foldl_cons] at h
    rcases zdV h with h | h
    · exact .inl (.tail _ h)
    · split at h
      · exact .inr h
      · rcases List.mem_cons.1 h with h | h
        · subst h; exact .inl (.head _)
        · exact .inr h
theorem z7n {L : Array Bool} (hL : ShutL md ops L) : ∀ (n : Nat) (l : List Nat), (∀ i ∈ l, L.getD i false = true) -> ∀ i ∈ zk0 md ops n l, L.getD i false = true
  | 0, l, h, i, hi => h i hi
  | n + 1, l, h, i, hi => by
    refine z7n hL n _ (fun k hk => ?_) i hi
    rcases zdV hk with hk | hk
    · simp only [zkp, List.mem_flatMap] at hk
      obtain ⟨j, hj, hk⟩ := hk
      split at hk
      · rename_i o ho
        simp only [List.mem_map, List.mem_filter, Array.mem_toList_iff] at hk
        obtain ⟨e, ⟨he, hb⟩, rfl⟩ := hk
        exact hL.2 j o ho (h j hj) e he hb
      · cases hk
    · exact h k hk
def z2Q (P : Program) (md : Region.Mode) (ops : Array Oper) (Q : Exit -> Act -> World -> Prop) (S : Array Bool -> World -> Prop) : Nat -> Array Bool -> Act -> World -> Prop
  | 0, L, a, w => Region.ready md ops L = [] /\ Q .normal a w
  | n + 1, L, a, w =>
    (Region.ready md ops L = [] -> Q .normal a w) /\
    ∀ i ∈ Region.ready md ops L, wpOp P ops Q i (fun a' w' => S (L.setIfInBounds i true) w' /\ z2Q P md ops Q S n (L.setIfInBounds i true) a' w') a w
theorem z6I {S : Array Bool -> World -> Prop} : ∀ (n : Nat) (L : Array Bool) (a : Act) (w : World), z2Q P md ops Q S n L a w -> wpAny P md ops Q n L a w
  | 0, _, _, _, h => h
  | n + 1, _, _, _, h => ⟨h.1, fun i hi => wpOp_mono (fun a' w' h' => z6I n _ a' w' h'.2) (h.2 i hi)⟩
theorem z3X {S S' : Array Bool -> World -> Prop} (p : Array Bool -> Prop) (hp : ∀ L j, p L -> p (L.setIfInBounds j true)) (h : ∀ L w, p L -> S' L w -> S L w) : ∀ (n : Nat) (L : Array Bool) (a : Act) (w : World), p L -> z2Q P md ops Q S' n L a w -> z2Q P md ops Q S n L a w
  | 0, _, _, _, _, hh => hh
  | n + 1, L, a, w, hL, hh => ⟨hh.1, fun i hi => wpOp_mono (fun a' w' h3 => ⟨h _ _ (hp L i hL) h3.1, z3X p hp h n _ a' w' (hp L i hL) h3.2⟩) (hh.2 i hi)⟩
theorem z7o {S : Array Bool -> World -> Prop} {C : World -> Prop} {i : Nat} {oi : Oper} {v : Value} (hi : ops[i]? = some oi) (hsel : ∀ (j : Nat) (o : Oper) cs b, ops[j]? = some o -> o.op ≠ .select cs b)
    (hQ : ∀ c a w, Q (.panic c) (a.put oi.dst v) w -> Q (.panic c) a w) (hS : ∀ L w, S (L.setIfInBounds i true) w ↔ S L w) (hC : ∀ L w, ShutL md ops L -> L.getD i true = false -> S L w -> C w) :
    ∀ (n : Nat) (L : Array Bool) (a : Act) (w : World), ShutL md ops L ->
      (∀ j oj, ops[j]? = some oj -> j ≠ i -> L.getD j true = false -> (∀ e ∈ oj.after, Region.binds md e = true -> e.on ≠ i) -> oi.apart ops oj = true) ->
      i ∈ Region.ready md ops L -> YieldsIf P ops C oi v a -> S L w ->
      z2Q P md ops Q S n (L.setIfInBounds i true) (a.put oi.dst v) w -> z2Q P md ops Q S (n + 1) L a w := by
  intro n
  induction n with
  | zero =>
    intro L a w hsh _ hr hy hSw H
    have hun := (mem_ready.1 hr).1
    refine ⟨fun h => (by rw [h] at hr; cases hr), fun j hj => ?_⟩
    by_cases hji : j = i
    · subst hji; exact hy.wpOp hi (hC L w hsh hun hSw) ⟨(hS L w).2 hSw, H⟩
    · have := ready_mono hj hji
      rw [H.1] at this
      cases this
  | succ n ih =>
    intro L a w hsh hfree hr hy hSw H
    have hun := (mem_ready.1 hr).1
    refine ⟨fun h => (by rw [h] at hr; cases hr), fun j hj => ?_⟩
    by_cases hji : j = i
    · subst hji; exact hy.wpOp hi (hC L w hsh hun hSw) ⟨(hS L w).2 hSw, H⟩
    · have h1 := H.2 j (ready_mono hj hji)
      obtain ⟨hjun, oj, hoj, hall⟩ := mem_ready.1 hj
      have hnot : ∀ e ∈ oj.after, Region.binds md e = true -> e.on ≠ i := fun e he hb heq => by
        have h1 := hall e he hb
        have h0 := (mem_ready.1 hr).1
        rw [heq] at h1
        rcases Nat.lt_or_ge i L.size with h' | h'
        · simp [h'] at h0 h1; rw [h0] at h1; cases h1
        · simp [Array.getElem?_eq_none h'] at h1
      have h2 := wpOp_putIf hoj (hfree j oj hoj hji hjun hnot) (fun cs b => hsel i oi cs b hi) (fun cs b => hsel j oj cs b hoj) hQ hy h1
      have hfree' : ∀ k ok, ops[k]? = some ok -> k ≠ i -> (L.setIfInBounds j true).getD k true = false ->
          (∀ e ∈ ok.after, Region.binds md e = true -> e.on ≠ i) -> oi.apart ops ok = true := fun k ok hk hki hun hno => by
        refine hfree k ok hk hki ?_ hno
        by_cases hjk : j = k
        · subst hjk; exact hjun
        · rw [getD_set_ne true hjk] at hun; exact hun
      have hcomm : (L.setIfInBounds i true).setIfInBounds j true = (L.setIfInBounds j true).setIfInBounds i true := (Array.setIfInBounds_comm _ _ (Ne.symm hji))
      refine wpOp_mono (fun a' w' h3 => ?_) h2
      have hS' : S (L.setIfInBounds j true) w' := by
        have := h3.2.1
        rw [hcomm] at this
        exact (hS _ w').1 this
      refine ⟨hS', ih (L.setIfInBounds j true) a' w' (hsh.set hj) hfree' (ready_mono hr (Ne.symm hji)) h3.1 hS' ?_⟩
      have := h3.2.2
      rwa [hcomm] at this
def z4j : List (Nat × Oper × Nat) -> Option Nat
  | [] => none
  | (k, _, m) :: r => if m = 2 then some k else z4j r
def zjk (md : Region.Mode) (ops : Array Oper) (k : Nat) (rest : List (Nat × Oper × Nat)) : Bool := match z4j rest with | none => true | some z => (zk0 md ops ops.size [z]).contains k
def z3f (P : Program) (md : Region.Mode) (ops : Array Oper) (Q : Exit -> Act -> World -> Prop) : List (Nat × Oper × Nat) -> (World -> Prop) -> (World -> Prop) -> (World -> Prop) -> Act -> Prop
  | [], A, B, T, a => ∀ w, T w -> Q .normal a w
  | (k, o, m) :: rest, A, B, T, a =>
    if Region.wanted o (yielded ops a.tmps) = true then
      (if m = 0 ∨ m = 3 then ∃ v, (∀ w, (if m = 0 then A w else B w) -> (execOp a.eval o).run P w = .ok (.value v) w) /\ z3f P md ops Q rest A B T (a.put o.dst v)
      else ∀ w, T w -> o.wp P a w (fun a' w' => ∃ A' B' T' : World -> Prop, T' w' /\ (∀ x, T' x -> A' x) /\ (∀ x, A' x -> B' x) /\ (∀ x, B' x -> B x) /\ (m = 2 ∨ ∀ x, A' x -> A x) /\ z3f P md ops Q rest A' B' T' a') Q)
    else z3f P md ops Q rest A B T (a.put o.dst undef)
def z9Q (md : Region.Mode) (ops : Array Oper) : List (Nat × Oper × Nat) -> Array Bool -> Bool
  | [], L => decide (Region.ready md ops L = [])
  | (k, _, m) :: rest, L => (if m = 0 ∨ m = 3 then (Region.ready md ops L).contains k && Region.free md ops L k && decide (z4j rest ≠ some k) && (m == 3 || zjk md ops k rest) else decide (Region.ready md ops L = [k])) && z9Q md ops rest (L.setIfInBounds k true)
def zdi (z : Option Nat) (A B : World -> Prop) (L : Array Bool) (w : World) : Prop := match z with | none => A w | some z => if L.getD z false = true then B w else A w
theorem zjd {z : Option Nat} {A B : World -> Prop} (hAB : ∀ x, A x -> B x) {L : Array Bool} {w : World} (h : zdi z A B L w) : B w := by
  unfold zdi at h
  split at h
  · exact hAB _ h
  · split at h
    · exact h
    · exact hAB _ h
theorem zdh {z : Option Nat} {A B : World -> Prop} (hAB : ∀ x, A x -> B x) {L : Array Bool} {w : World} (h : A w) : zdi z A B L w := by
  unfold zdi
  split
  · exact h
  · split
    · exact hAB _ h
    · exact h
theorem z2W {L : Array Bool} {k : Nat} (h : k < L.size) : (L.setIfInBounds k true).getD k false = true := by
  simp [Array.getD_eq_getD_getElem?, h]
theorem z4l {L : Array Bool} {k j : Nat} (h : L.getD k false = true) : (L.setIfInBounds j true).getD k false = true := by
  simp only [Array.getD_eq_getD_getElem?, Array.getElem?_setIfInBounds] at h ⊢
  split
  · split <;> simp_all
  · exact h
theorem zhd {L : Array Bool} {k : Nat} (h : L.getD k true = false) : L.getD k false = false := by
  simp only [Array.getD_eq_getD_getElem?] at h ⊢
  cases hk : L[k]? with
  | none => rfl
  | some b => rw [hk] at h; simpa using h
theorem z3W (hs : Region.noSelect ops = true) (hQ : ∀ c a d v w, Q (.panic c) (Act.put a d v) w -> Q (.panic c) a w) : ∀ (l : List (Nat × Oper × Nat)) (L : Array Bool) (A B T : World -> Prop) (a : Act),
    (∀ x ∈ l, ops[x.1]? = some x.2.1) -> ShutL md ops L -> z9Q md ops l L = true -> (∀ x, A x -> B x) -> (∀ x, T x -> A x) -> z3f P md ops Q l A B T a -> ∀ w, T w -> z2Q P md ops Q (zdi (z4j l) A B) l.length L a w
  | [], L, A, B, T, a, _, hsh, hO, hAB, hTA, h, w, hw => ⟨by simpa [z9Q] using hO, h w hw⟩
  | (k, o, m) :: rest, L, A, B, T, a, hl, hsh, hO, hAB, hTA, h, w, hw => by
    have h0 : ops[k]? = some o := hl (k, o, m) (by simp)
    have hk : k < L.size := by rw [hsh.1]; exact (Array.getElem?_eq_some_iff.1 h0).1
    have hl' : ∀ x ∈ rest, ops[x.1]? = some x.2.1 := fun x hx => hl x (by simp [hx])
    simp only [z9Q, Bool.and_eq_true] at hO
    obtain ⟨hO1, hO2⟩ := hO
    by_cases hm : m = 0 ∨ m = 3
    · rw [if_pos hm] at hO1
      simp only [Bool.and_eq_true, decide_eq_true_eq] at hO1
      obtain ⟨⟨⟨hr, hf⟩, hzk⟩, hso⟩ := hO1
      have hm2 : m ≠ 2 := by rcases hm with e | e <;> omega
      have hr' : k ∈ Region.ready md ops L := by simpa using hr
      have key : ∃ v, YieldsIf P ops (fun w => if m = 0 then A w else B w) o v a /\ z3f P md ops Q rest A B T (a.put o.dst v) := by
        simp only [z3f, if_pos hm] at h
        split at h
        · rename_i hwt
          obtain ⟨v, h1, h2⟩ := h
          exact ⟨v, .inl ⟨hwt, h1⟩, h2⟩
        · rename_i hwt
          exact ⟨undef, .inr ⟨by simpa using hwt, rfl⟩, h⟩
      obtain ⟨v, hy, hK⟩ := key
      have hnz : z4j ((k, o, m) :: rest) = z4j rest := by simp [z4j, hm2]
      rw [hnz]
      refine z7o (C := fun w => if m = 0 then A w else B w) h0 (Region.noSelect_spec hs) (fun c a w h => hQ c a _ _ w h) (fun L' w' => ?_) (fun L' w' hsh' hun hS => ?_) rest.length L a w hsh (Region.free_spec h0 hf) hr' hy (zdh hAB (hTA _ hw))
        (z3W hs hQ rest _ A B T _ hl' (hsh.set hr') hO2 hAB hTA hK w hw)
      · cases hz : z4j rest with
        | none => exact Iff.rfl
        | some z =>
          have hne : z ≠ k := fun e => hzk (by rw [hz, e])
          have : (L'.setIfInBounds k true).getD z false = L'.getD z false := by
            simp only [Array.getD_eq_getD_getElem?, Array.getElem?_setIfInBounds]
            rw [if_neg (fun e => hne e.symm)]
          simp only [zdi, this]
      · by_cases hm0 : m = 0
        · rw [if_pos hm0]
          subst hm0
          have hso : zjk md ops k rest = true := by simpa using hso
          unfold zjk at hso
          split at hso
          · rename_i hz
            rw [hz] at hS
            exact hS
          · rename_i z hz
            rw [hz] at hS
            simp only [zdi] at hS
            split at hS
            · rename_i hlz
              have := z7n hsh' ops.size [z] (fun i hi => by simp at hi; subst hi; exact hlz) k (by simpa using hso)
              rw [zhd hun] at this
              cases this
            · exact hS
        · rw [if_neg hm0]
          exact zjd hAB hS
    · rw [if_neg hm] at hO1
      have hr : Region.ready md ops L = [k] := by simpa using hO1
      have hr' : k ∈ Region.ready md ops L := by rw [hr]; simp
      refine ⟨fun h1 => (by rw [h1] at hr; cases hr), fun i hi => ?_⟩
      rw [hr] at hi
      obtain rfl : i = k := by simpa using hi
      simp only [z3f, if_neg hm] at h
      unfold wpOp
      simp only [h0]
      have fin : ∀ (A' B' T' : World -> Prop) (a' : Act) (w' : World), T' w' -> (∀ x, T' x -> A' x) -> (∀ x, A' x -> B' x) -> (∀ x, B' x -> B x) -> (m = 2 ∨ ∀ x, A' x -> A x) -> z3f P md ops Q rest A' B' T' a' ->
          zdi (z4j ((i, o, m) :: rest)) A B (L.setIfInBounds i true) w' /\ z2Q P md ops Q (zdi (z4j ((i, o, m) :: rest)) A B) rest.length (L.setIfInBounds i true) a' w' := fun A' B' T' a' w' t1 t2 t3 t4 t5 t6 => by
        have hrest := z3W hs hQ rest _ A' B' T' a' hl' (hsh.set hr') hO2 t3 t2 t6 w' t1
        by_cases hm2 : m = 2
        · have hz : z4j ((i, o, m) :: rest) = some i := by simp [z4j, hm2]
          rw [hz]
          have hp : ∀ (L' : Array Bool) (x : World), L'.getD i false = true -> zdi (z4j rest) A' B' L' x -> zdi (some i) A B L' x := fun L' x hL hx => by
            simp only [zdi, hL, if_true]
            exact t4 _ (zjd t3 hx)
          refine ⟨hp _ _ (z2W hk) (zdh t3 (t2 _ t1)), z3X (fun L' => L'.getD i false = true) (fun L' j hL => z4l hL) hp rest.length _ a' w' (z2W hk) hrest⟩
        · have hz : z4j ((i, o, m) :: rest) = z4j rest := by simp [z4j, hm2]
          rw [hz]
          have t5' : ∀ x, A' x -> A x := by rcases t5 with e | e; exact absurd e hm2; exact e
          have hp : ∀ (L' : Array Bool) (x : World), True -> zdi (z4j rest) A' B' L' x -> zdi (z4j rest) A B L' x := fun L' x _ hx => by
            cases hz2 : z4j rest with
            | none => rw [hz2] at hx; exact t5' _ hx
            | some z =>
              rw [hz2] at hx
              simp only [zdi] at hx ⊢
              by_cases hh : L'.getD z false = true
              · rw [if_pos hh] at hx ⊢; exact t4 _ hx
              · rw [if_neg hh] at hx ⊢; exact t5' _ hx
          exact ⟨hp _ _ trivial (zdh t3 (t2 _ t1)), z3X (fun _ => True) (fun _ _ _ => trivial) hp rest.length _ a' w' trivial hrest⟩
      split
      · rename_i hwt
        rw [if_pos hwt] at h
        exact .inl (Oper.wp_mono (fun a' w' ⟨A', B', T', h1, h2, h3, h4, h5, h6⟩ => fin A' B' T' a' w' h1 h2 h3 h4 h5 h6) (h w hw))
      · rename_i hwt
        rw [if_neg hwt] at h
        exact fin A B T _ w hw hTA hAB (fun _ h => h) (.inr fun _ h => h) h
def z6r (ops : Array Oper) (sch : List (Nat × Nat)) : List (Nat × Oper × Nat) := sch.filterMap fun x => (ops[x.1]?).map fun o => (x.1, o, x.2)
theorem z7C {id : Nat} {a : Act} {w : World} {l : List Oper} (sch : List (Nat × Nat)) (A B T : World -> Prop) (hm : P.follows .mixedOrders = true) (hlen : (z6r l.toArray sch).length = l.length)
    (hs : Region.noSelect l.toArray = true) (hO : z9Q .any l.toArray (z6r l.toArray sch) (Array.replicate l.length false) = true)
    (hAB : ∀ x, A x -> B x) (hTA : ∀ x, T x -> A x) (hT : T w.drew) (h : z3f P .any l.toArray (NoPz Q) (z6r l.toArray sch) A B T a) : (Code.region id l.toArray true).wp P Q a w := by
  refine Code.wp_mono NoPz.imp (wp_region_any hm ?_)
  have hsh : ShutL .any l.toArray (Array.replicate l.length false) := ⟨by simp, fun i o ho hL => by
    simp only [Array.getD_eq_getD_getElem?, Array.getElem?_replicate] at hL
    split at hL <;> simp at hL⟩
  have := z3W (md := .any) hs (fun _ _ _ _ _ h => h) (z6r l.toArray sch) (Array.replicate l.length false) A B T a (fun x hx => by
    simp only [z6r, List.mem_filterMap, Option.map_eq_some_iff] at hx
    obtain ⟨y, _, o, ho, rfl⟩ := hx
    exact ho) hsh hO hAB hTA h w.drew hT
  rw [hlen] at this
  have h2 := z6I _ _ _ _ this
  simpa using h2
end
end
section
inductive SchT where
  | nil
  | op (k m : Nat) (rest : SchT)
  | alt (a b : SchT)
def SchT.heads : SchT -> List Nat
  | .nil => []
  | .op k _ _ => [k]
  | .alt a b => a.heads ++ b.heads
def SchT.nexts : SchT -> List Nat
  | .nil => []
  | .op k m r => if m = 2 then [k] else r.nexts
  | .alt a b => a.nexts ++ b.nexts
def SchT.depth : SchT -> Nat
  | .nil => 0
  | .op _ _ r => r.depth + 1
  | .alt a _ => a.depth
section
variable {P : Program} {ops : Array Oper} {Q : Exit -> Act -> World -> Prop} {md : Region.Mode}
def z7D (P : Program) (md : Region.Mode) (ops : Array Oper) (Q : Exit -> Act -> World -> Prop) : SchT -> (World -> Prop) -> (World -> Prop) -> (World -> Prop) -> Act -> Prop
  | .nil, A, B, T, a => ∀ w, T w -> Q .normal a w
  | .op k m rest, A, B, T, a => ∃ o, ops[k]? = some o /\
    (if Region.wanted o (yielded ops a.tmps) = true then
      (if m = 0 ∨ m = 3 then ∃ v, (∀ w, (if m = 0 then A w else B w) -> (execOp a.eval o).run P w = .ok (.value v) w) /\ z7D P md ops Q rest A B T (a.put o.dst v)
      else ∀ w, T w -> o.wp P a w (fun a' w' => ∃ A' B' T' : World -> Prop, T' w' /\ (∀ x, T' x -> A' x) /\ (∀ x, A' x -> B' x) /\ (∀ x, B' x -> B x) /\ (m = 2 ∨ ∀ x, A' x -> A x) /\ z7D P md ops Q rest A' B' T' a') Q)
    else z7D P md ops Q rest A B T (a.put o.dst undef))
  | .alt x y, A, B, T, a => z7D P md ops Q x A B T a /\ z7D P md ops Q y A B T a
def z1q (md : Region.Mode) (ops : Array Oper) : Bool -> SchT -> Array Bool -> Bool
  | top, .nil, L => top && decide (Region.ready md ops L = [])
  | top, .op k m rest, L => (if top = true /\ (m = 0 ∨ m = 3) then (Region.ready md ops L).contains k && Region.free md ops L k && !(rest.nexts.contains k) && (m == 3 || rest.nexts.all fun z => (zk0 md ops ops.size [z]).contains k) else (decide (m = 1 ∨ m = 2)) && (if top = true then decide (Region.ready md ops L = [k]) else (Region.ready md ops L).contains k)) && z1q md ops true rest (L.setIfInBounds k true)
  | top, .alt a b, L => (!top || decide (∀ i ∈ Region.ready md ops L, i ∈ a.heads ++ b.heads)) && decide (a.depth = b.depth) && z1q md ops false a L && z1q md ops false b L
def z9g (zs : List Nat) (A B : World -> Prop) (L : Array Bool) (w : World) : Prop := if ∃ z ∈ zs, L.getD z false = true then B w else A w
theorem zhy {zs : List Nat} {A B : World -> Prop} (hAB : ∀ x, A x -> B x) {L : Array Bool} {w : World} (h : z9g zs A B L w) : B w := by
  unfold z9g at h; split at h
  · exact h
  · exact hAB _ h
theorem zhx {zs : List Nat} {A B : World -> Prop} (hAB : ∀ x, A x -> B x) {L : Array Bool} {w : World} (h : A w) : z9g zs A B L w := by
  unfold z9g; split
  · exact hAB _ h
  · exact h
theorem zcl {L : Array Bool} {k z : Nat} (h : z ≠ k) : (L.setIfInBounds k true).getD z false = L.getD z false := by
  simp only [Array.getD_eq_getD_getElem?, Array.getElem?_setIfInBounds]
  rw [if_neg (fun e => h e.symm)]
theorem ziB {zs : List Nat} {k m : Nat} {rest : SchT} {L : Array Bool} {A B T : World -> Prop} {a : Act} {o : Oper} {n : Nat} (ho : ops[k]? = some o) (hk : k < L.size) (hm : m = 1 ∨ m = 2) (hz : m = 2 -> k ∈ zs) (hz1 : m ≠ 2 -> ∀ z ∈ rest.nexts, z ∈ zs)
    (hAB : ∀ x, A x -> B x) (hTA : ∀ x, T x -> A x) (h : z7D P md ops Q (.op k m rest) A B T a) {w : World} (hw : T w)
    (ih : ∀ (A' B' T' : World -> Prop) (a' : Act), (∀ x, A' x -> B' x) -> (∀ x, T' x -> A' x) -> z7D P md ops Q rest A' B' T' a' -> ∀ w, T' w -> z2Q P md ops Q (z9g rest.nexts A' B') n (L.setIfInBounds k true) a' w) :
    wpOp P ops Q k (fun a' w' => z9g zs A B (L.setIfInBounds k true) w' /\ z2Q P md ops Q (z9g zs A B) n (L.setIfInBounds k true) a' w') a w := by
  obtain ⟨o2, ho2, h⟩ := h
  rw [ho] at ho2; cases ho2
  have hm' : ¬ (m = 0 ∨ m = 3) := by omega
  have fin : ∀ (A' B' T' : World -> Prop) (a' : Act) (w' : World), T' w' -> (∀ x, T' x -> A' x) -> (∀ x, A' x -> B' x) -> (∀ x, B' x -> B x) -> (m = 2 ∨ ∀ x, A' x -> A x) -> z7D P md ops Q rest A' B' T' a' ->
      z9g zs A B (L.setIfInBounds k true) w' /\ z2Q P md ops Q (z9g zs A B) n (L.setIfInBounds k true) a' w' := fun A' B' T' a' w' t1 t2 t3 t4 t5 t6 => by
    have hrest := ih A' B' T' a' t3 t2 t6 w' t1
    have hp : ∀ (L' : Array Bool) (x : World), L'.getD k false = true -> z9g rest.nexts A' B' L' x -> z9g zs A B L' x := fun L' x hL hx => by
      by_cases hm2 : m = 2
      · unfold z9g
        rw [if_pos ⟨k, hz hm2, hL⟩]
        exact t4 _ (zhy t3 hx)
      · have t5' : ∀ x, A' x -> A x := by rcases t5 with e | e; exact absurd e hm2; exact e
        unfold z9g
        split
        · exact t4 _ (zhy t3 hx)
        · rename_i hno
          unfold z9g at hx
          rw [if_neg (fun ⟨z, h1, h2⟩ => hno ⟨z, hz1 hm2 z h1, h2⟩)] at hx
          exact t5' _ hx
    exact ⟨hp _ _ (z2W hk) (zhx t3 (t2 _ t1)), z3X (fun L' => L'.getD k false = true) (fun L' j hL => z4l hL) hp n _ a' w' (z2W hk) hrest⟩
  unfold wpOp
  simp only [ho]
  split
  · rename_i hwt
    rw [if_pos hwt, if_neg hm'] at h
    exact .inl (Oper.wp_mono (fun a' w' ⟨A', B', T', h1, h2, h3, h4, h5, h6⟩ => fin A' B' T' a' w' h1 h2 h3 h4 h5 h6) (h w hw))
  · rename_i hwt
    rw [if_neg hwt] at h
    exact fin A B T _ w hw hTA hAB (fun _ h => h) (.inr fun _ h => h) h
theorem z3g (hs : Region.noSelect ops = true) (hQ : ∀ c a d v w, Q (.panic c) (Act.put a d v) w -> Q (.panic c) a w) : ∀ (s : SchT) (L : Array Bool) (A B T : World -> Prop) (a : Act), ShutL md ops L -> (∀ x, A x -> B x) -> (∀ x, T x -> A x) -> z7D P md ops Q s A B T a -> ∀ w, T w ->
    (z1q md ops true s L = true -> z2Q P md ops Q (z9g s.nexts A B) s.depth L a w) /\
    (z1q md ops false s L = true -> ∀ (zs : List Nat) (n : Nat), (∀ z ∈ s.nexts, z ∈ zs) -> s.depth = n + 1 -> ∀ i ∈ s.heads, wpOp P ops Q i (fun a' w' => z9g zs A B (L.setIfInBounds i true) w' /\ z2Q P md ops Q (z9g zs A B) n (L.setIfInBounds i true) a' w') a w)
  | .nil, L, A, B, T, a, hsh, hAB, hTA, h, w, hw => ⟨fun hO => ⟨by simpa [z1q] using hO, h w hw⟩, fun hO => by simp [z1q] at hO⟩
  | .op k m rest, L, A, B, T, a, hsh, hAB, hTA, h, w, hw => by
    obtain ⟨o, h0, h'⟩ := h
    have hk : k < L.size := by rw [hsh.1]; exact (Array.getElem?_eq_some_iff.1 h0).1
    have eff : ∀ (zs : List Nat) (n : Nat), (m = 1 ∨ m = 2) -> (∀ z ∈ (SchT.op k m rest).nexts, z ∈ zs) -> rest.depth = n -> k ∈ Region.ready md ops L -> z1q md ops true rest (L.setIfInBounds k true) = true ->
        wpOp P ops Q k (fun a' w' => z9g zs A B (L.setIfInBounds k true) w' /\ z2Q P md ops Q (z9g zs A B) n (L.setIfInBounds k true) a' w') a w := fun zs n hm hz hd hr hO => by
      refine ziB h0 hk hm (fun e => hz k (by simp [SchT.nexts, e])) (fun e z hzz => hz z (by simp [SchT.nexts, e, hzz])) hAB hTA ⟨o, h0, h'⟩ hw ?_
      intro A' B' T' a' k1 k2 k3 w' k4
      subst hd
      exact (z3g hs hQ rest _ A' B' T' a' (hsh.set hr) k1 k2 k3 w' k4).1 hO
    constructor
    · intro hO
      simp only [z1q, Bool.and_eq_true] at hO
      obtain ⟨hO1, hO2⟩ := hO
      by_cases hm : m = 0 ∨ m = 3
      · rw [if_pos ⟨trivial, hm⟩] at hO1
        simp only [Bool.and_eq_true, Bool.not_eq_true'] at hO1
        obtain ⟨⟨⟨hr, hf⟩, hzk⟩, hso⟩ := hO1
        have hm2 : m ≠ 2 := by rcases hm with e | e <;> omega
        have hr' : k ∈ Region.ready md ops L := by simpa using hr
        have key : ∃ v, YieldsIf P ops (fun w => if m = 0 then A w else B w) o v a /\ z7D P md ops Q rest A B T (a.put o.dst v) := by
          rw [if_pos hm] at h'
          split at h'
          · rename_i hwt
            obtain ⟨v, h1, h2⟩ := h'
            exact ⟨v, .inl ⟨hwt, h1⟩, h2⟩
          · rename_i hwt
            exact ⟨undef, .inr ⟨by simpa using hwt, rfl⟩, h'⟩
        obtain ⟨v, hy, hK⟩ := key
        have hnz : (SchT.op k m rest).nexts = rest.nexts := by simp [SchT.nexts, hm2]
        rw [hnz]
        refine z7o (C := fun w => if m = 0 then A w else B w) h0 (Region.noSelect_spec hs) (fun c a w h => hQ c a _ _ w h) (fun L' w' => ?_) (fun L' w' hsh' hun hS => ?_) rest.depth L a w hsh (Region.free_spec h0 hf) hr' hy (zhx hAB (hTA _ hw))
          ((z3g hs hQ rest _ A B T _ (hsh.set hr') hAB hTA hK w hw).1 hO2)
        · have : (∃ z ∈ rest.nexts, (L'.setIfInBounds k true).getD z false = true) ↔ ∃ z ∈ rest.nexts, L'.getD z false = true := by
            constructor
            · rintro ⟨z, h1, h2⟩
              have hne : z ≠ k := fun e => by rw [← e] at hzk; simp [h1] at hzk
              exact ⟨z, h1, by rwa [zcl hne] at h2⟩
            · rintro ⟨z, h1, h2⟩
              exact ⟨z, h1, z4l h2⟩
          simp only [z9g, this]
        · by_cases hm0 : m = 0
          · rw [if_pos hm0]
            subst hm0
            have hso : (rest.nexts.all fun z => (zk0 md ops ops.size [z]).contains k) = true := by simpa using hso
            unfold z9g at hS
            split at hS
            · rename_i hlz
              obtain ⟨z, hz1, hz2⟩ := hlz
              have h3 := List.all_eq_true.1 hso z hz1
              have := z7n hsh' ops.size [z] (fun i hi => by simp at hi; subst hi; exact hz2) k (by simpa using h3)
              rw [zhd hun] at this
              cases this
            · exact hS
          · rw [if_neg hm0]
            exact zhy hAB hS
      · rw [if_neg (fun hh => hm hh.2)] at hO1
        simp only [Bool.and_eq_true, decide_eq_true_eq, if_true] at hO1
        obtain ⟨hm1, hr⟩ := hO1
        have hr' : k ∈ Region.ready md ops L := by rw [hr]; simp
        refine ⟨fun h1 => (by rw [h1] at hr; cases hr), fun i hi => ?_⟩
        rw [hr] at hi
        obtain rfl : i = k := by simpa using hi
        exact eff _ _ hm1 (fun z hz => hz) rfl hr' hO2
    · intro hO zs n hz hd i hi
      simp only [z1q, Bool.and_eq_true] at hO
      obtain ⟨hO1, hO2⟩ := hO
      rw [if_neg (fun hh => by cases hh.1)] at hO1
      simp only [Bool.and_eq_true, decide_eq_true_eq, Bool.false_eq_true, if_false] at hO1
      obtain ⟨hm1, hr⟩ := hO1
      obtain rfl : i = k := by simpa [SchT.heads] using hi
      exact eff zs n hm1 hz (by simpa [SchT.depth] using hd) (by simpa using hr) hO2
  | .alt x y, L, A, B, T, a, hsh, hAB, hTA, h, w, hw => by
    obtain ⟨hx, hy⟩ := h
    have sx := z3g hs hQ x L A B T a hsh hAB hTA hx w hw
    have sy := z3g hs hQ y L A B T a hsh hAB hTA hy w hw
    have both : z1q md ops false x L = true -> z1q md ops false y L = true -> x.depth = y.depth -> ∀ (zs : List Nat) (n : Nat), (∀ z ∈ (SchT.alt x y).nexts, z ∈ zs) -> x.depth = n + 1 -> ∀ i ∈ x.heads ++ y.heads, wpOp P ops Q i (fun a' w' => z9g zs A B (L.setIfInBounds i true) w' /\ z2Q P md ops Q (z9g zs A B) n (L.setIfInBounds i true) a' w') a w := fun o1 o2 hd zs n hz hn i hi => by
      rcases List.mem_append.1 hi with hi | hi
      · exact sx.2 o1 zs n (fun z h => hz z (by simp [SchT.nexts, h])) hn i hi
      · exact sy.2 o2 zs n (fun z h => hz z (by simp [SchT.nexts, h])) (by omega) i hi
    constructor
    · intro hO
      simp only [z1q, Bool.and_eq_true, decide_eq_true_eq, Bool.not_true, Bool.false_or] at hO
      obtain ⟨⟨⟨h1, h2⟩, h3⟩, h4⟩ := hO
      have hdep : ∀ (s : SchT), z1q md ops false s L = true -> ∃ n, s.depth = n + 1 /\ ∃ i ∈ s.heads, i ∈ Region.ready md ops L := by
        intro s
        induction s with
        | nil => intro hh; simp [z1q] at hh
        | op k m r _ =>
          intro hh
          simp only [z1q, Bool.and_eq_true] at hh
          have hh1 := hh.1
          rw [if_neg (fun hh => by cases hh.1)] at hh1
          simp only [Bool.and_eq_true, Bool.false_eq_true, if_false] at hh1
          exact ⟨r.depth, rfl, k, by simp [SchT.heads], by simpa using hh1.2⟩
        | alt p q ihp ihq =>
          intro hh
          simp only [z1q, Bool.and_eq_true] at hh
          obtain ⟨n, e1, i, e2, e3⟩ := ihp hh.1.2
          exact ⟨n, e1, i, by simp [SchT.heads, e2], e3⟩
      obtain ⟨n, hn, j, hj, hjr⟩ := hdep x h3
      show z2Q P md ops Q _ x.depth L a w
      rw [hn]
      refine ⟨fun he => (by rw [he] at hjr; cases hjr), fun i hi => both h3 h4 h2 _ n (fun z hz => hz) hn i (h1 i hi)⟩
    · intro hO zs n hz hd i hi
      simp only [z1q, Bool.and_eq_true, decide_eq_true_eq] at hO
      obtain ⟨⟨⟨_, h2⟩, h3⟩, h4⟩ := hO
      exact both h3 h4 h2 zs n hz hd i hi
theorem za2 {id : Nat} {a : Act} {w : World} {l : List Oper} (s : SchT) (A B T : World -> Prop) (hm : P.follows .mixedOrders = true) (hlen : s.depth = l.length)
    (hs : Region.noSelect l.toArray = true) (hO : z1q .any l.toArray true s (Array.replicate l.length false) = true)
    (hAB : ∀ x, A x -> B x) (hTA : ∀ x, T x -> A x) (hT : T w.drew) (h : z7D P .any l.toArray (NoPz Q) s A B T a) : (Code.region id l.toArray true).wp P Q a w := by
  refine Code.wp_mono NoPz.imp (wp_region_any hm ?_)
  have hsh : ShutL .any l.toArray (Array.replicate l.length false) := ⟨by simp, fun i o ho hL => by
    simp only [Array.getD_eq_getD_getElem?, Array.getElem?_replicate] at hL
    split at hL <;> simp at hL⟩
  have := (z3g (md := .any) hs (fun _ _ _ _ _ h => h) s (Array.replicate l.length false) A B T a hsh hAB hTA h w.drew hT).1 hO
  rw [hlen] at this
  have h2 := z6I _ _ _ _ this
  simpa using h2
end
end
section
def zkK (s : Nat) (p : List Nat) : List Nat := if s < 100000 then p else p ++ [s / 100000 - 1]
def zla (fr : Fr) (s : Nat) : Fr := match z0W fr.tm (s % 100000) with | .one (.h id p) => (z2j fr id (zkK s p)).getD fr | .one (.a id p _) => (z2j fr id (zkK s p)).getD fr | .one (.tf n cs) => { fr with tm := z9o fr.tm (s % 100000) (.one (.t none (.sl n cs))) } | _ => fr
def zk6 (fr : Fr) : List Nat -> Fr
  | [] => fr
  | s :: l => zk6 (zla fr s) l
theorem zee {w : World} {G : Nat -> Value} {a : Act} : ∀ {l : List Nat} {K : Nat -> z0a} {R : Nat -> Value} {fr : Fr}, FRep w K R G fr a -> ∃ K', FRep w K' R G (zk6 fr l) a /\ Step w K w K'
  | [], K, R, fr, h => ⟨K, h, Step.refl _ _⟩
  | s :: l, K, R, fr, h => by
    have h1 : ∃ K', FRep w K' R G (zla fr s) a /\ Step w K w K' := by
      unfold zla
      split
      · rename_i id p he
        cases hf : z2j fr id (zkK s p) with
        | none => exact ⟨K, h, Step.refl _ _⟩
        | some fr' => exact ⟨_, (h.freeze hf).1, z5l id _⟩
      · rename_i id p off he
        cases hf : z2j fr id (zkK s p) with
        | none => exact ⟨K, h, Step.refl _ _⟩
        | some fr' => exact ⟨_, (h.freeze hf).1, z5l id _⟩
      · rename_i n cs he
        have h2 := h.tm (s % 100000)
        rw [he] at h2
        exact ⟨K, h.reput (d := s % 100000) (x := .one (.t none (.sl n cs))) ⟨h2.2, fun _ e => by cases e⟩, Step.refl _ _⟩
      · exact ⟨K, h, Step.refl _ _⟩
    obtain ⟨K1, h2, h3⟩ := h1
    obtain ⟨K2, h4, h5⟩ := zee (l := l) h2
    exact ⟨K2, h4, h3.trans h5⟩
def z5t (P : Program) (C : z0b) (wio : FuncId -> Nat -> Bool) (fr : Fr) (o : Oper) : Option Fr :=
  match o.op with
  | .call { callee := .value c, args, .. } => (match z5U fr c with
    | some (f, cs) => (match z9A fr (wio f) (args.toList.map (opE fr) ++ cs.map fun t => .one (.t none t)) 0 with | some (_, _, none) => z6F C wio fr f (args.toList.map (opE fr) ++ cs.map fun t => .one (.t none t)) o.dst | _ => none)
    | none => none)
  | op => (match z4A P noM fr op with
    | some e => putF fr o.dst e
    | none => if z9Y o then zcr P fr o else none)
def zlj (w x : World) : Prop := ∀ b, b < w.heap.size -> x.heap[b]? = w.heap[b]?
theorem zhA {P : Program} {I : World -> (Nat -> z0a) -> Prop} {C : z0b} {wio : FuncId -> Nat -> Bool} {w : World} {K : Nat -> z0a} {R G : Nat -> Value} {fr fr' : Fr} {a : Act} {o : Oper} {next : Act -> World -> Prop} {Q : Exit -> Act -> World -> Prop}
    (hI : EnvS I) (hC : z5X P I C) (h : FRep w K R G fr a) (hIw : I w K) (hf : z5t P C wio fr o = some fr') (hn : ∀ a' w' K' R', FRep w' K' R' G fr' a' -> Step w K w' K' -> zlj w w' -> next a' w') : o.wp P a w next Q := by
  unfold z5t at hf
  split at hf
  · rename_i c args ats hop
    split at hf
    · rename_i f cs hc
      split at hf
      · rename_i ts deps hargs
        obtain ⟨vs, q1, q2, q3⟩ := z7l (P := P) h hop hc
        exact zdk hI hC h hIw q1 q2 q3 hf fun a' w' K' R' h1 h2 h3 => hn a' w' K' R' h1 h2 (fun b hb => (h3 _ _ _ hargs b hb (z3O _)).2)
      · cases hf
    · cases hf
  · split at hf
    · rename_i e he
      obtain ⟨v, h1, h2⟩ := z5f h he
      unfold Oper.wp
      rw [h2 w (Stay.refl w K noM)]
      exact hn _ w K R (h.putF h1 hf) (Step.refl _ _) fun _ _ => rfl
    · split at hf
      · rename_i hc
        obtain ⟨r, w', h1, h2, h3⟩ := z8a h hf
        unfold Oper.wp
        rw [h1]
        rcases h2 with ⟨v, rfl, K', R', e1, e2⟩ | ⟨rfl, hd, K', R', e1, e2⟩
        · exact hn _ w' K' R' e1 e2 (h3 hc)
        · simp only [Oper.upon, hd]
          exact hn _ w' K' R' e1 e2 (h3 hc)
      · cases hf
def wrF (P : Program) (C : z0b) (wio : FuncId -> Nat -> Bool) (M : Nat -> Bool) (fr : Fr) (o : Oper) : Option Fr :=
  match o.op with
  | .call { callee := .value c, args, .. } => (match z5U fr c with
    | none => none
    | some (f, cs) => (match z9A fr (wio f) (args.toList.map (opE fr) ++ cs.map fun t => .one (.t none t)) 0 with
      | some (_, _, none) => z6F C wio fr f (args.toList.map (opE fr) ++ cs.map fun t => .one (.t none t)) o.dst
      | some (_, _, some (_, id)) => if M id then z6F C wio fr f (args.toList.map (opE fr) ++ cs.map fun t => .one (.t none t)) o.dst else none
      | none => none))
  | .buildSlice t n parts => (match o.dst with
    | some d => if M d = false /\ z2L P fr t n parts.toList d = true then z1H P fr t n parts.toList d else none
    | none => none)
  | .makeSlice t l c => (match o.dst, rdV (opE fr l), rdV (opE fr c) with
    | some d, some (.int _ l'), some (.int _ c') => if M d = false then z2Z P fr t l' c' d else none
    | _, _, _ => none)
  | .call { callee := .builtin .append, args, argTypes } => (match o.dst, args.toList, argTypes.toList with
    | some d, [s, x], [st, xt] => if M d = true /\ (zaU (opE fr s)).all M = true /\ zaW fr d s x = true then z9l P fr d st xt s x else none
    | _, _, _ => none)
  | _ => none
theorem zka {P : Program} {I : World -> (Nat -> z0a) -> Prop} {C : z0b} {wio : FuncId -> Nat -> Bool} {M : Nat -> Bool} {w : World} {K : Nat -> z0a} {R G : Nat -> Value} {fr fr' : Fr} {a : Act} {o : Oper} {next : Act -> World -> Prop} {Q : Exit -> Act -> World -> Prop}
    (hI : EnvS I) (hC : z5X P I C) (h : FRep w K R G fr a) (hIw : I w K) (hf : wrF P C wio M fr o = some fr') (hn : ∀ a' w' K' R', FRep w' K' R' G fr' a' -> Step w K w' K' -> (∀ x, Stay w' x K' M -> Stay w x K M) -> next a' w') : o.wp P a w next Q := by
  unfold wrF at hf
  split at hf
  · rename_i c args ats hop
    split at hf
    · cases hf
    rename_i f cs hc
    obtain ⟨vs, q1, q2, q3⟩ := z7l (P := P) h hop hc
    have fin : ∀ ts deps io, z9A fr (wio f) (args.toList.map (opE fr) ++ cs.map fun t => .one (.t none t)) 0 = some (ts, deps, io) -> (∀ i id, io = some (i, id) -> M id = true) -> z6F C wio fr f (args.toList.map (opE fr) ++ cs.map fun t => .one (.t none t)) o.dst = some fr' -> o.wp P a w next Q := fun ts deps io hargs hM hcall =>
      zdk hI hC h hIw q1 q2 q3 hcall fun a' w' K' R' h1 h2 h3 => hn a' w' K' R' h1 h2 fun x hx b hb hcb => by
        have hno : ¬ z5T io (K b) := by
          rintro ⟨i, id, s, e1, e2⟩
          rcases hcb with e | ⟨j, q, e, hj⟩
          · rw [e] at e2; cases e2
          · rw [e] at e2
            have : j = id := by simpa using (List.cons.inj e2).1
            subst this
            have := hM i j e1
            rw [hj] at this; cases this
        obtain ⟨p1, p2⟩ := h3 _ _ _ hargs b hb hno
        rw [hx b (Nat.lt_of_lt_of_le hb h2.size) (by
          rcases p1 with e | e
          · exact .inl e
          · rcases hcb with e2 | ⟨j, q, e2, hj⟩
            · exact .inl (e.trans e2)
            · exact .inr ⟨j, q, e.trans e2, hj⟩)]
        exact p2
    split at hf
    · rename_i ts deps hargs
      exact fin _ _ _ hargs (fun i id e => by cases e) hf
    · rename_i ts deps i id hargs
      split at hf
      · rename_i hc
        exact fin _ _ _ hargs (fun i' id' e => by cases e; simpa using hc) hf
      · cases hf
    · cases hf
  · rename_i t n parts hop
    split at hf
    · rename_i d hd
      split at hf
      · rename_i hc
        obtain ⟨v, w', h1, ⟨K', R', h2, h3, h4⟩, h5⟩ := z4S h hf
        have hrun : (execOp a.eval o).run P w = .ok (.value v) w' := by
          simp only [execOp, hop]
          have : parts.map (fun (x : Nat × Operand) => (x.1, a.eval x.2)) = (parts.toList.map fun (i, x) => (i, a.eval x)).toArray := by
            apply Array.ext'; simp
          rw [this]
          simp only [Sem.run_bind, h1, Result.andThen_ok, Sem.run_pure]
        unfold Oper.wp
        rw [hrun]
        have h2' : FRep w' K' R' G fr' (a.put o.dst v) := by rw [hd]; exact h2
        exact hn _ w' K' R' h2' h3 fun x hx b hb hcb => by
          rw [hx b (Nat.lt_of_lt_of_le hb h3.size) (h4 hc.2 M hc.1 b hb hcb)]
          exact h5 b hb
      · cases hf
    · cases hf
  · rename_i t l c hop
    split at hf
    · rename_i d k l' k' c' hd hl hc'
      split at hf
      · rename_i hc
        obtain ⟨e1, -⟩ := z0l (h.opE l) hl
        obtain ⟨e2, -⟩ := z0l (h.opE c) hc'
        obtain ⟨v, w', h1, ⟨K', R', h2, h3, h4⟩, h5⟩ := z5y (k := k) (k' := k') h hf
        have hrun : (execOp a.eval o).run P w = .ok (.value v) w' := by
          simp only [execOp, hop, e1, e2, Sem.run_bind, h1, Result.andThen_ok, Sem.run_pure]
        unfold Oper.wp
        rw [hrun]
        have h2' : FRep w' K' R' G fr' (a.put o.dst v) := by rw [hd]; exact h2
        exact hn _ w' K' R' h2' h3 fun x hx b hb hcb => by
          rw [hx b (Nat.lt_of_lt_of_le hb h3.size) (h4 rfl M hc b hb hcb)]
          exact h5 b hb
      · cases hf
    · cases hf
  · rename_i args ats hop
    split at hf
    · rename_i d s x st xt hd ha ht
      split at hf
      · rename_i hc
        obtain ⟨c1, c2, c3⟩ := hc
        obtain rfl : args = #[s, x] := by apply Array.ext'; simpa using ha
        obtain rfl : ats = #[st, xt] := by apply Array.ext'; simpa using ht
        obtain ⟨v, w', h1, ⟨K', R', h2, h3, h4⟩, h5⟩ := za0 (ty := o.type) h hf
        have hrun : (execOp a.eval o).run P w = .ok (.value v) w' := by
          simp only [execOp, hop, resolve, Sem.run_bind, Sem.run_pure, Result.andThen_ok, invoke, builtin]
          simp [h1]
        unfold Oper.wp
        rw [hrun]
        have h2' : FRep w' K' R' G fr' (a.put o.dst v) := by rw [hd]; exact h2
        have hb0 : ∀ i ∈ zaU (opE fr s), M i = true := fun i hi => List.all_eq_true.1 c2 i hi
        exact hn _ w' K' R' h2' h3 fun y hy b hb hcb => by
          rw [hy b (Nat.lt_of_lt_of_le hb h3.size) (h4 c3 M c1 hb0 b hb hcb)]
          refine h5 b hb ?_
          rcases hcb with e | ⟨i, q, e, hi⟩
          · exact .inl e
          · refine .inr ⟨i, q, e, ?_⟩
            by_cases hm : (zaU (opE fr s)).contains i = true
            · have := hb0 i (by simpa using hm)
              rw [hi] at this; cases this
            · simpa using hm
      · cases hf
    · cases hf
  · cases hf
def ziy (fr : Fr) : Option (List Nat) -> Fr
  | none => fr
  | some l => zk6 fr l
theorem zed {w : World} {G : Nat -> Value} {a : Act} {l : Option (List Nat)} {K : Nat -> z0a} {R : Nat -> Value} {fr : Fr} (h : FRep w K R G fr a) : ∃ K', FRep w K' R G (ziy fr l) a /\ Step w K w K' := by
  cases l with
  | none => exact ⟨K, h, Step.refl _ _⟩
  | some l => exact zee h
def Fro (w : World) (K : Nat -> z0a) (x : World) : Prop := ∀ b, b < w.heap.size -> K b = [] -> x.heap[b]? = w.heap[b]?
theorem Fro.later {w w' : World} {K K' : Nat -> z0a} (s : Step w K w' K') {x : World} (h : Fro w' K' x) : Fro w K x := fun b hb e => by
  obtain ⟨a1, a2⟩ := s.old b hb (.inl e)
  rw [h b (Nat.lt_of_lt_of_le hb s.size) (a1.trans e), a2]
def clsA (same : Bool) (w : World) (K : Nat -> z0a) (M : Nat -> Bool) (x : World) : Prop := if same then zlj w x else Stay w x K M
theorem clsA.fro {same : Bool} {w : World} {K : Nat -> z0a} {M : Nat -> Bool} {x : World} (h : clsA same w K M x) : Fro w K x := fun b hb e => by
  unfold clsA at h
  split at h
  · exact h b hb
  · exact h b hb (.inl e)
theorem clsA.stay {same : Bool} {w : World} {K : Nat -> z0a} {M : Nat -> Bool} {x : World} (h : clsA same w K M x) : Stay w x K M := fun b hb e => by
  unfold clsA at h
  split at h
  · exact h b hb
  · exact h b hb e
theorem clsA.self (same : Bool) (w : World) (K : Nat -> z0a) (M : Nat -> Bool) : clsA same w K M w := by
  unfold clsA
  split
  · exact fun _ _ => rfl
  · exact Stay.refl _ _ _
def z4P (P : Program) (C : z0b) (wio : FuncId -> Nat -> Bool) (same : Bool) (M : Nat -> Bool) (ops : Array Oper) : List (Nat × Oper × Nat) -> Fr -> Option Fr
  | [], fr => some fr
  | (k, o, m) :: rest, fr => match z2R ops fr o with
    | none => none
    | some false => (match putF fr o.dst (.one (.k undef)) with | some fr' => z4P P C wio same M ops rest fr' | none => none)
    | some true =>
      if m = 0 ∨ m = 3 then (match z4A P (if m = 0 then M else zli) fr o.op with
        | some e => (match putF fr o.dst e with | some fr' => z4P P C wio same M ops rest fr' | none => none)
        | none => none)
      else (match (if m = 2 then opF P C wio fr o else if same then z5t P C wio fr o else wrF P C wio M fr o) with | some fr' => z4P P C wio same M ops rest fr' | none => none)
theorem z3b {P : Program} {I : World -> (Nat -> z0a) -> Prop} {C : z0b} {wio : FuncId -> Nat -> Bool} {same : Bool} {M : Nat -> Bool} {ops : Array Oper} {Q : Exit -> Act -> World -> Prop} (hI : EnvS I) (hC : z5X P I C) : ∀ {l : List (Nat × Oper × Nat)} {w : World} {K : Nat -> z0a} {R G : Nat -> Value} {fr fr' : Fr} {a : Act}, FRep w K R G fr a -> I w K -> z4P P C wio same M ops l fr = some fr' ->
    (∀ a' w' K' R', FRep w' K' R' G fr' a' -> Step w K w' K' -> Q .normal a' w') -> z3f P .any ops (NoPz Q) l (clsA same w K M) (Fro w K) (fun x => x = w) a
  | [], w, K, R, G, fr, fr', a, h, hIw, hf, hn => by
    cases hf
    intro x hx
    subst hx; exact hn a x K R h (Step.refl _ _)
  | (k, o, m) :: rest, w, K, R, G, fr, fr', a, h, hIw, hf, hn => by
    simp only [z4P] at hf
    simp only [z3f]
    split at hf
    · cases hf
    · rename_i hg
      rw [if_neg (by rw [z3P h hg]; simp)]
      split at hf
      · rename_i fr1 h1
        exact z3b hI hC (h.putF (v := undef) (e := .one (.k undef)) rfl h1) hIw hf hn
      · cases hf
    · rename_i hg
      rw [if_pos (z3P h hg)]
      split at hf
      · rename_i hm
        rw [if_pos hm]
        split at hf
        · rename_i e he
          split at hf
          · rename_i fr1 h1
            obtain ⟨v, r1, r2⟩ := z5f h he
            refine ⟨v, fun x hx => r2 x ?_, z3b hI hC (h.putF r1 h1) hIw hf hn⟩
            by_cases hm0 : m = 0
            · rw [if_pos hm0] at hx ⊢; exact hx.stay
            · rw [if_neg hm0] at hx ⊢
              intro b hb hc
              rcases hc with hc | ⟨i, s, _, hc⟩
              · exact hx b hb hc
              · cases hc
          · cases hf
        · cases hf
      · rename_i hm
        rw [if_neg hm]
        intro x hx
        subst hx
        split at hf
        · rename_i fr1 h1
          by_cases hm2 : m = 2
          · rw [if_pos hm2] at h1
            exact zju hI hC h hIw h1 fun a' w' K' R' hr hs => ⟨clsA same w' K' M, Fro w' K', fun y => y = w', rfl, fun y hy => by subst hy; exact clsA.self _ _ _ _, fun y hy => hy.fro, fun y hy => hy.later hs, .inl hm2, z3b hI hC hr (hI.step hIw hs) hf fun a2 w2 K2 R2 hr2 hs2 => hn a2 w2 K2 R2 hr2 (hs.trans hs2)⟩
          · rw [if_neg hm2] at h1
            cases same with
            | true =>
              rw [if_pos rfl] at h1
              refine zhA hI hC h hIw h1 fun a' w' K' R' hr hs hsame => ⟨clsA true w' K' M, Fro w' K', fun y => y = w', rfl, fun y hy => by subst hy; exact clsA.self _ _ _ _, fun y hy => hy.fro, fun y hy => hy.later hs, .inr fun y hy => ?_, z3b hI hC hr (hI.step hIw hs) hf fun a2 w2 K2 R2 hr2 hs2 => hn a2 w2 K2 R2 hr2 (hs.trans hs2)⟩
              intro b hb
              have : zlj w' y := hy
              rw [this b (Nat.lt_of_lt_of_le hb hs.size)]
              exact hsame b hb
            | false =>
              rw [if_neg (by simp)] at h1
              exact zka hI hC h hIw h1 fun a' w' K' R' hr hs hstay => ⟨clsA false w' K' M, Fro w' K', fun y => y = w', rfl, fun y hy => by subst hy; exact clsA.self _ _ _ _, fun y hy => hy.fro, fun y hy => hy.later hs, .inr fun y hy => hstay y hy, z3b hI hC hr (hI.step hIw hs) hf fun a2 w2 K2 R2 hr2 hs2 => hn a2 w2 K2 R2 hr2 (hs.trans hs2)⟩
        · cases hf
def z4g (f g : Fr) : Prop := f.nt = g.nt /\ (∀ i ∈ f.tm.map (·.1) ++ g.tm.map (·.1), z0W f.tm i = z0W g.tm i) /\ (∀ i ∈ f.ob.map (·.1) ++ g.ob.map (·.1), z0w f.ob i = z0w g.ob i)
theorem zaJ : ∀ {l : List (Nat × E)} {i : Nat}, i ∉ l.map (·.1) -> z0W l i = .one .dead
  | [], i, _ => rfl
  | (j, x) :: l, i, h => by
    simp only [List.map_cons, List.mem_cons, not_or] at h
    simp only [z0W]
    rw [if_neg (fun e => h.1 e.symm)]
    exact zaJ h.2
theorem zaG : ∀ {l : List (Nat × T)} {i : Nat}, i ∉ l.map (·.1) -> z0w l i = none
  | [], i, _ => rfl
  | (j, x) :: l, i, h => by
    simp only [List.map_cons, List.mem_cons, not_or] at h
    simp only [z0w]
    rw [if_neg (fun e => h.1 e.symm)]
    exact zaG h.2
theorem FRep.same {f g : Fr} (h : z4g f g) {w : World} {K : Nat -> z0a} {R G : Nat -> Value} {a : Act} (hr : FRep w K R G g a) : FRep w K R G f a := by
  obtain ⟨h1, h2, h3⟩ := h
  have e2 : ∀ i, z0W f.tm i = z0W g.tm i := fun i => by
    by_cases hi : i ∈ f.tm.map (·.1) ++ g.tm.map (·.1)
    · exact h2 i hi
    · simp only [List.mem_append, not_or] at hi
      rw [zaJ hi.1, zaJ hi.2]
  have e3 : ∀ i, z0w f.ob i = z0w g.ob i := fun i => by
    by_cases hi : i ∈ f.ob.map (·.1) ++ g.ob.map (·.1)
    · exact h3 i hi
    · simp only [List.mem_append, not_or] at hi
      rw [zaG hi.1, zaG hi.2]
  have hA : ∀ x u, ARep w K R g.ob x u -> ARep w K R f.ob x u := fun x u hx => by
    cases x with
    | dead => trivial
    | k v => exact hx
    | t dep x => exact ⟨hx.1, fun i e => by rw [e3]; exact hx.2 i e⟩
    | h i q => obtain ⟨n1, t, n2, n3⟩ := hx; exact ⟨n1, t, by rw [e3]; exact n2, n3⟩
    | a i q off => obtain ⟨hv, g', n1, n4, n5, t, n2, n3⟩ := hx; exact ⟨hv, g', n1, n4, n5, t, by rw [e3]; exact n2, n3⟩
    | tf n cs => exact hx
    | ea dep cs off => obtain ⟨g', o, F, k1, k2, k3, k4, k5, k6⟩ := hx; exact ⟨g', o, F, k1, k2, k3, k4, k5, fun i e => by rw [e3]; exact k6 i e⟩
  refine ⟨fun i => ?_, fun id t ht => hr.ob id t (by rw [← e3]; exact ht), by rw [h1]; exact hr.nt, hr.df⟩
  rw [e2 i]
  exact (hr.tm i).mono hA
def zkI (k : Nat) (x : E) : List (Nat × E) -> List (Nat × E)
  | [] => [(k, x)]
  | (j, y) :: r => if k < j then (k, x) :: (j, y) :: r else if k = j then (k, x) :: r else (j, y) :: zkI k x r
def zkH (k : Nat) (x : T) : List (Nat × T) -> List (Nat × T)
  | [] => [(k, x)]
  | (j, y) :: r => if k < j then (k, x) :: (j, y) :: r else if k = j then (k, x) :: r else (j, y) :: zkH k x r
def zkx : List (Nat × E) -> List (Nat × E)
  | [] => []
  | (k, x) :: r => zkI k x (zkx r)
def zkw : List (Nat × T) -> List (Nat × T)
  | [] => []
  | (k, x) :: r => zkH k x (zkw r)
def zj4 (fr : Fr) : Fr := { fr with tm := zkx fr.tm, ob := zkw fr.ob }
theorem zeb (k : Nat) (x : E) (i : Nat) : ∀ l : List (Nat × E), z0W (zkI k x l) i = if k = i then x else z0W l i
  | [] => rfl
  | (j, y) :: r => by
    simp only [zkI]
    by_cases h1 : k < j
    · rw [if_pos h1]; rfl
    · rw [if_neg h1]
      by_cases h2 : k = j
      · rw [if_pos h2]; subst h2
        simp only [z0W]
        by_cases h3 : k = i
        · rw [if_pos h3, if_pos h3]
        · rw [if_neg h3, if_neg h3, if_neg h3]
      · rw [if_neg h2]
        simp only [z0W, zeb k x i r]
        by_cases h3 : k = i
        · subst h3
          rw [if_neg (fun e => h2 e.symm), if_pos rfl, if_pos rfl]
        · rw [if_neg h3, if_neg h3]
theorem ze8 (k : Nat) (x : T) (i : Nat) : ∀ l : List (Nat × T), z0w (zkH k x l) i = if k = i then some x else z0w l i
  | [] => rfl
  | (j, y) :: r => by
    simp only [zkH]
    by_cases h1 : k < j
    · rw [if_pos h1]; rfl
    · rw [if_neg h1]
      by_cases h2 : k = j
      · rw [if_pos h2]; subst h2
        simp only [z0w]
        by_cases h3 : k = i
        · rw [if_pos h3, if_pos h3]
        · rw [if_neg h3, if_neg h3, if_neg h3]
      · rw [if_neg h2]
        simp only [z0w, ze8 k x i r]
        by_cases h3 : k = i
        · subst h3
          rw [if_neg (fun e => h2 e.symm), if_pos rfl, if_pos rfl]
        · rw [if_neg h3, if_neg h3]
theorem ze9 (i : Nat) : ∀ l : List (Nat × E), z0W (zkx l) i = z0W l i
  | [] => rfl
  | (k, x) :: r => by simp only [zkx, zeb, ze9 i r, z0W]
theorem ze7 (i : Nat) : ∀ l : List (Nat × T), z0w (zkw l) i = z0w l i
  | [] => rfl
  | (k, x) :: r => by simp only [zkw, ze8, ze7 i r, z0w]
theorem FRep.nrm {fr : Fr} {w : World} {K : Nat -> z0a} {R G : Nat -> Value} {a : Act} (h : FRep w K R G fr a) : FRep w K R G (zj4 fr) a :=
  FRep.same (f := zj4 fr) (g := fr) ⟨rfl, fun i _ => ze9 i _, fun i _ => ze7 i _⟩ h
def eqV : Value -> Value -> Bool
  | .bool a, .bool b => a == b
  | .int k n, .int l m => decide (k = l) && decide (n = m)
  | .string a, .string b => decide (a = b)
  | .pointer none, .pointer none => true
  | .slice none a b, .slice none c d => Nat.beq a c && Nat.beq b d
  | .map none, .map none => true
  | .nilFunc, .nilFunc => true
  | .nilIface, .nilIface => true
  | _, _ => false
theorem zek {v u : Value} (h : eqV v u = true) : v = u := by
  unfold eqV at h
  split at h <;> first | (cases h; done) | rfl | (simp only [Bool.and_eq_true, decide_eq_true_eq, beq_iff_eq] at h; first | (obtain ⟨rfl, rfl⟩ := h; rfl) | (subst h; rfl)) | skip
  simp only [Bool.and_eq_true] at h
  rw [Nat.eq_of_beq_eq_true h.1, Nat.eq_of_beq_eq_true h.2]
def zkL : List (Value × Value) -> List (Value × Value) -> Bool
  | [], [] => true
  | (a, b) :: r, (c, d) :: s => eqV a c && eqV b d && zkL r s
  | _, _ => false
theorem zd9 : ∀ {a b : List (Value × Value)}, zkL a b = true -> a = b
  | [], [], _ => rfl
  | (a, b) :: r, (c, d) :: s, h => by
    simp only [zkL, Bool.and_eq_true] at h
    rw [zek h.1.1, zek h.1.2, zd9 h.2]
mutual
def eqT : T -> T -> Bool
  | .sc v, .sc u => eqV v u
  | .dead, .dead => true
  | .agg a, .agg b => zda a b
  | .tup a, .tup b => zda a b
  | .sl n a, .sl m b => Nat.beq n m && zda a b
  | .os s n a, .os t m b => Nat.beq s t && Nat.beq n m && zda a b
  | .vr a, .vr b => zda a b
  | .vo n a, .vo m b => Nat.beq n m && zda a b
  | .pr a, .pr b => zda a b
  | .mp k a, .mp l b => decide (k = l) && zkL a b
  | .mr k a, .mr l b => decide (k = l) && zkL a b
  | _, _ => false
def zda : List T -> List T -> Bool
  | [], [] => true
  | a :: r, b :: s => eqT a b && zda r s
  | _, _ => false
end
mutual
theorem zho : ∀ {a b : T}, eqT a b = true -> a = b
  | .sc v, b, h => by cases b <;> simp only [eqT] at h <;> first | (cases h; done) | rw [zek h]
  | .dead, b, h => by cases b <;> simp only [eqT] at h <;> first | (cases h; done) | rfl
  | .agg a, b, h => by cases b <;> simp only [eqT] at h <;> first | (cases h; done) | rw [z3n h]
  | .tup a, b, h => by cases b <;> simp only [eqT] at h <;> first | (cases h; done) | rw [z3n h]
  | .sl n a, b, h => by cases b <;> simp only [eqT, Bool.and_eq_true] at h <;> first | (cases h; done) | rw [Nat.eq_of_beq_eq_true h.1, z3n h.2]
  | .os s n a, b, h => by cases b <;> simp only [eqT, Bool.and_eq_true] at h <;> first | (cases h; done) | rw [Nat.eq_of_beq_eq_true h.1.1, Nat.eq_of_beq_eq_true h.1.2, z3n h.2]
  | .vr a, b, h => by cases b <;> simp only [eqT] at h <;> first | (cases h; done) | rw [z3n h]
  | .vo n a, b, h => by cases b <;> simp only [eqT, Bool.and_eq_true] at h <;> first | (cases h; done) | rw [Nat.eq_of_beq_eq_true h.1, z3n h.2]
  | .pr a, b, h => by cases b <;> simp only [eqT] at h <;> first | (cases h; done) | rw [z3n h]
  | .mp k a, b, h => by cases b <;> simp only [eqT, Bool.and_eq_true, decide_eq_true_eq] at h <;> first | (cases h; done) | rw [h.1, zd9 h.2]
  | .mr k a, b, h => by cases b <;> simp only [eqT, Bool.and_eq_true, decide_eq_true_eq] at h <;> first | (cases h; done) | rw [h.1, zd9 h.2]
  | .cl f a, b, h => by cases b <;> simp only [eqT] at h <;> cases h
theorem z3n : ∀ {a b : List T}, zda a b = true -> a = b
  | [], [], _ => rfl
  | a :: r, b :: s, h => by
    simp only [zda, Bool.and_eq_true] at h
    rw [zho h.1, z3n h.2]
  | [], _ :: _, h => by simp [zda] at h
  | _ :: _, [], h => by simp [zda] at h
end
def eqA : A -> A -> Bool
  | .dead, .dead => true
  | .k a, .k b => eqV a b
  | .t d x, .t e y => decide (d = e) && eqT x y
  | .h i p, .h j q => decide (i = j) && decide (p = q)
  | .a i p o, .a j q o' => decide (i = j) && decide (p = q) && decide (o = o')
  | .ea d x o, .ea e y o' => decide (d = e) && zda x y && decide (o = o')
  | .tf n x, .tf m y => decide (n = m) && zda x y
  | _, _ => false
theorem zja {a b : A} (h : eqA a b = true) : a = b := by
  cases a <;> cases b <;> simp only [eqA, Bool.and_eq_true, decide_eq_true_eq] at h <;> first | (cases h; done) | rfl | (rw [zek h]; done) | (rw [h.1, zho h.2]; done) | (rw [h.1, h.2]; done) | (rw [h.1.1, h.1.2, h.2]; done) | (rw [h.1.1, z3n h.1.2, h.2]; done) | (rw [h.1, z3n h.2]; done)
def zld : List A -> List A -> Bool
  | [], [] => true
  | a :: r, b :: s => eqA a b && zld r s
  | _, _ => false
theorem zhq : ∀ {a b : List A}, zld a b = true -> a = b
  | [], [], _ => rfl
  | a :: r, b :: s, h => by
    simp only [zld, Bool.and_eq_true] at h
    rw [zja h.1, zhq h.2]
def eqE : E -> E -> Bool
  | .one a, .one b => eqA a b
  | .ag a, .ag b => zld a b
  | _, _ => false
theorem zkM {a b : E} (h : eqE a b = true) : a = b := by
  cases a <;> cases b <;> simp only [eqE] at h <;> first | (cases h; done) | (rw [zja h]; done) | (rw [zhq h]; done)
def zlb : List (Nat × E) -> List (Nat × E) -> Bool
  | [], [] => true
  | (i, a) :: r, (j, b) :: s => Nat.beq i j && eqE a b && zlb r s
  | _, _ => false
theorem zhn : ∀ {a b : List (Nat × E)}, zlb a b = true -> a = b
  | [], [], _ => rfl
  | (i, a) :: r, (j, b) :: s, h => by
    simp only [zlb, Bool.and_eq_true] at h
    rw [Nat.eq_of_beq_eq_true h.1.1, zkM h.1.2, zhn h.2]
def zlc : List (Nat × T) -> List (Nat × T) -> Bool
  | [], [] => true
  | (i, a) :: r, (j, b) :: s => Nat.beq i j && eqT a b && zlc r s
  | _, _ => false
theorem zhp : ∀ {a b : List (Nat × T)}, zlc a b = true -> a = b
  | [], [], _ => rfl
  | (i, a) :: r, (j, b) :: s, h => by
    simp only [zlc, Bool.and_eq_true] at h
    rw [Nat.eq_of_beq_eq_true h.1.1, zho h.1.2, zhp h.2]
def zie (f g : Fr) : Bool := Nat.beq f.nt g.nt && zlb f.tm g.tm && zlc f.ob g.ob
theorem zid {f g : Fr} (h : zie f g = true) : z4g f g := by
  simp only [zie, Bool.and_eq_true] at h
  have e1 := Nat.eq_of_beq_eq_true h.1.1
  have e2 := zhn h.1.2
  have e3 := zhp h.2
  exact ⟨e1, fun i _ => by rw [e2], fun i _ => by rw [e3]⟩
open Classical in
noncomputable def zgM (x y : Fr) : Option Fr := if zie x y = true then some x else if z4g x y then some x else none
theorem z7b {x y z : Fr} (h : zgM x y = some z) : x = z /\ z4g x y := by
  unfold zgM at h
  split at h
  · rename_i hb; cases h; exact ⟨rfl, zid hb⟩
  · split at h
    · rename_i hs; cases h; exact ⟨rfl, hs⟩
    · cases h
theorem z7W {x y : Fr} (h : z4g x y) : zgM x y = some x := by
  unfold zgM
  by_cases hb : zie x y = true
  · rw [if_pos hb]
  · rw [if_neg hb, if_pos h]
open Classical in
noncomputable def z2t (P : Program) (C : z0b) (wio : FuncId -> Nat -> Bool) (same : Bool) (M : Nat -> Bool) (ops : Array Oper) : SchT -> Fr -> Option Fr
  | .nil, fr => some fr
  | .op k m rest, fr => match ops[k]? with
    | none => none
    | some o => match z2R ops fr o with
      | none => none
      | some false => (match putF fr o.dst (.one (.k undef)) with | some fr' => z2t P C wio same M ops rest (zj4 fr') | none => none)
      | some true =>
        if m = 0 ∨ m = 3 then (match z4A P (if m = 0 then M else zli) fr o.op with
          | some e => (match putF fr o.dst e with | some fr' => z2t P C wio same M ops rest (zj4 fr') | none => none)
          | none => none)
        else (match (if m = 2 then opF P C wio fr o else if same then z5t P C wio fr o else wrF P C wio M fr o) with | some fr' => z2t P C wio same M ops rest (zj4 fr') | none => none)
  | .alt a b, fr => match z2t P C wio same M ops a fr, z2t P C wio same M ops b fr with
    | some x, some y => zgM x y
    | _, _ => none
theorem z2n {P : Program} {I : World -> (Nat -> z0a) -> Prop} {C : z0b} {wio : FuncId -> Nat -> Bool} {same : Bool} {M : Nat -> Bool} {ops : Array Oper} {Q : Exit -> Act -> World -> Prop} (hI : EnvS I) (hC : z5X P I C) : ∀ {l : SchT} {w : World} {K : Nat -> z0a} {R G : Nat -> Value} {fr fr' : Fr} {a : Act}, FRep w K R G fr a -> I w K -> z2t P C wio same M ops l fr = some fr' ->
    (∀ a' w' K' R', FRep w' K' R' G fr' a' -> Step w K w' K' -> Q .normal a' w') -> z7D P .any ops (NoPz Q) l (clsA same w K M) (Fro w K) (fun x => x = w) a
  | .nil, w, K, R, G, fr, fr', a, h, hIw, hf, hn => by
    simp only [z2t, Option.some.injEq] at hf
    subst hf
    intro x hx
    subst hx; exact hn a x K R h (Step.refl _ _)
  | .alt x y, w, K, R, G, fr, fr', a, h, hIw, hf, hn => by
    simp only [z2t] at hf
    split at hf
    · rename_i f1 f2 h1 h2
      obtain ⟨rfl, hs⟩ := z7b hf
      exact ⟨z2n hI hC h hIw h1 hn, z2n hI hC h hIw h2 fun a' w' K' R' hr hst => hn a' w' K' R' (hr.same hs) hst⟩
    · cases hf
  | .op k m rest, w, K, R, G, fr, fr', a, h, hIw, hf, hn => by
    simp only [z2t] at hf
    split at hf
    · cases hf
    rename_i o ho
    refine ⟨o, ho, ?_⟩
    split at hf
    · cases hf
    · rename_i hg
      rw [if_neg (by rw [z3P h hg]; simp)]
      split at hf
      · rename_i fr1 h1
        exact z2n hI hC (h.putF (v := undef) (e := .one (.k undef)) rfl h1).nrm hIw hf hn
      · cases hf
    · rename_i hg
      rw [if_pos (z3P h hg)]
      split at hf
      · rename_i hm
        rw [if_pos hm]
        split at hf
        · rename_i e he
          split at hf
          · rename_i fr1 h1
            obtain ⟨v, r1, r2⟩ := z5f h he
            refine ⟨v, fun x hx => r2 x ?_, z2n hI hC (h.putF r1 h1).nrm hIw hf hn⟩
            by_cases hm0 : m = 0
            · rw [if_pos hm0] at hx ⊢; exact hx.stay
            · rw [if_neg hm0] at hx ⊢
              intro b hb hc
              rcases hc with hc | ⟨i, s, _, hc⟩
              · exact hx b hb hc
              · cases hc
          · cases hf
        · cases hf
      · rename_i hm
        rw [if_neg hm]
        intro x hx
        subst hx
        split at hf
        · rename_i fr1 h1
          by_cases hm2 : m = 2
          · rw [if_pos hm2] at h1
            exact zju hI hC h hIw h1 fun a' w' K' R' hr hs => ⟨clsA same w' K' M, Fro w' K', fun y => y = w', rfl, fun y hy => by subst hy; exact clsA.self _ _ _ _, fun y hy => hy.fro, fun y hy => hy.later hs, .inl hm2, z2n hI hC hr.nrm (hI.step hIw hs) hf fun a2 w2 K2 R2 hr2 hs2 => hn a2 w2 K2 R2 hr2 (hs.trans hs2)⟩
          · rw [if_neg hm2] at h1
            cases same with
            | true =>
              rw [if_pos rfl] at h1
              refine zhA hI hC h hIw h1 fun a' w' K' R' hr hs hsame => ⟨clsA true w' K' M, Fro w' K', fun y => y = w', rfl, fun y hy => by subst hy; exact clsA.self _ _ _ _, fun y hy => hy.fro, fun y hy => hy.later hs, .inr fun y hy => ?_, z2n hI hC hr.nrm (hI.step hIw hs) hf fun a2 w2 K2 R2 hr2 hs2 => hn a2 w2 K2 R2 hr2 (hs.trans hs2)⟩
              intro b hb
              have : zlj w' y := hy
              rw [this b (Nat.lt_of_lt_of_le hb hs.size)]
              exact hsame b hb
            | false =>
              rw [if_neg (by simp)] at h1
              exact zka hI hC h hIw h1 fun a' w' K' R' hr hs hstay => ⟨clsA false w' K' M, Fro w' K', fun y => y = w', rfl, fun y hy => by subst hy; exact clsA.self _ _ _ _, fun y hy => hy.fro, fun y hy => hy.later hs, .inr fun y hy => hstay y hy, z2n hI hC hr.nrm (hI.step hIw hs) hf fun a2 w2 K2 R2 hr2 hs2 => hn a2 w2 K2 R2 hr2 (hs.trans hs2)⟩
        · cases hf
end
section
inductive X where
  | n
  | x (id : Nat)
  | r
def zgq : X -> Exit
  | .n => .normal
  | .x id => .exit id
  | .r => .ret
structure Cfg where
  wio : FuncId -> Nat -> Bool
  live : Nat -> Option (List Nat)
  dr : Nat -> Option (List (Nat × Nat))
  wr : Nat -> List Nat := fun _ => []
  fz : Nat -> Option (List Nat) := fun _ => none
  dt : Nat -> Option SchT := fun _ => none
def z4M : Code -> Nat
  | .region id _ _ => id
  | .seq a _ => z4M a
  | .cond _ a _ => z4M a
  | .block _ c => z4M c
  | .loop c => z4M c
  | .scope c => z4M c
  | _ => 0
def onE : E -> List Nat
  | .one x => (onA x).toList
  | .ag xs => xs.filterMap onA
def ids : List (Nat × E) -> List Nat
  | [] => []
  | (_, e) :: r => onE e ++ ids r
def z9w (ob : List (Nat × T)) : List Nat -> List (Nat × T)
  | [] => []
  | i :: r => match z0w ob i with | some t => z2N (z9w ob r) i t | none => z9w ob r
def z9v (tm : List (Nat × E)) : List Nat -> List (Nat × E)
  | [] => []
  | i :: r => (i, z0W tm i) :: z9v tm r
def z4o (n : Nat) : List (Nat × E) -> List (Nat × E)
  | [] => []
  | (i, e) :: r => if n <= i then (i, e) :: z4o n r else z4o n r
def zfk (l : List Nat) (n : Nat) : Nat := if l.contains 999999 then 1000000000 else n
def z4p (keep : Option (List Nat)) (fr : Fr) : Fr :=
  match keep with
  | none => fr
  | some l => { fr with tm := z9v fr.tm l ++ z4o (zfk l fr.nt) fr.tm, ob := z9w fr.ob (ids (z9v fr.tm l ++ z4o (zfk l fr.nt) fr.tm)) }
theorem z2C (ob : List (Nat × T)) : ∀ (l : List Nat) (i : Nat), z0w (z9w ob l) i = if i ∈ l then z0w ob i else none
  | [], i => by simp [z9w, z0w]
  | j :: r, i => by
    simp only [z9w]
    split
    · rename_i t ht
      rw [z0h, z2C ob r i]
      by_cases e : j = i
      · subst e; simp [ht]
      · simp only [if_neg e, List.mem_cons, Ne.symm e, false_or]
    · rename_i hn
      rw [z2C ob r i]
      by_cases e : i = j
      · subst e; simp [hn]
      · simp [e]
theorem zd6 (l m : List (Nat × E)) (i : Nat) : ((∃ e, (i, e) ∈ l) /\ z0W (l ++ m) i = z0W l i) ∨ z0W (l ++ m) i = z0W m i := by
  induction l with
  | nil => exact .inr rfl
  | cons a r ih =>
    obtain ⟨j, x⟩ := a
    simp only [List.cons_append, z0W]
    by_cases h : j = i
    · subst h; left; exact ⟨⟨x, by simp⟩, by simp⟩
    · simp only [if_neg h]
      rcases ih with ⟨⟨e, he⟩, h2⟩ | h2
      · left; exact ⟨⟨e, by simp [he]⟩, h2⟩
      · right; exact h2
theorem zch (tm : List (Nat × E)) : ∀ (l : List Nat) (i : Nat), (∃ e, (i, e) ∈ z9v tm l) -> z0W (z9v tm l) i = z0W tm i
  | [], i, h => by obtain ⟨e, he⟩ := h; cases he
  | j :: r, i, h => by
    simp only [z9v, z0W]
    by_cases e : j = i
    · subst e; simp
    · rw [if_neg e]
      refine zch tm r i ?_
      obtain ⟨x, hx⟩ := h
      simp only [z9v] at hx
      rcases List.mem_cons.1 hx with hx | hx
      · cases hx; exact absurd rfl e
      · exact ⟨x, hx⟩
theorem z7f (n : Nat) : ∀ (tm : List (Nat × E)) (i : Nat), z0W (z4o n tm) i = z0W tm i ∨ z0W (z4o n tm) i = .one .dead
  | [], i => .inl rfl
  | (j, x) :: r, i => by
    simp only [z4o]
    by_cases e : j = i
    · subst e
      split
      · left; simp [z0W]
      · rename_i hn
        right
        have : ∀ l : List (Nat × E), z0W (z4o n l) j = .one .dead := by
          intro l
          induction l with
          | nil => rfl
          | cons b r ih =>
            obtain ⟨k, y⟩ := b
            simp only [z4o]
            split
            · simp only [z0W]; rw [if_neg (by omega)]; exact ih
            · exact ih
        exact this r
    · split
      · simp only [z0W, if_neg e]; exact z7f n r i
      · simp only [z0W, if_neg e]; exact z7f n r i
theorem zea : ∀ {tm : List (Nat × E)} {i : Nat}, z0W tm i = .one .dead ∨ (i, z0W tm i) ∈ tm
  | [], i => .inl rfl
  | (j, x) :: r, i => by
    simp only [z0W]
    by_cases e : j = i
    · subst e; right; simp
    · rw [if_neg e]
      rcases zea (tm := r) (i := i) with h | h
      · exact .inl h
      · exact .inr (by simp [h])
theorem zha : ∀ {tm : List (Nat × E)} {i : Nat} {e : E}, (i, e) ∈ tm -> ∀ j ∈ onE e, j ∈ ids tm
  | (k, x) :: r, i, e, h, j, hj => by
    simp only [ids, List.mem_append]
    rcases List.mem_cons.1 h with h | h
    · cases h; exact .inl hj
    · exact .inr (zha h j hj)
theorem FRep.canon {w : World} {K : Nat -> z0a} {R G : Nat -> Value} {fr : Fr} {a : Act} (h : FRep w K R G fr a) (keep : Option (List Nat)) : FRep w K R G (z4p keep fr) a := by
  unfold z4p
  split
  · exact h
  rename_i l
  let tm' := z9v fr.tm l ++ z4o (zfk l fr.nt) fr.tm
  have hget : ∀ i, z0W tm' i = z0W fr.tm i ∨ z0W tm' i = .one .dead := fun i => by
    rcases zd6 (z9v fr.tm l) (z4o (zfk l fr.nt) fr.tm) i with ⟨he, e⟩ | e
    · left; rw [show z0W tm' i = _ from e]; exact zch fr.tm l i he
    · rw [show z0W tm' i = _ from e]; exact z7f (zfk l fr.nt) fr.tm i
  have hsub : ∀ i t, z0w (z9w fr.ob (ids tm')) i = some t -> z0w fr.ob i = some t := fun i t ht => by
    rw [z2C] at ht
    split at ht
    · exact ht
    · cases ht
  have hA : ∀ x u, (∀ j, onA x = some j -> j ∈ ids tm') -> ARep w K R fr.ob x u -> ARep w K R (z9w fr.ob (ids tm')) x u := fun x u hx hr => by
    cases x with
    | dead => trivial
    | k v => exact hr
    | t dep x => exact ⟨hr.1, fun i e => by subst e; rw [z2C, if_pos (hx i rfl)]; exact hr.2 i rfl⟩
    | h i q => obtain ⟨n1, t, n2, n3⟩ := hr; exact ⟨n1, t, by rw [z2C, if_pos (hx i rfl)]; exact n2, n3⟩
    | a i q off => obtain ⟨hv, g, n1, n4, n5, t, n2, n3⟩ := hr; exact ⟨hv, g, n1, n4, n5, t, by rw [z2C, if_pos (hx i rfl)]; exact n2, n3⟩
    | tf n cs => exact hr
    | ea dep cs off => obtain ⟨g, o, F, e1, e2, e3, e4, e5, e6⟩ := hr; exact ⟨g, o, F, e1, e2, e3, e4, e5, fun i e => by subst e; rw [z2C, if_pos (hx i rfl)]; exact e6 i rfl⟩
  refine ⟨fun i => ?_, fun id t ht => h.ob id t (hsub id t ht), h.nt, h.df⟩
  show ERep w K R (z9w fr.ob (ids tm')) (z0W tm' i) _
  rcases zea (tm := tm') (i := i) with hd | hm
  · rw [hd]; trivial
  · rcases hget i with e | e
    · have hr := h.tm i
      rw [← e] at hr
      have hon : ∀ j ∈ onE (z0W tm' i), j ∈ ids tm' := zha hm
      revert hr hon
      generalize z0W tm' i = ee
      intro hr hon
      cases ee with
      | one x => exact hA x _ (fun j hj => hon j (by simp [onE, hj])) hr
      | ag xs =>
        obtain ⟨arr, e1, e2, e3⟩ := hr
        exact ⟨arr, e1, e2, fun j x hx => hA x _ (fun k hk => hon k (by simp only [onE, List.mem_filterMap]; exact ⟨x, List.mem_of_getElem? hx, hk⟩)) (e3 j x hx)⟩
    · rw [e]; trivial
def z6z (body : Fr -> Option (X × Fr)) (cn : Fr -> Fr) : Nat -> Fr -> Option (X × Fr)
  | 0, _ => none
  | n + 1, fr => match body (cn fr) with
    | some (.n, fr') => z6z body cn n fr'
    | some (x, fr') => some (x, fr')
    | none => none
def z2w (P : Program) : List Oper -> Fr -> Option Fr
  | [], fr => some fr
  | o :: l, fr => match o.op, o.dst with
    | .assign _, some d => (match zkX P fr o.type d with | some fr' => z2w P l fr' | none => none)
    | _, _ => z2w P l fr
theorem z7m {P : Program} {w : World} {G : Nat -> Value} {a : Act} : ∀ {l : List Oper} {K : Nat -> z0a} {R : Nat -> Value} {fr fr' : Fr}, FRep w K R G fr a -> z2w P l fr = some fr' -> ∃ K' R', FRep w K' R' G fr' a /\ Step w K w K'
  | [], K, R, fr, fr', h, hf => by cases hf; exact ⟨K, R, h, Step.refl _ _⟩
  | o :: l, K, R, fr, fr', h, hf => by
    simp only [z2w] at hf
    split at hf
    · split at hf
      · rename_i fr1 h1
        obtain ⟨K1, R1, a1, a2, _, _⟩ := zhH h h1
        obtain ⟨K2, R2, b1, b2⟩ := z7m (l := l) a1 hf
        exact ⟨K2, R2, b1, a2.trans b2⟩
      · cases hf
    · exact z7m (l := l) h hf
noncomputable def z3F (P : Program) (C : z0b) (cf : Cfg) (id : Nat) (ops : Array Oper) (fr : Fr) : Option Fr :=
  match cf.dt id with
  | some t => z2t P C cf.wio (cf.wr id).isEmpty (cf.wr id).contains ops t fr
  | none => (match cf.dr id with
    | some sch => z4P P C cf.wio (cf.wr id).isEmpty (cf.wr id).contains ops (z6r ops sch) fr
    | none => none)
noncomputable def z0S (P : Program) (C : z0b) (cf : Cfg) (LF : Nat) : Code -> Fr -> Option (X × Fr)
  | .skip, fr => some (.n, fr)
  | .label _, fr => some (.n, fr)
  | .region id ops draw, fr =>
    if draw then (match z3F P C cf id ops (ziy fr (cf.fz id)) with
      | some fr1 => (match z2w P ops.toList fr1 with | some fr2 => some (.n, fr2) | none => none)
      | none => none)
    else (match zcS P C cf.wio ops ops.toList (ziy fr (cf.fz id)) with | some fr' => some (.n, fr') | none => none)
  | .seq a b, fr => (match z0S P C cf LF a fr with
    | some (.n, fr') => z0S P C cf LF b fr'
    | r => r)
  | .cond c x y, fr => (match rdV (opE fr c) with
    | some (.bool true) => z0S P C cf LF x fr
    | some (.bool false) => z0S P C cf LF y fr
    | _ => none)
  | .block id c, fr => (match z0S P C cf LF c fr with
    | some (.x i, fr') => if i = id then some (.n, fr') else some (.x i, fr')
    | r => r)
  | .scope c, fr => z0S P C cf LF c fr
  | .loop c, fr => z6z (fun fr => z0S P C cf LF c fr) (z4p (cf.live (z4M c))) LF fr
  | .exit id, fr => some (.x id, fr)
  | .ret, fr => some (.r, fr)
  | _, _ => none
def zgU (ops : Array Oper) (sch : List (Nat × Nat)) : Bool :=
  decide ((z6r ops sch).length = ops.toList.length) && Region.noSelect ops && z9Q .any ops (z6r ops sch) (Array.replicate ops.toList.length false)
def z5Q (ops : Array Oper) (t : SchT) : Bool :=
  decide (t.depth = ops.toList.length) && Region.noSelect ops && z1q .any ops true t (Array.replicate ops.toList.length false)
def okC (cf : Cfg) : Code -> Bool
  | .region id ops draw => !draw || (match cf.dt id with | some t => z5Q ops t | none => (match cf.dr id with | some sch => zgU ops sch | none => true))
  | .seq a b => okC cf a && okC cf b
  | .cond _ x y => okC cf x && okC cf y
  | .block _ c => okC cf c
  | .loop c => okC cf c
  | .scope c => okC cf c
  | _ => true
theorem zlz {p : Nat -> Prop} : ∀ {n : Nat}, p n -> ∃ m, p m /\ ∀ k, p k -> m <= k := by
  intro n
  induction n using Nat.strongRecOn with
  | _ n ih =>
    intro h
    by_cases hc : ∃ k, k < n /\ p k
    · obtain ⟨k, hk, hp⟩ := hc
      exact ih k hk hp
    · exact ⟨n, h, fun k hp => Nat.le_of_not_lt fun hk => hc ⟨k, hk, hp⟩⟩
theorem zfP {P : Program} {c : Code} {Q : Exit -> Act -> World -> Prop} (J : Nat -> Act -> World -> Prop) (round : ∀ n a w, J n a w -> c.wp P (Exit.then (fun a' w' => ∃ m, m < n /\ J m a' w') Q) a w) {n : Nat} {a : Act} {w : World} (h : J n a w) : (Code.loop c).wp P Q a w := by
  classical
  let L : Act -> World -> Nat -> Prop := fun a w m => J m a w /\ ∀ k, J k a w -> m <= k
  have hL : ∀ a w, (∃ n, J n a w) -> ∃ m, L a w m := fun a w ⟨n, hn⟩ => zlz hn
  refine wp_loop (fun a w => ∃ n, J n a w) (fun a w => if h : ∃ m, L a w m then h.choose else 0) ⟨n, h⟩ fun a w hI => ?_
  have hI2 := hL a w hI
  obtain ⟨hj, hmin⟩ := hI2.choose_spec
  refine Code.wp_mono (fun e a' w' hq => ?_) (round _ a w hj)
  cases e with
  | normal =>
    obtain ⟨m, hm, hJ⟩ := hq
    refine ⟨⟨m, hJ⟩, ?_⟩
    have hI' := hL a' w' ⟨m, hJ⟩
    rw [dif_pos hI', dif_pos hI2]
    exact Nat.lt_of_le_of_lt (hI'.choose_spec.2 m hJ) hm
  | exit id => exact hq
  | goto l => exact hq
  | ret => exact hq
  | panic ch => exact hq
  | outgrown => exact hq
theorem zjR {P : Program} {I : World -> (Nat -> z0a) -> Prop} {C : z0b} {cf : Cfg} {LF : Nat} (hI : EnvS I) (hC : z5X P I C) (hm : P.follows .mixedOrders = true) : ∀ (c : Code) {w : World} {K : Nat -> z0a} {R G : Nat -> Value} {fr fr' : Fr} {x : X} {a : Act} {Q : Exit -> Act -> World -> Prop}, okC cf c = true -> FRep w K R G fr a -> I w K ->
    z0S P C cf LF c fr = some (x, fr') -> (∀ a' w' K' R', FRep w' K' R' G fr' a' -> Step w K w' K' -> Q (zgq x) a' w') -> c.wp P Q a w := by
  intro c
  induction c with
  | skip => intro w K R G fr fr' x a Q ho h hIw hf hq; cases hf; exact wp_skip (hq a w K R h (Step.refl _ _))
  | label l => intro w K R G fr fr' x a Q ho h hIw hf hq; cases hf; exact wp_label (hq a w K R h (Step.refl _ _))
  | exit id => intro w K R G fr fr' x a Q ho h hIw hf hq; cases hf; exact wp_exit (hq a w K R h (Step.refl _ _))
  | ret => intro w K R G fr fr' x a Q ho h hIw hf hq; cases hf; exact wp_ret (hq a w K R h (Step.refl _ _))
  | goto l => intro w K R G fr fr' x a Q ho h hIw hf hq; cases hf
  | scope c ih =>
    intro w K R G fr fr' x a Q ho h hIw hf hq
    simp only [okC] at ho
    simp only [z0S] at hf
    refine wp_scope_straight (ih ho h hIw hf fun a' w' K' R' hr hs => ?_)
    have := hq a' w' K' R' hr hs
    cases x <;> exact this
  | refuse s => intro w K R G fr fr' x a Q ho h hIw hf hq; cases hf
  | rangeFunc => intro w K R G fr fr' x a Q ho h hIw hf hq; cases hf
  | region id ops draw =>
    intro w K R G fr fr' x a Q ho h hIw hf hq
    simp only [z0S] at hf
    split at hf
    · rename_i hd
      subst hd
      split at hf
      · rename_i fr1 h1
        split at hf
        · rename_i fr2 h2
          cases hf
          obtain ⟨Kz, hz, hsz⟩ := zed (l := cf.fz id) h
          have hd2 : FRep w.drew Kz R G (ziy fr (cf.fz id)) a := hz.keep ⟨fun b hb e => ⟨e, rfl⟩, fun b hb _ => ⟨rfl, rfl⟩, Nat.le_refl _⟩
          have hId : I w.drew Kz := hI.keep (hI.step hIw hsz) (Nat.le_refl _) fun b hb e => ⟨e, rfl⟩
          have hfin : ∀ a' w' K' R', FRep w' K' R' G fr1 a' -> Step w.drew Kz w' K' -> Q .normal a' w' := fun a' w' K' R' hr hs => by
            obtain ⟨K2, R2, e1, e2⟩ := z7m hr h2
            have hs0 : Step w Kz w' K' := ⟨hs.os, hs.tape, hs.output, hs.size, hs.old, hs.sz⟩
            exact hq a' w' K2 R2 e1 ((hsz.trans hs0).trans e2)
          rw [show Code.region id ops true = Code.region id ops.toList.toArray true by rw [Array.toArray_toList]]
          unfold z3F at h1
          split at h1
          · rename_i t ht
            simp only [okC, ht, z5Q, Bool.not_true, Bool.false_or, Bool.and_eq_true, decide_eq_true_eq] at ho
            obtain ⟨⟨o1, o2⟩, o3⟩ := ho
            refine za2 t (clsA (cf.wr id).isEmpty w.drew Kz (cf.wr id).contains) (Fro w.drew Kz) (fun y => y = w.drew) hm o1 (by rw [Array.toArray_toList]; exact o2) (by rw [Array.toArray_toList]; exact o3) (fun y hy => hy.fro) (fun y hy => by subst hy; exact clsA.self _ _ _ _) rfl ?_
            rw [Array.toArray_toList]
            exact z2n hI hC hd2 hId h1 hfin
          · rename_i ht
            split at h1
            · rename_i sch hsch
              simp only [okC, ht, hsch, zgU, Bool.not_true, Bool.false_or, Bool.and_eq_true, decide_eq_true_eq] at ho
              obtain ⟨⟨o1, o2⟩, o3⟩ := ho
              refine z7C sch (clsA (cf.wr id).isEmpty w.drew Kz (cf.wr id).contains) (Fro w.drew Kz) (fun y => y = w.drew) hm (by rw [Array.toArray_toList]; exact o1) (by rw [Array.toArray_toList]; exact o2) (by rw [Array.toArray_toList]; exact o3) (fun y hy => hy.fro) (fun y hy => by subst hy; exact clsA.self _ _ _ _) rfl ?_
              rw [Array.toArray_toList]
              exact z3b hI hC hd2 hId h1 hfin
            · cases h1
        · cases hf
      · cases hf
    · rename_i hd
      have hd' : draw = false := by simpa using hd
      subst hd'
      split at hf
      · rename_i fr1 h1
        cases hf
        obtain ⟨Kz, hz, hsz⟩ := zed (l := cf.fz id) h
        exact wp_region_list (zgI hI hC hz (hI.step hIw hsz) h1 fun a' w' K' R' hr hs => hq a' w' K' R' hr (hsz.trans hs))
      · cases hf
  | seq c1 c2 ih1 ih2 =>
    intro w K R G fr fr' x a Q ho h hIw hf hq
    simp only [okC, Bool.and_eq_true] at ho
    simp only [z0S] at hf
    refine wp_seq ?_
    split at hf
    · rename_i fr1 h1
      exact ih1 ho.1 h hIw h1 fun a1 w1 K1 R1 hr hs => ih2 ho.2 hr (hI.step hIw hs) hf fun a2 w2 K2 R2 hr2 hs2 => hq a2 w2 K2 R2 hr2 (hs.trans hs2)
    · rename_i hne
      cases x with
      | n => exact absurd hf (hne _)
      | x id => exact ih1 ho.1 h hIw hf fun a1 w1 K1 R1 hr hs => hq a1 w1 K1 R1 hr hs
      | r => exact ih1 ho.1 h hIw hf fun a1 w1 K1 R1 hr hs => hq a1 w1 K1 R1 hr hs
  | cond c x1 y1 ih1 ih2 =>
    intro w K R G fr fr' x a Q ho h hIw hf hq
    simp only [okC, Bool.and_eq_true] at ho
    simp only [z0S] at hf
    split at hf
    · rename_i hc
      obtain ⟨e1, -⟩ := z0l (h.opE c) hc
      exact wp_cond_true e1 (ih1 ho.1 h hIw hf hq)
    · rename_i hc
      obtain ⟨e1, -⟩ := z0l (h.opE c) hc
      exact wp_cond_false e1 (ih2 ho.2 h hIw hf hq)
    · cases hf
  | block id c ih =>
    intro w K R G fr fr' x a Q ho h hIw hf hq
    simp only [okC] at ho
    simp only [z0S] at hf
    refine wp_block ?_
    split at hf
    · rename_i i fr1 h1
      split at hf
      · rename_i hi
        cases hf
        exact ih ho h hIw h1 fun a1 w1 K1 R1 hr hs => by
          simp only [zgq, Exit.inBlock, if_pos hi]; exact hq a1 w1 K1 R1 hr hs
      · rename_i hi
        cases hf
        exact ih ho h hIw h1 fun a1 w1 K1 R1 hr hs => by
          simp only [zgq, Exit.inBlock, if_neg hi]; exact hq a1 w1 K1 R1 hr hs
    · rename_i hne
      cases x with
      | n => exact ih ho h hIw hf fun a1 w1 K1 R1 hr hs => hq a1 w1 K1 R1 hr hs
      | x i => exact absurd hf (hne _ _)
      | r => exact ih ho h hIw hf fun a1 w1 K1 R1 hr hs => hq a1 w1 K1 R1 hr hs
  | loop c ih =>
    intro w K R G fr fr' x a Q ho h hIw hf hq
    simp only [okC] at ho
    simp only [z0S] at hf
    refine zfP (fun n a1 w1 => ∃ fr1 K1 R1, FRep w1 K1 R1 G fr1 a1 /\ Step w K w1 K1 /\ z6z (fun fr => z0S P C cf LF c fr) (z4p (cf.live (z4M c))) n fr1 = some (x, fr')) (fun n a1 w1 hJ => ?_) ⟨fr, K, R, h, Step.refl _ _, hf⟩
    obtain ⟨fr1, K1, R1, h1, hs1, hi⟩ := hJ
    cases n with
    | zero => cases hi
    | succ n =>
      simp only [z6z] at hi
      split at hi
      · rename_i fr2 h2
        exact ih ho (h1.canon _) (hI.step hIw hs1) h2 fun a2 w2 K2 R2 hr hs => ⟨n, Nat.lt_succ_self n, fr2, K2, R2, hr, hs1.trans hs, hi⟩
      · rename_i x2 fr2 hne h2
        cases hi
        cases x with
        | n => exact absurd rfl (hne)
        | x i => exact ih ho (h1.canon _) (hI.step hIw hs1) h2 fun a2 w2 K2 R2 hr hs => hq a2 w2 K2 R2 hr (hs1.trans hs)
        | r => exact ih ho (h1.canon _) (hI.step hIw hs1) h2 fun a2 w2 K2 R2 hr hs => hq a2 w2 K2 R2 hr (hs1.trans hs)
      · cases hi
end
section
def z5z (i : Nat) : T -> E
  | .vr _ => .one (.a i [] 0)
  | .os _ _ _ => .one (.h i [])
  | .vo off _ => .one (.a i [] off)
  | .pr cs => .one (.ea none cs 0)
  | t => .one (.t none t)
def z3y (nt : Nat) : List T -> Nat -> List (Nat × E)
  | [], _ => []
  | t :: ts, i => if z3a t then (i, z5z i t) :: (nt + 1000 + i, z5z i t) :: z3y nt ts (i + 1) else (i, z5z i t) :: z3y nt ts (i + 1)
def zkq : T -> T
  | .vo _ cs => .vr cs
  | t => t
def z3o : List T -> Nat -> List (Nat × T)
  | [], _ => []
  | t :: ts, i => if z3a t then (i, zkq t) :: z3o ts (i + 1) else z3o ts (i + 1)
theorem z7h : ∀ (ts : List T) (i j : Nat) (t : T), z0w (z3o ts i) j = some t -> i <= j /\ ∃ t0, t = zkq t0 /\ ts[j - i]? = some t0 /\ z3a t0 = true
  | [], i, j, t, h => by cases h
  | t0 :: ts, i, j, t, h => by
    simp only [z3o] at h
    split at h
    · rename_i hio
      simp only [z0w] at h
      split at h
      · rename_i e
        cases h
        subst e
        exact ⟨Nat.le_refl _, t0, rfl, by simp, hio⟩
      · obtain ⟨h1, t1, h0, h2, h3⟩ := z7h ts (i + 1) j t h
        exact ⟨by omega, t1, h0, by rw [show j - i = (j - (i + 1)) + 1 by omega, List.getElem?_cons_succ]; exact h2, h3⟩
    · obtain ⟨h1, t1, h0, h2, h3⟩ := z7h ts (i + 1) j t h
      exact ⟨by omega, t1, h0, by rw [show j - i = (j - (i + 1)) + 1 by omega, List.getElem?_cons_succ]; exact h2, h3⟩
theorem zcq : ∀ (ts : List T) (i j : Nat) (t : T), ts[j]? = some t -> z3a t = true -> z0w (z3o ts i) (i + j) = some (zkq t)
  | [], i, j, t, h, _ => by simp at h
  | t0 :: ts, i, 0, t, h, hio => by
    simp at h; subst h
    simp [z3o, hio, z0w]
  | t0 :: ts, i, j + 1, t, h, hio => by
    have ih := zcq ts (i + 1) j t (by simpa using h) hio
    rw [show i + 1 + j = i + (j + 1) by omega] at ih
    simp only [z3o]
    split
    · simp only [z0w]; rw [if_neg (by omega)]; exact ih
    · exact ih
theorem z9X (nt : Nat) : ∀ (ts : List T) (i k : Nat), z0W (z3y nt ts i) k = .one .dead ∨ ∃ j t, ts[j]? = some t /\ z0W (z3y nt ts i) k = z5z (i + j) t /\ (k = i + j ∨ (z3a t = true /\ k = nt + 1000 + (i + j)))
  | [], i, k => .inl rfl
  | t :: ts, i, k => by
    have rest : z0W (z3y nt ts (i + 1)) k = .one .dead ∨ ∃ j t', (t :: ts)[j]? = some t' /\ z0W (z3y nt ts (i + 1)) k = z5z (i + j) t' /\ (k = i + j ∨ (z3a t' = true /\ k = nt + 1000 + (i + j))) := by
      rcases z9X nt ts (i + 1) k with h | ⟨j, t', h1, h2, h3⟩
      · exact .inl h
      · refine .inr ⟨j + 1, t', by simpa using h1, by rw [h2]; congr 1; omega, ?_⟩
        rcases h3 with h3 | ⟨h3, h4⟩
        · left; omega
        · right; exact ⟨h3, by omega⟩
    simp only [z3y]
    split
    · rename_i hio
      simp only [z0W]
      split
      · rename_i e; exact .inr ⟨0, t, rfl, rfl, .inl e.symm⟩
      · split
        · rename_i e; exact .inr ⟨0, t, rfl, rfl, .inr ⟨hio, e.symm⟩⟩
        · exact rest
    · simp only [z0W]
      split
      · rename_i e; exact .inr ⟨0, t, rfl, rfl, .inl e.symm⟩
      · exact rest
def z3S (nt : Nat) (args : List T) : Fr := ⟨nt, z3y nt args 0, z3o args 0⟩
def ziL : Option T -> Value -> Value
  | some (.vo _ _), .pointer (some a) => .pointer (some ⟨a.block, 0, none⟩)
  | _, v => v
theorem zhr {w : World} {K : Nat -> z0a} {args : List T} {vals : Array Value} {nt : Nat} (hs : vals.size = args.length) (hr : ∀ i t, args[i]? = some t -> za1 w K i (vals.getD i undef) t) (hn : args.length <= nt) :
    FRep w K (fun i => ziL (args[i]?) (vals.getD i undef)) (fun i => vals.getD (i - (nt + 1000)) undef) (z3S nt args) { tmps := vals ++ Array.replicate (nt - vals.size) undef, defers := [] } := by
  refine ⟨fun k => ?_, fun id t ht => ?_, by simp [z3S]; omega, rfl⟩
  · show ERep w K _ (z3o args 0) (z0W (z3y nt args 0) k) _
    rcases z9X nt args 0 k with h | ⟨j, t, h1, h2, h3⟩
    · rw [h]; trivial
    · rw [h2, Nat.zero_add]
      have hlt := (List.getElem?_eq_some_iff.1 h1).1
      have hreg : z4s { tmps := vals ++ Array.replicate (nt - vals.size) undef, defers := [] } (fun i => vals.getD (i - (nt + 1000)) undef) k = vals.getD j undef := by
        rcases h3 with e | ⟨_, e⟩
        · have hk : k = j := by omega
          subst hk
          rw [z4s, if_pos (by simp; omega)]
          simp only [Array.getD_eq_getD_getElem?, Array.getElem?_append]
          rw [if_pos (by omega)]
        · rw [z4s, if_neg (by simp; omega), e, show nt + 1000 + (0 + j) - (nt + 1000) = j by omega]
      rw [hreg]
      have hr' := hr j t h1
      unfold za1 at hr'
      have hob : z3a t = true -> z0w (z3o args 0) j = some (zkq t) := fun hio => by
        have := zcq args 0 j t h1 hio
        rwa [Nat.zero_add] at this
      cases t with
      | vr cs =>
        have hob' := hob rfl
        simp only [z3a, if_true] at hr'
        generalize hv : vals.getD j undef = v at hr'
        have hvv : v = vals.getD j undef := hv.symm
        cases hr' with
        | vr c g cs arr e fz F hfz hc0 hK hg hl hF hh => exact ⟨_, g, rfl, by simp [hv, h1, ziL, z2M], rfl, _, hob', rfl⟩
      | os sz n cs => exact ⟨by simp [h1, ziL, nav], _, hob rfl, rfl⟩
      | vo off cs =>
        have hob' := hob rfl
        simp only [z3a, if_true] at hr'
        generalize hv : vals.getD j undef = v at hr'
        cases hr' with
        | vo c g off cs h2 => exact ⟨.pointer (some ⟨g, 0, none⟩), g, by simp [hv, h1, ziL, nav], rfl, rfl, _, hob', rfl⟩
      | pr cs =>
        simp only [z3a, Bool.false_eq_true, if_false] at hr'
        generalize hv : vals.getD j undef = v at hr'
        cases hr' with
        | pr c g o cs F hK hg hF hh => exact ⟨g, o, F, rfl, hK, hg, hF, hh, fun _ e => by cases e⟩
      | sc v => exact ⟨hr', fun _ e => by cases e⟩
      | dead => exact ⟨hr', fun _ e => by cases e⟩
      | agg cs => exact ⟨hr', fun _ e => by cases e⟩
      | tup cs => exact ⟨hr', fun _ e => by cases e⟩
      | mp kk es => exact ⟨hr', fun _ e => by cases e⟩
      | mr kk es => exact ⟨hr', fun _ e => by cases e⟩
      | cl f cs => exact ⟨hr', fun _ e => by cases e⟩
      | sl n cs => exact ⟨hr', fun _ e => by cases e⟩
  · obtain ⟨h1, t0, h0, h2, h3⟩ := z7h args 0 id t ht
    have h2' : args[id]? = some t0 := by simpa using h2
    have := hr id t0 h2'
    unfold za1 at this
    rw [h3] at this
    simp only [if_true] at this
    rw [h2', h0]
    cases t0 with
    | vo off cs =>
      generalize hv : vals.getD id undef = v at this
      cases this with
      | vo c g off cs h2 => exact h2
    | _ => exact this
def zkl (P : Program) (fr : Fr) : ResultVar -> Option E
  | .tmp t => if t < fr.nt then some (z0W fr.tm t) else none
  | .cell ad ty => if ad < fr.nt then zf5 P noM fr ty (z0W fr.tm ad) else none
def zgH (P : Program) (fr : Fr) : List ResultVar -> Option (List E)
  | [] => some []
  | r :: rs => match zkl P fr r, zgH P fr rs with | some e, some es => some (e :: es) | _, _ => none
def zk5 : ResultVar -> Array Value -> Sem Value
  | .tmp t, tmps => pure (tmps.getD t undef)
  | .cell a t, tmps => do loadVar t (← asAddr (tmps.getD a undef))
theorem zik {P : Program} {w : World} {K : Nat -> z0a} {R G : Nat -> Value} {fr : Fr} {a : Act} {r : ResultVar} {e : E} (h : FRep w K R G fr a) (hr : zkl P fr r = some e) : ∃ v, ERep w K R fr.ob e v /\ (zk5 r a.tmps).run P w = .ok v w := by
  have hreg : ∀ t, t < fr.nt -> ERep w K R fr.ob (z0W fr.tm t) (a.tmps.getD t undef) := fun t ht => by
    have := h.tm t
    rwa [z4s, if_pos (by rw [h.nt]; exact ht)] at this
  cases r with
  | tmp t =>
    simp only [zkl] at hr
    split at hr
    · rename_i ht
      cases hr
      exact ⟨_, hreg t ht, by simp [zk5]⟩
    · cases hr
  | cell ad ty =>
    simp only [zkl] at hr
    split at hr
    · rename_i ht
      obtain ⟨v, h1, h2⟩ := zdZ h (hreg ad ht) hr
      refine ⟨v, h1, ?_⟩
      have h3 := h2 w (Stay.refl w K noM)
      have hp : ∃ ad', a.tmps.getD ad undef = .pointer (some ad') := by
        have hx := hreg ad ht
        unfold zf5 at hr
        split at hr
        · cases hr
        · split at hr
          · rename_i id p off hg
            rw [hg] at hx
            obtain ⟨hv, g, _, _, n5, _⟩ := hx
            exact ⟨_, n5⟩
          · rename_i dep cs off hg
            rw [hg] at hx
            obtain ⟨g, o, F, n5, _⟩ := hx
            exact ⟨_, n5⟩
          · cases hr
      obtain ⟨ad', hp⟩ := hp
      rw [hp] at h3
      simp only [zk5, hp, asAddr, Sem.run_bind, Sem.run_pure, Result.andThen_ok]
      simpa [Instr.loadAt, Instr.sureAddr] using h3
    · cases hr
theorem zbK {P : Program} {w : World} {K : Nat -> z0a} {R G : Nat -> Value} {fr : Fr} {a : Act} (h : FRep w K R G fr a) : ∀ {rs : List ResultVar} {es : List E}, zgH P fr rs = some es ->
    ∃ vs : List Value, vs.length = es.length /\ es.length = rs.length /\ (∀ j e, es[j]? = some e -> ERep w K R fr.ob e (vs.getD j undef)) /\ (rs.mapM (fun r => zk5 r a.tmps)).run P w = .ok vs w
  | [], es, hr => by cases hr; exact ⟨[], rfl, rfl, fun j e hj => by simp at hj, by simp⟩
  | r :: rs, es, hr => by
    simp only [zgH] at hr
    split at hr
    · rename_i e es' h1 h2
      cases hr
      obtain ⟨v, a1, a2⟩ := zik h h1
      obtain ⟨vs, b1, b0, b2, b3⟩ := zbK h h2
      refine ⟨v :: vs, by simp [b1], by simp [b0], fun j e hj => ?_, ?_⟩
      · match j, hj with
        | 0, hj => simp at hj; subst hj; simpa using a1
        | j + 1, hj => simpa using b2 j e (by simpa using hj)
      · rw [List.mapM_cons]
        simp only [Sem.run_bind, a2, b3, Result.andThen_ok, Sem.run_pure]
    · cases hr
def zbC : E -> T
  | .one _ => .dead
  | .ag xs => .agg (xs.map fun _ => .dead)
def z5s : List E -> List A
  | [] => []
  | .one x :: es => x :: z5s es
  | .ag xs :: es => xs ++ z5s es
def z7r : Nat -> Nat -> List E -> List (List Nat × Nat)
  | _, _, [] => []
  | j, base, .one x :: es => ([j], base) :: z7r (j + 1) (base + 1) es
  | j, base, .ag xs :: es => (List.range xs.length).map (fun i => ([j, i], base + i)) ++ z7r (j + 1) (base + xs.length) es
theorem z5P {w : World} {K : Nat -> z0a} {R : Nat -> Value} {ob : List (Nat × T)} : ∀ {es : List E} {us : List Value} {j0 base : Nat}, us.length = es.length -> (∀ j e, es[j]? = some e -> ERep w K R ob e (us.getD j undef)) ->
    ∃ vs : List Value, vs.length = (z5s es).length /\ (∀ k x, (z5s es)[k]? = some x -> ARep w K R ob x (vs.getD k undef)) /\
      ∀ q r, (q, r) ∈ z7r j0 base es -> ∃ k, k < vs.length /\ r = base + k /\ ∃ j q', q = (j0 + j) :: q' /\ j < es.length /\ nav w (us.getD j undef) q' = some (vs.getD k undef)
  | [], us, j0, base, hl, hr => ⟨[], rfl, fun k x hk => by simp [z5s] at hk, fun q r hm => by cases hm⟩
  | .one x :: es, us, j0, base, hl, hr => by
    match us, hl with
    | u :: us, hl =>
      obtain ⟨vs, a1, a2, a3⟩ := z5P (es := es) (us := us) (j0 := j0 + 1) (base := base + 1) (by simpa using hl) (fun j e hj => by simpa using hr (j + 1) e (by simpa using hj))
      refine ⟨u :: vs, by simp [z5s, a1], fun k y hk => ?_, fun q r hm => ?_⟩
      · match k, hk with
        | 0, hk => simp [z5s] at hk; subst hk; exact (hr 0 (.one x) rfl : ERep w K R ob (.one x) u)
        | k + 1, hk => simpa using a2 k y (by simpa [z5s] using hk)
      · simp only [z7r] at hm
        rcases List.mem_cons.1 hm with hm | hm
        · cases hm
          exact ⟨0, by simp, by simp, 0, [], by simp, by simp, by simp [nav]⟩
        · obtain ⟨k, k1, k2, j, q', k3, k4, k5⟩ := a3 q r hm
          exact ⟨k + 1, by simpa using k1, by omega, j + 1, q', by rw [k3]; congr 1; omega, by simpa using k4, by simpa using k5⟩
  | .ag xs :: es, us, j0, base, hl, hr => by
    match us, hl with
    | u :: us, hl =>
      obtain ⟨arr, b1, b2, b3⟩ := hr 0 (.ag xs) rfl
      obtain ⟨vs, a1, a2, a3⟩ := z5P (es := es) (us := us) (j0 := j0 + 1) (base := base + xs.length) (by simpa using hl) (fun j e hj => by simpa using hr (j + 1) e (by simpa using hj))
      have hal : arr.toList.length = xs.length := by simpa using b2
      refine ⟨arr.toList ++ vs, by simp [z5s, a1, b2], fun k y hk => ?_, fun q r hm => ?_⟩
      · simp only [z5s] at hk
        by_cases hlt : k < xs.length
        · rw [List.getElem?_append_left hlt] at hk
          have := b3 k y hk
          have e1 : (arr.toList ++ vs).getD k undef = arr.getD k undef := by
            simp only [List.getD_eq_getElem?_getD, List.getElem?_append_left (show k < arr.toList.length by omega), Array.getElem?_toList, Array.getD_eq_getD_getElem?]
          rw [e1]; exact this
        · rw [List.getElem?_append_right (by omega)] at hk
          have := a2 _ y hk
          have e1 : (arr.toList ++ vs).getD k undef = vs.getD (k - xs.length) undef := by
            simp only [List.getD_eq_getElem?_getD, List.getElem?_append_right (show arr.toList.length <= k by omega), hal]
          rw [e1]; exact this
      · simp only [z7r, List.mem_append, List.mem_map, List.mem_range] at hm
        rcases hm with ⟨i, hi, he⟩ | hm
        · cases he
          have hia : i < arr.size := by omega
          refine ⟨i, by simp; omega, rfl, 0, [i], by simp, by simp, ?_⟩
          have e1 : (arr.toList ++ vs).getD i undef = arr.getD i undef := by
            simp only [List.getD_eq_getElem?_getD, List.getElem?_append_left (show i < arr.toList.length by omega), Array.getElem?_toList, Array.getD_eq_getD_getElem?]
          rw [e1]
          have hu : (u :: us).getD 0 undef = .agg arr := by simpa using b1
          rw [hu]
          simp [nav, z7H, Array.getD_eq_getD_getElem?, hia]
        · obtain ⟨k, k1, k2, j, q', k3, k4, k5⟩ := a3 q r hm
          refine ⟨xs.length + k, by simp; omega, by omega, j + 1, q', by rw [k3]; congr 1; omega, by simpa using k4, ?_⟩
          have e1 : (arr.toList ++ vs).getD (xs.length + k) undef = vs.getD k undef := by
            simp only [List.getD_eq_getElem?_getD, List.getElem?_append_right (show arr.toList.length <= xs.length + k by omega), hal]
            congr 2; omega
          rw [e1]; simpa using k5
end
section
def zks (fr : Fr) (g : Nat) : T :=
  match z0W fr.tm g with
  | .one (.h e []) => (match z0w fr.ob e with | some t => t | none => .dead)
  | .one (.a e [] 0) => (match z0w fr.ob e with | some (.vr cs) => .vr cs | _ => .dead)
  | _ => .dead
def zkr (fr : Fr) (g : Nat) : T :=
  match z0W fr.tm g with
  | .one (.a e [] off) => (match z0w fr.ob e with | some (.vr cs) => .vo off cs | _ => .dead)
  | _ => .dead
def zl8 : T -> Bool
  | .vo _ _ => true
  | _ => false
theorem TRep.vr_val {w : World} {K : Nat -> z0a} {c : z0a} {v : Value} {cs : List T} {g : Nat} (h : TRep w K c v (.vr cs)) (hb : z2M v = some g) : v = .pointer (some ⟨g, 0, none⟩) := by
  cases h with
  | vr c g' cs arr e fz F hfz hc0 hK hg hl hF hh =>
    simp only [z2M, Option.some.injEq] at hb
    rw [hb]
def zf0 (fr : Fr) (g : Nat) : Option Nat :=
  match z0W fr.tm g with
  | .one (.h e []) => some e
  | .one (.a e [] _) => some e
  | _ => none
def zc5 (fr : Fr) (nt : Nat) : List T -> Nat -> List T
  | [], _ => []
  | t :: ts, i => (if zl8 t then zkr fr (nt + 1000 + i) else if z3a t then zks fr (nt + 1000 + i) else .dead) :: zc5 fr nt ts (i + 1)
theorem zc4 (fr : Fr) (nt : Nat) : ∀ (ts : List T) (i j : Nat) (t : T), ts[j]? = some t -> z3a t = true -> (zc5 fr nt ts i)[j]? = some (if zl8 t then zkr fr (nt + 1000 + (i + j)) else zks fr (nt + 1000 + (i + j)))
  | [], i, j, t, h, _ => by simp at h
  | t0 :: ts, i, 0, t, h, hio => by simp at h; subst h; simp [zc5, hio]
  | t0 :: ts, i, j + 1, t, h, hio => by
    simp only [zc5, List.getElem?_cons_succ]
    rw [zc4 fr nt ts (i + 1) j t (by simpa using h) hio]
    rw [show i + 1 + j = i + (j + 1) by omega]
def zd5 : List T -> Nat -> Option Nat
  | [], _ => none
  | t :: ts, i => if z3a t then some i else zd5 ts (i + 1)
theorem ze4 : ∀ (ts : List T) (i j : Nat) (t : T), (ts.filter z3a).length <= 1 -> ts[j]? = some t -> z3a t = true -> zd5 ts i = some (i + j)
  | [], i, j, t, _, h, _ => by simp at h
  | t0 :: ts, i, 0, t, _, h, hio => by simp at h; subst h; simp [zd5, hio]
  | t0 :: ts, i, j + 1, t, hl, h, hio => by
    have h' : ts[j]? = some t := by simpa using h
    by_cases h0 : z3a t0 = true
    · exfalso
      have hm : t ∈ ts.filter z3a := by simp [List.mem_of_getElem? h', hio]
      have := List.length_pos_of_mem hm
      simp only [List.filter_cons, h0, if_true, List.length_cons] at hl
      omega
    · have h0' : z3a t0 = false := by simpa using h0
      simp only [zd5, h0', Bool.false_eq_true, if_false]
      rw [ze4 ts (i + 1) j t (by simpa [List.filter_cons, h0'] using hl) h' hio]
      congr 1; omega
def zgQ (fr : Fr) (nt : Nat) (args : List T) : Option Nat := match zd5 args 0 with | some i => zf0 fr (nt + 1000 + i) | none => none
def z9y (P : Program) (fn : Func) (args : List T) (fr : Fr) : Option (T × List T) :=
  match zgH P fr fn.results.toList with
  | none => none
  | some es =>
    if (z5s es).length <= 900 /\ fr.nt = fn.ntmps then
      match plugL true { fr with tm := z3k (kill fr.nt) (putR fr.tm (fr.nt + 1) (z5s es)), ob := z2N fr.ob fr.nt (.tup (es.map zbC)) } fr.nt (z7r 0 (fr.nt + 1) es) with
      | none => none
      | some fr2 =>
        if zgQ fr2 fn.ntmps args = some fr.nt then none else
        match z0w fr2.ob fr.nt with
        | some (.tup ts) =>
          if es.length = 1 then (match ts with | [t] => some (t, zc5 fr2 fn.ntmps args 0) | _ => none)
          else some (.tup ts, zc5 fr2 fn.ntmps args 0)
        | _ => none
    else none
def zjw (cf : Cfg) (o : Option (T × List T)) : Option (T × List T) := match cf.fz 999998 with | none => o | some _ => o.map fun x => (z1b x.1, x.2)
def dz : z0a -> z0a
  | 0 :: _ => []
  | c => c
theorem zgV {cf : Cfg} {o : Option (T × List T)} {r : T} {outs : List T} (h : zjw cf o = some (r, outs)) : ∃ r0, o = some (r0, outs) /\ (r = r0 ∨ r = z1b r0) := by
  unfold zjw at h
  split at h
  · exact ⟨r, h, .inl rfl⟩
  · rw [Option.map_eq_some_iff] at h
    obtain ⟨⟨r0, outs0⟩, h1, h2⟩ := h
    cases h2
    exact ⟨r0, h1, .inr rfl⟩
noncomputable def zaY (P : Program) (C : z0b) (cf : Cfg) (LF : Nat) (fn : Func) (args : List T) : Option (T × List T) :=
  if args.length <= fn.ntmps /\ (args.filter z3a).length <= 1 then
    match fn.body with
    | none => none
    | some c => match z0S P C cf LF c (z3S fn.ntmps args) with
      | some (.n, fr) => zjw cf (z9y P fn args fr)
      | some (.r, fr) => zjw cf (z9y P fn args fr)
      | _ => none
  else none
theorem zgz {w : World} {K : Nat -> z0a} {R : Nat -> Value} {ob : List (Nat × T)} {e : E} {u : Value} (h : ERep w K R ob e u) (c : z0a) : TRep w K c u (zbC e) := by
  cases e with
  | one x => exact .dead c u
  | ag xs =>
    obtain ⟨arr, rfl, h2, h3⟩ := h
    refine .agg c arr _ (fun j => arr.getD j undef) (by simpa using h2) (fun j hj => z2e _ _ (by simp at hj; omega)) (fun j t ht => ?_)
    simp only [List.getElem?_map, Option.map_eq_some_iff] at ht
    obtain ⟨y, hy, rfl⟩ := ht
    exact .dead _ _
theorem zeW (fn : Func) (tmps : Array Value) : results fn tmps = (do let vs ← fn.results.mapM (fun r => zk5 r tmps); pure (if h : vs.size = 1 then vs[0] else .tuple vs)) := by
  unfold results
  congr 1
  congr 1
  funext r
  cases r <;> rfl
def zhO (N : Nat) (e0 : Option (Nat × Nat)) (one : Bool) : z0a -> z0a
  | [] => []
  | h :: s => if h = N + 2 then (if one then (match s with | 0 :: s' => 0 :: s' | _ => [1]) else 0 :: s)
    else match e0 with | some (e, i) => if h = e + 2 then (i + 2) :: s else [1] | none => [1]
theorem zjL {P : Program} {fn : Func} {args : List T} {fr : Fr} {r : T} {outs : List T} {w : World} {K : Nat -> z0a} {R G : Nat -> Value} {a : Act} (h : FRep w K R G fr a) (hx : z9y P fn args fr = some (r, outs)) (h1 : (args.filter z3a).length <= 1) :
    ∃ v K', (results fn a.tmps).run P w = .ok v w /\ TRep w K' [0] v r /\ (∀ i t, args[i]? = some t -> z3a t = true -> ∃ t', outs[i]? = some t' /\ TRep w K' (col i) (G (fn.ntmps + 1000 + i)) t') /\ Step w K w K' := by
  unfold z9y at hx
  split at hx
  case h_1 => cases hx
  case h_2 es hes =>
  split at hx
  case isFalse => cases hx
  case isTrue hc =>
  obtain ⟨hfl, hnt⟩ := hc
  split at hx
  case h_1 => cases hx
  case h_2 fr2 hpl =>
  split at hx
  · cases hx
  rename_i hne
  obtain ⟨us, u1, u0, u2, u3⟩ := zbK h hes
  obtain ⟨vs, v1, v2, v3⟩ := z5P (j0 := 0) (base := fr.nt + 1) u1 u2
  have hp := h.putR (base := fr.nt + 1) (xs := z5s es) (us := fun j => vs.getD j undef) (by omega) v2
  have hrep : TRep w K (col fr.nt) (.tuple us.toArray) (.tup (es.map zbC)) := by
    refine .tup _ us.toArray _ (fun j => us.getD j undef) (by simp [u1]) (fun j hj => ?_) (fun j t ht => ?_)
    · have : j < us.length := by simp at hj; omega
      simp [List.getD, this]
    · simp only [List.getElem?_map, Option.map_eq_some_iff] at ht
      obtain ⟨e, he, rfl⟩ := ht
      exact zgz (u2 j e he) _
  have hq := hp.replace (d := fr.nt) (w' := w) (K' := K) (v := .tuple us.toArray) (t := .tup (es.map zbC)) ⟨fun b hb e => ⟨e, rfl⟩, fun b hb _ => ⟨rfl, rfl⟩, Nat.le_refl _⟩ hrep
  have hregs : ∀ k, k < vs.length -> z4s a (gv G (fr.nt + 1) (fun j => vs.getD j undef) (z5s es).length) (fr.nt + 1 + k) = vs.getD k undef := fun k hk => by
    rw [z4s, if_neg (by rw [h.nt]; omega)]
    simp only [gv]
    rw [if_pos (by omega)]
    congr 1; omega
  obtain ⟨K2, R2, q1, q2, q3, q4, _⟩ := hq.plugL (l := z7r 0 (fr.nt + 1) es) (fun q r' hm => by
    obtain ⟨k, k1, rfl, j, q', rfl, k4, k5⟩ := v3 q r' hm
    refine ⟨?_, by omega⟩
    rw [hregs k k1]
    have hju : j < us.length := by omega
    simp only [z4t, if_true, Nat.zero_add, nav, z7H]
    have : us.toArray[j]? = some (us.getD j undef) := by simp [List.getD, hju]
    rw [this]
    exact k5) hpl
  have hRN : R2 fr.nt = .tuple us.toArray := by
    rw [q4 fr.nt (fun q r' hm => by obtain ⟨k, k1, rfl, _⟩ := v3 q r' hm; omega)]
    simp [z4t]
  have hres : (results fn a.tmps).run P w = .ok (if us.length = 1 then us.getD 0 undef else .tuple us.toArray) w := by
    rw [zeW]
    have : (fn.results.mapM (fun r => zk5 r a.tmps)).run P w = .ok us.toArray w := by
      rw [Array.mapM_eq_mapM_toList]
      simp only [map_eq_pure_bind, Sem.run_bind, u3, Result.andThen_ok, Sem.run_pure]
    simp only [Sem.run_bind, this, Result.andThen_ok, Sem.run_pure]
    congr 1
    by_cases e : us.length = 1
    · match us, e with
      | [u], _ => simp
    · rw [dif_neg (by simpa using e), if_neg e]
  let io : Option (Nat × Nat) := match zd5 args 0 with | some i => (match zf0 fr2 (fn.ntmps + 1000 + i) with | some e => some (e, i) | none => none) | none => none
  have hio : ∀ e i, io = some (e, i) -> e ≠ fr.nt := fun e i he => by
    intro heq
    apply hne
    simp only [io] at he
    split at he
    · rename_i i' hi'
      split at he
      · rename_i e' he'
        cases he
        simp only [zgQ, hi']
        rw [he', heq]
      · cases he
    · cases he
  let one : Bool := decide (es.length = 1)
  let K3 : Nat -> z0a := fun b => zhO fr.nt io one (K2 b)
  have hK3 : ∀ b, K2 b = [] -> K3 b = [] := fun b e => by show zhO fr.nt io one (K2 b) = []; rw [e]; rfl
  have hstep : Step w K2 w K3 := ⟨rfl, rfl, rfl, Nat.le_refl _, fun b hb hc => ⟨by
    show zhO fr.nt io one (K2 b) = K2 b
    rcases hc with e | e
    · rw [e]; rfl
    · rw [e]
      simp only [zhO]
      rw [if_neg (by omega)]
      cases io with
      | none => rfl
      | some x =>
        obtain ⟨e', i⟩ := x
        simp only
        rw [if_neg (by omega)], rfl⟩, .same rfl⟩
  have houts : outs = zc5 fr2 fn.ntmps args 0 -> ∀ i t, args[i]? = some t -> z3a t = true -> ∃ t', outs[i]? = some t' /\ TRep w K3 (col i) (G (fn.ntmps + 1000 + i)) t' := fun ho i t ht hit => by
    refine ⟨if zl8 t then zkr fr2 (fn.ntmps + 1000 + i) else zks fr2 (fn.ntmps + 1000 + i), by rw [ho, zc4 fr2 fn.ntmps args 0 i t ht hit, Nat.zero_add], ?_⟩
    have hidx := ze4 args 0 i t h1 ht hit
    rw [Nat.zero_add] at hidx
    have hg := q1.tm (fn.ntmps + 1000 + i)
    have hgv : z4s a (gv G (fr.nt + 1) (fun j => vs.getD j undef) (z5s es).length) (fn.ntmps + 1000 + i) = G (fn.ntmps + 1000 + i) := by
      rw [z4s, if_neg (by rw [h.nt]; omega)]
      simp only [gv]
      rw [if_neg (by omega)]
    rw [hgv] at hg
    have hmv0 : ∀ e tt, io = some (e, i) -> z0w fr2.ob e = some tt -> TRep w K3 (col i) (R2 e) tt := fun e tt he hob => by
      have hr := q1.ob e tt hob
      have hen := hio e i he
      refine hr.move (fun b s hb hcc hKb => ⟨?_, rfl⟩) (fun b hb e0 => ⟨hK3 b e0, rfl⟩) (by simp [col]) (Nat.le_refl _)
      show zhO fr.nt io one (K2 b) = _
      rw [hKb, he]
      simp [zhO, col, hen]
    have hmv : ∀ e tt, io = some (e, i) -> z0w fr2.ob e = some tt -> R2 e = G (fn.ntmps + 1000 + i) -> TRep w K3 (col i) (G (fn.ntmps + 1000 + i)) tt := fun e tt he hob hR => hR ▸ hmv0 e tt he hob
    split
    · unfold zkr
      split
      · rename_i e off hge
        have hie : io = some (e, i) := by simp only [io, hidx, zf0, hge]
        split
        · rename_i cs hob
          rw [hge] at hg
          obtain ⟨hv, g, n1, n4, n5, _⟩ := hg
          simp only [nav, Option.some.injEq] at n1
          have hr := hmv0 e _ hie hob
          rw [n1] at hr
          rw [hr.vr_val n4] at hr
          rw [n5]
          exact .vo _ g off cs hr
        · exact .dead _ _
      · exact .dead _ _
    unfold zks
    split
    · rename_i e hge
      have hie : io = some (e, i) := by simp only [io, hidx, zf0, hge]
      split
      · rename_i tt hob
        rw [hge] at hg
        obtain ⟨n1, _⟩ := hg
        simp only [nav, Option.some.injEq] at n1
        exact hmv e tt hie hob n1
      · exact .dead _ _
    · rename_i e hge
      have hie : io = some (e, i) := by simp only [io, hidx, zf0, hge]
      split
      · rename_i cs hob
        rw [hge] at hg
        obtain ⟨hv, g, n1, n4, n5, _⟩ := hg
        simp only [nav, Option.some.injEq] at n1
        refine hmv e _ hie hob ?_
        have hr := q1.ob e _ hob
        rw [n5, n1]
        rw [n1] at hr
        cases hr with
        | vr c g' cs arr e' fz F hfz hc0 hK hg' hl hF hh =>
          simp only [z2M, Option.some.injEq] at n4
          rw [n4]
      · exact .dead _ _
    · exact .dead _ _
  refine ⟨_, K3, hres, ?_⟩
  split at hx
  case h_2 => cases hx
  case h_1 ts hob =>
  have htup := q1.ob fr.nt _ hob
  rw [hRN] at htup
  split at hx
  · rename_i hone
    split at hx
    · rename_i t
      cases hx
      refine ⟨?_, houts rfl, q2.trans hstep⟩
      rw [if_pos (by omega)]
      obtain ⟨v', k1, k2⟩ := htup.kid (j := 0) (t' := r) (z0v _) rfl
      have hv' : v' = us.getD 0 undef := by
        simp only [z7H] at k1
        have : 0 < us.length := by omega
        simp [List.getD, this] at k1 ⊢
        exact k1.symm
      rw [← hv']
      refine k2.move (fun b s hb hcc hKb => ⟨?_, rfl⟩) (fun b hb e0 => ⟨hK3 b e0, rfl⟩) (by simp [col]) (Nat.le_refl _)
      show zhO fr.nt io one (K2 b) = _
      rw [hKb]
      simp [zhO, col, one, hone]
    · cases hx
  · rename_i hone
    cases hx
    refine ⟨?_, houts rfl, q2.trans hstep⟩
    rw [if_neg (by omega)]
    refine htup.move (fun b s hb hcc hKb => ⟨?_, rfl⟩) (fun b hb e0 => ⟨hK3 b e0, rfl⟩) (by simp [col]) (Nat.le_refl _)
    show zhO fr.nt io one (K2 b) = _
    rw [hKb]
    simp [zhO, col, one, hone]
theorem zkj {P : Program} {I : World -> (Nat -> z0a) -> Prop} {C : z0b} {cf : Cfg} {LF : Nat} {f : FuncId} {fn : Func} {c : Code} {args : List T} {r : T} {outs : List T} (hI : EnvS I) (hC : z5X P I C) (hm : P.follows .mixedOrders = true) (hfn : P.funcs[f]? = some fn) (hb : fn.body = some c) (hname : fn.name ≠ "runtime.NumGoroutine")
    (hok : okC cf c = true) (hr : zaY P C cf LF fn args = some (r, outs)) : CallOk P I f args r outs := by
  unfold zaY at hr
  split at hr
  case isFalse => cases hr
  case isTrue hc =>
  rw [hb] at hr
  simp only at hr
  refine ⟨fun vals w => by simp [callFunc, program, Sem.run, hfn, hname, hb], fun w K vals hs ha hIw => ?_⟩
  have hent := zhr (nt := fn.ntmps) hs ha hc.1
  have main : ∀ x fr, (x = .n ∨ x = .r) -> z0S P C cf LF c (z3S fn.ntmps args) = some (x, fr) -> zjw cf (z9y P fn args fr) = some (r, outs) ->
      Calls P f vals w fun e w' => ∃ v K', e = .returned v /\ TRep w' K' [0] v r /\ (∀ i t, args[i]? = some t -> z3a t = true -> ∃ t', outs[i]? = some t' /\ TRep w' K' (col i) (vals.getD i undef) t') /\ Step w K w' K' := fun x fr hx hcode hexit => by
    refine calls_of_wp hfn hb (zjR hI hC hm c hok hent hIw hcode fun a' w' K' R' h' hst => ?_)
    obtain ⟨r0, hex0, hr0⟩ := zgV hexit
    obtain ⟨v, K1, e1, e20, e30, e40⟩ := zjL h' hex0 hc.2
    obtain ⟨K2, e2, e3, e4⟩ : ∃ K2, TRep w' K2 [0] v r /\ (∀ i t, args[i]? = some t -> z3a t = true -> ∃ t', outs[i]? = some t' /\ TRep w' K2 (col i) (vals.getD (fn.ntmps + 1000 + i - (fn.ntmps + 1000)) undef) t') /\ Step w' K' w' K2 := by
      rcases hr0 with e | e
      · rw [e]; exact ⟨K1, e20, e30, e40⟩
      · rw [e]
        refine ⟨fun b => dz (K1 b), e20.freeze (fun b s hb hcc hK => ⟨by show dz (K1 b) = []; rw [hK]; rfl, rfl⟩) (fun b hb hK => ⟨by show dz (K1 b) = []; rw [hK]; rfl, rfl⟩) (Nat.le_refl _) [0], fun i t hi hio => ?_, e40.trans ⟨rfl, rfl, rfl, Nat.le_refl _, fun b hb hcc => ⟨by
          show dz (K1 b) = K1 b
          rcases hcc with q | q <;> rw [q] <;> rfl, rfl⟩, .same rfl⟩⟩
        obtain ⟨t', f1, f2⟩ := e30 i t hi hio
        exact ⟨t', f1, f2.move (fun b s hb hcc hK => ⟨by show dz (K1 b) = col i ++ s; rw [hK]; rfl, rfl⟩) (fun b hb hK => ⟨by show dz (K1 b) = []; rw [hK]; rfl, rfl⟩) Iff.rfl (Nat.le_refl _)⟩
    have hpost : a'.defers = [] /\ ∃ v, (results fn a'.tmps).run P w' = .ok v w' /\ ∃ v' K', Ending.returned v = .returned v' /\ TRep w' K' [0] v' r /\ (∀ i t, args[i]? = some t -> z3a t = true -> ∃ t', outs[i]? = some t' /\ TRep w' K' (col i) (vals.getD i undef) t') /\ Step w K w' K' :=
      ⟨h'.df, v, e1, v, K2, rfl, e2, fun i t hi hio => by
        obtain ⟨t', f1, f2⟩ := e3 i t hi hio
        rw [show fn.ntmps + 1000 + i - (fn.ntmps + 1000) = i by omega] at f2
        exact ⟨t', f1, f2⟩, hst.trans e4⟩
    rcases hx with rfl | rfl
    · exact hpost
    · exact hpost
  split at hr
  · rename_i fr hcode
    exact main .n fr (.inl rfl) hcode hr
  · rename_i fr hcode
    exact main .r fr (.inr rfl) hcode hr
  · cases hr
end
section
def wpC (P : Program) (C : z0b) (cf : Cfg) (LF : Nat) (c : Code) (fr : Fr) (Q : X -> Fr -> Prop) : Prop := ∃ x fr', z0S P C cf LF c fr = some (x, fr') /\ Q x fr'
def zl3 (P : Program) (C : z0b) (wio : FuncId -> Nat -> Bool) (ops : Array Oper) : List Oper -> Fr -> (Fr -> Prop) -> Prop
  | [], fr, Q => Q fr
  | o :: rest, fr, Q => ∃ b, z2R ops fr o = some b /\ (b = true -> ∃ fr', opF P C wio fr o = some fr' /\ zl3 P C wio ops rest fr' Q) /\ (b = false -> ∃ fr', putF fr o.dst (.one (.k undef)) = some fr' /\ zl3 P C wio ops rest fr' Q)
variable {P : Program} {C : z0b} {cf : Cfg} {LF : Nat} {fr : Fr} {Q : X -> Fr -> Prop}
theorem zhT (h : Q .n fr) : wpC P C cf LF .skip fr Q := ⟨_, _, rfl, h⟩
theorem zfR {i} (h : Q .n fr) : wpC P C cf LF (.label i) fr Q := ⟨_, _, rfl, h⟩
theorem zhU {i} (h : Q (.x i) fr) : wpC P C cf LF (.exit i) fr Q := ⟨_, _, rfl, h⟩
theorem zjf (h : Q .r fr) : wpC P C cf LF .ret fr Q := ⟨_, _, rfl, h⟩
def zcN (Q1 : Fr -> Prop) (Q : X -> Fr -> Prop) : X -> Fr -> Prop
  | .n, fr => Q1 fr
  | .x i, fr => Q (.x i) fr
  | .r, fr => Q .r fr
theorem zje {a b : Code} (h : wpC P C cf LF a fr (zcN (fun fr' => wpC P C cf LF b fr' Q) Q)) : wpC P C cf LF (.seq a b) fr Q := by
  obtain ⟨x, fr1, e, h⟩ := h
  cases x with
  | n =>
    obtain ⟨y, fr2, e2, h⟩ := h
    exact ⟨y, fr2, by simp only [z0S, e, e2], h⟩
  | x i => exact ⟨_, _, by simp only [z0S, e], h⟩
  | r => exact ⟨_, _, by simp only [z0S, e], h⟩
def z3B (id : Nat) (Q : X -> Fr -> Prop) : X -> Fr -> Prop
  | .n, fr => Q .n fr
  | .x i, fr => if i = id then Q .n fr else Q (.x i) fr
  | .r, fr => Q .r fr
theorem zfT {id : Nat} {c : Code} (h : wpC P C cf LF c fr (z3B id Q)) : wpC P C cf LF (.block id c) fr Q := by
  obtain ⟨x, fr1, e, h⟩ := h
  cases x with
  | n => exact ⟨_, _, by simp only [z0S, e], h⟩
  | x i =>
    simp only [z3B] at h
    by_cases hi : i = id
    · rw [if_pos hi] at h
      exact ⟨.n, fr1, by simp only [z0S, e, if_pos hi], h⟩
    · rw [if_neg hi] at h
      exact ⟨.x i, fr1, by simp only [z0S, e, if_neg hi], h⟩
  | r => exact ⟨_, _, by simp only [z0S, e], h⟩
structure Hid (p : Prop) : Prop where
  out : p
def zkd (o : Option Bool) (Q1 Q2 : Prop) : Prop := match o with | some b => (b = true -> Q1) /\ (b = false -> Q2) | none => False
theorem z2J {b : Bool} {Q1 Q2 : Prop} : zkd (some b) Q1 Q2 = ((b = true -> Q1) /\ (b = false -> Q2)) := rfl
theorem zji {o : Option Bool} {Q1 Q2 : Prop} (h : zkd o Q1 Q2) : ∃ b, o = some b /\ (b = true -> Q1) /\ (b = false -> Q2) := by
  cases o with
  | none => exact absurd h id
  | some b => exact ⟨b, rfl, h⟩
def zk2 (o : Option Value) (Q1 Q2 : Prop) : Prop := match o with | some (.bool b) => (b = true -> Q1) /\ (b = false -> Q2) | _ => False
theorem zb4 {b : Bool} {Q1 Q2 : Prop} : zk2 (some (.bool b)) Q1 Q2 = ((b = true -> Q1) /\ (b = false -> Q2)) := rfl
theorem zjh {o : Option Value} {Q1 Q2 : Prop} (h : zk2 o Q1 Q2) : ∃ b, o = some (.bool b) /\ (b = true -> Q1) /\ (b = false -> Q2) := by
  unfold zk2 at h
  split at h
  · exact ⟨_, rfl, h⟩
  · exact absurd h id
def zcC (o : Option Fr) (Q : Fr -> Prop) : Prop := match o with | some fr => Q fr | none => False
theorem zcB {fr : Fr} {Q : Fr -> Prop} : zcC (some fr) Q = Q fr := rfl
theorem z9m {o : Option Fr} {Q : Fr -> Prop} (h : zcC o Q) : ∃ fr, o = some fr /\ Q fr := by
  cases o with
  | none => exact absurd h id
  | some fr => exact ⟨fr, rfl, h⟩
theorem zeC {id : Nat} {ops : Array Oper} {draw : Bool} (hd : draw = false) (hz : cf.fz id = none) (h : ∀ Q' : Fr -> Prop, Hid (∀ fr', Q .n fr' -> Q' fr') -> zcC (zcS P C cf.wio ops ops.toList fr) Q') : wpC P C cf LF (.region id ops draw) fr Q := by
  obtain ⟨fr', e, h⟩ := z9m (h (Q .n) ⟨fun _ h => h⟩)
  subst hd
  exact ⟨.n, fr', by simp [z0S, hz, ziy, e], h⟩
theorem zjg {id : Nat} {ops : Array Oper} {draw : Bool} {l : List Nat} {fr1 : Fr} (hz : cf.fz id = some l) (hf : zk6 fr l = fr1) (h : wpC P C { cf with fz := fun _ => none } LF (.region id ops draw) fr1 Q) : wpC P C cf LF (.region id ops draw) fr Q := by
  obtain ⟨x, fr', e, h⟩ := h
  refine ⟨x, fr', ?_, h⟩
  simp only [z0S, ziy] at e
  simp only [z0S, hz, ziy, hf]
  exact e
def zlO (P : Program) (C : z0b) (wio : FuncId -> Nat -> Bool) (M : List Nat) (ops : Array Oper) (sch : List (Nat × Nat)) (fr : Fr) : Option Fr := match z4P P C wio M.isEmpty M.contains ops (z6r ops sch) fr with | some fr1 => z2w P ops.toList fr1 | none => none
def z0e (P : Program) (C : z0b) (wio : FuncId -> Nat -> Bool) (same : Bool) (M : Nat -> Bool) (fr : Fr) (o : Oper) (m : Nat) : Option Fr :=
  if m = 0 ∨ m = 3 then (match z4A P (if m = 0 then M else zli) fr o.op with | some e => putF fr o.dst e | none => none)
  else if m = 2 then opF P C wio fr o else if same then z5t P C wio fr o else wrF P C wio M fr o
def z3T (P : Program) (C : z0b) (wio : FuncId -> Nat -> Bool) (M : List Nat) (ops : Array Oper) : List (Nat × Nat) -> Fr -> (Fr -> Prop) -> Prop
  | [], fr, Q => Q fr
  | (k, m) :: rest, fr, Q => ∃ o, ops[k]? = some o /\ ∃ b, z2R ops fr o = some b /\ (b = true -> ∃ fr', z0e P C wio M.isEmpty M.contains fr o m = some fr' /\ z3T P C wio M ops rest fr' Q) /\ (b = false -> ∃ fr', putF fr o.dst (.one (.k undef)) = some fr' /\ z3T P C wio M ops rest fr' Q)
theorem z7i {P : Program} {C : z0b} {wio : FuncId -> Nat -> Bool} {M : List Nat} {ops : Array Oper} {Q : Fr -> Prop} : ∀ {l : List (Nat × Nat)} {fr : Fr}, z3T P C wio M ops l fr Q -> ∃ fr', z4P P C wio M.isEmpty M.contains ops (z6r ops l) fr = some fr' /\ Q fr'
  | [], fr, h => ⟨fr, rfl, h⟩
  | (k, m) :: rest, fr, ⟨o, ho, b, hb, h1, h2⟩ => by
    have hp : z6r ops ((k, m) :: rest) = (k, o, m) :: z6r ops rest := by simp [z6r, ho]
    rw [hp]
    cases b with
    | true =>
      obtain ⟨fr', e, h⟩ := h1 rfl
      obtain ⟨x, e2, h⟩ := z7i h
      refine ⟨x, ?_, h⟩
      simp only [z4P, hb]
      unfold z0e at e
      by_cases hm : m = 0 ∨ m = 3
      · rw [if_pos hm] at e ⊢
        split at e
        · rename_i e' he'
          simp only [he', e, e2]
        · cases e
      · rw [if_neg hm] at e ⊢
        simp only [e, e2]
    | false =>
      obtain ⟨fr', e, h⟩ := h2 rfl
      obtain ⟨x, e2, h⟩ := z7i h
      exact ⟨x, by simp only [z4P, hb, e, e2], h⟩
theorem zfS {id : Nat} {ops : Array Oper} {draw : Bool} {sch : List (Nat × Nat)} (hd : draw = true) (hs : cf.dr id = some sch) (hz : cf.fz id = none) (h : z3T P C cf.wio (cf.wr id) ops sch fr (fun fr1 => zcC (z2w P ops.toList fr1) (Q .n))) (ht : cf.dt id = none := by rfl) : wpC P C cf LF (.region id ops draw) fr Q := by
  obtain ⟨fr1, e1, h⟩ := z7i h
  obtain ⟨fr2, e2, h⟩ := z9m h
  subst hd
  exact ⟨.n, fr2, by simp only [z0S, if_true, z3F, ht, hs, hz, ziy, e1, e2], h⟩
theorem zht {wio : FuncId -> Nat -> Bool} {M : List Nat} {ops : Array Oper} {l : List Oper} {Q : X -> Fr -> Prop} (h : ∀ Q' : Fr -> Prop, Hid (∀ fr', Q .n fr' -> Q' fr') -> zcC (z2w P l fr) Q') : z3T P C wio M ops [] fr (fun fr1 => zcC (z2w P l fr1) (Q .n)) := h _ ⟨fun _ h => h⟩
theorem ziC {wio : FuncId -> Nat -> Bool} {M : List Nat} {ops : Array Oper} {k m : Nat} {o : Oper} {l : List (Nat × Nat)} {Q : Fr -> Prop} (ho : ops[k]? = some o) (hg : o.guard = none) (h : ∀ Q' : Fr -> Prop, Hid (∀ fr', z3T P C wio M ops l fr' Q -> Q' fr') -> zcC (z0e P C wio M.isEmpty M.contains fr o m) Q') : z3T P C wio M ops ((k, m) :: l) fr Q := by
  obtain ⟨fr', e, h⟩ := z9m (h _ ⟨fun _ h => h⟩)
  exact ⟨o, ho, true, by simp [z2R, hg], fun _ => ⟨fr', e, h⟩, fun h => by cases h⟩
theorem zdb {wio : FuncId -> Nat -> Bool} {M : List Nat} {ops : Array Oper} {k m : Nat} {o : Oper} {l : List (Nat × Nat)} {Q : Fr -> Prop} (ho : ops[k]? = some o) (h : ∀ Q1 Q2 : Prop, Hid ((∀ Q' : Fr -> Prop, Hid (∀ fr', z3T P C wio M ops l fr' Q -> Q' fr') -> zcC (z0e P C wio M.isEmpty M.contains fr o m) Q') -> Q1) -> Hid ((∀ Q' : Fr -> Prop, Hid (∀ fr', z3T P C wio M ops l fr' Q -> Q' fr') -> zcC (putF fr o.dst (.one (.k undef))) Q') -> Q2) -> zkd (z2R ops fr o) Q1 Q2) : z3T P C wio M ops ((k, m) :: l) fr Q := by
  obtain ⟨b, hb, h1, h2⟩ := zji (h _ _ ⟨id⟩ ⟨id⟩)
  refine ⟨o, ho, b, hb, fun e => ?_, fun e => ?_⟩
  · obtain ⟨fr', e, h⟩ := z9m (h1 e _ ⟨fun _ h => h⟩)
    exact ⟨fr', e, h⟩
  · obtain ⟨fr', e, h⟩ := z9m (h2 e _ ⟨fun _ h => h⟩)
    exact ⟨fr', e, h⟩
theorem zkb {c : Operand} {x y : Code} (h : ∀ Q1 Q2 : Prop, Hid (wpC P C cf LF x fr Q -> Q1) -> Hid (wpC P C cf LF y fr Q -> Q2) -> zk2 (rdV (opE fr c)) Q1 Q2) : wpC P C cf LF (.cond c x y) fr Q := by
  obtain ⟨b, h, h1, h2⟩ := zjh (h _ _ ⟨id⟩ ⟨id⟩)
  cases b with
  | true =>
    obtain ⟨x, fr1, e, h'⟩ := h1 rfl
    exact ⟨x, fr1, by simp only [z0S, h, e], h'⟩
  | false =>
    obtain ⟨x, fr1, e, h'⟩ := h2 rfl
    exact ⟨x, fr1, by simp only [z0S, h, e], h'⟩
theorem z0o {Q1 : Fr -> Prop} (h : Q1 fr) : zcN Q1 Q .n fr := h
theorem z2O {Q1 : Fr -> Prop} {i} (h : Q (.x i) fr) : zcN Q1 Q (.x i) fr := h
theorem z4u {Q1 : Fr -> Prop} (h : Q .r fr) : zcN Q1 Q .r fr := h
theorem z2i {id} (h : Q .n fr) : z3B id Q .n fr := h
theorem zfD {id} (h : Q .n fr) : z3B id Q (.x id) fr := by simp [z3B, h]
theorem z1I {id i} (hi : (i == id) = false) (h : Q (.x i) fr) : z3B id Q (.x i) fr := by
  have : i ≠ id := by simpa using hi
  simp [z3B, this, h]
theorem z3A {id} (h : Q .r fr) : z3B id Q .r fr := h
theorem znX {a b : Int} (h : b <= a) : (a < b) = False := by simp; omega
theorem zo0 {a b : Int} (h : b < a) : (a <= b) = False := by simp; omega
theorem znW {a b : Nat} (h : b <= a) : (a < b) = False := by simp; omega
theorem znZ {a b : Nat} (h : b < a) : (a <= b) = False := by simp; omega
def zly (I : Nat -> Fr -> Prop) (cn : Fr -> Fr) (m : Nat) (Q : X -> Fr -> Prop) : X -> Fr -> Prop
  | .n, fr => ∃ k, k < m /\ I k (cn fr)
  | .x i, fr => Q (.x i) fr
  | .r, fr => Q .r fr
def zko (I : Nat -> Prop) (H : Nat -> Fr) (cn : Fr -> Fr) (n k : Nat) (Q : X -> Fr -> Prop) : X -> Fr -> Prop
  | .n, fr => k < n /\ I (k + 1) /\ cn fr = H (k + 1)
  | .x i, fr => Q (.x i) fr
  | .r, fr => Q .r fr
def zjN (P : Program) (fn : Func) (args : List T) (r : T) (outs : List T) : X -> Fr -> Prop
  | .n, fr => z9y P fn args fr = some (r, outs)
  | .r, fr => z9y P fn args fr = some (r, outs)
  | .x _, _ => False
def zjM (P : Program) (fn : Func) (args : List T) (r : T) (outs : List T) : X -> Fr -> Prop
  | .n, fr => (z9y P fn args fr).map (fun x => (z1b x.1, x.2)) = some (r, outs)
  | .r, fr => (z9y P fn args fr).map (fun x => (z1b x.1, x.2)) = some (r, outs)
  | .x _, _ => False
theorem zap {fn : Func} {c : Code} {args : List T} {r : T} {outs : List T} (hb : fn.body = some c) (ha : args.length <= fn.ntmps /\ (args.filter z3a).length <= 1) (hz : (cf.fz 999998).isSome = true) (h : wpC P C cf LF c (z3S fn.ntmps args) (zjM P fn args r outs)) : zaY P C cf LF fn args = some (r, outs) := by
  obtain ⟨x, fr', e, h⟩ := h
  obtain ⟨l, hl⟩ := Option.isSome_iff_exists.1 hz
  unfold zaY zjw
  rw [if_pos ha, hb]
  simp only [e, hl]
  cases x with
  | n => exact h
  | x i => exact absurd h id
  | r => exact h
theorem zjn {fn : Func} {c : Code} {args : List T} {r : T} {outs : List T} (hb : fn.body = some c) (ha : args.length <= fn.ntmps /\ (args.filter z3a).length <= 1) (h : wpC P C cf LF c (z3S fn.ntmps args) (zjN P fn args r outs)) (hz : cf.fz 999998 = none := by rfl) : zaY P C cf LF fn args = some (r, outs) := by
  obtain ⟨x, fr', e, h⟩ := h
  unfold zaY zjw
  rw [if_pos ha, hb]
  simp only [e, hz]
  cases x with
  | n => exact h
  | x i => exact absurd h id
  | r => exact h
def z7d : Code -> Nat
  | .skip => 0
  | .region _ _ _ => 1
  | .seq _ _ => 2
  | .cond _ _ _ => 3
  | .block _ _ => 4
  | .loop _ => 5
  | .exit _ => 6
  | .ret => 7
  | .label _ => 8
  | .scope _ => 10
  | _ => 9
def znq : Code -> Code
  | .seq a _ => a
  | c => c
def znp : Code -> Code
  | .seq _ b => b
  | c => c
def cdA : Code -> Code
  | .cond _ x _ => x
  | c => c
def cdB : Code -> Code
  | .cond _ _ y => y
  | c => c
def cdO : Code -> Option Operand
  | .cond o _ _ => some o
  | _ => none
def blC : Code -> Code
  | .block _ c => c
  | c => c
def blI : Code -> Nat
  | .block i _ => i
  | _ => 0
def lpC : Code -> Code
  | .loop c => c
  | c => c
def spC : Code -> Code
  | .scope c => c
  | c => c
def exI : Code -> Nat
  | .exit i => i
  | _ => 0
def rgI : Code -> Nat
  | .region i _ _ => i
  | _ => 0
def rgD : Code -> Bool
  | .region _ _ d => d
  | _ => false
def rgO : Code -> Array Oper
  | .region _ ops _ => ops
  | _ => #[]
def rgN : Code -> Option Nat
  | .region i _ _ => some i
  | _ => none
def rgL (c : Code) : Option (List Oper) := match c with | .region _ ops _ => some ops.toList | _ => none
section
variable {c : Code}
theorem z4m (hk : z7d c = 0) (h : Q .n fr) : wpC P C cf LF c fr Q := by
  cases c <;> first | exact zhT h | cases hk
theorem z4D (hk : z7d c = 8) (h : Q .n fr) : wpC P C cf LF c fr Q := by
  cases c <;> first | exact zfR h | cases hk
theorem z4n (hk : z7d c = 6) (h : Q (.x (exI c)) fr) : wpC P C cf LF c fr Q := by
  cases c <;> first | exact zhU h | cases hk
theorem zat (hk : z7d c = 7) (h : Q .r fr) : wpC P C cf LF c fr Q := by
  cases c <;> first | exact zjf h | cases hk
theorem zlq (hk : z7d c = 2) (h : wpC P C cf LF (znq c) fr (zcN (fun fr' => wpC P C cf LF (znp c) fr' Q) Q)) : wpC P C cf LF c fr Q := by
  cases c <;> first | exact zje h | cases hk
theorem zjq (hk : z7d c = 4) (h : wpC P C cf LF (blC c) fr (z3B (blI c) Q)) : wpC P C cf LF c fr Q := by
  cases c <;> first | exact zfT h | cases hk
theorem zns {o : Operand} (ho : cdO c = some o) (h : ∀ Q1 Q2 : Prop, Hid (wpC P C cf LF (cdA c) fr Q -> Q1) -> Hid (wpC P C cf LF (cdB c) fr Q -> Q2) -> zk2 (rdV (opE fr o)) Q1 Q2) : wpC P C cf LF c fr Q := by
  cases c <;> first | (cases ho; exact zkb h) | cases ho
theorem zil {l : List Oper} (hl : rgL c = some l) (hd : rgD c = false) (hz : cf.fz (rgI c) = none) (h : ∀ Q' : Fr -> Prop, Hid (∀ fr', Q .n fr' -> Q' fr') -> zcC (zcS P C cf.wio l.toArray l fr) Q') : wpC P C cf LF c fr Q := by
  cases c with
  | region i ops d =>
    cases hl
    exact zeC hd hz (by simpa using h)
  | _ => cases hl
theorem zbO {l : List Nat} {fr1 : Fr} (hk : z7d c = 1) (hz : cf.fz (rgI c) = some l) (hf : zk6 fr l = fr1) (h : wpC P C { cf with fz := fun _ => none } LF c fr1 Q) : wpC P C cf LF c fr Q := by
  cases c <;> first | exact zjg hz hf h | cases hk
theorem z3C {i : Nat} {sch : List (Nat × Nat)} (hi : rgN c = some i) (hd : rgD c = true) (hs : cf.dr i = some sch) (hz : cf.fz i = none) (h : z3T P C cf.wio (cf.wr i) (rgO c) sch fr (fun fr1 => zcC (z2w P (rgO c).toList fr1) (Q .n))) (ht : cf.dt i = none := by rfl) : wpC P C cf LF c fr Q := by
  cases c with
  | region j ops d =>
    cases hi
    exact zfS hd hs hz h ht
  | _ => cases hi
def zkv : List Oper -> Nat -> Option Oper
  | [], _ => none
  | o :: _, 0 => some o
  | _ :: l, k + 1 => zkv l k
theorem zjv (l : List Oper) : ∀ (k : Nat) (o : Oper), zkv l k = some o -> l[k]? = some o := by
  induction l with
  | nil => intro k o h; cases k <;> cases h
  | cons a l ih =>
    intro k o h
    cases k with
    | zero => simpa [zkv] using h
    | succ k => simpa using ih k o (by simpa [zkv] using h)
def zc7 (c : Code) (k : Nat) : Option Oper := match c with | .region _ ops _ => zkv ops.toList k | _ => none
theorem z8K {c : Code} {k : Nat} {o : Oper} (h : zc7 c k = some o) : (rgO c)[k]? = some o := by
  cases c with
  | region i ops d => rw [← Array.getElem?_toList]; exact zjv _ _ _ h
  | _ => cases h
theorem z1n {wio : FuncId -> Nat -> Bool} {M : List Nat} {ops : Array Oper} {l : List Oper} {Q : X -> Fr -> Prop} (hl : rgL c = some l) (h : ∀ Q' : Fr -> Prop, Hid (∀ fr', Q .n fr' -> Q' fr') -> zcC (z2w P l fr) Q') : z3T P C wio M ops [] fr (fun fr1 => zcC (z2w P (rgO c).toList fr1) (Q .n)) := by
  have e : (rgO c).toList = l := by
    cases c with
    | region i ops d => cases hl; rfl
    | _ => cases hl
  rw [e]
  exact zht h
def znB : Option Oper -> Option Nat
  | some o => o.dst
  | none => none
def zjF (c : Code) (o : Oper) : Option (Option (Option Nat × Bool)) := match o.guard with | none => some none | some (j, want) => (match znB (zc7 c j) with | some t => some (some (some t, want)) | none => none)
def zj8 (g : Option (Option Nat × Bool)) (fr : Fr) : Option Bool :=
  match g with
  | none => some true
  | some (none, _) => some false
  | some (some t, want) => if t < fr.nt then (match zdn (z0W fr.tm t) with | some b => some (b == some want) | none => none) else none
theorem zhc {o : Oper} {g : Option (Option Nat × Bool)} (hg : zjF c o = some g) (fr : Fr) : z2R (rgO c) fr o = zj8 g fr := by
  unfold zjF at hg
  unfold z2R zj8
  split at hg
  · rename_i h; cases hg; simp [h]
  · rename_i j want h
    split at hg
    · rename_i t ht
      cases hg
      have e : ((rgO c)[j]?).bind (·.dst) = some t := by
        unfold znB at ht
        split at ht
        · rename_i o' ho'
          rw [z8K ho']; exact ht
        · cases ht
      simp only [h, e]
      all_goals rfl
    · cases hg
theorem z1x {wio : FuncId -> Nat -> Bool} {M : List Nat} {k m : Nat} {o : Oper} {l : List (Nat × Nat)} {Q : Fr -> Prop} (ho : zc7 c k = some o) (hg : o.guard = none) (h : ∀ Q' : Fr -> Prop, Hid (∀ fr', z3T P C wio M (rgO c) l fr' Q -> Q' fr') -> zcC (z0e P C wio M.isEmpty M.contains fr o m) Q') : z3T P C wio M (rgO c) ((k, m) :: l) fr Q := ziC (z8K ho) hg h
theorem z1i {wio : FuncId -> Nat -> Bool} {M : List Nat} {k m : Nat} {o : Oper} {g : Option (Option Nat × Bool)} {l : List (Nat × Nat)} {Q : Fr -> Prop} (ho : zc7 c k = some o) (hg : zjF c o = some g) (h : ∀ Q1 Q2 : Prop, Hid ((∀ Q' : Fr -> Prop, Hid (∀ fr', z3T P C wio M (rgO c) l fr' Q -> Q' fr') -> zcC (z0e P C wio M.isEmpty M.contains fr o m) Q') -> Q1) -> Hid ((∀ Q' : Fr -> Prop, Hid (∀ fr', z3T P C wio M (rgO c) l fr' Q -> Q' fr') -> zcC (putF fr o.dst (.one (.k undef))) Q') -> Q2) -> zkd (zj8 g fr) Q1 Q2) : z3T P C wio M (rgO c) ((k, m) :: l) fr Q :=
  zdb (z8K ho) (by simpa only [zhc hg] using h)
def znR (P : Program) (C : z0b) (wio : FuncId -> Nat -> Bool) (c : Code) (k : Nat) (fr : Fr) (Q : Fr -> Prop) : Prop := zl3 P C wio (rgO c) ((rgO c).toList.drop k) fr Q
theorem z4B (hk : z7d c = 10) (h : wpC P C cf LF (spC c) fr Q) : wpC P C cf LF c fr Q := by
  cases c with
  | scope c => unfold wpC at h ⊢; simpa only [z0S, spC] using h
  | _ => cases hk
def z2E (P : Program) (C : z0b) (cf : Cfg) (c : Code) (i : Nat) (t : SchT) (fr : Fr) (Q : Fr -> Prop) : Prop := ∃ fr', z2t P C cf.wio (cf.wr i).isEmpty (cf.wr i).contains (rgO c) t fr = some fr' /\ Q fr'
theorem z6n {i : Nat} {t : SchT} (hi : rgN c = some i) (hd : rgD c = true) (ht : cf.dt i = some t) (hz : cf.fz i = none) (h : z2E P C cf c i t fr (fun fr1 => ∃ fr2, z2w P (rgO c).toList fr1 = some fr2 /\ Q .n fr2)) : wpC P C cf LF c fr Q := by
  cases c with
  | region j ops d =>
    cases hi
    simp only [rgD] at hd
    subst hd
    obtain ⟨fr1, e1, fr2, e2, h⟩ := h
    simp only [rgO] at e1 e2
    exact ⟨.n, fr2, by simp only [z0S, if_true, z3F, ht, hz, ziy, e1, e2], h⟩
  | _ => cases hi
theorem zke {i : Nat} {Q : Fr -> Prop} (h : Q fr) : z2E P C cf c i .nil fr Q := ⟨fr, by simp only [z2t], h⟩
theorem z6i {l : List Oper} {fr2 : Fr} {Q : X -> Fr -> Prop} (hl : rgL c = some l) (ha : z2w P l fr = some fr2) (h : Q .n fr2) : ∃ fr2, z2w P (rgO c).toList fr = some fr2 /\ Q .n fr2 := by
  cases c with
  | region j ops d => cases hl; exact ⟨fr2, ha, h⟩
  | _ => cases hl
def z0d (P : Program) (C : z0b) (wio : FuncId -> Nat -> Bool) (same : Bool) (M : Nat -> Bool) (fr : Fr) (o : Oper) (m : Nat) : Option Fr := match z0e P C wio same M fr o m with | some f => some (zj4 f) | none => none
theorem z6U {i k m : Nat} {rest : SchT} {o : Oper} {fr1 fr' : Fr} (ho : zc7 c k = some o) (hgd : z2R (rgO c) fr o = some true) (hs : z0d P C cf.wio (cf.wr i).isEmpty (cf.wr i).contains fr o m = some fr1) (e : z2t P C cf.wio (cf.wr i).isEmpty (cf.wr i).contains (rgO c) rest fr1 = some fr') : z2t P C cf.wio (cf.wr i).isEmpty (cf.wr i).contains (rgO c) (.op k m rest) fr = some fr' := by
  unfold z0d at hs
  split at hs
  case h_2 => cases hs
  case h_1 f hz =>
  cases hs
  simp only [z2t, z8K ho, hgd]
  unfold z0e at hz
  split at hz
  · rename_i hm
    rw [if_pos hm]
    split at hz
    · rename_i e1 he
      try rw [he]
      simp only [hz]
      exact e
    · cases hz
  · rename_i hm
    rw [if_neg hm]
    rw [hz]
    exact e
theorem zlk {i k m : Nat} {rest : SchT} {o : Oper} {fr1 : Fr} {Q : Fr -> Prop} (ho : zc7 c k = some o) (hg : o.guard = none) (hs : z0d P C cf.wio (cf.wr i).isEmpty (cf.wr i).contains fr o m = some fr1) (h : z2E P C cf c i rest fr1 Q) : z2E P C cf c i (.op k m rest) fr Q := by
  obtain ⟨fr', e, h⟩ := h
  exact ⟨fr', z6U ho (by unfold z2R; rw [hg]) hs e, h⟩
theorem zll {i k m : Nat} {rest : SchT} {o : Oper} {g : Option (Option Nat × Bool)} {fr1 : Fr} {Q : Fr -> Prop} (ho : zc7 c k = some o) (hg : zjF c o = some g) (hv : zj8 g fr = some true) (hs : z0d P C cf.wio (cf.wr i).isEmpty (cf.wr i).contains fr o m = some fr1) (h : z2E P C cf c i rest fr1 Q) : z2E P C cf c i (.op k m rest) fr Q := by
  obtain ⟨fr', e, h⟩ := h
  exact ⟨fr', z6U ho (by rw [zhc hg]; exact hv) hs e, h⟩
def nrmO? : Option Fr -> Option Fr
  | some f => some (zj4 f)
  | none => none
theorem zlm {i k m : Nat} {rest : SchT} {o : Oper} {g : Option (Option Nat × Bool)} {fr1 : Fr} {Q : Fr -> Prop} (ho : zc7 c k = some o) (hg : zjF c o = some g) (hv : zj8 g fr = some false) (hs : nrmO? (putF fr o.dst (.one (.k undef))) = some fr1) (h : z2E P C cf c i rest fr1 Q) : z2E P C cf c i (.op k m rest) fr Q := by
  obtain ⟨fr', e, h⟩ := h
  have hgd : z2R (rgO c) fr o = some false := by rw [zhc hg]; exact hv
  unfold nrmO? at hs
  split at hs
  · rename_i f hf
    cases hs
    exact ⟨fr', by simp only [z2t, z8K ho, hgd, hf]; exact e, h⟩
  · cases hs
def lkp (s : Nat) : List (Nat × Fr) -> Option Fr
  | [] => none
  | (j, f) :: r => if s = j then some f else lkp s r
def zl6 (s k : Nat) : List (Nat × Nat × Nat × Nat) -> Option (Nat × Nat)
  | [] => none
  | (a, b, m, z) :: r => if Nat.beq a s && Nat.beq b k then some (m, z) else zl6 s k r
def zjQ (es : List (Nat × Nat × Nat × Nat)) (z : Nat) : SchT -> Nat -> Bool
  | .nil, s => Nat.beq s z
  | .op k m r, s => match zl6 s k es with | some (m', s') => Nat.beq m m' && zjQ es z r s' | none => false
  | .alt a b, s => zjQ es z a s && zjQ es z b s
theorem zdT {s k m z : Nat} : ∀ {es : List (Nat × Nat × Nat × Nat)}, zl6 s k es = some (m, z) -> (s, k, m, z) ∈ es
  | (a, b, m', z') :: r, h => by
    simp only [zl6] at h
    split at h
    · rename_i hb
      simp only [Bool.and_eq_true] at hb
      obtain rfl := Nat.eq_of_beq_eq_true hb.1
      obtain rfl := Nat.eq_of_beq_eq_true hb.2
      cases h
      simp
    · exact List.mem_cons_of_mem _ (zdT h)
def ziD (P : Program) (C : z0b) (cf : Cfg) (c : Code) (i : Nat) : List (Nat × Nat × Nat × Nat) -> List (Nat × Fr) -> (List (Nat × Fr) -> Prop) -> Prop
  | [], kn, Q => Q kn
  | (s, k, m, s') :: es, kn, Q => ∃ F o F1, lkp s kn = some F /\ zc7 c k = some o /\ o.guard = none /\ z0d P C cf.wio (cf.wr i).isEmpty (cf.wr i).contains F o m = some F1 /\ ((lkp s' kn = some F1 /\ ziD P C cf c i es kn Q) ∨ (lkp s' kn = none /\ ziD P C cf c i es ((s', F1) :: kn) Q))
theorem z0i {i s k m s' : Nat} {es : List (Nat × Nat × Nat × Nat)} {kn : List (Nat × Fr)} {Q : List (Nat × Fr) -> Prop} {F F1 : Fr} {o : Oper} (hk : lkp s kn = some F) (ho : zc7 c k = some o) (hg : o.guard = none) (hl : lkp s' kn = none) (hs : z0d P C cf.wio (cf.wr i).isEmpty (cf.wr i).contains F o m = some F1) (h : ziD P C cf c i es ((s', F1) :: kn) Q) : ziD P C cf c i ((s, k, m, s') :: es) kn Q := ⟨F, o, F1, hk, ho, hg, hs, .inr ⟨hl, h⟩⟩
theorem z0j {i s k m s' : Nat} {es : List (Nat × Nat × Nat × Nat)} {kn : List (Nat × Fr)} {Q : List (Nat × Fr) -> Prop} {F F1 : Fr} {o : Oper} (hk : lkp s kn = some F) (ho : zc7 c k = some o) (hg : o.guard = none) (hl : lkp s' kn = some F1) (hs : z0d P C cf.wio (cf.wr i).isEmpty (cf.wr i).contains F o m = some F1) (h : ziD P C cf c i es kn Q) : ziD P C cf c i ((s, k, m, s') :: es) kn Q := ⟨F, o, F1, hk, ho, hg, hs, .inl ⟨hl, h⟩⟩
theorem zkN {i z : Nat} {kn : List (Nat × Fr)} {Q : Fr -> Prop} {G : Fr} (hk : lkp z kn = some G) (h : Q G) : ziD P C cf c i [] kn (fun kn => ∃ G, lkp z kn = some G /\ Q G) := ⟨G, hk, h⟩
theorem zdf {i : Nat} {Q : List (Nat × Fr) -> Prop} : ∀ {es : List (Nat × Nat × Nat × Nat)} {kn : List (Nat × Fr)}, ziD P C cf c i es kn Q -> ∃ kn', Q kn' /\ (∀ s F, lkp s kn = some F -> lkp s kn' = some F) /\
    ∀ s k m s', (s, k, m, s') ∈ es -> ∃ F o F1, lkp s kn' = some F /\ zc7 c k = some o /\ o.guard = none /\ z0d P C cf.wio (cf.wr i).isEmpty (cf.wr i).contains F o m = some F1 /\ lkp s' kn' = some F1
  | [], kn, h => ⟨kn, h, fun _ _ e => e, fun _ _ _ _ h => by cases h⟩
  | (s, k, m, s') :: es, kn, ⟨F, o, F1, h1, h2, h3, h4, h5⟩ => by
    have : ∃ kn', Q kn' /\ (∀ s F, lkp s kn = some F -> lkp s kn' = some F) /\ lkp s' kn' = some F1 /\
        ∀ s k m s', (s, k, m, s') ∈ es -> ∃ F o F1, lkp s kn' = some F /\ zc7 c k = some o /\ o.guard = none /\ z0d P C cf.wio (cf.wr i).isEmpty (cf.wr i).contains F o m = some F1 /\ lkp s' kn' = some F1 := by
      rcases h5 with ⟨hl, hd⟩ | ⟨hl, hd⟩
      · obtain ⟨kn', a1, a2, a3⟩ := zdf hd
        exact ⟨kn', a1, a2, a2 _ _ hl, a3⟩
      · obtain ⟨kn', a1, a2, a3⟩ := zdf hd
        refine ⟨kn', a1, fun s F e => a2 s F ?_, a2 _ _ (by simp [lkp]), a3⟩
        simp only [lkp]
        rw [if_neg (fun e' => by rw [e', hl] at e; cases e)]
        exact e
    obtain ⟨kn', a1, a2, a3, a4⟩ := this
    refine ⟨kn', a1, a2, fun s1 k1 m1 s1' hm => ?_⟩
    rcases List.mem_cons.1 hm with e | e
    · cases e
      exact ⟨F, o, F1, a2 _ _ h1, h2, h3, h4, a3⟩
    · exact a4 _ _ _ _ e
theorem z8c {i z : Nat} {es : List (Nat × Nat × Nat × Nat)} {kn : List (Nat × Fr)} (he : ∀ s k m s', (s, k, m, s') ∈ es -> ∃ F o F1, lkp s kn = some F /\ zc7 c k = some o /\ o.guard = none /\ z0d P C cf.wio (cf.wr i).isEmpty (cf.wr i).contains F o m = some F1 /\ lkp s' kn = some F1) :
    ∀ {t : SchT} {s : Nat} {F G : Fr}, zjQ es z t s = true -> lkp s kn = some F -> lkp z kn = some G -> z2t P C cf.wio (cf.wr i).isEmpty (cf.wr i).contains (rgO c) t F = some G
  | .nil, s, F, G, h, hF, hG => by
    obtain rfl := Nat.eq_of_beq_eq_true h
    rw [hF] at hG; cases hG
    simp only [z2t]
  | .op k m r, s, F, G, h, hF, hG => by
    simp only [zjQ] at h
    split at h
    · rename_i m' s' hn
      simp only [Bool.and_eq_true] at h
      obtain ⟨hm, h⟩ := h
      obtain rfl := Nat.eq_of_beq_eq_true hm
      obtain ⟨F', o, F1, b1, b2, b3, b4, b5⟩ := he _ _ _ _ (zdT hn)
      rw [hF] at b1; cases b1
      exact z6U b2 (by unfold z2R; rw [b3]) b4 (z8c he h b5 hG)
    · cases h
  | .alt a b, s, F, G, h, hF, hG => by
    simp only [zjQ, Bool.and_eq_true] at h
    simp only [z2t, z8c he h.1 hF hG, z8c he h.2 hF hG]
    exact z7W ⟨rfl, fun _ _ => rfl, fun _ _ => rfl⟩
theorem zkf {i : Nat} {t : SchT} {Q : Fr -> Prop} (es : List (Nat × Nat × Nat × Nat)) (z : Nat) (hc : zjQ es z t 0 = true) (h : ziD P C cf c i es [(0, fr)] (fun kn => ∃ G, lkp z kn = some G /\ Q G)) : z2E P C cf c i t fr Q := by
  obtain ⟨kn, ⟨G, hG, hQ⟩, h2, h3⟩ := zdf h
  exact ⟨G, z8c h3 hc (h2 0 fr (by simp [lkp])) hG, hQ⟩
theorem zkg {i : Nat} {a b : SchT} {f : Fr} {Q : Fr -> Prop} (h1 : z2E P C cf c i a fr (fun x => x = f)) (h2 : z2E P C cf c i b fr (fun y => z4g f y)) (h : Q f) : z2E P C cf c i (.alt a b) fr Q := by
  obtain ⟨x, e1, rfl⟩ := h1
  obtain ⟨y, e2, hs⟩ := h2
  exact ⟨x, by simp only [z2t, e1, e2]; exact z7W hs, h⟩
theorem zjj {i : Nat} {a b : SchT} {Q : Fr -> Prop} (h : z2E P C cf c i a fr (fun x => z2E P C cf c i b fr (fun y => z4g x y) /\ Q x)) : z2E P C cf c i (.alt a b) fr Q := by
  obtain ⟨x, e1, h1, h2⟩ := h
  exact zkg ⟨x, e1, rfl⟩ h1 h2
theorem z0V {id i : Nat} (hi : i = id) (h : Q .n fr) : z3B id Q (.x i) fr := by
  subst hi; exact zfD h
end
attribute [irreducible] wpC zcN z3B zl3 znR z3T zly zko zcC zkd zk2
end
section
def LFm : Nat := 18446744073709551616
noncomputable def z1f (P : Program) (X : z0b) (cf : FuncId -> Option Cfg) : Nat -> z0b
  | 0 => fun f args => match cf f with | some _ => none | none => X f args
  | n + 1 => fun f args => match cf f with
    | some c => (match P.funcs[f]? with | some fn => zaY P (z1f P X cf n) c LFm fn args | none => none)
    | none => X f args
def z1u (P : Program) (f : FuncId) (c : Cfg) : Bool :=
  match P.funcs[f]? with
  | none => false
  | some fn => match fn.body with
    | none => false
    | some b => (fn.name != "runtime.NumGoroutine") && okC c b
theorem z8S {P : Program} {I : World -> (Nat -> z0a) -> Prop} {X : z0b} {cf : FuncId -> Option Cfg} (hI : EnvS I) (hX : z5X P I X) (hm : P.follows .mixedOrders = true) (hf : ∀ f c, cf f = some c -> z1u P f c = true) : ∀ n, z5X P I (z1f P X cf n)
  | 0 => fun f args r outs h => by
    simp only [z1f] at h
    split at h
    · cases h
    · exact hX f args r outs h
  | n + 1 => fun f args r outs h => by
    simp only [z1f] at h
    split at h
    · rename_i c hc
      split at h
      · rename_i fn hfn
        have hok := hf f c hc
        unfold z1u at hok
        rw [hfn] at hok
        simp only at hok
        split at hok
        · cases hok
        · rename_i b hb
          simp only [Bool.and_eq_true, bne_iff_ne, ne_eq] at hok
          exact zkj hI (z8S hI hX hm hf n) hm hfn hb hok.1 hok.2 h
      · cases h
    · exact hX f args r outs h
theorem zcb {P : Program} {X : z0b} {cf : FuncId -> Option Cfg} {f : FuncId} {c : Cfg} {fn : Func} {n : Nat} {args : List T} {o : T × List T} (hc : cf f = some c) (hfn : P.funcs[f]? = some fn) (h : zaY P (z1f P X cf n) c LFm fn args = some o) : z1f P X cf (n + 1) f args = some o := by
  simp only [z1f, hc, hfn, h]
def From (P : Program) (X : z0b) (cf : FuncId -> Option Cfg) (d : Nat) (f : FuncId) (args : List T) (o : T × List T) : Prop := ∀ n, d <= n -> z1f P X cf n f args = some o
theorem From.run {P : Program} {X : z0b} {cf : FuncId -> Option Cfg} {f : FuncId} {c : Cfg} {fn : Func} {d : Nat} {args : List T} {o : T × List T} (hc : cf f = some c) (hfn : P.funcs[f]? = some fn) (h : ∀ n, d <= n -> zaY P (z1f P X cf n) c LFm fn args = some o) : From P X cf (d + 1) f args o := fun n hn => by
  match n, hn with
  | m + 1, hm => exact zcb hc hfn (h m (by omega))
theorem From.mono {P : Program} {X : z0b} {cf : FuncId -> Option Cfg} {f : FuncId} {d e : Nat} {args : List T} {o : T × List T} (h : From P X cf d f args o) (he : d <= e) : From P X cf e f args o := fun n hn => h n (by omega)
theorem From.ok {P : Program} {I : World -> (Nat -> z0a) -> Prop} {X : z0b} {cf : FuncId -> Option Cfg} {f : FuncId} {d : Nat} {args : List T} {r : T} {outs : List T} (hI : EnvS I) (hX : z5X P I X) (hm : P.follows .mixedOrders = true) (hf : ∀ f c, cf f = some c -> z1u P f c = true) (h : From P X cf d f args (r, outs)) : CallOk P I f args r outs :=
  z8S hI hX hm hf d f args r outs (h d (Nat.le_refl d))
end
section
noncomputable def Lim (P : Program) (X : z0b) (cf : FuncId -> Option Cfg) : z0b := fun f args =>
  @dite _ (∃ o d, From P X cf d f args o) (Classical.propDecidable _) (fun h => some h.choose) (fun _ => none)
section
variable {P : Program} {Xc : z0b} {cf : FuncId -> Option Cfg}
theorem zh0 {d : Nat} {f : FuncId} {args : List T} {o : T × List T} (h : From P Xc cf d f args o) : Lim P Xc cf f args = some o := by
  have he : ∃ o d, From P Xc cf d f args o := ⟨o, d, h⟩
  unfold Lim
  rw [dif_pos he]
  obtain ⟨e, h2⟩ := he.choose_spec
  have a1 := h (d + e) (by omega)
  have a2 := h2 (d + e) (by omega)
  rw [a1] at a2
  exact a2.symm
theorem zj3 {f : FuncId} {args : List T} {o : T × List T} (h : Lim P Xc cf f args = some o) : ∃ d, From P Xc cf d f args o := by
  unfold Lim at h
  split at h
  · rename_i he
    cases h
    exact he.choose_spec
  · cases h
def Ev (p : Nat -> Prop) : Prop := ∃ n, ∀ m, n <= m -> p m
theorem Ev.pure {p : Nat -> Prop} (h : ∀ m, p m) : Ev p := ⟨0, fun m _ => h m⟩
theorem Ev.both {p q r : Nat -> Prop} (h1 : Ev p) (h2 : Ev q) (h : ∀ m, p m -> q m -> r m) : Ev r := by
  obtain ⟨a, h1⟩ := h1
  obtain ⟨b, h2⟩ := h2
  exact ⟨a + b, fun m hm => h m (h1 m (by omega)) (h2 m (by omega))⟩
theorem Ev.imp {p q : Nat -> Prop} (h1 : Ev p) (h : ∀ m, p m -> q m) : Ev q := by
  obtain ⟨a, h1⟩ := h1
  exact ⟨a, fun m hm => h m (h1 m hm)⟩
theorem z6E {wio : FuncId -> Nat -> Bool} {fr fr' : Fr} {f : FuncId} {args : List E} {dst : Option Nat} (h : z6F (Lim P Xc cf) wio fr f args dst = some fr') : Ev fun m => z6F (z1f P Xc cf m) wio fr f args dst = some fr' := by
  unfold z6F at h ⊢
  split at h
  · cases h
  · rename_i ts deps io ha
    split at h
    · cases h
    · rename_i r outs hc
      obtain ⟨d, hd⟩ := zj3 hc
      refine ⟨d, fun m hm => ?_⟩
      show (match z1f P Xc cf m f ts with | none => none | some (r, outs) => _) = _
      rw [hd m hm]
      exact h
theorem zcW {wio : FuncId -> Nat -> Bool} {fr fr' : Fr} {o : Oper} (h : opF P (Lim P Xc cf) wio fr o = some fr') : Ev fun m => opF P (z1f P Xc cf m) wio fr o = some fr' := by
  unfold opF at h ⊢
  split at h
  · exact .pure fun _ => h
  · split at h
    · exact z6E h
    · cases h
  · exact .pure fun _ => h
  · exact .pure fun _ => h
  · exact .pure fun _ => h
theorem zcw {wio : FuncId -> Nat -> Bool} {fr fr' : Fr} {o : Oper} (h : z5t P (Lim P Xc cf) wio fr o = some fr') : Ev fun m => z5t P (z1f P Xc cf m) wio fr o = some fr' := by
  unfold z5t at h ⊢
  split at h
  · split at h
    · split at h
      · exact z6E h
      · cases h
    · cases h
  · exact .pure fun _ => h
theorem zfO {wio : FuncId -> Nat -> Bool} {M : Nat -> Bool} {fr fr' : Fr} {o : Oper} (h : wrF P (Lim P Xc cf) wio M fr o = some fr') : Ev fun m => wrF P (z1f P Xc cf m) wio M fr o = some fr' := by
  unfold wrF at h ⊢
  split at h
  · split at h
    · cases h
    · split at h
      · exact z6E h
      · split at h
        · rename_i hM
          simp only [hM, if_true]
          exact z6E h
        · cases h
      · cases h
  · exact .pure fun _ => h
  · exact .pure fun _ => h
  · exact .pure fun _ => h
  · cases h
theorem zar {wio : FuncId -> Nat -> Bool} {ops : Array Oper} : ∀ {l : List Oper} {fr fr' : Fr}, zcS P (Lim P Xc cf) wio ops l fr = some fr' -> Ev fun m => zcS P (z1f P Xc cf m) wio ops l fr = some fr'
  | [], fr, fr', h => .pure fun _ => h
  | o :: rest, fr, fr', h => by
    simp only [zcS] at h ⊢
    split at h
    · cases h
    · split at h
      · rename_i fr1 h1
        exact (zcW h1).both (zar h) fun m a1 a2 => by rw [a1]; exact a2
      · cases h
    · split at h
      · rename_i fr1 h1
        exact (zar h)
      · cases h
theorem z6D {wio : FuncId -> Nat -> Bool} {same : Bool} {M : Nat -> Bool} {ops : Array Oper} : ∀ {l : List (Nat × Oper × Nat)} {fr fr' : Fr}, z4P P (Lim P Xc cf) wio same M ops l fr = some fr' -> Ev fun m => z4P P (z1f P Xc cf m) wio same M ops l fr = some fr'
  | [], fr, fr', h => .pure fun _ => h
  | (k, o, mk) :: rest, fr, fr', h => by
    simp only [z4P] at h ⊢
    split at h
    · cases h
    · split at h
      · exact z6D h
      · cases h
    · split at h
      · rename_i hm
        simp only [if_pos hm]
        split at h
        · split at h
          · exact z6D h
          · cases h
        · cases h
      · rename_i hm
        simp only [if_neg hm]
        split at h
        · rename_i fr1 h1
          have h2 : Ev fun m => (if mk = 2 then opF P (z1f P Xc cf m) wio fr o else if same = true then z5t P (z1f P Xc cf m) wio fr o else wrF P (z1f P Xc cf m) wio M fr o) = some fr1 := by
            by_cases e : mk = 2
            · simp only [if_pos e] at h1 ⊢; exact zcW h1
            · simp only [if_neg e] at h1 ⊢
              by_cases e2 : same = true
              · simp only [if_pos e2] at h1 ⊢; exact zcw h1
              · simp only [if_neg e2] at h1 ⊢; exact zfO h1
          exact h2.both (z6D h) fun m a1 a2 => by rw [a1]; exact a2
        · cases h
theorem z3U {wio : FuncId -> Nat -> Bool} {same : Bool} {M : Nat -> Bool} {ops : Array Oper} : ∀ {l : SchT} {fr fr' : Fr}, z2t P (Lim P Xc cf) wio same M ops l fr = some fr' -> Ev fun m => z2t P (z1f P Xc cf m) wio same M ops l fr = some fr'
  | .nil, fr, fr', h => .pure fun _ => h
  | .alt x y, fr, fr', h => by
    simp only [z2t] at h ⊢
    split at h
    · rename_i f1 f2 h1 h2
      obtain ⟨rfl, hs⟩ := z7b h
      exact (z3U h1).both (z3U h2) fun m a1 a2 => by rw [a1, a2]; exact z7W hs
    · cases h
  | .op k mk rest, fr, fr', h => by
    simp only [z2t] at h ⊢
    split at h
    · cases h
    rename_i o ho
    try simp only [ho]
    split at h
    · cases h
    · split at h
      · exact z3U h
      · cases h
    · split at h
      · rename_i hm
        simp only [if_pos hm]
        split at h
        · split at h
          · exact z3U h
          · cases h
        · cases h
      · rename_i hm
        simp only [if_neg hm]
        split at h
        · rename_i fr1 h1
          have h2 : Ev fun m => (if mk = 2 then opF P (z1f P Xc cf m) wio fr o else if same = true then z5t P (z1f P Xc cf m) wio fr o else wrF P (z1f P Xc cf m) wio M fr o) = some fr1 := by
            by_cases e : mk = 2
            · simp only [if_pos e] at h1 ⊢; exact zcW h1
            · simp only [if_neg e] at h1 ⊢
              by_cases e2 : same = true
              · simp only [if_pos e2] at h1 ⊢; exact zcw h1
              · simp only [if_neg e2] at h1 ⊢; exact zfO h1
          exact h2.both (z3U h) fun m a1 a2 => by rw [a1]; exact a2
        · cases h
theorem zdc {c : Cfg} {id : Nat} {ops : Array Oper} {fr fr' : Fr} (h : z3F P (Lim P Xc cf) c id ops fr = some fr') : Ev fun m => z3F P (z1f P Xc cf m) c id ops fr = some fr' := by
  unfold z3F at h ⊢
  split at h
  · exact z3U h
  · split at h
    · exact z6D h
    · cases h
theorem zci {B : z0b -> Fr -> Option (X × Fr)} {cn : Fr -> Fr} (hB : ∀ fr o, B (Lim P Xc cf) fr = some o -> Ev fun m => B (z1f P Xc cf m) fr = some o) : ∀ {n : Nat} {fr : Fr} {o : X × Fr}, z6z (B (Lim P Xc cf)) cn n fr = some o -> Ev fun m => z6z (B (z1f P Xc cf m)) cn n fr = some o
  | 0, fr, o, h => by cases h
  | n + 1, fr, o, h => by
    simp only [z6z] at h ⊢
    split at h
    · rename_i fr1 h1
      exact (hB _ _ h1).both (zci hB h) fun m a1 a2 => by rw [a1]; exact a2
    · rename_i x fr1 hne h1
      refine (hB _ _ h1).imp fun m a1 => ?_
      rw [a1]
      cases x with
      | n => exact absurd rfl hne
      | x i => exact h
      | r => exact h
    · cases h
theorem zcu {c : Cfg} {LF : Nat} : ∀ (b : Code) {fr : Fr} {o : X × Fr}, z0S P (Lim P Xc cf) c LF b fr = some o -> Ev fun m => z0S P (z1f P Xc cf m) c LF b fr = some o := by
  intro b
  induction b with
  | skip => intro fr o h; exact .pure fun _ => h
  | label l => intro fr o h; exact .pure fun _ => h
  | exit id => intro fr o h; exact .pure fun _ => h
  | ret => intro fr o h; exact .pure fun _ => h
  | goto l => intro fr o h; cases h
  | scope c ih => intro fr o h; simp only [z0S] at h ⊢; exact ih h
  | refuse s => intro fr o h; cases h
  | rangeFunc => intro fr o h; cases h
  | region id ops draw =>
    intro fr o h
    simp only [z0S] at h ⊢
    split at h
    · rename_i hd
      simp only [hd, if_true]
      split at h
      · rename_i fr1 h1
        exact (zdc h1).imp fun m a1 => by rw [a1]; exact h
      · cases h
    · rename_i hd
      simp only [hd, Bool.false_eq_true, if_false]
      split at h
      · rename_i fr1 h1
        exact (zar h1).imp fun m a1 => by rw [a1]; exact h
      · cases h
  | seq a b ih1 ih2 =>
    intro fr o h
    simp only [z0S] at h ⊢
    split at h
    · rename_i fr1 h1
      exact (ih1 h1).both (ih2 h) fun m a1 a2 => by rw [a1]; exact a2
    · rename_i hne
      refine (ih1 h).imp fun m a1 => ?_
      rw [a1]
      obtain ⟨x, fr1⟩ := o
      cases x with
      | n => exact absurd h (hne _)
      | x i => rfl
      | r => rfl
  | cond c x y ih1 ih2 =>
    intro fr o h
    simp only [z0S] at h ⊢
    split at h
    · exact ih1 h
    · exact ih2 h
    · cases h
  | block id c ih =>
    intro fr o h
    simp only [z0S] at h ⊢
    split at h
    · rename_i i fr1 h1
      exact (ih h1).imp fun m a1 => by rw [a1]; exact h
    · rename_i hne
      refine (ih h).imp fun m a1 => ?_
      rw [a1]
      obtain ⟨x, fr1⟩ := o
      cases x with
      | n => rfl
      | x i => exact absurd h (hne _ _)
      | r => rfl
  | loop b ih =>
    intro fr o h
    simp only [z0S] at h ⊢
    exact zci (B := fun C fr => z0S P C c LF b fr) (fun fr o h => ih h) h
theorem zif {c : Cfg} {LF : Nat} {fn : Func} {args : List T} {o : T × List T} (h : zaY P (Lim P Xc cf) c LF fn args = some o) : Ev fun m => zaY P (z1f P Xc cf m) c LF fn args = some o := by
  unfold zaY at h ⊢
  split at h
  · rename_i hc
    simp only [if_pos hc]
    split at h
    · cases h
    · rename_i b hb
      split at h
      · rename_i fr h1
        exact (zcu _ h1).imp fun m a1 => by rw [a1]; exact h
      · rename_i fr h1
        exact (zcu _ h1).imp fun m a1 => by rw [a1]; exact h
      · cases h
  · cases h
theorem zgZ {f : FuncId} {c : Cfg} {fn : Func} {args : List T} {o : T × List T} (hc : cf f = some c) (hfn : P.funcs[f]? = some fn) (h : zaY P (Lim P Xc cf) c LFm fn args = some o) : Lim P Xc cf f args = some o := by
  obtain ⟨d, hd⟩ := zif h
  exact zh0 (d := d + 1) (From.run hc hfn hd)
theorem z8R {f : FuncId} {args : List T} (hc : cf f = none) {o : T × List T} (h : Xc f args = some o) : Lim P Xc cf f args = some o :=
  zh0 (d := 0) fun n _ => by
    cases n with
    | zero => simp only [z1f, hc, h]
    | succ n => simp only [z1f, hc, h]
theorem zkC {I : World -> (Nat -> z0a) -> Prop} {f : FuncId} {args : List T} {r : T} {outs : List T} (hI : EnvS I) (hX : z5X P I Xc) (hm : P.follows .mixedOrders = true) (hf : ∀ f c, cf f = some c -> z1u P f c = true) (h : Lim P Xc cf f args = some (r, outs)) : CallOk P I f args r outs := by
  obtain ⟨d, hd⟩ := zj3 h
  exact From.ok hI hX hm hf hd
end
end
section
def z1a (P : Program) (t : TypeId) (f : Nat) : Option (Nat × Nat × Bool) :=
  match z1e P t with
  | some ⟨.struct fields, _, _, _⟩ => match fields[f]? with
    | none => none
    | some fd => match z1e P fd.type with
      | none => none
      | some ti => some (fd.offset, ti.size, z2c ti.u)
  | _ => none
def z5N (P : Program) (t : TypeId) : Option (List T) :=
  match z1e P t with
  | some ⟨.struct fields, _, _, some zs⟩ => if zs.all z7k = true /\ (fields.toList.all fun f => (z1e P f.type).isSome) = true then some zs else none
  | _ => none
theorem zaO (P : Program) (t : TypeId) (e : E) (f : Nat) : z3Q P t e f = match z1a P t f with
    | some (off, size, _) => if size = 0 then none else match e with
      | .one (.a id p o) => some (.one (.a id p (o + off)))
      | .one (.ea dep cs o) => some (.one (.ea dep cs (o + off)))
      | _ => none
    | none => none := by
  unfold z3Q z1a
  cases z1e P t with
  | none => rfl
  | some i =>
    obtain ⟨u, s, b, z⟩ := i
    cases u with
    | struct fields =>
      simp only
      cases fields[f]? with
      | none => rfl
      | some fd =>
        simp only
        cases z1e P fd.type with
        | none => rfl
        | some ti => rfl
    | _ => rfl
theorem zhm (P : Program) (fr : Fr) (t : TypeId) (e : E) (f : Nat) : zcp P fr t e f = match z1a P t f with
    | some (off, size, agg) => zeZ fr agg size off e
    | none => none := by
  unfold zcp z1a
  cases z1e P t with
  | none => rfl
  | some i =>
    obtain ⟨u, s, b, z⟩ := i
    cases u with
    | struct fields =>
      simp only
      cases fields[f]? with
      | none => rfl
      | some fd =>
        simp only
        cases z1e P fd.type with
        | none => rfl
        | some ti => rfl
    | _ => rfl
theorem z2s {P : Program} {t : TypeId} {zs : List T} (h : z5N P t = some zs) (fr : Fr) (parts : List (Nat × Operand)) : z5C P fr t parts = match z4O fr (z1a P t) (zs.map (A.t none)) parts with
    | some xs => some (.ag xs)
    | none => none := by
  unfold z5N at h
  split at h
  · rename_i fields s b zs' ht
    split at h
    · rename_i hc
      cases h
      unfold z5C
      rw [ht]
      simp only
      rw [if_pos hc]
      have : (fun i => match fields[i]? with | some f => (match z1e P f.type with | some ti => some (f.offset, ti.size, z2c ti.u) | none => none) | none => none) = z1a P t := by
        funext i
        unfold z1a
        rw [ht]
        simp only
        cases fields[i]? with
        | none => rfl
        | some f =>
          simp only
          cases z1e P f.type with
          | none => rfl
          | some ti => rfl
      exact congrArg (fun g => match z4O fr g (zs.map (A.t none)) parts with | some xs => some (E.ag xs) | none => none) this
    · cases h
  · cases h
abbrev hE (id : Nat) : E := .one (.h id [])
theorem z9Z : ∀ l : List UInt8, z5B (l.map fun b => .sc (.int .u8 b.toNat)) = some l
  | [] => rfl
  | b :: l => by simp [z5B, z9Z l]
theorem zcH (b : UInt8) : IntKind.u8.wrap (b.toNat : Int) = b.toNat := by
  have := b.toNat_lt
  rw [IntKind.wrap_u8]; omega
@[simp] theorem range_1 : List.range 1 = [0] := rfl
@[simp] theorem range_2 : List.range 2 = [0, 1] := rfl
@[simp] theorem range_3 : List.range 3 = [0, 1, 2] := rfl
@[simp] theorem range_4 : List.range 4 = [0, 1, 2, 3] := rfl
@[simp] theorem range_5 : List.range 5 = [0, 1, 2, 3, 4] := rfl
@[simp] theorem range_6 : List.range 6 = [0, 1, 2, 3, 4, 5] := rfl
@[simp] theorem range_7 : List.range 7 = [0, 1, 2, 3, 4, 5, 6] := rfl
@[simp] theorem range_8 : List.range 8 = [0, 1, 2, 3, 4, 5, 6, 7] := rfl
@[simp] theorem range_9 : List.range 9 = [0, 1, 2, 3, 4, 5, 6, 7, 8] := rfl
@[simp] theorem range_10 : List.range 10 = [0, 1, 2, 3, 4, 5, 6, 7, 8, 9] := rfl
@[simp] theorem range_11 : List.range 11 = [0, 1, 2, 3, 4, 5, 6, 7, 8, 9, 10] := rfl
@[simp] theorem range_12 : List.range 12 = [0, 1, 2, 3, 4, 5, 6, 7, 8, 9, 10, 11] := rfl
@[simp] theorem zfL (t : T) : ∀ n, z5o n [t] = List.replicate n t
  | 0 => rfl
  | n + 1 => by simp [z5o, zfL t n, List.replicate_succ]
@[simp] theorem zjt {α : Type} (g : α -> Value) : ∀ l : List α, z9p (l.map fun x => T.sc (g x)) = false
  | [] => rfl
  | x :: l => by simp [z9p, opn, zjt g l]
@[simp] theorem bits_u64 : IntKind.u64.bits = 64 := rfl
@[simp] theorem bits_i64 : IntKind.i64.bits = 64 := rfl
@[simp] theorem int_beq (a b : Int) : (a == b) = decide (a = b) := rfl
@[simp] theorem int_bne (a b : Int) : (a != b) = !decide (a = b) := rfl
@[simp] theorem wrap_0 : IntKind.i64.wrap 0 = 0 := by decide
@[simp] theorem wrap_1 : IntKind.i64.wrap 1 = 1 := by decide
@[simp] theorem wrap_2 : IntKind.i64.wrap 2 = 2 := by decide
@[simp] theorem wrap_3 : IntKind.i64.wrap 3 = 3 := by decide
@[simp] theorem wrap_m1 : IntKind.i64.wrap (-1) = -1 := by decide
end
section
def z2p : List Int -> List Int -> Int
  | [], [] => 0
  | [], _ :: _ => -1
  | _ :: _, [] => 1
  | a :: x, b :: y => if a < b then -1 else if b < a then 1 else z2p x y
theorem z9f : ∀ (xs ys : List Int) (k : Nat), k < xs.length -> k < ys.length -> (∀ i, i < k -> xs.getD i 0 = ys.getD i 0) -> xs.getD k 0 ≠ ys.getD k 0 -> z2p xs ys = if xs.getD k 0 < ys.getD k 0 then -1 else 1
  | [], _, k, h, _, _, _ => by simp at h
  | _ :: _, [], k, _, h, _, _ => by simp at h
  | a :: x, b :: y, 0, _, _, _, hne => by
    simp at hne
    simp only [z2p, List.getD_cons_zero]
    by_cases h : a < b
    · simp [h]
    · have : b < a := by omega
      simp [h, this]
  | a :: x, b :: y, k + 1, h1, h2, he, hne => by
    have h0 := he 0 (by omega)
    simp at h0
    subst h0
    have ih := z9f x y k (by simpa using h1) (by simpa using h2) (fun i hi => by have := he (i + 1) (by omega); simpa using this) (by simpa using hne)
    simp [z2p] at ih ⊢
    exact ih
theorem z8d : ∀ (xs ys : List Int), (∀ i, i < xs.length -> i < ys.length -> xs.getD i 0 = ys.getD i 0) -> z2p xs ys = if xs.length < ys.length then -1 else if ys.length < xs.length then 1 else 0
  | [], [], _ => by simp [z2p]
  | [], _ :: _, _ => by simp [z2p]
  | _ :: _, [], _ => by simp [z2p]
  | a :: x, b :: y, he => by
    have h0 := he 0 (by simp) (by simp)
    simp at h0
    subst h0
    have ih := z8d x y (fun i h1 h2 => by have := he (i + 1) (by simpa using h1) (by simpa using h2); simpa using this)
    simp [z2p, ih]
theorem z3p : ∀ (xs ys : List Int), z2p xs ys = 0 ↔ xs = ys
  | [], [] => by simp [z2p]
  | [], _ :: _ => by simp [z2p]
  | _ :: _, [] => by simp [z2p]
  | a :: x, b :: y => by
    have ih := z3p x y
    simp only [z2p]
    by_cases h : a < b
    · have : a ≠ b := by omega
      simp [h, this]
    · by_cases h2 : b < a
      · have : a ≠ b := by omega
        simp [h, h2, this]
      · have : a = b := by omega
        simp [this, ih]
end
end Go.Proofs.YtodliknibbafeaaGreat

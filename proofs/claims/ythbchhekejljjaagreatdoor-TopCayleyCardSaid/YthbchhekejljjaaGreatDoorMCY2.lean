/- Proved here: a part of the proof of the law at hand, in one text: no condition. -/
import Derived.Test.YthbchhekejljjaaGreatDoorMCY1
import Derived.MapKept
import Derived.WideKeyRuns
import Derived.Laws.StructEq
import Derived.OrdersHeld
import Derived.Tactics
import Derived.Still
import Derived.Deep.Quiet
import Derived.Scope
set_option linter.unusedVariables false
set_option linter.unusedSimpArgs false
set_option linter.unusedSectionVars false
namespace Go.Proofs.YthbchhekejljjaaGreatDoor
section
def zfo (fr : Fr) (d : Nat) (e : E) : Option Fr :=
  match e with
  | .one (.k (.slice none 0 0)) => some { fr with tm := z2k (kill d) fr.tm, ob := z1Z fr.ob d (.os 0 0 []) }
  | .one (.h id p) => z5C fr id p d
  | _ => none
def z9g (e : E) : List Nat := match e with | .one (.h id _) => [id] | _ => []
theorem zbC {fr fr' : Fr} {id d : Nat} {p : List Nat} (hs : z5C fr id p d = some fr') : fr'.nt = fr.nt := by
  unfold z5C at hs
  split at hs
  · cases hs
  · split at hs
    · cases hs
    · split at hs
      · cases hs; rfl
      · split at hs
        · cases hs
        · cases hs; rfl
theorem zcr {w : World} {K : Nat -> z0a} {R G : Nat -> Value} {fr fr1 : Fr} {a : Act} {d : Nat} {e : E} {v : Value} (h : FRep w K R G fr a) (he : ERep w K R fr.ob e v) (hf : zfo fr d e = some fr1) :
    ∃ K1 R1, FRep w K1 R1 G fr1 a /\ Step w K w K1 /\ R1 d = v /\ fr1.nt = fr.nt /\ (∀ b i s, K b = (i + 2) :: s -> i ∉ z9g e -> K1 b = K b /\ i ≠ d ∨ K1 b = [1] /\ i = d) := by
  unfold zfo at hf
  split at hf
  · cases hf
    obtain rfl : v = .slice none 0 0 := he
    have := h.replace (d := d) (w' := w) (K' := fun b => if (K b).head? = some (d + 2) then [1] else K b) (v := .slice none 0 0) (t := .os 0 0 []) ⟨fun b hb e => ⟨by simp [e], rfl⟩, fun b hb ⟨i, s, e, hi⟩ => ⟨by simp [e, hi], rfl⟩, Nat.le_refl _⟩ (.nil _ _)
    refine ⟨_, _, this, ⟨rfl, rfl, rfl, Nat.le_refl _, fun b hb hc => ⟨?_, rfl⟩, .same rfl⟩, by simp [z3P], rfl, fun b i s e _ => ?_⟩
    · rcases hc with e | e <;> simp [e]
    · by_cases hi : i = d
      · right; exact ⟨by simp [e, hi], hi⟩
      · left; exact ⟨by simp [e, hi], hi⟩
  · rename_i id p
    obtain ⟨vp, t, h1, h2, h3⟩ := h.take hf
    obtain ⟨n1, _⟩ := he
    rw [n1] at h1; cases h1
    refine ⟨_, _, h3, z6v id p d, by simp [z3P], zbC hf, fun b i s e hi => ?_⟩
    have hne : i ≠ id := by simpa [z9g] using hi
    by_cases hd : i = d
    · right
      refine ⟨?_, hd⟩
      show reK id p d (K b) = [1]
      rw [e]
      subst hd
      simp [reK, hne]
    · left
      exact ⟨by show reK id p d (K b) = K b; rw [e]; exact z7b hne hd, hd⟩
  · cases hf
def znr : T -> Bool
  | .sc _ => true
  | _ => false
def ziE (fr : Fr) (e : E) : Option (Nat × List T) :=
  match rdV e with
  | some (.string s) => some (s.size, s.data.toList.map fun b => .sc (.int .u8 b.toNat))
  | _ =>
    match e with
    | .one (.h id p) => (match z0v fr.ob id with
      | none => none
      | some root => match sub root p with
        | some (.os _ m cs) => if cs.all z5m then some (m, cs) else none
        | some (.sl m cs) => if cs.all z5S then some (m, cs) else none
        | _ => none)
    | e => match zeg fr e with
      | some (none, m, cs) => if cs.all z5S then some (m, cs) else none
      | some (some _, m, cs) => if cs.all znr then some (m, cs) else none
      | none => none
structure Src (P : Program) (w : World) (K : Nat -> z0a) (u : Value) (m : Nat) (cs : List T) (us : List Value) : Prop where
  len : ∀ w'', (Builtin.lenOf u).run P w'' = .ok m w''
  cells : ∀ (w'' : World) size, w''.heap = w.heap -> cs.length = m * size -> (Builtin.firstCells size m u).run P w'' = .ok us.toArray w''
  n : us.length = cs.length
  one : ∀ v ∈ us, v.oneCell' = true
  rep : ∀ (j : Nat) (t : T) (v : Value), cs[j]? = some t -> us[j]? = some v -> TRep w K [] v t
theorem z5h {P : Program} {w : World} {K : Nat -> z0a} {u : Value} {m : Nat} {cs : List T} (h : (∃ a cap, u = .slice a 0 cap /\ m = 0 /\ cs = []) ∨ ∃ g o cap, ∃ F : Nat -> Value, u = .slice (some ⟨g, o, none⟩) m cap /\
    (∀ j, j < cs.length -> w.cell? ⟨g, o + j, none⟩ = some (F j)) /\ ∀ j t, cs[j]? = some t -> (z5S t = true /\ ∀ c, TRep w K c (F j) t)) : ∃ us, Src P w K u m cs us := by
  rcases h with ⟨a, cap, rfl, rfl, rfl⟩ | ⟨g, o, cap, F, rfl, hF, hr⟩
  · refine ⟨[], fun w'' => by simp [Builtin.lenOf], fun w'' size _ _ => ?_, rfl, fun v hv => (by cases hv), fun j t v hj => (by cases hj)⟩
    cases a with
    | none => simp [Builtin.firstCells]
    | some a => simp [Builtin.firstCells, loadCells, loadCellsFrom]
  · refine ⟨(List.range cs.length).map F, fun w'' => by simp [Builtin.lenOf], fun w'' size hw hl => ?_, by simp, fun v hv => ?_, fun j t v hj hv => ?_⟩
    · have := run_loadCells_list (P := P) w'' ⟨g, o, none⟩ ((List.range cs.length).map F) (fun j v hv => by
        simp only [List.getElem?_map, Option.map_eq_some_iff] at hv
        obtain ⟨i, hi, rfl⟩ := hv
        obtain ⟨h2, h3⟩ := List.getElem?_eq_some_iff.1 hi
        simp at h2 h3; subst h3
        rw [z3k, z0l (w := w) (by rw [hw])]
        exact hF _ h2)
      simp only [List.length_map, List.length_range] at this
      simp only [Builtin.firstCells]
      rw [← hl]; exact this
    · obtain ⟨j, hj, rfl⟩ := List.mem_map.1 hv
      have hj' : j < cs.length := by simpa using hj
      obtain ⟨h1, h2⟩ := hr j cs[j] (List.getElem?_eq_getElem hj')
      exact (h2 []).one h1
    · simp only [List.getElem?_map, Option.map_eq_some_iff] at hv
      obtain ⟨i, hi, rfl⟩ := hv
      obtain ⟨h2, h3⟩ := List.getElem?_eq_some_iff.1 hi
      simp at h2 h3; subst h3
      exact (hr _ t hj).2 []
theorem zdZ {P : Program} {w : World} {K : Nat -> z0a} {R G : Nat -> Value} {fr : Fr} {a : Act} {e : E} {u : Value} {m : Nat} {cs : List T} (h : FRep w K R G fr a) (he : ERep w K R fr.ob e u) (hs : ziE fr e = some (m, cs)) : ∃ us, Src P w K u m cs us := by
  unfold ziE at hs
  split at hs
  · rename_i s hv
    cases hs
    obtain ⟨rfl, -⟩ := z0n he hv
    refine ⟨s.data.toList.map fun b => .int .u8 b.toNat, fun w'' => by simp [Builtin.lenOf], fun w'' size _ hl => ?_, by simp, fun v hv => ?_, fun j t v hj hv => ?_⟩
    · simp only [Builtin.firstCells, Sem.run_pure]
      congr 1
      apply Array.ext'
      simp
    · obtain ⟨b, _, rfl⟩ := List.mem_map.1 hv; rfl
    · simp only [List.getElem?_map, Option.map_eq_some_iff] at hj hv
      obtain ⟨b, hb, rfl⟩ := hj
      obtain ⟨b', hb', rfl⟩ := hv
      rw [hb] at hb'; cases hb'
      exact .sc _ _ rfl
  · split at hs
    · rename_i id p hno
      split at hs
      case h_1 => cases hs
      case h_2 root hroot =>
      obtain ⟨n1, t0, n2, n3⟩ := he
      split at hs
      · rename_i sz m' cs' hsub
        split at hs
        · rename_i hall
          cases hs
          obtain ⟨v', m1, hrep⟩ := (h.ob id root hroot).sub (z0q id) hsub
          rw [n1] at m1; cases m1
          refine z5h ?_
          rcases z7c hrep with ⟨rfl, rfl, rfl⟩ | ⟨g, cap, arr, el, fz, F, rfl, hc0, hKg, hg, hs, hl, hz', hn, hc, hfz, hF, hh⟩
          · exact .inl ⟨none, 0, rfl, rfl, rfl⟩
          · refine .inr ⟨g, 0, cap, F, rfl, fun j hj => by rw [Nat.zero_add, z0i hg]; exact hF j hj, fun j t ht => ?_⟩
            have hp : z5m t = true := List.all_eq_true.1 hall t (List.mem_of_getElem? ht)
            refine ⟨(by cases t <;> first | rfl | cases hp), (hh j t ht).free hp⟩
        · cases hs
      · rename_i m' cs' hsub
        split at hs
        · rename_i hall
          cases hs
          obtain ⟨d1, d2⟩ := z2B (K := K) (R := R) h (e := .one (.h id p)) (u := u) (dep := none) (n := m) (cs := cs) ⟨n1, t0, n2, n3⟩ (by simp [zeg, hroot, hsub])
          refine z5h ?_
          rcases d2 with ⟨a, cap, rfl, hc, rfl, rfl⟩ | ⟨g, o, cap, F, rfl, hn, hc, hK, hg, hF, hh⟩
          · exact .inl ⟨a, cap, rfl, rfl, rfl⟩
          · exact .inr ⟨g, o, cap, F, rfl, hF, fun j t ht => ⟨List.all_eq_true.1 hall t (List.mem_of_getElem? ht), (hh j t ht).any rfl⟩⟩
        · cases hs
      · cases hs
    · split at hs
      · rename_i m' cs' hrd
        split at hs
        · rename_i hall
          cases hs
          obtain ⟨d1, d2⟩ := z2B h he hrd
          refine z5h ?_
          rcases d2 with ⟨a, cap, rfl, hc, rfl, rfl⟩ | ⟨g, o, cap, F, rfl, hn, hc, hK, hg, hF, hh⟩
          · exact .inl ⟨a, cap, rfl, rfl, rfl⟩
          · exact .inr ⟨g, o, cap, F, rfl, hF, fun j t ht => ⟨List.all_eq_true.1 hall t (List.mem_of_getElem? ht), (hh j t ht).any rfl⟩⟩
        · cases hs
      · rename_i i m' cs' hrd
        split at hs
        · rename_i hall
          cases hs
          obtain ⟨d1, d2⟩ := z2B h he hrd
          refine z5h ?_
          rcases d2 with ⟨a, cap, rfl, hc, rfl, rfl⟩ | ⟨g, o, cap, F, rfl, hn, hc, hK, hg, hF, hh⟩
          · exact .inl ⟨a, cap, rfl, rfl, rfl⟩
          · refine .inr ⟨g, o, cap, F, rfl, hF, fun j t ht => ?_⟩
            have hp := List.all_eq_true.1 hall t (List.mem_of_getElem? ht)
            cases t with
            | sc v =>
              have := (hh j _ ht)
              have e1 := this.sc_eq
              exact ⟨rfl, fun c => by rw [e1]; exact .sc c _ this.sc_B⟩
            | dead => cases hp
            | agg => cases hp
            | tup => cases hp
            | sl => cases hp
            | os => cases hp
            | vr => cases hp
            | mp => cases hp
            | mr => cases hp
            | mt => cases hp
            | ms => cases hp
            | vo => cases hp
            | pr => cases hp
            | cl => cases hp
        · cases hs
      · cases hs
def zej (fr : Fr) (e : E) : Option (Nat × Nat × List A) :=
  match e with
  | .one (.h id []) => match z0v fr.ob id with
    | some (.os _ m cs) => some (id, m, z4X id [] 0 cs)
    | _ => none
  | _ => none
def zeG : TypeDesc -> Bool
  | .int _ => true
  | _ => false
def z7C (P : Program) (fr : Fr) (d : Nat) (st xt : TypeId) (s x : Operand) : Option Fr :=
  match z0z P st, z0z P xt with
  | some ⟨.slice el, _, _, _⟩, some tx =>
    if zeG tx.u then none else
    match z0z P el with
    | some ⟨u, size, bytes, some zs⟩ =>
      if zs.length = size /\ 0 < size /\ d < fr.nt then
        match zfo fr d (opE fr s) with
        | none => none
        | some fr1 =>
          match z0v fr1.ob d with
          | some (.os sz n cs) =>
            if sz = 0 ∨ sz = size then
              match ziE fr1 (opE fr1 x) with
              | some (m, news) =>
                if news.length = m * size /\ (n + m) * bytes <= 140737488355328 /\ n + m <= 4611686018427387904 then
                  some { fr1 with tm := z6Y (z2k (kill d) fr1.tm) d (.one (.h d [])), ob := z1Z fr1.ob d (.os size (n + m) (cs ++ news)) }
                else none
              | none => match zej fr1 (opE fr1 x) with
                | some (e, m, xs) =>
                  if e ≠ d /\ xs.length = m * size /\ xs.length <= 1000 /\ xs.any z4v = true /\ xs.all (z4g fr1) = true /\ (n + m) * bytes <= 140737488355328 /\ n + m <= 4611686018427387904 then
                    zfB true { fr1 with tm := z6Y (z2k (kill d) (putR fr1.tm fr1.nt xs)) d (.one (.h d [])), ob := z1Z fr1.ob d (.os size (n + m) (cs ++ xs.map z4b)) } d (z3l [] cs.length fr1.nt xs)
                  else none
                | none => none
            else none
          | _ => none
      else none
    | _ => none
  | _, _ => none
def z9j (fr : Fr) (d : Nat) (s x : Operand) : Bool := match zfo fr d (opE fr s) with | some fr1 => (ziE fr1 (opE fr1 x)).isSome | none => false
theorem z8r {P : Program} {w : World} {K : Nat -> z0a} {R G : Nat -> Value} {fr fr' : Fr} {a : Act} {d : Nat} {st xt ty : TypeId} {s x : Operand} (h : FRep w K R G fr a) (hf : z7C P fr d st xt s x = some fr') :
    ∃ v w', (Builtin.append_ #[st, xt] ty #[a.eval s, a.eval x]).run P w = .ok v w' /\ (∃ K' R', FRep w' K' R' G fr' (a.put (some d) v) /\ Step w K w' K' /\ (z9j fr d s x = true -> ∀ M : Nat -> Bool, M d = true -> (∀ i ∈ z9g (opE fr s), M i = true) -> ∀ b, b < w.heap.size -> KMc M (K b) (K' b))) /\ Stay w w' K (fun i => (z9g (opE fr s)).contains i) := by
  unfold z7C at hf
  split at hf
  case h_2 => cases hf
  case h_1 el s1 s2 s3 tx hst hxt =>
  split at hf
  · cases hf
  rename_i hni
  have hnx : ∀ k, tx.u ≠ .int k := fun k e => hni (by rw [e]; rfl)
  split at hf
  case h_2 => cases hf
  case h_1 u size bytes zs hti =>
  split at hf
  case isFalse => cases hf
  case isTrue hc1 =>
  obtain ⟨hzl, hpos, hd⟩ := hc1
  split at hf
  case h_1 => cases hf
  case h_2 fr1 hb =>
  obtain ⟨K1, R1, f1, st1, hv1, hnt, hcol⟩ := zcr h (h.opE s) hb
  split at hf
  case h_2 => cases hf
  case h_1 sz n cs hob =>
  split at hf
  case isFalse => cases hf
  case isTrue hsz =>
  have hrepd := f1.ob d _ hob
  rw [hv1] at hrepd
  have hstay : ∀ {w' : World} {K2 : Nat -> z0a}, Keep w w' K1 K2 (But d) -> Step w K1 w' K2 -> Stay w w' K (fun i => (z9g (opE fr s)).contains i) := fun {w' K2} hk hs b hb hc => by
    rcases hc with e | ⟨i, q, e, hi⟩
    · have := st1.old b hb (.inl e)
      exact (hk.fro b hb (by rw [this.1]; exact e)).2
    · rcases hcol b i q e (by simpa using hi) with ⟨e1, hne⟩ | ⟨e1, -⟩
      · exact (hk.own b hb ⟨i, q, by rw [e1, e], hne⟩).2
      · exact (hs.old b hb (.inr e1)).2
  have fin : ∀ (G1 : Nat -> Value) (tm1 : List (Nat × E)) (v' : Value) (w' : World) (news : List T) (m : Nat), FRep w K1 R1 G1 { fr1 with tm := tm1 } a ->
      TRep w' (fun b => if b = w.heap.size then col d else K1 b) (col d) v' (.os size (n + m) (cs ++ news)) -> Keep w w' K1 (fun b => if b = w.heap.size then col d else K1 b) (But d) ->
      FRep w' (fun b => if b = w.heap.size then col d else K1 b) (z3P R1 d v') G1 { fr1 with tm := z6Y (z2k (kill d) tm1) d (.one (.h d [])), ob := z1Z fr1.ob d (.os size (n + m) (cs ++ news)) } (a.put (some d) v') := fun G1 tm1 v' w' news m hf1 hr hk => by
    have h3 := hf1.replace (d := d) hk hr
    exact h3.put (d := d) (x := .one (.h d [])) (v := v') (show d < fr1.nt by omega) ⟨by simp [z3P, nav], .os size (n + m) (cs ++ news), by simp [z0e], rfl⟩
  split at hf
  · rename_i m news hsrc
    split at hf
    case isFalse => cases hf
    case isTrue hc2 =>
    cases hf
    obtain ⟨hnl, hby, hnm⟩ := hc2
    obtain ⟨us, us1⟩ := zdZ (P := P) f1 (f1.opE x) hsrc
    obtain ⟨v', w', r1, r2, r3, r4, r5, r6, r7⟩ := z5d (ty := ty) (ti := ⟨u, size, bytes, some zs⟩) (zs := zs) hsz hst hti rfl hzl hpos hxt hnx (.inl hrepd) us1.len (fun w'' hw => us1.cells w'' size hw hnl) (by rw [us1.n]; exact hnl) us1.n.symm us1.one us1.rep hby hnm
    refine ⟨v', w', r1, ⟨_, _, fin G fr1.tm v' w' news m f1 r2 r3, st1.trans r4, fun _ M hMd hMb b hb hc => ?_⟩, hstay r3 r4⟩
    show (if b = w.heap.size then col d else K1 b) = [] ∨ _
    rw [if_neg (by omega)]
    rcases hc with e | ⟨i, q, e, hi⟩
    · exact .inl ((st1.old b hb (.inl e)).1.trans e)
    · rcases hcol b i q e (fun hh => by rw [hMb i hh] at hi; cases hi) with ⟨e1, hne⟩ | ⟨e1, e2⟩
      · exact .inr ⟨i, q, e1.trans e, hi⟩
      · subst e2; rw [hMd] at hi; cases hi
  · rename_i hnq
    split at hf
    case h_2 => cases hf
    case h_1 e m xs hown =>
    split at hf
    case isFalse => cases hf
    case isTrue hc2 =>
    obtain ⟨hed, hxl, hx1000, hany, hall, hby, hnm⟩ := hc2
    obtain ⟨us, F1, F2, F3, F4⟩ : ∃ us : List Value, us.length = xs.length /\ (∀ w'', (Builtin.lenOf (a.eval x)).run P w'' = .ok m w'') /\ (∀ w'' : World, w''.heap = w.heap -> (Builtin.firstCells size m (a.eval x)).run P w'' = .ok us.toArray w'') /\
        ∀ j y, xs[j]? = some y -> ARep w K1 R1 fr1.ob y (us.getD j undef) := by
      have hex := f1.opE x
      unfold zej at hown
      split at hown
      · rename_i id hop
        split at hown
        · rename_i sz' m' cs' hobi
          cases hown
          rw [hop] at hex
          obtain ⟨n1, t0, n2, n3⟩ := hex
          simp only [nav, Option.some.injEq] at n1
          have hrep := f1.ob e _ hobi
          rw [n1] at hrep
          have hkid := fun j t (ht : cs'[j]? = some t) => z5s (R := R1) (p := []) (hv := a.eval x) hobi (by rfl) (by simp [nav, n1]) (by simpa using hrep) (j := j) (s := t) ht
          have hkl : (z4X e [] 0 cs').length = cs'.length := z2C
          rcases z7c hrep with ⟨hx, rfl, rfl⟩ | ⟨g, cap, arr, el', fz, F, hx, hc0, hKg, hg, hs, hl, hz', hn, hc, hfz, hF, hh⟩
          · refine ⟨[], by simp [z4X], fun w'' => by rw [hx]; simp [Builtin.lenOf], fun w'' _ => by rw [hx]; simp [Builtin.firstCells], fun j y hy => by simp [z4X] at hy⟩
          · refine ⟨(List.range cs'.length).map F, by rw [hkl]; simp, fun w'' => by rw [hx]; simp [Builtin.lenOf], fun w'' hw => ?_, fun j y hy => ?_⟩
            · have := run_loadCells_list (P := P) w'' ⟨g, 0, none⟩ ((List.range cs'.length).map F) (fun j v hv => by
                simp only [List.getElem?_map, Option.map_eq_some_iff] at hv
                obtain ⟨i, hi, rfl⟩ := hv
                obtain ⟨h2, h3⟩ := List.getElem?_eq_some_iff.1 hi
                simp at h2 h3; subst h3
                rw [z3k, z0l (w := w) (by rw [hw]), Nat.zero_add, z0i hg]
                exact hF _ h2)
              rw [hx]
              simp only [List.length_map, List.length_range] at this
              simp only [Builtin.firstCells]
              rw [← hxl, hkl]; exact this
            · rw [z3Z] at hy
              cases ht : cs'[j]? with
              | none => rw [ht] at hy; cases hy
              | some t =>
                rw [ht] at hy
                simp only [Option.map_some, Option.some.injEq, Nat.zero_add] at hy
                subst hy
                obtain ⟨v, k1, k2⟩ := hkid j t ht
                have hlt := (List.getElem?_eq_some_iff.1 ht).1
                have hvF : v = F j := by
                  rw [hx] at k1
                  simp only [z6s, z0i hg, hF j hlt, Option.some.injEq] at k1
                  exact k1.symm
                rw [hvF] at k2
                simpa [List.getD, hlt] using k2
        · cases hown
      · cases hown
    have hone : ∀ v ∈ us, v.oneCell' = true := fun v hv => by
      obtain ⟨j, hj, rfl⟩ := List.getElem_of_mem hv
      have hjx : j < xs.length := by omega
      have := f1.one (F4 j xs[j] (List.getElem?_eq_getElem hjx)) (List.all_eq_true.1 hall _ (List.getElem_mem hjx))
      simpa [List.getD, hj] using this
    obtain ⟨v', w', r1, r2, r3, r4, r5, r6, r7⟩ := z5d (ty := ty) (ti := ⟨u, size, bytes, some zs⟩) (zs := zs) (news := xs.map z4b) hsz hst hti rfl hzl hpos hxt hnx (.inl hrepd) F2 F3 (by rw [F1]; exact hxl) (by simp [F1]) hone (fun j t v ht hv => by
      simp only [List.getElem?_map, Option.map_eq_some_iff] at ht
      obtain ⟨y, hy, rfl⟩ := ht
      have := F4 j y hy
      have e1 : us.getD j undef = v := by simp [List.getD, hv]
      rw [e1] at this
      exact z7l this []) hby hnm
    have h5 := fin (gv G fr1.nt (fun j => us.getD j undef) xs.length) _ v' w' (xs.map z4b) m (f1.putR (Nat.le_refl _) F4) r2 r3
    obtain ⟨K2, R2, e1, e2, e3, _⟩ := h5.fin (mv := true) (l := z3l [] cs.length fr1.nt xs) (fun q r hm => by
      obtain ⟨j, j1, rfl, rfl⟩ := z5l hm
      refine ⟨?_, by omega⟩
      have hju : j < us.length := by omega
      rw [z8z a _ d v' (by rw [h.nt]; exact hd), if_neg (by omega)]
      have hreg : z3M a (gv G fr1.nt (fun j => us.getD j undef) xs.length) (fr1.nt + j) = us[j] := by
        rw [z3M, if_neg (by rw [h.nt]; omega)]
        simp only [gv]
        rw [if_pos (by omega), show fr1.nt + j - fr1.nt = j by omega]
        simp [List.getD, hju]
      rw [hreg]
      have := r7 j us[j] (List.getElem?_eq_getElem hju)
      rw [r5]
      simp only [List.nil_append, nav, z3P, if_true]
      simp only [] at this
      rw [this]) hf
    refine ⟨v', w', r1, ⟨K2, R2, e1.reG fun i hi => ?_, (st1.trans r4).trans e2, fun hq => by simp [z9j, hb, hnq] at hq⟩, hstay r3 r4⟩
    have e3' : fr'.nt = fr1.nt := e3
    by_cases hlt : i < fr'.nt + 1000
    · exact .inl (z7v hf (z6w hany) i hi hlt)
    · right; simp only [gv]; rw [if_neg (by omega)]
def z9i (P : Program) (fr : Fr) (d : Nat) (st xt : TypeId) (n : Nat) (cs : List T) (x : Operand) : Option Fr :=
  match z0z P st, z0z P xt with
  | some ⟨.slice el, _, _, _⟩, some tx =>
    if zeG tx.u then none else
    match z0z P el with
    | some ⟨u, size, bytes, some zs⟩ =>
      if zs.length = size /\ 0 < size /\ d < fr.nt then
        match ziE { fr with tm := z2k (kill d) fr.tm, ob := z1Z fr.ob d (.os 0 0 []) } (opE { fr with tm := z2k (kill d) fr.tm, ob := z1Z fr.ob d (.os 0 0 []) } x) with
        | some (m, news) =>
          if 0 < m /\ 0 < n /\ cs.length = n * size /\ news.length = m * size /\ (n + m) * bytes <= 140737488355328 /\ n + m <= 4611686018427387904 then
            some { fr with tm := z6Y (z2k (kill d) (z2k (kill d) fr.tm)) d (.one (.h d [])), ob := z1Z (z1Z fr.ob d (.os 0 0 [])) d (.os size (n + m) (cs ++ news)) }
          else none
        | none => none
      else none
    | _ => none
  | _, _ => none
theorem zbu {P : Program} {w : World} {K : Nat -> z0a} {R G : Nat -> Value} {fr fr' : Fr} {a : Act} {d n : Nat} {cs : List T} {st xt ty : TypeId} {s x : Operand} (h : FRep w K R G fr a) (hs : opE fr s = .one (.tf n cs)) (hf : z9i P fr d st xt n cs x = some fr') :
    ∃ v w', (Builtin.append_ #[st, xt] ty #[a.eval s, a.eval x]).run P w = .ok v w' /\ ∃ K' R', FRep w' K' R' G fr' (a.put (some d) v) /\ Step w K w' K' := by
  have hes := h.opE s
  rw [hs] at hes
  obtain ⟨⟨p, hp⟩, hrep⟩ := hes
  unfold z9i at hf
  split at hf
  case h_2 => cases hf
  case h_1 el s1 s2 s3 tx hst hxt =>
  split at hf
  · cases hf
  rename_i hni
  have hnx : ∀ k, tx.u ≠ .int k := fun k e => hni (by rw [e]; rfl)
  split at hf
  case h_2 => cases hf
  case h_1 u size bytes zs hti =>
  split at hf
  case isFalse => cases hf
  case isTrue hc1 =>
  obtain ⟨hzl, hpos, hd⟩ := hc1
  obtain ⟨K1, R1, f1, st1, hv1, hnt, hcol⟩ := zcr (d := d) (e := .one (.k (.slice none 0 0))) (v := .slice none 0 0) h rfl rfl
  split at hf
  case h_2 => cases hf
  case h_1 m news hsrc =>
  split at hf
  case isFalse => cases hf
  case isTrue hc2 =>
  cases hf
  obtain ⟨hm, hn0, hcl, hnl, hby, hnm⟩ := hc2
  obtain ⟨us, us1⟩ := zdZ (P := P) f1 (f1.opE x) hsrc
  have hr1 : TRep w K1 [] (a.eval s) (.sl n cs) := TRep.fz hrep (fun b hb e => ⟨(st1.old b hb (.inl e)).1.trans e, rfl⟩) (Nat.le_refl _)
  obtain ⟨v', w', r1, r2, r3, r4, r5, r6, r7⟩ := z5d (d := d) (ty := ty) (sz := 0) (ti := ⟨u, size, bytes, some zs⟩) (zs := zs) (.inl rfl) hst hti rfl hzl hpos hxt hnx (.inr ⟨hm, hn0, ⟨p, hp⟩, hr1, hcl⟩) us1.len (fun w'' hw => us1.cells w'' size hw hnl) (by rw [us1.n]; exact hnl) us1.n.symm us1.one us1.rep hby hnm
  have h3 := f1.replace (d := d) r3 r2
  have h4 := h3.put (d := d) (x := .one (.h d [])) (v := v') (show d < fr.nt by omega) ⟨by simp [z3P, nav], .os size (n + m) (cs ++ news), by simp [z0e], rfl⟩
  exact ⟨v', w', r1, _, _, h4, st1.trans r4⟩
end
section
theorem zbf {w : World} {g n : Nat} {cs : Array Value} {el : TypeId} (hg : w.heap[g]? = some (.cells cs el (0, 0))) (b : Nat) :
    (w.freeze ⟨g, n, none⟩ 1).heap[b]? = if b = g then some (.cells cs el (n, n + 1)) else w.heap[b]? := by
  simp only [World.freeze]
  rw [if_neg (by decide)]
  simp only [z3C]
  by_cases h : g = b
  · subst h; simp [hg]
  · rw [if_neg h, if_neg (fun e => h e.symm)]
def zco (P : Program) (fr : Fr) (src dst : TypeId) (e : E) (d : Nat) : Option Fr :=
  match z0z P src, z0z P dst with
  | some ⟨.string, _, _, _⟩, some ⟨.slice el, _, _, _⟩ => match z0z P el with
    | some ⟨.int .u8, _, _, _⟩ => (match rdV e with
      | some (.string s) => if s.size <= 140737488355328 then zhX fr d (fun _ => .os 1 s.size (s.data.toList.map fun b => .sc (.int .u8 b.toNat))) (.one (.h d [])) [] else none
      | _ => none)
    | _ => none
  | _, _ => none
theorem zfl {P : Program} {w : World} {K : Nat -> z0a} {R G : Nat -> Value} {fr fr' : Fr} {a : Act} {src dst : TypeId} {e : E} {u : Value} {d : Nat} (h : FRep w K R G fr a) (he : ERep w K R fr.ob e u) (hf : zco P fr src dst e d = some fr') :
    ∃ v w', (convert src dst u).run P w = .ok v w' /\ (∃ K' R', FRep w' K' R' G fr' (a.put (some d) v) /\ Step w K w' K') /\ ∀ b, b < w.heap.size -> w'.heap[b]? = w.heap[b]? := by
  unfold zco at hf
  split at hf
  case h_2 => cases hf
  case h_1 s1 s2 s3 el s4 s5 s6 h1 h2 =>
  split at hf
  case h_2 => cases hf
  case h_1 s7 s8 s9 h3 =>
  split at hf
  case h_2 => cases hf
  case h_1 s hs =>
  split at hf
  case isFalse => cases hf
  case isTrue hsz =>
  obtain ⟨rfl, -⟩ := z0n he hs
  have hu1 := z0s h1 w
  have hu2 := z0s h2 w
  have hu3 := z0s h3 w
  simp only [] at hu1 hu2 hu3
  let nc := grownCap w s.size 0 el
  have hnc : s.size <= nc := grownCap_ge w s.size 0 el
  have hncm : nc <= maxLen := grownCap_le_maxLen w s.size 0 el (by unfold maxLen; omega)
  let arr : Array Value := (s.data.map fun b => Value.int .u8 b.toNat) ++ Array.replicate (nc - s.size) (.int .u8 0)
  have harr : arr.size = nc := by
    simp only [arr, Array.size_append, Array.size_map, Array.size_replicate]
    show s.size + (nc - s.size) = nc; omega
  let w0 : World := { w with drawn := w.drawn + 1, heap := w.heap.push (.cells arr el) }
  let w1 : World := w0.freeze ⟨w.heap.size, nc, none⟩ 1
  have hg0 : w0.heap[w.heap.size]? = some (.cells arr el (0, 0)) := by
    show (w.heap.push _)[w.heap.size]? = _
    rw [Array.getElem?_push, if_pos rfl]
  have hh := zbf (n := nc) hg0
  have hfz : w1.os = w.os /\ w1.tape = w.tape /\ w1.output = w.output := by
    simp only [w1, World.freeze]; rw [if_neg (by decide)]; exact ⟨rfl, rfl, rfl⟩
  have hnew : NewB w w1 (.cells arr el (nc, nc + 1)) := by
    refine ⟨hfz.1, hfz.2.1, hfz.2.2, ?_⟩
    apply Array.ext_getElem?
    intro b
    by_cases e : b = w.heap.size
    · rw [show w1.heap[b]? = _ from hh b, if_pos e, Array.getElem?_push, if_pos e]
    · rw [show w1.heap[b]? = _ from hh b, if_neg e]
      show (w.heap.push _)[b]? = _
      rw [Array.getElem?_push, if_neg e, Array.getElem?_push, if_neg e]
  have hrun : (convert src dst (.string s)).run P w = .ok (.slice (some ⟨w.heap.size, 0, none⟩) s.size nc) w1 := by
    have hch : (choose (.appendCap s.size 0 el)).run P w = .ok nc { w with drawn := w.drawn + 1 } := by
      simp [choose, Sem.run, Question.forced, nc, grownCap]
    simp only [convert, Sem.run_bind, hu1, hu2, hu3, Result.andThen_ok, Conv.stringToBytes, hch]
    have hshape : w0.shape? w.heap.size = some (el, nc) := by simp [World.shape?, hg0, harr]
    have hpush : (newRow el (s.data.map (fun b => Value.int .u8 b.toNat) ++ Array.replicate (nc - s.size) (.int .u8 0))).run P { w with drawn := w.drawn + 1 } = .ok ⟨w.heap.size, 0, none⟩ w0 := by
      simp [newRow, newObj, Sem.run, w0, arr]
      exact And.intro rfl (And.intro rfl rfl)
    rw [hpush]
    simp only [Result.andThen_ok]
    have hmark : (markStringish ⟨w.heap.size, 0, none⟩).run P w0 = .ok () w1 := by
      simp [markStringish, shape, Sem.run, hshape, freeze, w1]
    rw [hmark]
    rfl
  refine ⟨_, w1, hrun, ?_, fun b hb => hnew.old hb⟩
  refine h.newObj hnew (xs := []) (fun j x hx => by cases hx) (Nat.zero_le _) (.inr ⟨_, _, rfl⟩) (fun w' K' cs F hl hK hg hF hk => ?_) (.inl rfl) (fun e => by cases e) hf
  refine .own (col d) _ s.size nc 1 _ arr el (nc, nc + 1) (fun j => arr.getD j undef) (fun i hi => by simp only []; omega) (z0q d) hK hg (by omega) (by simp) (by decide) hnc hncm (fun j hj => z1x _ _ (by
    rw [harr]; simp at hj; exact Nat.lt_of_lt_of_le hj hnc)) (fun j t hj => ?_)
  simp only [List.getElem?_map, Option.map_eq_some_iff, Array.getElem?_toList] at hj
  obtain ⟨b, hb, rfl⟩ := hj
  have hlt := (Array.getElem?_eq_some_iff.1 hb).1
  have : arr.getD j undef = .int .u8 b.toNat := by
    rw [Array.getD_eq_getD_getElem?]
    simp only [arr, Array.getElem?_append, Array.size_map]
    rw [if_pos hlt]
    simp [hb]
  rw [this]
  exact .sc _ _ rfl
theorem zeX {w : World} {g n lo hi : Nat} {cs : Array Value} {el : TypeId} (hg : w.heap[g]? = some (.cells cs el (lo, hi))) (b : Nat) :
    (w.freeze ⟨g, n, none⟩ 1).heap[b]? = if b = g then some (.cells cs el (if lo == hi then (n, n + 1) else (min lo n, max hi (n + 1)))) else w.heap[b]? := by
  simp only [World.freeze]
  rw [if_neg (by decide)]
  simp only [z3C]
  by_cases h : g = b
  · subst h; simp [hg]
  · rw [if_neg h, if_neg (fun e => h e.symm)]
def zg9 (P : Program) (fr : Fr) (src dst : TypeId) (e : E) (d : Nat) : Option Fr :=
  match z0z P src with
  | some ⟨.slice el, _, _, _⟩ => (match z0z P el, e with
    | some ⟨.int .u8, _, _, _⟩, .one (.h id []) => if src = dst /\ d < fr.nt then (match z0v fr.ob id with
      | some (.os sz n cs) => if n = 0 then none else some { fr with tm := z6Y (z2k (kill id) fr.tm) d (.one (.h id [])), ob := z1Z fr.ob id (.os sz n cs) }
      | _ => none) else none
    | _, _ => none)
  | _ => none
theorem zg8 {P : Program} {w : World} {K : Nat -> z0a} {R G : Nat -> Value} {fr fr' : Fr} {a : Act} {src dst : TypeId} {e : E} {u : Value} {d : Nat} (h : FRep w K R G fr a) (he : ERep w K R fr.ob e u) (hf : zg9 P fr src dst e d = some fr') :
    src = dst /\ ∃ v w', (convert src dst u).run P w = .ok v w' /\ (∃ K' R', FRep w' K' R' G fr' (a.put (some d) v) /\ Step w K w' K') := by
  unfold zg9 at hf
  split at hf
  case h_2 => cases hf
  case h_1 el s1 s2 s3 h1 =>
  split at hf
  case h_2 => cases hf
  case h_1 s4 s5 s6 id h2 =>
  split at hf
  case isFalse => cases hf
  case isTrue hsd =>
  obtain ⟨rfl, hd⟩ := hsd
  split at hf
  case h_2 => cases hf
  case h_1 sz n cs hob =>
  split at hf
  case isTrue => cases hf
  case isFalse hn0 =>
  cases hf
  obtain ⟨hu, -⟩ := he
  simp only [nav, Option.some.injEq] at hu
  have hr := h.ob id _ hob
  have hu1 := z0s h1 w
  have hu2 := z0s h2 w
  simp only [] at hu1 hu2
  subst hu
  generalize hT : T.os sz n cs = t at hr
  generalize hV : R id = v at hr
  generalize hC : col id = c at hr
  cases hr with
  | nil c sz => injection hT; omega
  | own c g n' cap size cs' arr e fz F hfz hc0 hK hg hs hl hz hn hc hF hh =>
    injection hT with t1 t2 t3
    subst t1
    subst t2
    subst t3
    subst hC
    obtain ⟨lo, up⟩ := fz
    have hw := zeX (n := arr.size) hg
    let w' : World := w.freeze ⟨g, arr.size, none⟩ 1
    have hw' : ∀ b, b ≠ g -> w'.heap[b]? = w.heap[b]? := fun b hb => by
      show (w.freeze _ 1).heap[b]? = _
      rw [hw b, if_neg hb]
    have hsame : w'.os = w.os /\ w'.tape = w.tape /\ w'.output = w.output /\ w'.heap.size = w.heap.size := by
      simp only [w', World.freeze]; rw [if_neg (by decide)]; exact ⟨rfl, rfl, rfl, by simp⟩
    have hrun : (convert src src (.slice (some ⟨g, 0, none⟩) n cap)).run P w = .ok (.slice (some ⟨g, 0, none⟩) n cap) w' := by
      have hshape : w.shape? g = some (e, arr.size) := by simp [World.shape?, hg]
      have hmark : (markStringish ⟨g, 0, none⟩).run P w = .ok () w' := by
        simp [markStringish, shape, Sem.run, hshape, freeze, w']
      simp [convert, Sem.run_bind, hu1, hu2, Result.andThen_ok, hmark]
    refine ⟨rfl, _, w', hrun, K, z3P R id (.slice (some ⟨g, 0, none⟩) n cap), ?_, ⟨hsame.1, hsame.2.1, hsame.2.2.1, by omega, fun b hb hcc => ⟨rfl, hw' b (fun eb => ?_)⟩, .one hg ((hw g).trans (if_pos rfl)) rfl hw'⟩⟩
    · have hT2 : TRep w' K (col id) (.slice (some ⟨g, 0, none⟩) n cap) (.os sz n cs) := by
        refine .own (col id) g n cap sz cs arr e _ F ?_ hc0 hK ((hw g).trans (if_pos rfl)) hs hl hz hn hc hF (fun j t ht => ?_)
        · intro i hi5
          have h4 := hfz i hi5
          simp only at h4
          by_cases hlh : lo = up
          · subst hlh; simp; omega
          · rw [if_neg (by simpa using hlh)]
            simp only
            omega
        · refine (hh j t ht).move (fun b s hb _ hKb => ⟨hKb, hw' b (fun eb => ?_)⟩) (fun b hb hKb => ⟨hKb, hw' b (fun eb => ?_)⟩) Iff.rfl (by omega)
          · subst eb
            rw [hK] at hKb
            simp [col] at hKb
          · subst eb
            rw [hK] at hKb
            simp [col] at hKb
      have hk : Keep w w' K K (But id) := ⟨fun b hb hKb => ⟨hKb, hw' b (fun eb => by subst eb; rw [hK] at hKb; simp [col] at hKb)⟩, fun b hb ⟨i, s, hKb, hi⟩ => ⟨rfl, hw' b (fun eb => by subst eb; rw [hK] at hKb; simp [col] at hKb; exact hi hKb.1.symm)⟩, by omega⟩
      have h3 := (h.replace hk hT2).put (d := d) (x := .one (.h id [])) (v := .slice (some ⟨g, 0, none⟩) n cap) hd ⟨by simp [z3P, nav], .os sz n cs, by simp [z0e], rfl⟩
      exact h3
    · subst eb
      rw [hK] at hcc
      rcases hcc with hcc | hcc <;> simp [col] at hcc
  | _ => cases hT
def zkY (P : Program) (fr : Fr) (o : Oper) : Option Fr :=
  match o.dst with
  | some d => (match o.op with
    | .alloc t => zcw P fr t d
    | .box t x => zl0 P fr t (opE fr x) d
    | .buildSlice t n parts => z1V P fr t n parts.toList d
    | .makeSlice t l c => (match rdV (opE fr l), rdV (opE fr c) with | some (.int _ l), some (.int _ c) => z2T P fr t l c d | _, _ => none)
    | .convert s t x => (match zg9 P fr s t (opE fr x) d with | some fr' => some fr' | none => if s = t then none else zco P fr s t (opE fr x) d)
    | .call { callee := .builtin .append, args, argTypes } => (match args.toList, argTypes.toList with | [s, x], [st, xt] => (match opE fr s with | .one (.tf n cs) => z9i P fr d st xt n cs x | _ => z7C P fr d st xt s x) | _, _ => none)
    | _ => none)
  | none => (match o.op with
    | .store t ad x => zdY P fr t (opE fr ad) (opE fr x)
    | _ => none)
def zbq (o : Oper) : Bool :=
  match o.op with
  | .store _ _ _ => false
  | .call _ => false
  | .convert s t _ => s != t
  | _ => true
theorem zim {P : Program} {w : World} {K : Nat -> z0a} {R G : Nat -> Value} {fr fr' : Fr} {a : Act} {o : Oper} (h : FRep w K R G fr a) (hf : zkY P fr o = some fr') :
    ∃ r w', (execOp a.eval o).run P w = .ok r w' /\ ((∃ v, r = .value v /\ ∃ K' R', FRep w' K' R' G fr' (a.put o.dst v) /\ Step w K w' K') ∨ (r = .skip /\ o.dst = none /\ ∃ K' R', FRep w' K' R' G fr' a /\ Step w K w' K')) /\ (zbq o = true -> ∀ b, b < w.heap.size -> w'.heap[b]? = w.heap[b]?) := by
  have lift : ∀ {s : Sem Value} {v : Value} {w'}, s.run P w = .ok v w' -> (do pure (Next.value (← s)) : Sem Next).run P w = .ok (.value v) w' := fun {s v w'} hs => by
    simp only [Sem.run_bind, hs, Result.andThen_ok, Sem.run_pure]
  unfold zkY at hf
  split at hf
  · rename_i d hd
    split at hf
    · rename_i t hop
      obtain ⟨v, w', h1, h2, h3⟩ := zfu h hf
      exact ⟨_, w', by simp only [execOp, hop]; exact lift h1, .inl ⟨v, rfl, by rw [hd]; exact h2⟩, fun _ => h3⟩
    · rename_i t x hop
      obtain ⟨v, w', h1, h2, h3⟩ := zit h (h.opE x) hf
      exact ⟨_, w', by simp only [execOp, hop]; exact lift h1, .inl ⟨v, rfl, by rw [hd]; exact h2⟩, fun _ => h3⟩
    · rename_i t n parts hop
      obtain ⟨v, w', h1, h2, h3⟩ := z7J h hf
      refine ⟨_, w', ?_, .inl ⟨v, rfl, by rw [hd]; exact h2⟩, fun _ => h3⟩
      simp only [execOp, hop]
      refine lift ?_
      have : parts.map (fun (x : Nat × Operand) => (x.1, a.eval x.2)) = (parts.toList.map fun (i, x) => (i, a.eval x)).toArray := by
        apply Array.ext'; simp
      rw [this]; exact h1
    · rename_i t l c hop
      split at hf
      · rename_i k l' k' c' hl hc
        obtain ⟨e1, -⟩ := z0n (h.opE l) hl
        obtain ⟨e2, -⟩ := z0n (h.opE c) hc
        obtain ⟨v, w', h1, h2, h3⟩ := z8I (k := k) (k' := k') h hf
        exact ⟨_, w', by simp only [execOp, hop, e1, e2]; exact lift h1, .inl ⟨v, rfl, by rw [hd]; exact h2⟩, fun _ => h3⟩
      · cases hf
    · rename_i s t x hop
      split at hf
      · rename_i fr1 hm
        cases hf
        obtain ⟨rfl, v, w', h1, h2⟩ := zg8 h (h.opE x) hm
        exact ⟨_, w', by simp only [execOp, hop]; exact lift h1, .inl ⟨v, rfl, by rw [hd]; exact h2⟩, fun hc => by simp [zbq, hop] at hc⟩
      · split at hf
        · cases hf
        · obtain ⟨v, w', h1, h2, h3⟩ := zfl h (h.opE x) hf
          exact ⟨_, w', by simp only [execOp, hop]; exact lift h1, .inl ⟨v, rfl, by rw [hd]; exact h2⟩, fun _ => h3⟩
    · rename_i args ats hop
      split at hf
      · rename_i s x st xt ha ht
        obtain rfl : args = #[s, x] := by apply Array.ext'; simpa using ha
        obtain rfl : ats = #[st, xt] := by apply Array.ext'; simpa using ht
        split at hf
        · rename_i n cs htf
          obtain ⟨v, w', h1, K', R', i1, i2⟩ := zbu (ty := o.type) h htf hf
          refine ⟨_, w', ?_, .inl ⟨v, rfl, by rw [hd]; exact ⟨K', R', i1, i2⟩⟩, fun hc => by simp [zbq, hop] at hc⟩
          simp only [execOp, hop, resolve, Sem.run_bind, Sem.run_pure, Result.andThen_ok, invoke, builtin]
          simp [h1]
        · obtain ⟨v, w', h1, h2, _⟩ := z8r (ty := o.type) h hf
          refine ⟨_, w', ?_, .inl ⟨v, rfl, by rw [hd]; obtain ⟨K', R', i1, i2, _⟩ := h2; exact ⟨K', R', i1, i2⟩⟩, fun hc => by simp [zbq, hop] at hc⟩
          simp only [execOp, hop, resolve, Sem.run_bind, Sem.run_pure, Result.andThen_ok, invoke, builtin]
          simp [h1]
      · cases hf
    · cases hf
  · rename_i hd
    split at hf
    · rename_i t ad x hop
      obtain ⟨w', h1, h2, _⟩ := zdX h (h.opE ad) (h.opE x) hf
      refine ⟨.skip, w', ?_, .inr ⟨rfl, hd, h2⟩, fun hc => by simp [zbq, hop] at hc⟩
      simp only [execOp, hop, Sem.run_bind, h1, Result.andThen_ok, Sem.run_pure]
    · cases hf
theorem FRep.reput {w : World} {K : Nat -> z0a} {R G : Nat -> Value} {fr : Fr} {a : Act} (h : FRep w K R G fr a) {d : Nat} {x : E} (hx : ERep w K R fr.ob x (z3M a G d)) : FRep w K R G { fr with tm := z6Y fr.tm d x } a := by
  refine ⟨fun i => ?_, h.ob, h.nt, h.df⟩
  rw [z8R]
  split
  · rename_i e; subst e; exact hx
  · exact h.tm i
def zid (fr : Fr) (d : Nat) : Option Fr :=
  match z1K fr d [] with
  | some fr2 => (match z0E fr2.tm d with | .one (.t none (.sl n cs)) => some { fr2 with tm := z6Y fr2.tm d (.one (.tf n cs)) } | _ => none)
  | none => none
def z4t (P : Program) (fr : Fr) (t : TypeId) (n : Nat) (parts : List (Nat × Operand)) (d : Nat) : Option Fr :=
  match z1V P fr t n parts d with
  | some fr1 => zid fr1 d
  | none => none
theorem z9e {P : Program} {w : World} {K : Nat -> z0a} {R G : Nat -> Value} {fr fr' : Fr} {a : Act} {t : TypeId} {n d : Nat} {parts : List (Nat × Operand)} (h : FRep w K R G fr a) (hd : d < fr.nt) (hf : z4t P fr t n parts d = some fr') :
    ∃ v w', (Instr.buildSlice t n (parts.map fun (i, x) => (i, a.eval x)).toArray).run P w = .ok v w' /\ ∃ K' R', FRep w' K' R' G fr' (a.put (some d) v) /\ Step w K w' K' := by
  unfold z4t at hf
  split at hf
  case h_2 => cases hf
  case h_1 fr1 h1 =>
  obtain ⟨v, w', ⟨p, hp⟩, h2, ⟨K', R', h3, h4, _⟩, _⟩ := z4h h h1
  unfold zid at hf
  split at hf
  case h_2 => cases hf
  case h_1 fr2 hz =>
  split at hf
  case h_2 => cases hf
  case h_1 n' cs hg =>
  cases hf
  have h5 := (h3.freeze hz).1
  have h6 := h5.tm d
  rw [hg] at h6
  have hv : z3M (a.put (some d) v) G d = v := by rw [z8z a G d v (by rw [h.nt]; exact hd), if_pos rfl]
  have h7 := h6.1
  rw [hv, hp] at h7
  have hn : n' = n := by
    generalize hvv : Value.slice p n n = vv at h7
    generalize htt : T.sl n' cs = tt at h7
    cases h7 <;> first | (cases htt; cases hvv; rfl) | cases htt
  subst hn
  have h8 := h5.reput (d := d) (x := .one (.tf n' cs)) ⟨⟨p, by rw [hv, hp]⟩, h6.1⟩
  exact ⟨v, w', h2, _, _, h8, h4.trans (z4r d [])⟩
def zkG (P : Program) (fr : Fr) (ty : TypeId) (d : Nat) : Option Fr :=
  match z0E fr.tm d with
  | .one (.h id p) =>
    if id = d then some fr
    else if p = [] || zi6 (z0v fr.ob id) then z5C fr id p d
    else some fr
  | .one (.k (.slice none 0 0)) =>
    (match z0z P ty with
    | some ⟨.slice el, _, _, _⟩ => (match z0z P el with
      | some ti => some { fr with tm := z6Y (z2k (kill d) fr.tm) d (.one (.h d [])), ob := z1Z fr.ob d (.os ti.size 0 []) }
      | none => some fr)
    | _ => some fr)
  | _ => some fr
theorem zfr {P : Program} {w : World} {K : Nat -> z0a} {R G : Nat -> Value} {fr fr' : Fr} {a : Act} {ty : TypeId} {d : Nat} (h : FRep w K R G fr a) (hf : zkG P fr ty d = some fr') : ∃ K' R', FRep w K' R' G fr' a /\ Step w K w K' /\ fr'.nt = fr.nt /\ (∀ b i s, K b = (i + 2) :: s -> K' b = K b ∨ True) := by
  unfold zkG at hf
  split at hf
  · split at hf
    · cases hf; exact ⟨K, R, h, Step.refl _ _, rfl, fun _ _ _ _ => .inr trivial⟩
    · split at hf
      · obtain ⟨vp, t, h1, h2, h3⟩ := h.take hf
        exact ⟨_, _, h3, z6v _ _ _, zbC hf, fun _ _ _ _ => .inr trivial⟩
      · cases hf; exact ⟨K, R, h, Step.refl _ _, rfl, fun _ _ _ _ => .inr trivial⟩
  · rename_i hg
    split at hf
    · split at hf
      · rename_i ti hti
        cases hf
        have hreg := h.tm d
        rw [hg] at hreg
        have hreg' : z3M a G d = .slice none 0 0 := hreg
        have h3 := h.replace (d := d) (w' := w) (K' := fun b => if (K b).head? = some (d + 2) then [1] else K b) (v := .slice none 0 0) (t := .os ti.size 0 []) ⟨fun b hb e => ⟨by simp [e], rfl⟩, fun b hb ⟨i, s, e, hi⟩ => ⟨by simp [e, hi], rfl⟩, Nat.le_refl _⟩ (.nil _ _)
        refine ⟨_, _, h3.reput ⟨by rw [hreg']; simp [z3P, nav], .os ti.size 0 [], by simp [z0e], rfl⟩, ⟨rfl, rfl, rfl, Nat.le_refl _, fun b hb hc => ⟨?_, rfl⟩, .same rfl⟩, rfl, fun _ _ _ _ => .inr trivial⟩
        rcases hc with e | e <;> simp [e]
      · cases hf; exact ⟨K, R, h, Step.refl _ _, rfl, fun _ _ _ _ => .inr trivial⟩
    · cases hf; exact ⟨K, R, h, Step.refl _ _, rfl, fun _ _ _ _ => .inr trivial⟩
  · cases hf; exact ⟨K, R, h, Step.refl _ _, rfl, fun _ _ _ _ => .inr trivial⟩
end
section
mutual
def opn : T -> Bool
  | .sc _ => false
  | .dead => false
  | .agg cs => z7E cs
  | .tup cs => z7E cs
  | .sl n cs => !(n == 0 && cs.isEmpty)
  | .os _ _ cs => z7E cs
  | .vr cs => z7E cs
  | .vo _ cs => z7E cs
  | .pr _ => true
  | .mp _ _ => false
  | .mr _ _ => true
  | .mt _ _ _ => true
  | .ms _ _ _ => true
  | .cl _ cs => z7E cs
def z7E : List T -> Bool
  | [] => false
  | t :: ts => opn t || z7E ts
end
theorem z4m : ∀ {cs : List T} {t : T} {j : Nat}, z7E cs = false -> cs[j]? = some t -> opn t = false
  | [], t, j, h, hj => by simp at hj
  | c :: cs, t, 0, h, hj => by
    simp only [z7E, Bool.or_eq_false_iff] at h
    simp at hj; subst hj; exact h.1
  | c :: cs, t, j + 1, h, hj => by
    simp only [z7E, Bool.or_eq_false_iff] at h
    exact z4m h.2 (by simpa using hj)
theorem TRep.moveC {w w' : World} {K K' : Nat -> z0a} {c : z0a} {v : Value} {t : T} (h : TRep w K c v t) : opn t = false -> ∀ {c' : z0a},
    (∀ b s, b < w.heap.size -> c ≠ [] -> K b = c ++ s -> K' b = c' ++ s /\ w'.heap[b]? = w.heap[b]?) -> (c = [] ↔ c' = []) -> w.heap.size <= w'.heap.size -> TRep w' K' c' v t := by
  induction h with
  | sc c v h => intro _ c' _ _ _; exact .sc c' v h
  | dead c v => intro _ c' _ _ _; exact .dead c' v
  | agg c vs cs F hl hF h ih =>
    intro ho c' h1 h3 h4
    refine .agg c' vs cs F hl hF (fun j t ht => ih j t ht (z4m ho ht) ?_ ?_ h4)
    · intro b s hb hc hK
      by_cases hc0 : c = []
      · subst hc0; exact absurd rfl hc
      · have hc0' : c' ≠ [] := fun e => hc0 (h3.2 e)
        rw [z2m hc0] at hK
        rw [z2m hc0']
        have := h1 b (j :: s) hb hc0 (by simpa using hK)
        exact ⟨by simpa using this.1, this.2⟩
    · cases c with
      | nil => have := h3.1 rfl; subst this; simp [ext]
      | cons a c => cases c' with
        | nil => have := h3.2 rfl; cases this
        | cons a' c' => simp [ext]
  | tup c vs cs F hl hF h ih =>
    intro ho c' h1 h3 h4
    refine .tup c' vs cs F hl hF (fun j t ht => ih j t ht (z4m ho ht) ?_ ?_ h4)
    · intro b s hb hc hK
      by_cases hc0 : c = []
      · subst hc0; exact absurd rfl hc
      · have hc0' : c' ≠ [] := fun e => hc0 (h3.2 e)
        rw [z2m hc0] at hK
        rw [z2m hc0']
        have := h1 b (j :: s) hb hc0 (by simpa using hK)
        exact ⟨by simpa using this.1, this.2⟩
    · cases c with
      | nil => have := h3.1 rfl; subst this; simp [ext]
      | cons a c => cases c' with
        | nil => have := h3.2 rfl; cases this
        | cons a' c' => simp [ext]
  | emp c a cap hc => intro _ c' _ _ _; exact .emp c' a cap hc
  | fro c g o n cap cs F hK hg hn hc hF h ih =>
    intro ho c' h1 h3 h4
    simp only [opn, Bool.not_eq_false', Bool.and_eq_true, beq_iff_eq, List.isEmpty_iff] at ho
    obtain ⟨rfl, rfl⟩ := ho
    exact .emp c' _ cap hc
  | nil c sz => intro _ c' _ _ _; exact .nil c' sz
  | own c g n cap size cs arr e fz F hfz hc0 hK hg hs hl hz hn hc hF h ih =>
    intro ho c' h1 h3 h4
    have hc0' : c' ≠ [] := fun e => hc0 (h3.2 e)
    obtain ⟨k1, k2⟩ := h1 g [] (z0f hg) hc0 (by simpa using hK)
    refine .own c' g n cap size cs arr e fz F hfz hc0' (by simpa using k1) (by rw [k2]; exact hg) hs hl hz hn hc hF (fun j t ht => ih j t ht (z4m ho ht) ?_ (by simp) h4)
    intro b s hb _ hK
    have := h1 b (j :: s) hb hc0 (by simpa using hK)
    exact ⟨by simpa using this.1, this.2⟩
  | vr c g cs arr e fz F hfz hc0 hK hg hl hF h ih =>
    intro ho c' h1 h3 h4
    have hc0' : c' ≠ [] := fun e => hc0 (h3.2 e)
    obtain ⟨k1, k2⟩ := h1 g [] (z0f hg) hc0 (by simpa using hK)
    refine .vr c' g cs arr e fz F hfz hc0' (by simpa using k1) (by rw [k2]; exact hg) hl hF (fun j t ht => ih j t ht (z4m ho ht) ?_ (by simp) h4)
    intro b s hb _ hK
    have := h1 b (j :: s) hb hc0 (by simpa using hK)
    exact ⟨by simpa using this.1, this.2⟩
  | vo c g off cs h ih => intro ho c' h1 h3 h4; exact .vo c' g off cs (ih ho h1 h3 h4)
  | pr => intro ho; cases ho
  | mr => intro ho; cases ho
  | mt => intro ho; cases ho
  | ms => intro ho; cases ho
  | mp c g kk es ents clock hc0 hK hg hh =>
    intro ho c' h1 h3 h4
    obtain ⟨k1, k2⟩ := h1 g [] (z0f hg) hc0 (by simpa using hK)
    exact .mp c' g kk es ents clock (fun e => hc0 (h3.2 e)) (by simpa using k1) (by rw [k2]; exact hg) hh
  | cl c f vs cs F hl hF h ih =>
    intro ho c' h1 h3 h4
    exact .cl c' f vs cs F hl hF (fun j t ht => ih j t ht (z4m ho ht) (fun _ _ _ hc => absurd rfl hc) Iff.rfl h4)
def z2L : T -> Bool
  | .vr _ => true
  | .os _ _ _ => true
  | .vo _ _ => true
  | _ => false
def z8s (w : World) (K : Nat -> z0a) (i : Nat) (v : Value) (t : T) : Prop := TRep w K (if z2L t then col i else []) v t
structure EnvS (I : World -> (Nat -> z0a) -> Prop) : Prop where
  keep : ∀ {w K w' K'}, I w K -> w.heap.size <= w'.heap.size -> (∀ b, b < w.heap.size -> K b = [] -> K' b = [] /\ w'.heap[b]? = w.heap[b]?) -> I w' K'
theorem EnvS.step {I : World -> (Nat -> z0a) -> Prop} (h : EnvS I) {w w' : World} {K K' : Nat -> z0a} (hi : I w K) (s : Step w K w' K') : I w' K' :=
  h.keep hi s.size fun b hb e => by
    obtain ⟨a1, a2⟩ := s.old b hb (.inl e)
    exact ⟨a1.trans e, a2⟩
theorem EnvS.none : EnvS (fun _ _ => True) := ⟨fun _ _ _ => trivial⟩
structure CallOk (P : Program) (I : World -> (Nat -> z0a) -> Prop) (f : FuncId) (args : List T) (res : T) (outs : List T) : Prop where
  enter : ∀ (vals : Array Value) (w : World), (callFunc f vals).run P w = .ok (.enter f vals) w
  calls : ∀ (w : World) (K : Nat -> z0a) (vals : Array Value), vals.size = args.length -> (∀ i t, args[i]? = some t -> z8s w K i (vals.getD i undef) t) -> I w K ->
    Calls P f vals w fun e w' => ∃ v K', e = .returned v /\ TRep w' K' [0] v res /\ (∀ i t, args[i]? = some t -> z2L t = true -> ∃ t', outs[i]? = some t' /\ TRep w' K' (col i) (vals.getD i undef) t') /\ Step w K w' K'
abbrev z0b := FuncId -> List T -> Option (T × List T)
def z2J (P : Program) (I : World -> (Nat -> z0a) -> Prop) (C : z0b) : Prop := ∀ f args r outs, C f args = some (r, outs) -> CallOk P I f args r outs
def zbz : T -> T
  | .os _ n cs => .sl n cs
  | .vr _ => .dead
  | .vo _ _ => .dead
  | x => x
abbrev zcz := List (Nat × List Nat)
def ziv (fr : Fr) : A -> Option (T × zcz)
  | .k v => some (z6m false v, [])
  | .t none x => some (zbz x, [])
  | .t (some i) x => some (zbz x, [(i, [])])
  | .tf n cs => some (.sl n cs, [])
  | .ea none cs 0 => some (.pr cs, [])
  | .ea (some i) cs 0 => some (.pr cs, [(i, [])])
  | .h id p => match z0v fr.ob id with
    | none => none
    | some root => match sub root p with
      | some t => if z5m t then some (t, []) else some (z0A t, [(id, p)])
      | none => none
  | _ => none
def zft (fr : Fr) : List A -> Option (List T × zcz)
  | [] => some ([], [])
  | x :: xs => match ziv fr x, zft fr xs with
    | some (t, d), some (ts, ds) => if z2L t then none else some (t :: ts, d ++ ds)
    | _, _ => none
def zl1 (fr : Fr) (io : Bool) : E -> Option (T × zcz × Option Nat)
  | .ag xs => (match zft fr xs with | some (ts, d) => some (.agg ts, d, none) | none => none)
  | .one (.a id [] off) => (match z0v fr.ob id with | some (.vr cs) => if off = 0 then some (.vr cs, [], some id) else none | some (.os _ _ cs) => if io then some (.vo off cs, [], some id) else none | _ => none)
  | .one (.h id []) =>
    if io then (match z0v fr.ob id with | some (.os sz n cs) => some (.os sz n cs, [], some id) | some (.vr cs) => some (.vr cs, [], some id) | _ => none)
    else (match ziv fr (.h id []) with | some (t, d) => if z2L t then none else some (t, d, none) | none => none)
  | .one x => (match ziv fr x with | some (t, d) => if z2L t then none else some (t, d, none) | none => none)
def z1h (deps : zcz) (h : Nat) (q : List Nat) : Bool := deps.any fun x => decide (h = x.1 + 2) && (z1m x.2 q).isSome
def zfk (deps : zcz) (io : Option (Nat × Nat)) : z0a -> z0a
  | [] => []
  | h :: q => if z1h deps h q then [] else match io with
    | some (i, id) => if h = id + 2 then (i + 2) :: q else [1]
    | none => [1]
theorem TRep.top {w : World} {K : Nat -> z0a} {v : Value} {t : T} (h : TRep w K [] v t) : TRep w K [] v (zbz t) := by
  cases h with
  | sc _ _ h => exact .sc _ _ h
  | dead => exact .dead _ _
  | agg c vs cs F hl hF h => exact .agg _ vs cs F hl hF h
  | tup c vs cs F hl hF h => exact .tup _ vs cs F hl hF h
  | emp c a cap hc => exact .emp _ a cap hc
  | fro c g o n cap cs F hK hg hn hc hF h => exact .fro _ g o n cap cs F hK hg hn hc hF h
  | nil => exact .emp _ none 0 (by decide)
  | own _ _ _ _ _ _ _ _ _ _ _ hc0 => exact absurd rfl hc0
  | vr _ _ _ _ _ _ _ _ hc0 => exact absurd rfl hc0
  | vo _ _ _ _ h => exact absurd rfl h.vr_ne
  | pr _ g o cs F hK hg hF h => exact .pr _ g o cs F hK hg hF h
  | mr _ g kk es ents clock hK hg hh => exact .mr _ g kk es ents clock hK hg hh
  | mp _ _ _ _ _ _ hc0 => exact absurd rfl hc0
  | mt _ _ _ _ _ _ _ _ hc0 => exact absurd rfl hc0
  | ms _ g kk ks cs ents clock F hK hg hh h => exact .ms _ g kk ks cs ents clock F hK hg hh h
  | cl _ f vs cs F hl hF h => exact .cl _ f vs cs F hl hF h
theorem z5Q (w : World) (K : Nat -> z0a) (own : Bool) (v : Value) : TRep w K [] v (z6m own v) := by
  unfold z6m
  split
  · rename_i vs
    refine .agg _ vs _ (fun j => vs.getD j undef) (by simp) (fun j hj => z1x _ _ (by simpa using hj)) (fun j t hj => ?_)
    simp only [List.getElem?_map, Option.map_eq_some_iff, Array.getElem?_toList] at hj
    obtain ⟨v, hv, rfl⟩ := hj
    have : vs.getD j undef = v := by simp [Array.getD_eq_getD_getElem?, hv]
    rw [this]
    exact z2u _ _ _ _ _
  · exact z2u _ _ _ _ _
theorem zcv {w : World} {K K0 : Nat -> z0a} {R G : Nat -> Value} {fr : Fr} {a : Act} {x : A} {u : Value} {t : T} {deps : zcz} (h : FRep w K R G fr a) (hx : ARep w K R fr.ob x u) (ha : ziv fr x = some (t, deps))
    (h0 : ∀ b, K b = [] -> K0 b = []) (hd : ∀ b hh q, K b = hh :: q -> z1h deps hh q = true -> K0 b = []) : TRep w K0 [] u t := by
  unfold ziv at ha
  split at ha
  · cases ha
    obtain rfl : u = _ := hx
    exact z5Q _ _ _ _
  · cases ha
    exact (TRep.fz hx.1 (fun b _ e => ⟨h0 b e, rfl⟩) (Nat.le_refl _)).top
  · rename_i i x
    cases ha
    refine (TRep.fz hx.1 (fun b _ e => ⟨?_, rfl⟩) (Nat.le_refl _)).top
    simp only [frz] at e
    split at e
    · rename_i hh
      cases hk : K b with
      | nil => exact h0 b hk
      | cons a s =>
        rw [hk] at hh; simp at hh; subst hh
        exact hd b _ s hk (by simp [z1h, z1m])
    · exact h0 b e
  · cases ha
    exact TRep.fz hx.2 (fun b _ e => ⟨h0 b e, rfl⟩) (Nat.le_refl _)
  · rename_i cs
    cases ha
    obtain ⟨g, o, F, h1, h2, h3, h4, h5, h6⟩ := hx
    rw [h1]
    exact .pr [] g o _ F (h0 _ h2) h3 h4 (fun j t ht => TRep.fz (h5 j t ht) (fun b _ e => ⟨h0 b e, rfl⟩) (Nat.le_refl _))
  · rename_i i cs
    cases ha
    have hz : ∀ b, frz K (some i) b = [] -> K0 b = [] := fun b e => by
      simp only [frz] at e
      split at e
      · rename_i hh
        cases hk : K b with
        | nil => exact h0 b hk
        | cons a s =>
          rw [hk] at hh; simp at hh; subst hh
          exact hd b _ s hk (by simp [z1h, z1m])
      · exact h0 b e
    obtain ⟨g, o, F, h1, h2, h3, h4, h5, h6⟩ := hx
    rw [h1]
    exact .pr [] g o _ F (hz _ h2) h3 h4 (fun j t ht => TRep.fz (h5 j t ht) (fun b _ e => ⟨hz b e, rfl⟩) (Nat.le_refl _))
  · rename_i id p
    split at ha
    case h_1 => cases ha
    case h_2 root hroot =>
    split at ha
    · rename_i t' hsub
      obtain ⟨n1, _⟩ := hx
      obtain ⟨v', m1, hrep⟩ := (h.ob id root hroot).sub (z0q id) hsub
      rw [n1] at m1; cases m1
      split at ha
      · rename_i hp
        cases ha
        exact TRep.fz (hrep.free hp []) (fun b _ e => ⟨h0 b e, rfl⟩) (Nat.le_refl _)
      · cases ha
        refine hrep.freeze (fun b s hb hc hK => ⟨?_, rfl⟩) (fun b _ e => ⟨h0 b e, rfl⟩) (Nat.le_refl _) []
        exact hd b (id + 2) (p ++ s) (by simpa [col] using hK) (by simp [z1h, z1Y])
    · cases ha
  · cases ha
theorem z1E (d1 d2 : zcz) (h : Nat) (q : List Nat) : z1h (d1 ++ d2) h q = (z1h d1 h q || z1h d2 h q) := by simp [z1h]
theorem zaw {w : World} {K K0 : Nat -> z0a} {R G : Nat -> Value} {fr : Fr} {a : Act} (h : FRep w K R G fr a) (h0 : ∀ b, K b = [] -> K0 b = []) : ∀ {xs : List A} {F : Nat -> Value} {ts : List T} {deps : zcz}, (∀ j x, xs[j]? = some x -> ARep w K R fr.ob x (F j)) ->
    zft fr xs = some (ts, deps) -> (∀ b hh q, K b = hh :: q -> z1h deps hh q = true -> K0 b = []) -> ts.length = xs.length /\ ∀ j t, ts[j]? = some t -> TRep w K0 [] (F j) t
  | [], F, ts, deps, hx, ha, hd => by
    cases ha
    exact ⟨rfl, fun j t ht => by simp at ht⟩
  | x :: xs, F, ts, deps, hx, ha, hd => by
    simp only [zft] at ha
    split at ha
    · rename_i t d ts' ds h1 h2
      split at ha
      · cases ha
      · cases ha
        obtain ⟨r1, r2⟩ := zaw h h0 (xs := xs) (F := fun j => F (j + 1)) (fun j y hy => hx (j + 1) y (by simpa using hy)) h2 (fun b hh q e e2 => hd b hh q e (by rw [z1E, e2, Bool.or_true]))
        refine ⟨by simp [r1], fun j t' ht => ?_⟩
        match j, ht with
        | 0, ht =>
          simp at ht; subst ht
          exact zcv h (hx 0 x rfl) h1 h0 (fun b hh q e e2 => hd b hh q e (by rw [z1E, e2, Bool.true_or]))
        | j + 1, ht => exact r2 j t' (by simpa using ht)
    · cases ha
def zfw (fr : Fr) (R : Nat -> Value) (id : Nat) (t : T) (u : Value) : Prop :=
  (z0v fr.ob id = some t /\ u = R id /\ ∀ off cs, t ≠ .vo off cs) ∨ ∃ sz n cs off g, z0v fr.ob id = some (.os sz n cs) /\ t = .vo off cs /\ z2n (R id) = some g /\ u = .pointer (some ⟨g, off, none⟩)
theorem zcu {w : World} {K K0 : Nat -> z0a} {R G : Nat -> Value} {fr : Fr} {a : Act} {e : E} {u : Value} {t : T} {deps : zcz} {io : Option Nat} {fl : Bool} (h : FRep w K R G fr a) (he : ERep w K R fr.ob e u) (ha : zl1 fr fl e = some (t, deps, io))
    (h0 : ∀ b, K b = [] -> K0 b = []) (hd : ∀ b hh q, K b = hh :: q -> z1h deps hh q = true -> K0 b = []) :
    (io = none /\ z2L t = false /\ TRep w K0 [] u t) ∨ ∃ id, io = some id /\ z2L t = true /\ deps = [] /\ zfw fr R id t u := by
  have byval : ∀ x, e = .one x -> (match ziv fr x with | some (t, d) => if z2L t then none else some (t, d, none) | none => none) = some (t, deps, io) -> (io = none /\ z2L t = false /\ TRep w K0 [] u t) := fun x hxe hh => by
    subst hxe
    split at hh
    · rename_i t' d' h1
      split at hh
      · cases hh
      · rename_i hio
        cases hh
        exact ⟨rfl, by simpa using hio, zcv h he h1 h0 hd⟩
    · cases hh
  unfold zl1 at ha
  split at ha
  · rename_i xs
    split at ha
    · rename_i ts d h1
      cases ha
      obtain ⟨arr, rfl, e2, e3⟩ := he
      obtain ⟨r1, r2⟩ := zaw h h0 (F := fun j => arr.getD j undef) e3 h1 hd
      exact .inl ⟨rfl, rfl, .agg _ arr ts (fun j => arr.getD j undef) (by omega) (fun j hj => z1x _ _ (by omega)) r2⟩
    · cases ha
  · rename_i id off
    split at ha
    · rename_i cs hob
      split at ha
      case isFalse => cases ha
      case isTrue h0 =>
      subst h0
      cases ha
      obtain ⟨hv, g, n1, n4, n5, t0, n2, n3⟩ := he
      simp only [nav, Option.some.injEq] at n1
      refine .inr ⟨id, rfl, rfl, rfl, .inl ⟨hob, ?_, fun _ _ e => by cases e⟩⟩
      have hr := h.ob id _ hob
      rw [n5, n1]
      rw [n1] at hr
      cases hr with
      | vr c g' cs arr e fz F hfz hc0 hK hg hl hF hh =>
        simp only [z2n, Option.some.injEq] at n4
        rw [n4]
    · rename_i sz n cs hob
      split at ha
      case isFalse => cases ha
      case isTrue =>
      cases ha
      obtain ⟨hv, g, n1, n4, n5, t0, n2, n3⟩ := he
      simp only [nav, Option.some.injEq] at n1
      exact .inr ⟨id, rfl, rfl, rfl, .inr ⟨sz, n, cs, off, g, hob, rfl, by rw [n1]; exact n4, n5⟩⟩
    · cases ha
  · rename_i id
    split at ha
    · split at ha
      · rename_i sz n cs hob
        cases ha
        obtain ⟨n1, _⟩ := he
        simp only [nav, Option.some.injEq] at n1
        exact .inr ⟨id, rfl, rfl, rfl, .inl ⟨hob, n1.symm, fun _ _ e => by cases e⟩⟩
      · rename_i cs hob
        cases ha
        obtain ⟨n1, _⟩ := he
        simp only [nav, Option.some.injEq] at n1
        exact .inr ⟨id, rfl, rfl, rfl, .inl ⟨hob, n1.symm, fun _ _ e => by cases e⟩⟩
      · cases ha
    · exact .inl (byval _ rfl ha)
  · exact .inl (byval _ rfl ha)
def z7K (fr : Fr) (io : Nat -> Bool) : List E -> Nat -> Option (List T × zcz × Option (Nat × Nat))
  | [], _ => some ([], [], none)
  | x :: xs, i => match zl1 fr (io i) x, z7K fr io xs (i + 1) with
    | some (t, d, none), some (ts, ds, o) => some (t :: ts, d ++ ds, o)
    | some (t, d, some id), some (ts, ds, none) => some (t :: ts, d ++ ds, some (i, id))
    | _, _ => none
theorem TRep.toVo {w : World} {K : Nat -> z0a} {c : z0a} {v : Value} {sz n : Nat} {cs : List T} {g : Nat} (h : TRep w K c v (.os sz n cs)) (hb : z2n v = some g) (off : Nat) : TRep w K c (.pointer (some ⟨g, off, none⟩)) (.vo off cs) := by
  cases h with
  | nil => cases hb
  | own c g' n cap size cs arr e fz F hfz hc0 hK hg hs hl hz hn hc hF h =>
    simp only [z2n, Option.some.injEq] at hb
    subst hb
    exact .vo _ _ _ _ (.vr c g' cs arr e fz F hfz hc0 hK hg (by rw [hl, hs]; exact Nat.mul_le_mul_right _ hn) hF h)
theorem TRep.ofVo {w w' : World} {K K' : Nat -> z0a} {c c' : z0a} {v u : Value} {sz n g off o' : Nat} {cs cs' : List T} (h : TRep w K c v (.os sz n cs)) (hb : z2n v = some g) (hz : SzK w w') (hu : u = .pointer (some ⟨g, off, none⟩)) (h' : TRep w' K' c' u (.vo o' cs')) (hl' : cs'.length = cs.length) : TRep w' K' c' v (.os sz n cs') := by
  cases h with
  | nil => cases hb
  | own c g' n cap size cs arr e fz F hfz hc0 hK hg hs hl hz0 hn hc hF h =>
    simp only [z2n, Option.some.injEq] at hb
    subst hb
    cases h' with
    | vo _ g2 _ _ h2 =>
      simp only [Value.pointer.injEq, Option.some.injEq, Addr.mk.injEq] at hu
      obtain ⟨rfl, _, _⟩ := hu
      cases h2 with
      | vr _ _ _ arr2 e2 fz2 F2 hfz2 hc2 hK2 hg2 hl2 hF2 hh2 =>
        obtain ⟨a3, e3, f3, q1, q2⟩ := hz _ _ _ _ hg
        rw [hg2] at q1
        cases q1
        exact .own c' _ n cap sz cs' arr2 e2 fz2 F2 hfz2 hc2 hK2 hg2 (by rw [q2, hs]) (by rw [hl', hl]) hz0 hn hc hF2 hh2
def z3N (d : Nat) : A -> A
  | .h i q => if i = d /\ q ≠ [] then .dead else .h i q
  | .a i q off => if i = d /\ q ≠ [] then .dead else .a i q off
  | .t (some i) x => if i = d then .dead else .t (some i) x
  | .ea (some i) cs off => if i = d then .dead else .ea (some i) cs off
  | x => x
theorem FRep.renew {w w' : World} {K K' : Nat -> z0a} {R G : Nat -> Value} {fr : Fr} {a : Act} (h : FRep w K R G fr a) {d : Nat} {t' : T} (k : Keep w w' K K' (But d)) (ht : TRep w' K' (col d) (R d) t') :
    FRep w' K' R G { fr with tm := z2k (z3N d) fr.tm, ob := z1Z fr.ob d t' } a := by
  have hR : ∀ i, i ≠ d -> R i = R i /\ z0v (z1Z fr.ob d t') i = z0v fr.ob i := fun i hi => ⟨rfl, by rw [z0e, if_neg (fun e => hi e.symm)]⟩
  refine ⟨fun i => ?_, fun id t ht' => ?_, h.nt, h.df⟩
  · show ERep w' K' R (z1Z fr.ob d t') (z0E (z2k (z3N d) fr.tm) i) _
    rw [z1F _ rfl]
    refine (h.tm i).map _ fun x u hx => ?_
    by_cases hxd : onA x = some d
    · cases x with
      | dead => trivial
      | k v => cases hxd
      | t dep x => simp only [onA] at hxd; subst hxd; simp only [z3N, if_true]; trivial
      | h i q =>
        simp only [onA, Option.some.injEq] at hxd; subst hxd
        by_cases hq : q = []
        · subst hq
          obtain ⟨n1, _⟩ := hx
          simp only [z3N]
          rw [if_neg (by simp)]
          exact ⟨n1, t', by simp [z0e], rfl⟩
        · rw [show z3N i (.h i q) = .dead by simp [z3N, hq]]; trivial
      | a i q off =>
        simp only [onA, Option.some.injEq] at hxd; subst hxd
        by_cases hq : q = []
        · subst hq
          obtain ⟨hv, g, n1, n4, n5, _⟩ := hx
          simp only [z3N]
          rw [if_neg (by simp)]
          exact ⟨hv, g, n1, n4, n5, t', by simp [z0e], rfl⟩
        · rw [show z3N i (.a i q off) = .dead by simp [z3N, hq]]; trivial
      | ea dep cs off => simp only [onA] at hxd; subst hxd; simp only [z3N, if_true]; trivial
      | tf => cases hxd
    · have : z3N d x = x := by
        cases x with
        | dead => rfl
        | k v => rfl
        | t dep x => cases dep with
          | none => rfl
          | some i => simp only [z3N]; rw [if_neg (fun e => hxd (by simp [onA, e]))]
        | h i q => simp only [z3N]; rw [if_neg (fun e => hxd (by simp [onA, e.1]))]
        | a i q off => simp only [z3N]; rw [if_neg (fun e => hxd (by simp [onA, e.1]))]
        | tf => rfl
        | ea dep cs off => cases dep with
          | none => rfl
          | some i => simp only [z3N]; rw [if_neg (fun e => hxd (by simp [onA, e]))]
      rw [this]
      exact hx.but h.ob k hR hxd
  · rw [z0e] at ht'
    split at ht'
    · rename_i e
      subst e
      cases ht'
      exact ht
    · rename_i hne
      have hne' : id ≠ d := fun e => hne e.symm
      exact (h.ob id t ht').keep k fun s _ => ⟨id, s, rfl, hne'⟩
end
section
def z7p (fr : Fr) : zcz -> Option Fr
  | [] => some fr
  | (id, p) :: l => match z1K fr id p with | some fr' => z7p fr' l | none => none
theorem zdr {fr fr' : Fr} {id : Nat} {p : List Nat} (hs : z1K fr id p = some fr') : fr'.nt = fr.nt /\ ∀ i, i ≠ id -> z0v fr'.ob i = z0v fr.ob i := by
  unfold z1K at hs
  split at hs
  · cases hs
  · split at hs
    · cases hs
    · split at hs
      · cases hs
      · cases hs
        exact ⟨rfl, fun i hi => by rw [z0e, if_neg (fun e => hi e.symm)]⟩
theorem z7o {w : World} {R G : Nat -> Value} {a : Act} : ∀ {deps : zcz} {K : Nat -> z0a} {fr fr1 : Fr}, FRep w K R G fr a -> z7p fr deps = some fr1 ->
    ∃ K1, FRep w K1 R G fr1 a /\ Step w K w K1 /\ (∀ b, K b = [] -> K1 b = []) /\ (∀ b h q, K b = h :: q -> z1h deps h q = true -> K1 b = []) /\ (∀ b h q, K b = h :: q -> K1 b = [] ∨ K1 b = K b) /\ (∀ b h q, K b = h :: q -> (∀ x ∈ deps, h ≠ x.1 + 2) -> K1 b = K b) /\
      (∀ i, (∀ x ∈ deps, x.1 ≠ i) -> z0v fr1.ob i = z0v fr.ob i) /\ fr1.nt = fr.nt
  | [], K, fr, fr1, h, hf => by
    cases hf
    exact ⟨K, h, Step.refl _ _, fun _ e => e, fun b hh q e hd => by simp [z1h] at hd, fun _ _ _ _ => .inr rfl, fun _ _ _ _ _ => rfl, fun _ _ => rfl, rfl⟩
  | (id, p) :: l, K, fr, fr1, h, hf => by
    simp only [z7p] at hf
    split at hf
    · rename_i fr2 h2
      obtain ⟨a1, _⟩ := h.freeze h2
      obtain ⟨n1, n2⟩ := zdr h2
      obtain ⟨K1, b1, b2, b3, b4, b5, b6, b7, b8⟩ := z7o (deps := l) a1 hf
      have hz : ∀ b, fzK id p (K b) = [] ∨ fzK id p (K b) = K b := fun b => by
        cases hk : K b with
        | nil => left; rfl
        | cons hh q => simp only [fzK]; split <;> simp
      refine ⟨K1, b1, (z4r id p).trans b2, fun b e => b3 b (by show fzK id p (K b) = []; rw [e]; rfl), fun b hh q e hd => ?_, fun b hh q e => ?_, fun b hh q e hd => ?_, fun i hi => ?_, b8.trans n1⟩
      · rcases hz b with e1 | e1
        · exact b3 b e1
        · rw [show z1h ((id, p) :: l) hh q = (decide (hh = id + 2) && (z1m p q).isSome || z1h l hh q) from rfl, Bool.or_eq_true] at hd
          rcases hd with hd | hd
          · exfalso
            rw [e] at e1
            simp only [fzK] at e1
            simp only [Bool.and_eq_true, decide_eq_true_eq] at hd
            rw [if_pos hd] at e1
            cases e1
          · exact b4 b hh q (e1.trans e) hd
      · rcases hz b with e1 | e1
        · exact .inl (b3 b e1)
        · rcases b5 b hh q (e1.trans e) with e2 | e2
          · exact .inl e2
          · exact .inr (e2.trans e1)
      · have e1 : fzK id p (K b) = K b := by
          rw [e]; simp only [fzK]
          rw [if_neg (fun hc => hd (id, p) (by simp) hc.1)]
        rw [b6 b hh q (e1.trans e) (fun x hx => hd x (by simp [hx])), e1]
      · rw [b7 i (fun x hx => hi x (by simp [hx])), n2 i (fun e => hi (id, p) (by simp) e.symm)]
    · cases hf
theorem z7B {w : World} {K K0 : Nat -> z0a} {R G : Nat -> Value} {fr : Fr} {a : Act} (h : FRep w K R G fr a) {io : Nat -> Bool} (h0 : ∀ b, K b = [] -> K0 b = []) : ∀ {args : List E} {vs : List Value} {i0 : Nat} {ts : List T} {deps : zcz} {o : Option (Nat × Nat)}, z7K fr io args i0 = some (ts, deps, o) ->
    vs.length = args.length -> (∀ (j : Nat) (e : E) (v : Value), args[j]? = some e -> vs[j]? = some v -> ERep w K R fr.ob e v) -> (∀ b hh q, K b = hh :: q -> z1h deps hh q = true -> K0 b = []) ->
    ts.length = args.length /\ (∀ j t, ts[j]? = some t -> ∃ x, vs[j]? = some x /\ ((z2L t = false /\ TRep w K0 [] x t) ∨ (z2L t = true /\ ∃ id, o = some (i0 + j, id) /\ zfw fr R id t x))) /\
      (∀ i id, o = some (i, id) -> ∃ j t, i = i0 + j /\ ts[j]? = some t /\ z2L t = true)
  | [], vs, i0, ts, deps, o, ha, hl, hv, hd => by
    cases ha
    exact ⟨rfl, fun j t ht => by simp at ht, fun i id e => by cases e⟩
  | x :: xs, [], i0, ts, deps, o, ha, hl, hv, hd => by simp at hl
  | x :: xs, u :: us, i0, ts, deps, o, ha, hl, hv, hd => by
    have hl' : us.length = xs.length := by simpa using hl
    have hv' : ∀ (j : Nat) (e : E) (v : Value), xs[j]? = some e -> us[j]? = some v -> ERep w K R fr.ob e v := fun j e v h1 h2 => hv (j + 1) e v (by simpa using h1) (by simpa using h2)
    have hx : ERep w K R fr.ob x u := hv 0 x u rfl rfl
    simp only [z7K] at ha
    split at ha
    · rename_i t d ts' ds o' h1 h2
      cases ha
      obtain ⟨r1, r2, r3⟩ := z7B h h0 h2 hl' hv' (fun b hh q e e2 => hd b hh q e (by rw [z1E, e2, Bool.or_true]))
      refine ⟨by simp [r1], fun j t' ht => ?_, fun i id e => ?_⟩
      · match j, ht with
        | 0, ht =>
          simp at ht; subst ht
          rcases zcu h hx h1 h0 (fun b hh q e e2 => hd b hh q e (by rw [z1E, e2, Bool.true_or])) with ⟨-, e2, e3⟩ | ⟨id, e1, _⟩
          · exact ⟨u, rfl, .inl ⟨e2, e3⟩⟩
          · cases e1
        | j + 1, ht =>
          obtain ⟨y, y1, y2⟩ := r2 j t' (by simpa using ht)
          refine ⟨y, by simpa using y1, ?_⟩
          rcases y2 with y2 | ⟨y2, id, y3, y4⟩
          · exact .inl y2
          · exact .inr ⟨y2, id, by rw [y3]; congr 2; omega, y4⟩
      · obtain ⟨j, t', j1, j2, j3⟩ := r3 i id e
        exact ⟨j + 1, t', by omega, by simpa using j2, j3⟩
    · rename_i t d id ts' ds h1 h2
      cases ha
      obtain ⟨r1, r2, r3⟩ := z7B h h0 h2 hl' hv' (fun b hh q e e2 => hd b hh q e (by rw [z1E, e2, Bool.or_true]))
      rcases zcu h hx h1 h0 (fun b hh q e e2 => hd b hh q e (by rw [z1E, e2, Bool.true_or])) with ⟨e1, _⟩ | ⟨id', e1, e2, e3, e4⟩
      · cases e1
      · cases e1
        refine ⟨by simp [r1], fun j t' ht => ?_, fun i id2 e => ?_⟩
        · match j, ht with
          | 0, ht =>
            simp at ht; subst ht
            exact ⟨u, rfl, .inr ⟨e2, id, rfl, e4⟩⟩
          | j + 1, ht =>
            obtain ⟨y, y1, y2⟩ := r2 j t' (by simpa using ht)
            refine ⟨y, by simpa using y1, ?_⟩
            rcases y2 with y2 | ⟨y2, id, y3, y4⟩
            · exact .inl y2
            · cases y3
        · cases e
          exact ⟨0, t, by omega, rfl, e2⟩
    · cases ha
def clB (r : T) (outs : List T) (io : Option (Nat × Nat)) : Bool := opn r || (match io with | some (i, _) => (match outs[i]? with | some t => opn t | none => false) | none => false)
def zav (o : Option T) : T -> T
  | .vo _ cs' => (match o with | some (.os sz n cs) => if cs'.length = cs.length then .os sz n cs' else .dead | _ => .dead)
  | .vr cs' => (match o with | some (.os _ _ _) => .dead | _ => .vr cs')
  | .pr cs' => (match o with | some (.os _ _ _) => .dead | _ => .pr cs')
  | t => t
theorem zfp {w w' : World} {K K' : Nat -> z0a} {c c' : z0a} {R : Nat -> Value} {fr : Fr} {id : Nat} {t t' : T} {u : Value} (hh : zfw fr R id t u) (hob : ∀ t, z0v fr.ob id = some t -> TRep w K c (R id) t) (hz : SzK w w') (h' : TRep w' K' c' u t') : TRep w' K' c' (R id) (zav (z0v fr.ob id) t') := by
  rcases hh with ⟨z1, z2, z3⟩ | ⟨sz, n, cs, off, g, z1, z2, z3, z4⟩
  · rw [z2] at h'
    have hr := hob t z1
    rw [z1]
    cases t' with
    | vo o' cs' =>
      simp only [zav]
      split
      · rename_i sz n cs he
        cases he
        exfalso
        generalize R id = v at h' hr
        cases h' with
        | vo => cases hr
      · exact .dead _ _
    | vr cs' =>
      simp only [zav]
      split
      · exact .dead _ _
      · exact h'
    | pr cs' =>
      simp only [zav]
      split
      · exact .dead _ _
      · exact h'
    | _ => exact h'
  · rw [z1]
    have hr := hob _ z1
    subst z4
    cases h' with
    | dead => exact .dead _ _
    | sc _ _ hb => cases hb
    | vr => exact .dead _ _
    | pr => exact .dead _ _
    | vo _ _ _ cs' h2 =>
      simp only [zav]
      split
      · rename_i hl
        exact hr.ofVo z3 hz rfl (.vo _ g off cs' h2) hl
      · exact .dead _ _
def ioF (fr : Fr) (deps : zcz) (outs : List T) : Option (Nat × Nat) -> Option Fr
  | none => some fr
  | some (i, id) => if deps.any (fun x => decide (x.1 = id)) then none else match outs[i]? with
    | some t' => some { fr with tm := z2k (z3N id) fr.tm, ob := z1Z fr.ob id (zav (z0v fr.ob id) t') }
    | none => none
def zkP (d : Nat) : T -> A
  | .vr _ => .a d [] 0
  | _ => .h d []
def zli (fr : Fr) (dst : Option Nat) (r : T) (io : Option (Nat × Nat)) : Option Fr :=
  match dst with
  | none => some fr
  | some d => if d < fr.nt /\ (io.map (·.2)) ≠ some d then
      (if z5m r then some { fr with tm := z6Y fr.tm d (.one (.t none r)) } else some { fr with tm := z6Y (z2k (kill d) fr.tm) d (.one (zkP d r)), ob := z1Z fr.ob d r })
    else none
def z5z (C : z0b) (wio : FuncId -> Nat -> Bool) (fr : Fr) (f : FuncId) (args : List E) (dst : Option Nat) : Option Fr :=
  match z7K fr (wio f) args 0 with
  | none => none
  | some (ts, deps, io) => match C f ts with
    | none => none
    | some (r, outs) => match (if deps.isEmpty || (!clB r outs io && !wio 777777 f) then some fr else z7p fr deps) with
      | none => none
      | some fr1 => match ioF fr1 deps outs io with
        | none => none
        | some fr2 => zli fr2 dst r io
def ziH (d : Nat) (io : Option (Nat × Nat)) : z0a -> z0a
  | [] => []
  | 0 :: s => (d + 2) :: s
  | 1 :: _ => [1]
  | (j + 2) :: s => match io with | some (i, id) => if j = i then (id + 2) :: s else [1] | none => [1]
def z4Z (io : Option (Nat × Nat)) (c : z0a) : Prop := ∃ i id s, io = some (i, id) /\ c = (id + 2) :: s
theorem z3q (c : z0a) : ¬ z4Z none c := fun ⟨_, _, _, e, _⟩ => by cases e
theorem zbr {P : Program} {I : World -> (Nat -> z0a) -> Prop} {C : z0b} {wio : FuncId -> Nat -> Bool} {w : World} {K : Nat -> z0a} {R G : Nat -> Value} {fr fr' : Fr} {a : Act} {o : Oper} {f : FuncId} {args : List E} {vs : List Value} {next : Act -> World -> Prop} {Q : Exit -> Act -> World -> Prop}
    (hI : EnvS I) (hC : z2J P I C) (h : FRep w K R G fr a) (hIw : I w K) (hrun0 : (callFunc f vs.toArray).run P w = .ok (.enter f vs.toArray) w -> (execOp a.eval o).run P w = .ok (.enter f vs.toArray) w) (hvl : vs.length = args.length) (hvr : ∀ (j : Nat) (e : E) (v : Value), args[j]? = some e -> vs[j]? = some v -> ERep w K R fr.ob e v) (hf : z5z C wio fr f args o.dst = some fr')
    (hn : ∀ a' w' K' R', FRep w' K' R' G fr' a' -> Step w K w' K' -> (∀ ts deps io, z7K fr (wio f) args 0 = some (ts, deps, io) -> ∀ b, b < w.heap.size -> ¬ z4Z io (K b) -> (K' b = [] ∨ K' b = K b) /\ w'.heap[b]? = w.heap[b]?) -> next a' w') : o.wp P a w next Q := by
  unfold z5z at hf
  split at hf
  case h_1 => cases hf
  case h_2 ts deps io hargs =>
  split at hf
  case h_1 => cases hf
  case h_2 r outs hcf =>
  split at hf
  case h_1 => cases hf
  case h_2 fr1 hfz =>
  split at hf
  case h_1 => cases hf
  case h_2 fr2 hio =>
  have hok := hC f ts r outs hcf
  let vals : Array Value := vs.toArray
  have hrun : (execOp a.eval o).run P w = .ok (.enter f vals) w := hrun0 (hok.enter vals w)
  unfold Oper.wp
  rw [hrun]
  simp only [Oper.upon]
  obtain ⟨Kx, dx, x1, x2, x3, x4, x5, x6, x7, x8, x9, x10⟩ : ∃ Kx dx, FRep w Kx R G fr1 a /\ Step w K w Kx /\ (∀ b, K b = [] -> Kx b = []) /\ (∀ b hh q, K b = hh :: q -> z1h deps hh q = true -> Kx b = [] ∨ (Kx b = hh :: q /\ z1h dx hh q = true)) /\ (dx = [] ∨ clB r outs io = false) /\
      (∀ i, (∀ x ∈ deps, x.1 ≠ i) -> z0v fr1.ob i = z0v fr.ob i) /\ fr1.nt = fr.nt /\ (∀ b hh q, K b = hh :: q -> (∀ x ∈ deps, hh ≠ x.1 + 2) -> Kx b = K b) /\ (∀ x ∈ dx, x ∈ deps) /\ (∀ b, Kx b = [] ∨ Kx b = K b) := by
    split at hfz
    · rename_i hc
      cases hfz
      rw [Bool.or_eq_true] at hc
      rcases hc with hc | hc
      · have : deps = [] := by simpa using hc
        subst this
        exact ⟨K, [], h, Step.refl _ _, fun _ e => e, fun b hh q e hd => by simp [z1h] at hd, .inl rfl, fun _ _ => rfl, rfl, fun _ _ _ _ _ => rfl, fun _ h => h, fun _ => .inr rfl⟩
      · exact ⟨K, deps, h, Step.refl _ _, fun _ e => e, fun b hh q e hd => .inr ⟨e, hd⟩, .inr (by rw [Bool.and_eq_true] at hc; simpa using hc.1), fun _ _ => rfl, rfl, fun _ _ _ _ _ => rfl, fun _ h => h, fun _ => .inr rfl⟩
    · obtain ⟨K1, b1, b2, b3, b4, b5, b6, b7, b8⟩ := z7o h hfz
      have hz : ∀ b, K1 b = [] ∨ K1 b = K b := fun b => by
        cases hk : K b with
        | nil => exact .inl (b3 b hk)
        | cons hh q =>
          rw [← hk]
          exact b5 b hh q hk
      exact ⟨K1, [], b1, b2, b3, fun b hh q e hd => .inl (b4 b hh q e hd), .inl rfl, b7, b8, b6, fun _ h => (by cases h), hz⟩
  let K0 : Nat -> z0a := fun b => zfk dx io (Kx b)
  have k00 : ∀ b, Kx b = [] -> K0 b = [] := fun b e => by show zfk dx io (Kx b) = []; rw [e]; rfl
  have k01 : ∀ b, K b = [] -> K0 b = [] := fun b e => k00 b (x3 b e)
  have k02 : ∀ b hh q, K b = hh :: q -> z1h deps hh q = true -> K0 b = [] := fun b hh q e hd => by
    rcases x4 b hh q e hd with e1 | ⟨e1, e2⟩
    · exact k00 b e1
    · show zfk dx io (Kx b) = []
      rw [e1]; simp [zfk, e2]
  obtain ⟨g1, g2, g3⟩ := z7B (K0 := K0) h k01 hargs hvl hvr k02
  have hioid : ∀ i id, io = some (i, id) -> (∀ x ∈ deps, x.1 ≠ id) /\ (∃ t, outs[i]? = some t /\ fr2 = { fr1 with tm := z2k (z3N id) fr1.tm, ob := z1Z fr1.ob id (zav (z0v fr1.ob id) t) }) := fun i id e => by
    subst e
    simp only [ioF] at hio
    split at hio
    · cases hio
    · rename_i hd
      split at hio
      · rename_i t' ht'
        cases hio
        exact ⟨fun x hx e => hd (List.any_eq_true.2 ⟨x, hx, by simpa using e⟩), t', ht', rfl⟩
      · cases hio
  have k03 : ∀ b i id s, io = some (i, id) -> Kx b = (id + 2) :: s -> K0 b = (i + 2) :: s := fun b i id s e e1 => by
    show zfk dx io (Kx b) = _
    rw [e1, e]
    have : z1h dx (id + 2) s = false := by
      cases hb : z1h dx (id + 2) s with
      | false => rfl
      | true =>
        simp only [z1h, List.any_eq_true, Bool.and_eq_true, decide_eq_true_eq] at hb
        obtain ⟨x, hx, hh, _⟩ := hb
        exact absurd (show x.1 = id by omega) ((hioid i id e).1 x (x9 x hx))
    simp [zfk, this]
  have k04 : ∀ b, ¬ z4Z io (Kx b) -> K0 b = [] ∨ K0 b = [1] := fun b hb => by
    show zfk dx io (Kx b) = [] ∨ zfk dx io (Kx b) = [1]
    cases hk : Kx b with
    | nil => left; rfl
    | cons hh q =>
      simp only [zfk]
      split
      · left; rfl
      · cases io with
        | none => right; rfl
        | some x =>
          obtain ⟨i, id⟩ := x
          simp only
          split
          · rename_i e
            exact absurd ⟨i, id, q, rfl, by rw [hk, e]⟩ hb
          · right; rfl
  have k05 : dx = [] -> ∀ b, ¬ z4Z io (Kx b) -> K0 b = [] -> Kx b = [] := fun hd b hb e => by
    cases hk : Kx b with
    | nil => rfl
    | cons hh q =>
      exfalso
      have e' : zfk dx io (Kx b) = [] := e
      rw [hk, hd] at e'
      simp only [zfk] at e'
      rw [if_neg (by simp [z1h])] at e'
      cases io with
      | none => cases e'
      | some x =>
        obtain ⟨i, id⟩ := x
        simp only at e'
        split at e' <;> cases e'
  refine (hok.calls w K0 vals (by simp [vals, g1, hvl]) (fun j t ht => ?_) (hI.keep hIw (Nat.le_refl _) fun b hb e => ⟨k01 b e, rfl⟩)).mono ?_
  · obtain ⟨x, y1, y2⟩ := g2 j t ht
    have hlt := (List.getElem?_eq_some_iff.1 y1).1
    have hv : vals.getD j undef = x := by
      simp [vals, Array.getD_eq_getD_getElem?, y1]
    rw [hv]
    unfold z8s
    rcases y2 with ⟨z1, z2⟩ | ⟨z1, id, z2, z3⟩
    · rw [z1]; exact z2
    · rw [z1]
      simp only [if_true, Nat.zero_add] at z2 ⊢
      have hid := (hioid _ _ z2).1
      have hmv : ∀ t2, z0v fr.ob id = some t2 -> TRep w K0 (col j) (R id) t2 := fun t2 ht2 => by
        have hr := x1.ob id t2 (by rw [x6 id hid]; exact ht2)
        exact hr.move (fun b s hb hc hK => ⟨by simpa [col] using k03 b _ id s z2 (by simpa [col] using hK), rfl⟩) (fun b hb e => ⟨k00 b e, rfl⟩) (by simp [col]) (Nat.le_refl _)
      rcases z3 with ⟨q1, q2, _⟩ | ⟨sz, n, cs, off, g, q1, q2, q3, q4⟩
      · rw [q2]; exact hmv _ q1
      · rw [q2, q4]; exact (hmv _ q1).toVo q3 off
  · rintro e w' ⟨v, K', rfl, hres, hout, hst⟩
    simp only
    let d : Nat := o.dst.getD 0
    haveI hdec : ∀ b, Decidable (b < w.heap.size /\ ¬ z4Z io (Kx b)) := fun b => Classical.propDecidable _
    let K2 : Nat -> z0a := fun b => if b < w.heap.size /\ ¬ z4Z io (Kx b) then Kx b else ziH d io (K' b)
    have e1 : ∀ b, b < w.heap.size -> ¬ z4Z io (Kx b) -> K2 b = Kx b /\ K' b = K0 b /\ w'.heap[b]? = w.heap[b]? := fun b hb hn => by
      obtain ⟨q1, q2⟩ := hst.old b hb (k04 b hn)
      refine ⟨?_, q1, q2⟩
      show (if b < w.heap.size /\ ¬ z4Z io (Kx b) then Kx b else ziH d io (K' b)) = Kx b
      rw [if_pos ⟨hb, hn⟩]
    have e2 : ∀ b hh s, K' b = hh :: s -> hh ≠ 1 -> K2 b = ziH d io (K' b) := fun b hh s he hne => by
      show (if b < w.heap.size /\ ¬ z4Z io (Kx b) then Kx b else ziH d io (K' b)) = _
      rw [if_neg]
      rintro ⟨hb, hn⟩
      obtain ⟨_, q1, _⟩ := e1 b hb hn
      rcases k04 b hn with q | q <;> rw [q, he] at q1
      · cases q1
      · cases q1; exact hne rfl
    have e3 : dx = [] -> ∀ b, K' b = [] -> K2 b = [] := fun hd b he => by
      show (if b < w.heap.size /\ ¬ z4Z io (Kx b) then Kx b else ziH d io (K' b)) = []
      split
      · rename_i hc
        obtain ⟨_, q1, _⟩ := e1 b hc.1 hc.2
        exact k05 hd b hc.2 (q1 ▸ he)
      · rw [he]; rfl
    have hnc : ∀ b, Kx b = [] ∨ Kx b = [1] -> ¬ z4Z io (Kx b) := fun b hb ⟨i, id, s, _, e⟩ => by rcases hb with hb | hb <;> rw [e] at hb <;> simp at hb
    have hstep : Step w Kx w' K2 := ⟨hst.os, hst.tape, hst.output, hst.size, fun b hb hc => ⟨(e1 b hb (hnc b hc)).1, (e1 b hb (hnc b hc)).2.2⟩, hst.sz⟩
    have hsame : ∀ ts' deps' io', z7K fr (wio f) args 0 = some (ts', deps', io') -> ∀ b, b < w.heap.size -> ¬ z4Z io' (K b) -> (K2 b = [] ∨ K2 b = K b) /\ w'.heap[b]? = w.heap[b]? := fun ts' deps' io' he b hb hn => by
      rw [hargs] at he
      cases he
      have hx : ¬ z4Z io (Kx b) := by
        rcases x10 b with e | e
        · exact hnc b (.inl e)
        · rw [e]; exact hn
      obtain ⟨q1, _, q3⟩ := e1 b hb hx
      rw [q1]
      exact ⟨x10 b, q3⟩
    have hmove : ∀ (c c' : z0a) (u : Value) (t : T), TRep w' K' c u t -> c ≠ [] -> c' ≠ [] -> (∀ b s, K' b = c ++ s -> K2 b = c' ++ s) -> (dx = [] ∨ opn t = false) -> TRep w' K2 c' u t := fun c c' u t hr hc hc' hk hcl => by
      rcases hcl with hcl | hcl
      · exact hr.move (fun b s _ _ e => ⟨hk b s e, rfl⟩) (fun b _ e => ⟨e3 hcl b e, rfl⟩) (by simp [hc, hc']) (Nat.le_refl _)
      · exact hr.moveC hcl (fun b s _ _ e => ⟨hk b s e, rfl⟩) (by simp [hc, hc']) (Nat.le_refl _)
    have hclr : dx = [] ∨ opn r = false := x5.imp id fun h => by
      unfold clB at h
      rw [Bool.or_eq_false_iff] at h
      exact h.1
    have hr1 : TRep w' K2 (col d) v r := hmove [0] (col d) v r hres (by simp) (z0q d) (fun b s e => by
      have e' : K' b = 0 :: s := by simpa using e
      rw [e2 b 0 s e' (by decide), e']; rfl) hclr
    have hfr2 : FRep w' K2 R G fr2 a := by
      cases io with
      | none =>
        simp only [ioF, Option.some.injEq] at hio
        subst hio
        have hk : Keep w w' Kx K2 (fun _ => True) := ⟨fun b hb e => ⟨(e1 b hb (z3q _)).1.trans e, (e1 b hb (z3q _)).2.2⟩, fun b hb _ => ⟨(e1 b hb (z3q _)).1, (e1 b hb (z3q _)).2.2⟩, hst.size⟩
        exact x1.keep hk
      | some x =>
        obtain ⟨i, id⟩ := x
        obtain ⟨m1, t', m2, m3⟩ := hioid i id rfl
        rw [m3]
        have hnio : ∀ b i' s, Kx b = (i' + 2) :: s -> i' ≠ id -> ¬ z4Z (some (i, id)) (Kx b) := fun b i' s e hne ⟨_, _, s', e2, e3⟩ => by
          cases e2
          rw [e] at e3; simp at e3; exact hne e3.1
        have hk : Keep w w' Kx K2 (But id) := ⟨fun b hb e => ⟨(e1 b hb (hnc b (.inl e))).1.trans e, (e1 b hb (hnc b (.inl e))).2.2⟩, fun b hb ⟨i', s, e, hne⟩ => ⟨(e1 b hb (hnio b i' s e hne)).1, (e1 b hb (hnio b i' s e hne)).2.2⟩, hst.size⟩
        refine x1.renew hk ?_
        obtain ⟨j, t, j1, j2, j3⟩ := g3 i id rfl
        obtain ⟨t2, p1, p2⟩ := hout j t j2 j3
        have hji : i = j := by omega
        subst hji
        rw [m2] at p1; cases p1
        obtain ⟨x, y1, y2⟩ := g2 i t j2
        have hv : vals.getD i undef = x := by
          simp [vals, Array.getD_eq_getD_getElem?, y1]
        rcases y2 with ⟨z1, z2⟩ | ⟨z1, id', z2, z3⟩
        · rw [z1] at j3; cases j3
        · rw [Nat.zero_add] at z2
          cases z2
          rw [hv] at p2
          have hid := (hioid _ _ rfl).1
          have z3' : zfw fr1 R id t x := by
            unfold zfw
            rw [x6 id hid]
            exact z3
          refine zfp (K := Kx) (c := col id) z3' (fun t2 ht2 => x1.ob id t2 ht2) hst.sz (hmove (col i) (col id) _ _ p2 (z0q _) (z0q _) (fun b s e => ?_) (x5.imp _root_.id fun h => ?_))
          · have e' : K' b = (i + 2) :: s := by simpa [col] using e
            rw [e2 b (i + 2) s e' (by omega), e']
            simp [ziH, col]
          · unfold clB at h
            rw [Bool.or_eq_false_iff] at h
            simpa [m2] using h.2
    unfold zli at hf
    split at hf
    · rename_i hdst
      cases hf
      rw [hdst]
      exact hn a w' K2 R hfr2 (x2.trans hstep) hsame
    · rename_i d' hdst
      have hdd : d = d' := by show o.dst.getD 0 = d'; rw [hdst]; rfl
      split at hf
      case isFalse => cases hf
      case isTrue hc =>
      rw [hdst]
      split at hf
      · rename_i hp
        cases hf
        refine hn _ w' K2 R (hfr2.put hc.1 ⟨?_, fun _ e => by cases e⟩) (x2.trans hstep) hsame
        have := hr1.free hp []
        exact this
      · cases hf
        subst hdd
        have h3 := hfr2.replace (d := d) (w' := w') (K' := K2) (v := v) (t := r) ⟨fun b hb e => ⟨e, rfl⟩, fun b hb _ => ⟨rfl, rfl⟩, Nat.le_refl _⟩ hr1
        refine hn _ w' K2 _ (h3.put (d := d) (x := .one (zkP d r)) (v := v) hc.1 ?_) (x2.trans hstep) hsame
        have hh : ARep w' K2 (z3P R d v) (z1Z fr2.ob d r) (.h d []) v := ⟨by simp [z3P, nav], r, by simp [z0e], rfl⟩
        unfold zkP
        split
        · rename_i cs _
          cases hr1 with
          | vr c g arr2 arr e fz F hfz hc0 hK hg hl hF hh => exact ⟨.pointer (some ⟨g, 0, none⟩), g, by simp [z3P, nav], rfl, rfl, .vr cs, by simp [z0e], rfl⟩
        · exact hh
end
section
open Go.MapKept
def ziK : TypeDesc -> Option (Option IntKind)
  | .int .i8 => none
  | .int .i16 => none
  | .int k => some (some k)
  | .string => some none
  | _ => none
def zc5 : List Value -> List Value -> Bool
  | [], [] => true
  | .int _ x :: a, .int _ y :: b => decide (x = y) && zc5 a b
  | _, _ => false
def zbQ (a b : Array Value) : Bool := match a.toList, b.toList with | [.int _ x, .int _ y], [.int _ x', .int _ y'] => decide (x = x' /\ y = y') | a, b => zc5 a b
def z1U : Value -> Value -> Bool
  | .int _ a, .int _ b => decide (a = b)
  | .string a, .string b => decide (a = b)
  | .agg a, .agg b => zbQ a b
  | _, _ => false
def z2e (k : Value) : List (Value × Value) -> Option Value
  | [] => none
  | (a, v) :: r => if z1U a k then some v else z2e k r
def z8c (k v : Value) : List (Value × Value) -> List (Value × Value)
  | [] => [(k, v)]
  | (a, u) :: r => if z1U a k then (k, v) :: r else (a, u) :: z8c k v r
theorem zc4 : ∀ xs ys : List Int, zc5 (xs.map (Value.int .i64)) (ys.map (Value.int .i64)) = decide (xs = ys)
  | [], [] => rfl
  | [], _ :: _ => rfl
  | _ :: _, [] => rfl
  | x :: xs, y :: ys => by simp [zc5, zc4 xs ys]
theorem z5K (xs ys : List Int) : z1U (agI xs) (agI ys) = decide (xs = ys) := by
  simp only [z1U, agI, zbQ]
  split
  · rename_i x y x' y' h1 h2
    match xs, ys, h1, h2 with
    | [_, _], [_, _], h1, h2 => simp at h1 h2; obtain ⟨⟨_, rfl⟩, _, rfl⟩ := h1; obtain ⟨⟨_, rfl⟩, _, rfl⟩ := h2; simp
  · exact zc4 xs ys
def AK (N : Nat) (v : Value) : Prop := ∃ xs : List Int, xs.length = N /\ v = agI xs
theorem zfs {n : Nat} {v : Value} (h : zkI n v = true) : AK n v := by
  unfold zkI at h
  split at h
  · rename_i vs
    rw [Bool.and_eq_true, decide_eq_true_eq] at h
    obtain ⟨l⟩ := vs
    have key : ∀ l : List Value, l.all zeH = true -> ∃ xs : List Int, l = xs.map (Value.int .i64) := fun l => by
      induction l with
      | nil => intro _; exact ⟨[], rfl⟩
      | cons a l ih =>
        intro h
        rw [List.all_cons, Bool.and_eq_true] at h
        obtain ⟨xs, rfl⟩ := ih h.2
        cases a with
        | int k x =>
          cases k with
          | i64 => exact ⟨x :: xs, rfl⟩
          | _ => cases h.1
        | _ => cases h.1
    obtain ⟨xs, rfl⟩ := key l h.2
    exact ⟨xs, by simpa using h.1, rfl⟩
  · cases h
theorem zkH (n : Nat) (xs : List Int) : zkI n (agI xs) = decide (xs.length = n) := by
  have : ∀ xs : List Int, (xs.map (Value.int .i64)).all zeH = true := fun xs => by simp [zeH]
  simp [zkI, agI, zeH]
def KOk (P : Program) (kt : TypeId) (kk : Option IntKind) : Prop :=
  (∃ d, P.underlying kt = some d /\ ziK d = some kk) ∨ ∃ N e, (∀ v, z4Y kk v = true -> AK N v) /\ P.underlying kt = some (.array N e) /\ P.underlying e = some (.int .i64) /\ (P.info? e).map (·.size) = some 1
theorem zd1 {v : Value} (h : zfY v = true) : AK 2 v := by
  unfold zfY at h
  split at h
  · rename_i vs
    obtain ⟨l⟩ := vs
    simp only at h
    split at h
    · exact ⟨[_, _], rfl, rfl⟩
    · cases h
  · cases h
theorem z5L {d : TypeDesc} {kk : Option IntKind} {v : Value} (hd : ziK d = some kk) (hv : z4Y kk v = true) : (∃ k a, kk = some k /\ d = .int k /\ v = .int k a) ∨ ∃ s, kk = none /\ d = .string /\ v = .string s := by
  unfold ziK at hd
  split at hd
  · cases hd
  · cases hd
  · rename_i k hk hk2
    cases hd
    left
    cases k <;> first | exact absurd rfl hk | exact absurd rfl hk2 | (cases v <;> simp_all [z4Y])
  · cases hd
    right
    cases v <;> simp_all [z4Y]
  · cases hd
theorem z4o {d : TypeDesc} {kk : Option IntKind} {v : Value} (hd : ziK d = some kk) (hv : z4Y kk v = true) : IsKey d v := by
  rcases z5L hd hv with ⟨k, a, rfl, rfl, rfl⟩ | ⟨s, rfl, rfl, rfl⟩
  · rfl
  · trivial
theorem z7j {P : Program} {kt : TypeId} {kk : Option IntKind} {a b : Value} (hk : KOk P kt kk) (ha : z4Y kk a = true) (hb : z4Y kk b = true) : z1U a b = true ↔ a = b := by
  rcases hk with ⟨d, _, hd⟩ | ⟨N, e, hv, -⟩
  · rcases z5L hd ha with ⟨k, x, h1, h2, rfl⟩ | ⟨s, h1, h2, rfl⟩ <;> rcases z5L hd hb with ⟨k', y, h3, h4, rfl⟩ | ⟨s', h3, h4, rfl⟩
    · rw [h1] at h3; cases h3; simp [z1U]
    · rw [h1] at h3; cases h3
    · rw [h1] at h3; cases h3
    · simp [z1U]
  · obtain ⟨xs, _, rfl⟩ := hv a ha
    obtain ⟨ys, _, rfl⟩ := hv b hb
    rw [z5K, decide_eq_true_eq]
    refine ⟨fun h => by rw [h], fun h => ?_⟩
    have e := z5K xs ys
    rw [h, z5K, decide_eq_true rfl] at e
    exact of_decide_eq_true e.symm
theorem zed {P : Program} {w : World} {e : TypeId} {k : IntKind} (ue : P.underlying e = some (.int k)) {cs : Array Value} {v : Value} {i : Nat} (h : cs[i]? = some v) : (part e cs i).run P w = .ok v w := by
  simp [part, isAgg, run_underlying ue, h]
theorem z9N {P : Program} {w : World} {e : TypeId} (h : (P.info? e).map (·.size) = some 1) : (sizeOf e).run P w = .ok 1 w := by
  obtain ⟨i, h1, h2⟩ := Option.map_eq_some_iff.1 h
  simp [sizeOf, typeInfo, h1, h2]
theorem zlZ {P : Program} {e : TypeId} (n : Nat) (ue : P.underlying e = some (.int .i64)) (a b : Int) (w : World) : (Op.equalIn (n + 1) e (.int .i64 a) (.int .i64 b)).run P w = .ok (a == b) w := run_equalIn_int w n e .i64 .i64 a b ue
theorem z9k {P : Program} {w : World} {e : TypeId} (ue : P.underlying e = some (.int .i64)) {xs : List Int} {m : Nat} (h : m < xs.length) : (part e (xs.map (Value.int .i64)).toArray (m * 1)).run P w = .ok (.int .i64 xs[m]) w := zed ue (by simp [h])
theorem zik {P : Program} {w : World} {kt e : TypeId} {N : Nat} (n : Nat) (u2 : P.underlying kt = some (.array N e)) (ue : P.underlying e = some (.int .i64)) (hs : (P.info? e).map (·.size) = some 1) {xs ys : List Int} (hx : xs.length = N) (hy : ys.length = N) : (Op.equalIn (n + 2) kt (agI xs) (agI ys)).run P w = .ok (decide (xs = ys)) w := by
  unfold Op.equalIn agI
  simp only [Sem.run_bind, run_underlying u2, Result.andThen_ok, z9N hs]
  simp only [Std.Legacy.Range.forIn_eq_forIn_range', Std.Legacy.Range.size, Nat.sub_zero, Nat.add_one_sub_one, Nat.div_one]
  generalize hf : (fun (i : Nat) (__s : Option Bool × Unit) => do
    let a ← part e (List.map (Value.int IntKind.i64) xs).toArray (i * 1)
    let b ← part e (List.map (Value.int IntKind.i64) ys).toArray (i * 1)
    let c ← Op.equalIn (n + 1) e a b
    if (!c) = true then pure (ForInStep.done (some false, ())) else pure (ForInStep.yield (none, ()))) = f
  have key : ∀ k m, m + k = N -> (forIn (List.range' m k) ((none, ()) : Option Bool × Unit) f).run P w = .ok (if xs.drop m = ys.drop m then (none, ()) else (some false, ())) w := fun k => by
    induction k with
    | zero =>
      intro m hm
      rw [List.drop_of_length_le (by omega), List.drop_of_length_le (by omega)]
      simp
    | succ k ih =>
      intro m hm
      have h1 : m < xs.length := by omega
      have h2 : m < ys.length := by omega
      have hst : (f m (none, ())).run P w = .ok (if xs[m] = ys[m] then ForInStep.yield (none, ()) else ForInStep.done (some false, ())) w := by
        subst hf
        simp only [Sem.run_bind, z9k ue h1, z9k ue h2, Result.andThen_ok, zlZ n ue]
        by_cases h : xs[m] = ys[m] <;> simp [h]
      rw [List.range'_succ, List.forIn_cons, List.drop_eq_getElem_cons h1, List.drop_eq_getElem_cons h2]
      simp only [Sem.run_bind, hst, Result.andThen_ok, List.cons.injEq]
      by_cases h : xs[m] = ys[m]
      · simp only [h, if_true, true_and]
        exact ih (m + 1) (by omega)
      · simp only [h, if_false, false_and, Sem.run_pure]
  rw [key N 0 (by omega)]
  by_cases h : xs = ys <;> simp [h]
theorem zdy {P : Program} {w : World} {kt e : TypeId} {N : Nat} (n : Nat) (u2 : P.underlying kt = some (.array N e)) (ue : P.underlying e = some (.int .i64)) (hs : (P.info? e).map (·.size) = some 1) (em : Bool) {xs : List Int} (hx : xs.length = N) : (Instr.checkKey em (n + 2) kt (agI xs)).run P w = .ok () w := by
  unfold Instr.checkKey agI
  simp only [Sem.run_bind, run_underlying u2, Result.andThen_ok]
  simp only [Std.Legacy.Range.forIn_eq_forIn_range', Std.Legacy.Range.size, Nat.sub_zero, Nat.add_one_sub_one, Nat.div_one]
  have hc : ∀ x : Int, (Instr.checkKey em (n + 1) e (.int .i64 x)).run P w = .ok () w := fun x => by simp [Instr.checkKey, run_underlying ue]
  generalize hf : (fun (i : Nat) (__s : PUnit) => do
    let s ← sizeOf e
    let a ← part e (List.map (Value.int IntKind.i64) xs).toArray (i * s)
    Instr.checkKey em (n + 1) e a
    pure (ForInStep.yield PUnit.unit)) = f
  have key : ∀ k m, m + k = N -> (forIn (List.range' m k) PUnit.unit f).run P w = .ok PUnit.unit w := fun k => by
    induction k with
    | zero => intro m hm; simp
    | succ k ih =>
      intro m hm
      have h1 : m < xs.length := by omega
      rw [List.range'_succ, List.forIn_cons]
      have := ih (m + 1) (by omega)
      subst hf
      simp only [Sem.run_bind, z9N hs, z9k ue h1, Result.andThen_ok, hc, Sem.run_pure, this]
  rw [key N 0 (by omega)]
  simp
theorem zeb : ∀ xs : List Int, ((xs.map (Value.int .i64)).zip (xs.map (Value.int .i64))).all (fun (x, y) => Instr.sameBits 9999 x y) = true := fun xs => by
  induction xs with
  | nil => rfl
  | cons x xs ih => simp only [List.map_cons, List.zip_cons_cons, List.all_cons, ih, Bool.and_true]; simp [Instr.sameBits]
theorem zfL {P : Program} {w : World} (xs : List Int) : (Instr.keyThatStays (agI xs) (agI xs)).run P w = .ok (agI xs) w := by
  have h : Instr.sameBits (9999 + 1) (agI xs) (agI xs) = true := by
    simp only [agI, Instr.sameBits, beq_self_eq_true, Bool.true_and]
    exact zeb xs
  unfold Instr.keyThatStays
  rw [if_pos h]
  rfl
theorem zjL {P : Program} {w : World} {kt e : TypeId} {N : Nat} (u2 : P.underlying kt = some (.array N e)) (ue : P.underlying e = some (.int .i64)) (hs : (P.info? e).map (·.size) = some 1) {xs ys : List Int} (hx : xs.length = N) (hy : ys.length = N) : (Op.equal kt (agI xs) (agI ys)).run P w = .ok (decide (xs = ys)) w := zik 9998 u2 ue hs hx hy
theorem z3H {P : Program} {w : World} {kt : TypeId} {kk : Option IntKind} {k : Value} (hk : KOk P kt kk) (hv : z4Y kk k = true) (em : Bool) : (Instr.checkKey em 10000 kt k).run P w = .ok () w := by
  rcases hk with ⟨d, hu, hd⟩ | ⟨N, e, ha, u2, ue, hs⟩
  · exact run_checkKey hu (z4o hd hv) em 9999
  · obtain ⟨xs, hx, rfl⟩ := ha k hv
    exact zdy 9998 u2 ue hs em hx
theorem zbG {P : Program} {w : World} {kt : TypeId} {kk : Option IntKind} {k : Value} (hk : KOk P kt kk) (hv : z4Y kk k = true) : (Instr.keyThatStays k k).run P w = .ok k w := by
  rcases hk with ⟨d, hu, hd⟩ | ⟨N, e, ha, u2, ue, hs⟩
  · exact run_keyThatStays (z4o hd hv)
  · obtain ⟨xs, hx, rfl⟩ := ha k hv
    exact zfL xs
theorem zfq {P : Program} {kt e : TypeId} {N : Nat} (u2 : P.underlying kt = some (.array N e)) (ue : P.underlying e = some (.int .i64)) (hs : (P.info? e).map (·.size) = some 1) {k : Value} (hk : AK N k) : ∀ (l : List MapEntry) (i : Nat), (∀ x ∈ l, AK N x.key) ->
    ((∀ w, (Instr.findAsking kt k l i).run P w = .ok none w) /\ ∀ e ∈ l, z1U e.key k = false) ∨ ∃ j e, (∀ w, (Instr.findAsking kt k l i).run P w = .ok (some (i + j, e.val)) w) /\ l[j]? = some e /\ e.key = k /\ ∀ i < j, ∀ e', l[i]? = some e' -> z1U e'.key k = false
  | [], i, _ => .inl ⟨fun w => rfl, fun e he => by cases he⟩
  | x :: l, i, h => by
    obtain ⟨xs, h1, rfl⟩ := hk
    obtain ⟨ys, h2, hx⟩ := h x (.head _)
    have hstep : ∀ w, (Instr.findAsking kt (agI xs) (x :: l) i).run P w = if xs = ys then .ok (some (i, x.val)) w else (Instr.findAsking kt (agI xs) l (i + 1)).run P w := fun w => by
      simp only [Instr.findAsking, hx, Sem.run_bind, zjL u2 ue hs h1 h2, Result.andThen_ok, decide_eq_true_eq]
      split <;> rfl
    by_cases hc : xs = ys
    · refine .inr ⟨0, x, fun w => by rw [hstep, if_pos hc]; rfl, rfl, ?_, fun i' hi => by omega⟩
      rw [hx, hc]
    · have hne : z1U x.key (agI xs) = false := by
        rw [hx, z5K, decide_eq_false fun h => hc h.symm]
      rcases zfq u2 ue hs (k := agI xs) ⟨xs, h1, rfl⟩ l (i + 1) (fun y hy => h y (.tail _ hy)) with ⟨h1, h2⟩ | ⟨j, e', h1, h2, h3, h4⟩
      · refine .inl ⟨fun w => by rw [hstep, if_neg hc]; exact h1 w, fun e he => ?_⟩
        rcases List.mem_cons.1 he with rfl | he
        · exact hne
        · exact h2 e he
      · refine .inr ⟨j + 1, e', fun w => by rw [hstep, if_neg hc, h1, show i + 1 + j = i + (j + 1) by omega], by simpa using h2, h3, fun i' hi e'' he => ?_⟩
        cases i' with
        | zero => simp at he; subst he; exact hne
        | succ i' => exact h4 i' (by omega) e'' (by simpa using he)
theorem z8n {k : Value} : ∀ {l : List MapEntry}, (∀ e ∈ l, z1U e.key k = false) -> z2e k (l.map fun e => (e.key, e.val)) = none /\ ∀ v, z8c k v (l.map fun e => (e.key, e.val)) = (l.map fun e => (e.key, e.val)) ++ [(k, v)]
  | [], _ => ⟨rfl, fun _ => rfl⟩
  | e :: es, h => by
    have e2 := h e (.head _)
    obtain ⟨h1, h2⟩ := z8n (l := es) fun x hx => h x (.tail _ hx)
    exact ⟨by simp [z2e, e2, h1], fun v => by simp [z8c, e2, h2]⟩
theorem z8m {k : Value} (hkk : z1U k k = true) : ∀ {l : List MapEntry} {j : Nat} {e : MapEntry}, l[j]? = some e -> e.key = k -> (∀ i < j, ∀ e', l[i]? = some e' -> z1U e'.key k = false) -> z2e k (l.map fun e => (e.key, e.val)) = some e.val /\ ∀ v, z8c k v (l.map fun e => (e.key, e.val)) = (l.map fun e => (e.key, e.val)).set j (k, v)
  | [], j, e, h, _, _ => by simp at h
  | x :: es, 0, e, h, he, _ => by
    simp at h; subst h; subst he
    exact ⟨by simp [z2e, hkk], fun v => by simp [z8c, hkk]⟩
  | x :: es, j + 1, e, h, he, hb => by
    have e2 := hb 0 (by omega) x rfl
    obtain ⟨h1, h2⟩ := z8m hkk (l := es) (j := j) (by simpa using h) he fun i hi e' h' => hb (i + 1) (by omega) e' (by simpa using h')
    exact ⟨by simp [z2e, e2, h1], fun v => by simp [z8c, e2, h2]⟩
theorem zer {d : TypeDesc} {kk : Option IntKind} {k : Value} (hke : ∀ a, z4Y kk a = true -> (z1U a k = true ↔ a = k)) (hd : ziK d = some kk) (hk : z4Y kk k = true) : ∀ (l : List MapEntry) (i : Nat), (∀ x ∈ l, z4Y kk x.key = true) ->
    (Instr.findNow d k l i = some none /\ ∀ e ∈ l, z1U e.key k = false) ∨ ∃ j e, Instr.findNow d k l i = some (some (i + j, e.val)) /\ l[j]? = some e /\ e.key = k /\ ∀ i < j, ∀ e', l[i]? = some e' -> z1U e'.key k = false
  | [], i, h => .inl ⟨rfl, fun e he => by cases he⟩
  | e :: es, i, h => by
    have he := h e (.head _)
    obtain ⟨r, hr, hiff⟩ := sameNow_of_keys (z4o hd hk) (z4o hd he)
    cases r with
    | true =>
      have e1 : e.key = k := (hiff.1 rfl).symm
      exact .inr ⟨0, e, by simp [Instr.findNow, hr], rfl, e1, fun i' hi => by omega⟩
    | false =>
      have e2 : z1U e.key k = false := by
        rw [← Bool.not_eq_true]; intro q; have := hiff.2 ((hke _ he).1 q).symm; cases this
      rcases zer hke hd hk es (i + 1) (fun x hx => h x (.tail _ hx)) with ⟨h1, h2⟩ | ⟨j, e', h1, h2, h3, h4⟩
      · refine .inl ⟨by simp [Instr.findNow, hr, h1], fun x hx => ?_⟩
        rcases List.mem_cons.1 hx with rfl | hx
        · exact e2
        · exact h2 x hx
      · refine .inr ⟨j + 1, e', by simp [Instr.findNow, hr, h1]; omega, by simpa using h2, h3, fun i' hi e'' h' => ?_⟩
        cases i' with
        | zero => simp at h'; subst h'; exact e2
        | succ i' => exact h4 i' (by omega) e'' (by simpa using h')
theorem z7u {P : Program} {kt : TypeId} {kk : Option IntKind} {k : Value} (hk : KOk P kt kk) (hv : z4Y kk k = true) (l : List MapEntry) (hl : ∀ x ∈ l, z4Y kk x.key = true) :
    ((∀ w, (Instr.findKey kt k l).run P w = .ok none w) /\ ∀ e ∈ l, z1U e.key k = false) ∨ ∃ j e, (∀ w, (Instr.findKey kt k l).run P w = .ok (some (j, e.val)) w) /\ l[j]? = some e /\ e.key = k /\ ∀ i < j, ∀ e', l[i]? = some e' -> z1U e'.key k = false := by
  have hke : ∀ a, z4Y kk a = true -> (z1U a k = true ↔ a = k) := fun a ha => z7j hk ha hv
  rcases hk with ⟨d, hu, hd⟩ | ⟨N, e, ha, u2, ue, hs⟩
  · rcases zer hke hd hv l 0 hl with ⟨h1, h2⟩ | ⟨j, e, h1, h2⟩
    · exact .inl ⟨fun w => run_findKey hu h1, h2⟩
    · exact .inr ⟨j, e, fun w => by rw [run_findKey hu h1, Nat.zero_add], h2⟩
  · have hw : ∀ w, (Instr.findKey kt k l).run P w = (Instr.findAsking kt k l 0).run P w := fun w => run_findKey_eq w (by rw [u2]) k l
    rcases zfq u2 ue hs (ha k hv) l 0 (fun x hx => ha _ (hl x hx)) with ⟨h1, h2⟩ | ⟨j, e, h1, h2⟩
    · exact .inl ⟨fun w => (hw w).trans (h1 w), h2⟩
    · exact .inr ⟨j, e, fun w => by rw [hw, h1, Nat.zero_add], h2⟩
theorem zcd {P : Program} {kt : TypeId} {kk : Option IntKind} {k : Value} (hk : KOk P kt kk) (hv : z4Y kk k = true) (l : List MapEntry) (hl : ∀ x ∈ l, z4Y kk x.key = true) :
    ((∀ w, (Instr.findKey kt k l).run P w = .ok none w) /\ z2e k (l.map fun e => (e.key, e.val)) = none /\ ∀ v, z8c k v (l.map fun e => (e.key, e.val)) = (l.map fun e => (e.key, e.val)) ++ [(k, v)]) ∨
    ∃ j e, (∀ w, (Instr.findKey kt k l).run P w = .ok (some (j, e.val)) w) /\ l[j]? = some e /\ e.key = k /\ z2e k (l.map fun e => (e.key, e.val)) = some e.val /\ ∀ v, z8c k v (l.map fun e => (e.key, e.val)) = (l.map fun e => (e.key, e.val)).set j (k, v) := by
  rcases z7u hk hv l hl with ⟨h1, h2⟩ | ⟨j, e, h1, h2, h3, h4⟩
  · exact .inl ⟨h1, z8n h2⟩
  · exact .inr ⟨j, e, h1, h2, h3, z8m ((z7j hk hv hv).2 rfl) h2 h3 h4⟩
def zj8 (fr : Fr) : E -> Option (Option Nat × Option IntKind × List (Value × Value))
  | .one (.t dep (.mr kk es)) => some (dep, kk, es)
  | .one (.h id p) => match z0v fr.ob id with
    | none => none
    | some root => match sub root p with
      | some (.mp kk es) => some (some id, kk, es)
      | some (.mr kk es) => some (none, kk, es)
      | _ => none
  | _ => none
theorem z9R {w : World} {K : Nat -> z0a} {R G : Nat -> Value} {fr : Fr} {a : Act} {e : E} {u : Value} {dep : Option Nat} {kk : Option IntKind} {es : List (Value × Value)} (h : FRep w K R G fr a) (he : ERep w K R fr.ob e u) (hr : zj8 fr e = some (dep, kk, es)) :
    ∃ g ents clock, u = .map (some g) /\ frz K dep g = [] /\ w.heap[g]? = some (.map ents clock) /\ zdD kk ents clock es := by
  unfold zj8 at hr
  split at hr
  · cases hr
    have h1 := he.1
    cases h1 with
    | mr _ g _ _ ents clock hK hg hh => exact ⟨g, ents, clock, rfl, hK, hg, hh⟩
  · rename_i id p
    split at hr
    case h_1 => cases hr
    case h_2 root hroot =>
    obtain ⟨n1, t, n2, n3⟩ := he
    split at hr
    · rename_i kk' es' hsub
      cases hr
      obtain ⟨v, e1, r⟩ := (h.ob id root hroot).sub (z0q id) hsub
      rw [n1] at e1; cases e1
      cases r with
      | mp _ g _ _ ents clock hc0 hK hg hh => exact ⟨g, ents, clock, rfl, by simp [frz, hK, col], hg, hh⟩
    · rename_i kk' es' hsub
      cases hr
      obtain ⟨v, e1, r⟩ := (h.ob id root hroot).sub (z0q id) hsub
      rw [n1] at e1; cases e1
      cases r with
      | mr _ g _ _ ents clock hK hg hh => exact ⟨g, ents, clock, rfl, hK, hg, hh⟩
    · cases hr
  · cases hr
def zaB (P : Program) (t : TypeId) : Option Value := match P.info? t with | some i => i.zero | none => none
theorem z6Z {P : Program} {t : TypeId} {z : Value} (h : zaB P t = some z) (w : World) : (zeroValue t).run P w = .ok z w := by
  unfold zaB at h
  split at h
  · rename_i i hi
    simp [zeroValue, typeInfo, hi, h, Sem.run]
  · cases h
def z5o (P : Program) (t : TypeId) : Option (Option IntKind × TypeId) :=
  match z0z P t with
  | some ⟨.map kt et, _, _, _⟩ => match z0z P kt with
    | some ⟨.array 2 e, _, _, _⟩ => match z0z P e with
      | some ⟨.int .i64, 1, _, _⟩ => some (some .i8, et)
      | _ => none
    | some ⟨.array 7 e, _, _, _⟩ => match z0z P e with
      | some ⟨.int .i64, 1, _, _⟩ => some (some .i16, et)
      | _ => none
    | some ki => match ziK ki.u with
      | some kk => some (kk, et)
      | none => none
    | none => none
  | _ => none
theorem z1D {P : Program} {t et : TypeId} {kk : Option IntKind} (h : z5o P t = some (kk, et)) : ∃ kt, P.underlying t = some (.map kt et) /\ KOk P kt kk := by
  unfold z5o at h
  split at h
  · rename_i kt et' s b z ht
    split at h
    · rename_i e s1 b1 z1 hki
      split at h
      · rename_i b2 z2 he
        cases h
        obtain ⟨h1, j, h2, h3, _⟩ := z0L he
        exact ⟨kt, (z0L ht).1, .inr ⟨2, e, fun v hv => zd1 hv, (z0L hki).1, h1, by rw [h2]; exact congrArg some h3⟩⟩
      · cases h
    · rename_i e s1 b1 z1 hki
      split at h
      · rename_i b2 z2 he
        cases h
        obtain ⟨h1, j, h2, h3, _⟩ := z0L he
        exact ⟨kt, (z0L ht).1, .inr ⟨7, e, fun v hv => zfs hv, (z0L hki).1, h1, by rw [h2]; exact congrArg some h3⟩⟩
      · cases h
    · rename_i ki hne hne2 hki
      split at h
      · rename_i kk' hkk
        cases h
        exact ⟨kt, (z0L ht).1, .inl ⟨ki.u, (z0L hki).1, hkk⟩⟩
      · cases h
    · cases h
  · cases h
def zbd : List T -> Option (List Int)
  | [] => some []
  | .sc (.int .i64 x) :: r => (zbd r).map (x :: ·)
  | _ => none
theorem zeJ (xs : List Int) : zbd (xs.map fun x => .sc (.int .i64 x)) = some xs := by
  induction xs with
  | nil => rfl
  | cons x xs ih => simp [zbd, ih]
theorem z8k : ∀ {cs : List T} {xs : List Int}, zbd cs = some xs -> cs = xs.map fun x => .sc (.int .i64 x)
  | [], xs, h => by cases h; rfl
  | .sc (.int .i64 x) :: r, xs, h => by
    simp only [zbd, Option.map_eq_some_iff] at h
    obtain ⟨ys, h1, rfl⟩ := h
    rw [z8k h1]; rfl
def zlk (cs : List T) : Option Value :=
  if cs.length = 2 then (match cs with | [.sc a, .sc b] => some (.agg #[a, b]) | _ => none) else (zbd cs).map agI
def rdK : E -> Option Value
  | .ag [x, y] => (match rdV (.one x), rdV (.one y) with | some a, some b => some (.agg #[a, b]) | _, _ => none)
  | .one (.t none (.agg cs)) => zlk cs
  | e => rdV e
theorem z5k {w : World} {K : Nat -> z0a} {R : Nat -> Value} {ob : List (Nat × T)} {e : E} {u k : Value} (h : ERep w K R ob e u) (hr : rdK e = some k) : u = k := by
  unfold rdK at hr
  split at hr
  · rename_i x y
    split at hr
    · rename_i a b ha hb
      cases hr
      obtain ⟨arr, rfl, h1, h2⟩ := h
      have e0 : ERep w K R ob (.one x) (arr.getD 0 undef) := h2 0 x rfl
      have e1 : ERep w K R ob (.one y) (arr.getD 1 undef) := h2 1 y rfl
      have d0 := (z0n e0 ha).1
      have d1 := (z0n e1 hb).1
      obtain ⟨l⟩ := arr
      match l, h1 with
      | [p, q], _ =>
        have d0 : p = a := d0
        have d1 : q = b := d1
        subst d0 d1
        rfl
    · cases hr
  · rename_i cs0
    have h1 := h.1
    unfold zlk at hr
    split at hr
    rotate_left
    · rw [Option.map_eq_some_iff] at hr
      obtain ⟨xs, hx, rfl⟩ := hr
      have hcs := z8k hx
      generalize hT : T.agg cs0 = t at h1
      cases h1 with
      | agg c vs cs F hl hF hh =>
        cases hT
        subst hcs
        unfold agI
        congr 1
        refine Array.ext (by simpa using hl) fun i i1 i2 => ?_
        have hi : i < xs.length := by simpa using i2
        have g := (hh i _ (by simp [hi]; rfl)).sc_eq
        have f := hF i (by simpa using hi)
        rw [Array.getElem?_eq_getElem i1] at f
        rw [Option.some.inj f, g]
        simp
      | _ => cases hT
    split at hr
    rotate_left
    · cases hr
    rename_i a b _
    cases hr
    generalize hT : T.agg [.sc a, .sc b] = t at h1
    cases h1 with
    | agg c vs cs F hl hF hh =>
      cases hT
      have g0 := (hh 0 _ rfl).sc_eq
      have g1 := (hh 1 _ rfl).sc_eq
      have f0 := hF 0 (by simp)
      have f1 := hF 1 (by simp)
      obtain ⟨l⟩ := vs
      match l, hl with
      | [p, q], _ =>
        simp at f0 f1
        rw [f0, f1, g0, g1]
    | _ => cases hT
  · exact (z0n h hr).1
def z8L (P : Program) (M : Nat -> Bool) (fr : Fr) (t : TypeId) (x key : E) (ok : Bool) : Option E :=
  match z5o P t with
  | none => none
  | some (kk, et) => match zaB P et with
    | none => none
    | some z => match zj8 fr x with
      | none => (match rdV x, rdK key with
        | some (.map none), some k => if z4Y kk k = true /\ scB z = true then (if ok then some (.one (.t none (.tup [.sc z, .sc (.bool false)]))) else some (scE z)) else none
        | _, _ => none)
      | some (dep, kk', es) => match rdK key with
        | none => none
        | some k => if kk = kk' /\ z4Y kk k = true /\ scB z = true /\ z9b dep M = false then
            (if ok then some (.one (.t none (.tup [.sc ((z2e k es).getD z), .sc (.bool (z2e k es).isSome)]))) else some (scE ((z2e k es).getD z)))
          else none
theorem zaf {k v : Value} : ∀ {es : List (Value × Value)}, z2e k es = some v -> ∃ x ∈ es, x.2 = v
  | [], h => by cases h
  | (a, u) :: r, h => by
    simp only [z2e] at h
    split at h
    · cases h; exact ⟨_, .head _, rfl⟩
    · obtain ⟨x, hx, e⟩ := zaf h
      exact ⟨x, .tail _ hx, e⟩
theorem zd6 {P : Program} {w : World} {K : Nat -> z0a} {R G : Nat -> Value} {fr : Fr} {a : Act} {M : Nat -> Bool} {t : TypeId} {x key e : E} {u ku : Value} {ok : Bool} (h : FRep w K R G fr a) (hx : ERep w K R fr.ob x u) (hkey : ERep w K R fr.ob key ku) (hl : z8L P M fr t x key ok = some e) :
    ∃ v, ERep w K R fr.ob e v /\ ∀ w', Stay w w' K M -> (Instr.lookup t u ku ok).run P w' = .ok v w' := by
  unfold z8L at hl
  split at hl
  case h_1 => cases hl
  case h_2 kk et ht =>
  split at hl
  case h_1 => cases hl
  case h_2 z hz =>
  split at hl
  case h_1 =>
    split at hl
    case h_2 => cases hl
    case h_1 k hv hk =>
    split at hl
    case isFalse => cases hl
    case isTrue hc =>
    obtain ⟨kt, u1, u3⟩ := z1D ht
    obtain rfl := z5k hkey hk
    obtain rfl := (z0n hx hv).1
    have hfd : ∀ w', (Instr.findKey kt ku []).run P w' = .ok none w' := by
      rcases z7u u3 hc.1 [] (fun x hx => by cases hx) with ⟨h1, -⟩ | ⟨j, e', -, h2, -⟩
      · exact h1
      · simp at h2
    have hrun : ∀ w', (Instr.lookup t (.map none) ku ok).run P w' = .ok (if ok then .tuple #[z, .bool false] else z) w' := fun w' => by
      simp only [Instr.lookup, Sem.run_bind, run_underlying u1, Result.andThen_ok, Sem.run_pure]
      rw [z3H u3 hc.1]
      simp only [Result.andThen_ok, hfd, z6Z hz, Sem.run_bind, Sem.run_pure]
    cases ok with
    | true =>
      simp only [if_true, Option.some.injEq] at hl
      subst hl
      refine ⟨_, ⟨?_, fun _ e => by cases e⟩, fun w' _ => hrun w'⟩
      refine .tup _ _ _ (fun j => if j = 0 then z else .bool false) rfl (fun j hj => ?_) (fun j t ht => ?_)
      · match j, hj with
        | 0, _ => rfl
        | 1, _ => rfl
      · match j, ht with
        | 0, ht => cases ht; exact .sc _ _ hc.2
        | 1, ht => cases ht; exact .sc _ _ rfl
    | false =>
      simp only [Bool.false_eq_true, if_false, Option.some.injEq] at hl
      subst hl
      exact ⟨_, z0N hc.2, fun w' _ => by simpa using hrun w'⟩
  case h_2 dep kk' es hrd =>
  split at hl
  case h_1 => cases hl
  case h_2 k hk =>
  split at hl
  case isFalse => cases hl
  case isTrue hc =>
  obtain ⟨rfl, hkb, hzb, hdep⟩ := hc
  obtain ⟨kt, u1, u3⟩ := z1D ht
  obtain rfl := z5k hkey hk
  obtain ⟨g, ents, clock, rfl, hKg, hg, hm1, hm2, hm3, hm4⟩ := z9R h hx hrd
  subst hm1
  have hks : ∀ x ∈ ents.toList, z4Y kk x.key = true := fun x hx => (hm2 (x.key, x.val) (List.mem_map.2 ⟨x, hx, rfl⟩)).1
  have hstay : ∀ w', Stay w w' K M -> w'.heap[g]? = some (.map ents clock) := fun w' hst => by
    have := hst.dep hdep (z0f hg) hKg
    rw [this]; exact hg
  have hfv : ∀ v, z2e ku (ents.toList.map fun e => (e.key, e.val)) = some v -> scB v = true := fun v hv => by
    obtain ⟨x, hx, rfl⟩ := zaf hv
    exact (hm2 x hx).2
  have hres : scB ((z2e ku (ents.toList.map fun e => (e.key, e.val))).getD z) = true := by
    cases hfd : z2e ku (ents.toList.map fun e => (e.key, e.val)) with
    | none => exact hzb
    | some v => exact hfv v hfd
  have hrun : ∀ w', Stay w w' K M -> (Instr.lookup t (.map (some g)) ku ok).run P w' = .ok (if ok then .tuple #[(z2e ku (ents.toList.map fun e => (e.key, e.val))).getD z, .bool (z2e ku (ents.toList.map fun e => (e.key, e.val))).isSome] else (z2e ku (ents.toList.map fun e => (e.key, e.val))).getD z) w' := fun w' hst => by
    have hb := hstay w' hst
    rcases zcd u3 hkb ents.toList hks with ⟨h1, h2, -⟩ | ⟨j, e', h1, h2, h3, h4, -⟩
    · rw [h2]
      simp only [Instr.lookup, Sem.run_bind, run_underlying u1, Go.MapKept.run_getObj_map hb, Result.andThen_ok, Sem.run_pure]
      rw [z3H u3 hkb]
      simp only [Result.andThen_ok, h1, z6Z hz, Sem.run_bind, Sem.run_pure]
      rfl
    · rw [h4]
      simp only [Instr.lookup, Sem.run_bind, run_underlying u1, Go.MapKept.run_getObj_map hb, Result.andThen_ok, Sem.run_pure]
      rw [z3H u3 hkb]
      simp only [Result.andThen_ok, h1, Sem.run_bind, Sem.run_pure]
      rfl
  cases ok with
  | true =>
    simp only [if_true, Option.some.injEq] at hl
    subst hl
    refine ⟨_, ⟨?_, fun _ e => by cases e⟩, hrun⟩
    refine .tup _ _ _ (fun j => if j = 0 then (z2e ku (ents.toList.map fun e => (e.key, e.val))).getD z else .bool (z2e ku (ents.toList.map fun e => (e.key, e.val))).isSome) rfl (fun j hj => ?_) (fun j t ht => ?_)
    · match j, hj with
      | 0, _ => rfl
      | 1, _ => rfl
    · match j, ht with
      | 0, ht => cases ht; exact .sc _ _ hres
      | 1, ht => cases ht; exact .sc _ _ rfl
  | false =>
    simp only [Bool.false_eq_true, if_false, Option.some.injEq] at hl
    subst hl
    exact ⟨_, z0N hres, fun w' hst => by simpa using hrun w' hst⟩
def z8H (P : Program) (M : Nat -> Bool) (fr : Fr) (t : TypeId) (x : E) : Option E :=
  match z5o P t with
  | none => none
  | some _ => match zj8 fr x with
    | none => none
    | some (dep, _, es) => if z9b dep M = false then some (scE (.int .i64 es.length)) else none
theorem zd5 {P : Program} {w : World} {K : Nat -> z0a} {R G : Nat -> Value} {fr : Fr} {a : Act} {M : Nat -> Bool} {t : TypeId} {x e : E} {u : Value} (h : FRep w K R G fr a) (hx : ERep w K R fr.ob x u) (hl : z8H P M fr t x = some e) :
    ∃ v, ERep w K R fr.ob e v /\ ∀ w', Stay w w' K M -> ∀ ty, (Builtin.len_ #[t] ty #[u]).run P w' = .ok v w' := by
  unfold z8H at hl
  split at hl
  case h_1 => cases hl
  case h_2 q ht =>
  split at hl
  case h_1 => cases hl
  case h_2 dep kk es hrd =>
  split at hl
  case isFalse => cases hl
  case isTrue hdep =>
  cases hl
  obtain ⟨kk', et⟩ := q
  obtain ⟨kt, u1, u3⟩ := z1D ht
  obtain ⟨g, ents, clock, rfl, hKg, hg, hm1, hm2, hm3, hm4⟩ := z9R h hx hrd
  refine ⟨_, z0N rfl, fun w' hst ty => ?_⟩
  have hb : w'.heap[g]? = some (.map ents clock) := by rw [hst.dep hdep (z0f hg) hKg]; exact hg
  have hlen : es.length = ents.size := by rw [← hm1]; simp
  simp [Builtin.len_, Sem.run_bind, run_underlying u1, Go.MapKept.run_getObj_map hb, Result.andThen_ok, Sem.run_pure, goInt, hlen]
def z4W (id : Nat) : A -> A
  | .t (some i) x => if i = id then .dead else .t (some i) x
  | .ea (some i) cs o => if i = id then .dead else .ea (some i) cs o
  | x => x
theorem FRep.mapset {w w' : World} {K : Nat -> z0a} {R G : Nat -> Value} {fr : Fr} {a : Act} {id : Nat} {p : List Nat} {root root' : T} {kk : Option IntKind} {es es' : List (Value × Value)} {g : Nat} {ents ents' : Array MapEntry} {clock clock' : Nat}
    (h : FRep w K R G fr a) (hroot : z0v fr.ob id = some root) (hbox : sub root p = some (.mp kk es)) (hupd : upd root p (.mp kk es') = some root') (hnav : nav w (R id) p = some (.map (some g)))
    (hg : w.heap[g]? = some (.map ents clock)) (hg' : w'.heap[g]? = some (.map ents' clock')) (hh : zdD kk ents' clock' es') (hsz : w'.heap.size = w.heap.size) (hoth : ∀ b, b ≠ g -> w'.heap[b]? = w.heap[b]?) :
    FRep w' K R G { fr with tm := z2k (z4W id) fr.tm, ob := z1Z fr.ob id root' } a := by
  have hrt := h.ob id root hroot
  obtain ⟨hv2, hnav2, hrep⟩ := hrt.sub (z0q id) hbox
  rw [hnav] at hnav2; cases hnav2
  have hKg : K g = col id ++ p := by cases hrep with | mp _ g _ _ ents clock hc0 hK hg hh => exact hK
  have hne : ∀ b i s, K b = (i + 2) :: s -> i ≠ id -> b ≠ g := fun b i s e1 e2 e3 => by
    subst e3; rw [hKg] at e1; simp [col] at e1; exact e2 e1.1.symm
  have hne0 : ∀ b, K b = [] -> b ≠ g := fun b e1 e3 => by subst e3; rw [hKg] at e1; simp [col] at e1
  have hfro : ∀ b, b < w.heap.size -> K b = [] -> K b = [] /\ w'.heap[b]? = w.heap[b]? := fun b hb e1 => ⟨e1, hoth b (hne0 b e1)⟩
  have hcell : ∀ gb j, w'.cell? ⟨gb, j, none⟩ = w.cell? ⟨gb, j, none⟩ := fun gb j => by
    by_cases e1 : gb = g
    · subst e1; simp [World.cell?, hg, hg']
    · exact z0l (hoth gb e1) j
  have hway : ∀ i t q, z0v fr.ob i = some t -> (sub t q).isSome -> nav w' (R i) q = nav w (R i) q := fun i t q ho hs =>
    z2O (h.ob i t ho) (z0q i) hs fun r j s gb hq hKb hb => hcell gb j
  have hsub : ∀ q, (sub root q).isSome -> (sub root' q).isSome := fun q hs => by
    by_cases hp : p <+: q
    · obtain ⟨s, rfl⟩ := hp
      rw [z2g hupd]
      rw [z1j hbox] at hs
      cases s with
      | nil => simp [sub]
      | cons j s => simp [sub, zaz] at hs
    · exact z1a hupd hp hs
  have hdep : ∀ i, i ≠ id -> ∀ b, b < w.heap.size -> frz K (some i) b = [] -> frz K (some i) b = [] /\ w'.heap[b]? = w.heap[b]? := fun i hi b hb e1 => by
    refine ⟨e1, ?_⟩
    simp only [frz] at e1
    split at e1
    · rename_i hh
      obtain ⟨s, hs⟩ : ∃ s, K b = (i + 2) :: s := by
        cases hk : K b with
        | nil => rw [hk] at hh; cases hh
        | cons a s => rw [hk] at hh; simp at hh; subst hh; exact ⟨s, rfl⟩
      exact hoth b (hne b i s hs hi)
    · exact (hfro b hb e1).2
  have hobi : ∀ i, i ≠ id -> z0v (z1Z fr.ob id root') i = z0v fr.ob i := fun i hi => by rw [z0e, if_neg (fun e => hi e.symm)]
  refine ⟨fun i => ?_, fun i t ho => ?_, h.nt, h.df⟩
  · show ERep w' K R (z1Z fr.ob id root') (z0E (z2k (z4W id) fr.tm) i) _
    rw [z1F _ rfl]
    refine (h.tm i).map _ fun x u hx => ?_
    cases x with
    | dead => trivial
    | k v => exact hx
    | t dep x =>
      cases dep with
      | none => exact ⟨TRep.fz hx.1 hfro (by omega), fun _ e => by cases e⟩
      | some i =>
        by_cases hi : i = id
        · simp only [z4W, if_pos hi]; trivial
        · simp only [z4W, if_neg hi]
          exact ⟨TRep.fz hx.1 (fun b hb e1 => hdep i hi b hb e1) (by omega), fun _ e => by cases e; rw [hobi i hi]; exact hx.2 i rfl⟩
    | h i q =>
      obtain ⟨n1, t, n2, n3⟩ := hx
      refine ⟨by rw [hway i t q n2 n3]; exact n1, ?_⟩
      by_cases hi : i = id
      · subst hi
        rw [hroot] at n2; cases n2
        exact ⟨root', by simp [z0e], hsub q n3⟩
      · exact ⟨t, by rw [hobi i hi]; exact n2, n3⟩
    | a i q o =>
      obtain ⟨hv, g, n1, n4, n5, t, n2, n3⟩ := hx
      refine ⟨hv, g, by rw [hway i t q n2 n3]; exact n1, n4, n5, ?_⟩
      by_cases hi : i = id
      · subst hi
        rw [hroot] at n2; cases n2
        exact ⟨root', by simp [z0e], hsub q n3⟩
      · exact ⟨t, by rw [hobi i hi]; exact n2, n3⟩
    | tf n cs => exact ⟨hx.1, TRep.fz hx.2 hfro (by omega)⟩
    | ea dep cs o =>
      obtain ⟨g, o, F, e1, e2, e3, e4, e5, e6⟩ := hx
      cases dep with
      | none => exact ⟨g, o, F, e1, e2, by omega, fun j hj => by rw [hcell]; exact e4 j hj, fun j t ht => TRep.fz (e5 j t ht) hfro (by omega), fun _ e => by cases e⟩
      | some i =>
        by_cases hi : i = id
        · simp only [z4W, if_pos hi]; trivial
        · simp only [z4W, if_neg hi]
          exact ⟨g, o, F, e1, e2, by omega, fun j hj => by rw [hcell]; exact e4 j hj, fun j t ht => TRep.fz (e5 j t ht) (fun b hb e1 => hdep i hi b hb e1) (by omega), fun _ e => by cases e; rw [hobi i hi]; exact e6 i rfl⟩
  · rw [z0e] at ho
    split at ho
    · rename_i e1
      subst e1; cases ho
      refine TRep.upd hrt (z0q id) hnav hupd ⟨hfro, fun b hb ⟨s, e1, hs⟩ => ?_, by omega⟩ (.mp _ g kk es' ents' clock' (by simp [col]) hKg hg' hh)
      have hb' : b ≠ g := fun e2 => by subst e2; rw [hKg] at e1; exact hs (by rw [List.append_cancel_left e1]; exact List.prefix_rfl)
      exact ⟨rfl, hoth b hb'⟩
    · rename_i e1
      refine (h.ob i t ho).keep (D := But id) ⟨hfro, fun b hb ⟨j, s, e2, hj⟩ => ⟨rfl, hoth b (hne b j s e2 hj)⟩, by omega⟩ (fun s _ => ⟨i, s, rfl, fun e => e1 e.symm⟩)
def z8F (P : Program) (fr : Fr) (t : TypeId) (m key val : E) : Option Fr :=
  match z5o P t with
  | none => none
  | some (kk, _) => match m with
    | .one (.h id p) => match z0v fr.ob id with
      | none => none
      | some root => match sub root p with
        | some (.mp kk' es) => match rdK key, rdV val with
          | some k, some v => if kk = kk' /\ z4Y kk k = true then (match upd root p (.mp kk (z8c k v es)) with
              | some root' => some { fr with tm := z2k (z4W id) fr.tm, ob := z1Z fr.ob id root' }
              | none => none) else none
          | _, _ => none
        | _ => none
    | _ => none
theorem zd4 {P : Program} {w : World} {K : Nat -> z0a} {R G : Nat -> Value} {fr fr' : Fr} {a : Act} {t : TypeId} {m key val : E} {um uk uv : Value} (h : FRep w K R G fr a) (hm : ERep w K R fr.ob m um) (hk : ERep w K R fr.ob key uk) (hv : ERep w K R fr.ob val uv) (hf : z8F P fr t m key val = some fr') :
    ∃ w', (Instr.mapUpdate t um uk uv).run P w = .ok () w' /\ FRep w' K R G fr' a /\ Step w K w' K /\ ∀ b i s, K b = (i + 2) :: s -> (∀ id p, m = .one (.h id p) -> i ≠ id) -> w'.heap[b]? = w.heap[b]? := by
  unfold z8F at hf
  split at hf
  case h_1 => cases hf
  case h_2 kk et ht =>
  split at hf
  case h_2 => cases hf
  case h_1 id p =>
  split at hf
  case h_1 => cases hf
  case h_2 root hroot =>
  split at hf
  case h_2 => cases hf
  case h_1 kk' es hsub =>
  split at hf
  case h_2 => cases hf
  case h_1 k v hrk hrv =>
  split at hf
  case isFalse => cases hf
  case isTrue hc =>
  obtain ⟨rfl, hkb⟩ := hc
  split at hf
  case h_2 => cases hf
  case h_1 root' hupd =>
  cases hf
  obtain rfl := z5k hk hrk
  obtain ⟨rfl, hvb⟩ := z0n hv hrv
  obtain ⟨kt, u1, u3⟩ := z1D ht
  obtain ⟨n1, t0, n2, n3⟩ := hm
  obtain ⟨v0, e1, r⟩ := (h.ob id root hroot).sub (z0q id) hsub
  rw [n1] at e1; cases e1
  obtain ⟨g, ents, clock, rfl, hKg, hg, hm1, hm2, hm3, hm4⟩ : ∃ g ents clock, um = .map (some g) /\ K g = col id ++ p /\ w.heap[g]? = some (.map ents clock) /\ zdD kk ents clock es := by
    cases r with
    | mp _ g _ _ ents clock hc0 hK hg hh => exact ⟨g, ents, clock, rfl, hK, hg, hh⟩
  have hks : ∀ x ∈ ents.toList, z4Y kk x.key = true := fun x hx => (hm2 (x.key, x.val) (by rw [← hm1]; exact List.mem_map.2 ⟨x, hx, rfl⟩)).1
  have main : ∃ ents' clock', (Instr.mapUpdate t (.map (some g)) uk uv).run P w = .ok () { w with heap := w.heap.setIfInBounds g (.map ents' clock') } /\ zdD kk ents' clock' (z8c uk uv es) := by
    rcases zcd u3 hkb ents.toList hks with ⟨h1, h2, h3⟩ | ⟨j, e', h1, h2, h3, h4, h5⟩
    · refine ⟨ents.push { key := uk, val := uv, born := clock }, clock + 1, ?_, ?_, ?_, ?_, ?_⟩
      · simp only [Instr.mapUpdate, Sem.run_bind, run_underlying u1, Go.MapKept.run_getObj_map hg, Result.andThen_ok]
        rw [z3H u3 hkb]
        simp only [Result.andThen_ok, h1]
        exact run_setObj_map _ hg
      · rw [← hm1, h3]; simp
      · rw [← hm1, h3]
        intro x hx
        rcases List.mem_append.1 hx with hx | hx
        · exact hm2 x (by rw [← hm1]; exact hx)
        · simp at hx; subst hx; exact ⟨hkb, hvb⟩
      · intro x hx
        simp only [Array.toList_push, List.mem_append, List.mem_singleton] at hx
        rcases hx with hx | hx
        · have := hm3 x hx; omega
        · subst hx; exact Nat.lt_succ_self _
      · simp only [Array.toList_push, List.map_append, List.map_cons, List.map_nil]
        refine List.nodup_append.2 ⟨hm4, by simp, fun b hb c hc e => ?_⟩
        rw [List.mem_singleton] at hc
        subst hc
        obtain ⟨x, hx, rfl⟩ := List.mem_map.1 hb
        have := hm3 x hx; omega
    · have hj : ents[j]? = some e' := by simpa using h2
      have hbn : (ents.modify j fun e => { e with key := uk, val := uv }).toList.map (·.born) = ents.toList.map (·.born) := by
        apply List.ext_getElem?
        intro i
        simp only [List.getElem?_map, Array.getElem?_toList, Array.getElem?_modify]
        by_cases e : j = i
        · subst e; simp [hj]
        · simp [e]
      refine ⟨ents.modify j fun e => { e with key := uk, val := uv }, clock, ?_, ?_, ?_, ?_, ?_⟩
      · simp only [Instr.mapUpdate, Sem.run_bind, run_underlying u1, Go.MapKept.run_getObj_map hg, Result.andThen_ok]
        rw [z3H u3 hkb]
        simp only [Result.andThen_ok, h1, hj, Option.map_some, Option.getD_some, h3, Sem.run_bind, zbG u3 hkb]
        exact run_setObj_map _ hg
      · rw [← hm1, h5]
        apply List.ext_getElem?
        intro i
        simp only [List.getElem?_map, Array.getElem?_toList, Array.getElem?_modify, List.getElem?_set]
        by_cases e : j = i
        · subst e
          have : j < ents.size := (Array.getElem?_eq_some_iff.1 hj).1
          simp [hj, this]
        · simp [e]
      · rw [← hm1, h5]
        intro x hx
        rcases List.mem_or_eq_of_mem_set hx with hx | hx
        · exact hm2 x (by rw [← hm1]; exact hx)
        · subst hx; exact ⟨hkb, hvb⟩
      · intro x hx
        have hb : x.born ∈ (ents.modify j fun e => { e with key := uk, val := uv }).toList.map (·.born) := List.mem_map.2 ⟨x, hx, rfl⟩
        rw [hbn] at hb
        obtain ⟨y, hy, e⟩ := List.mem_map.1 hb
        rw [← e]; exact hm3 y hy
      · rw [hbn]; exact hm4
  obtain ⟨ents', clock', hrun, hmi⟩ := main
  have hs := heap_set (o' := .map ents' clock') hg
  refine ⟨_, hrun, h.mapset hroot hsub hupd n1 hg hs.1 hmi (by simp) (fun b hb => hs.2 b hb), ⟨rfl, rfl, rfl, by simp, fun b hb hc => ⟨rfl, hs.2 b (fun e => ?_)⟩, fun b arr e fz hb => ⟨arr, e, fz, (hs.2 b (fun e => by subst e; rw [hg] at hb; cases hb)).trans hb, rfl⟩⟩, fun b i s hb hi => hs.2 b (fun e => ?_)⟩
  · subst e; rw [hKg] at hc; rcases hc with hc | hc <;> simp [col] at hc
  · subst e; rw [hKg] at hb; simp [col] at hb; exact hi id p rfl hb.1.symm
def zeQ : Option E -> Bool
  | none => true
  | some e => match rdV e with | some (.int _ _) => true | _ => false
def z6C (P : Program) (fr : Fr) (t : TypeId) (r : Option E) (d : Nat) : Option Fr :=
  match z5o P t with
  | none => none
  | some (kk, _) => if d < fr.nt /\ zeQ r = true then
      some { fr with tm := z6Y (z2k (kill d) fr.tm) d (.one (.h d [])), ob := z1Z fr.ob d (.mp kk []) } else none
theorem zba {P : Program} {w : World} {K : Nat -> z0a} {R G : Nat -> Value} {fr fr' : Fr} {a : Act} {t : TypeId} {r : Option E} {ur : Option Value} {d : Nat} (h : FRep w K R G fr a) (hr : zgN w K R fr.ob r ur) (hf : z6C P fr t r d = some fr') :
    ∃ v w', (Instr.makeMap t ur).run P w = .ok v w' /\ (∃ K' R', FRep w' K' R' G fr' (a.put (some d) v) /\ Step w K w' K') /\ ∀ b, b < w.heap.size -> w'.heap[b]? = w.heap[b]? := by
  unfold z6C at hf
  split at hf
  case h_1 => cases hf
  case h_2 kk et ht =>
  split at hf
  case isFalse => cases hf
  case isTrue hc =>
  obtain ⟨hd, hc⟩ := hc
  cases hf
  obtain ⟨kt, u1, u3⟩ := z1D ht
  have hnew := NewB.alloc w (.map #[] 0)
  have hrun : (Instr.makeMap t ur).run P w = .ok (.map (some w.heap.size)) { w with heap := w.heap.push (.map #[] 0) } := by
    cases ur with
    | none => simp [Instr.makeMap, newObj, Sem.run]
    | some v =>
      cases r with
      | none => exact absurd hr id
      | some e =>
        simp only [zeQ] at hc
        split at hc
        · rename_i k n he
          obtain ⟨rfl, -⟩ := z0n hr he
          have h2 : (asInt (.int k n)).run P w = .ok n w := by simp [asInt, asIntOf]
          simp only [Instr.makeMap, Sem.run_bind, run_underlying u1, Result.andThen_ok, h2]
          simp [newObj, Sem.run]
        · cases hc
  refine ⟨_, _, hrun, ?_, fun b hb => hnew.old hb⟩
  have h2 := h.keep (hnew.keep (c := col d))
  have h3 := h2.replace (d := d) (v := .map (some w.heap.size)) (t := .mp kk []) ⟨fun b hb e => ⟨e, rfl⟩, fun b hb _ => ⟨rfl, rfl⟩, Nat.le_refl _⟩ (.mp _ w.heap.size kk [] #[] 0 (z0q d) (by simp) hnew.new ⟨rfl, (fun x hx => by cases hx), (fun x hx => by cases hx), List.nodup_nil⟩)
  refine ⟨_, _, h3.put (d := d) (x := .one (.h d [])) hd ⟨by simp [z3P, nav], .mp kk [], by simp [z0e], rfl⟩, hnew.step⟩
def zkE : E -> Option T
  | .one (.k v) => some (z4f false v)
  | .one (.t none x) => some x
  | .one (.ea none cs 0) => some (.pr cs)
  | _ => none
def zfh (fr : Fr) : List Operand -> Option (List T)
  | [] => some []
  | x :: xs => match zkE (opE fr x), zfh fr xs with | some t, some ts => some (t :: ts) | _, _ => none
def zkZ (fr : Fr) (dep : Nat) : E -> Option T
  | .one (.a id [] 0) => if id = dep then (match z0v fr.ob id with | some (.vr cs) => some (.pr (z1L cs)) | _ => none) else none
  | e => zkE e
def zfi (fr : Fr) (dep : Nat) : List Operand -> Option (List T)
  | [] => some []
  | x :: xs => match zkZ fr dep (opE fr x), zfi fr dep xs with | some t, some ts => some (t :: ts) | _, _ => none
def zan (fr : Fr) : List Operand -> Option Nat
  | [] => none
  | x :: xs => match opE fr x with | .one (.a id [] 0) => some id | _ => zan fr xs
def z5q (fr : Fr) (fn : Fn) (first captured : List Operand) : Option E :=
  match fn, first with
  | .func f, [] => (match captured with
    | [] => some (scE (.func (.func f) #[] #[]))
    | _ => match zan fr captured with
      | none => (match zfh fr captured with | some ts => some (.one (.t none (.cl f ts))) | none => none)
      | some id => match zfi fr id captured with | some ts => some (.one (.t (some id) (.cl f ts))) | none => none)
  | _, _ => none
theorem zcl {w : World} {K : Nat -> z0a} {R : Nat -> Value} {ob : List (Nat × T)} {e : E} {u : Value} {t : T} (h : ERep w K R ob e u) (hc : zkE e = some t) : TRep w K [] u t := by
  unfold zkE at hc
  split at hc
  · cases hc
    rename_i v
    obtain rfl : u = v := h
    exact z2u _ _ _ _ _
  · cases hc; exact h.1
  · cases hc
    obtain ⟨g, o, F, h1, h2, h3, h4, h5, h6⟩ := h
    rw [h1]
    exact .pr [] g o _ F h2 h3 h4 h5
  · cases hc
theorem zar {w : World} {K : Nat -> z0a} {R G : Nat -> Value} {fr : Fr} {a : Act} (h : FRep w K R G fr a) : ∀ {xs : List Operand} {ts : List T}, zfh fr xs = some ts -> ts.length = xs.length /\ ∀ (j : Nat) (t : T), ts[j]? = some t -> ∃ x, xs[j]? = some x /\ TRep w K [] (a.eval x) t
  | [], ts, hc => by cases hc; exact ⟨rfl, fun j t ht => by simp at ht⟩
  | x :: xs, ts, hc => by
    simp only [zfh] at hc
    split at hc
    · rename_i t ts' h1 h2
      cases hc
      obtain ⟨r1, r2⟩ := zar h h2
      refine ⟨by simp [r1], fun j t' ht => ?_⟩
      match j, ht with
      | 0, ht => simp at ht; subst ht; exact ⟨x, rfl, zcl (h.opE x) h1⟩
      | j + 1, ht => obtain ⟨y, y1, y2⟩ := r2 j t' (by simpa using ht); exact ⟨y, by simpa using y1, y2⟩
    · cases hc
theorem zgB {w : World} {K : Nat -> z0a} {R G : Nat -> Value} {fr : Fr} {a : Act} {e : E} {u : Value} {t : T} {dep : Nat} (h : FRep w K R G fr a) (he : ERep w K R fr.ob e u) (hc : zkZ fr dep e = some t) : TRep w (frz K (some dep)) [] u t := by
  have h0 : ∀ b, K b = [] -> frz K (some dep) b = [] := fun b e => by simp [frz, e]
  unfold zkZ at hc
  split at hc
  · rename_i id
    split at hc
    case isFalse => cases hc
    case isTrue hid =>
    subst hid
    split at hc
    case h_2 => cases hc
    case h_1 cs hob =>
    cases hc
    obtain ⟨hv, g, n1, n4, n5, -⟩ := he
    simp only [nav, Option.some.injEq] at n1
    have hr := h.ob id _ hob
    rw [n1] at hr
    rw [n5, z0Q]
    cases hr with
    | vr c g' cs arr e fz F hfz hc0 hK hg hl hF hh =>
      simp only [z2n, Option.some.injEq] at n4
      subst n4
      refine .pr [] g' 0 _ F (by simp [frz, hK, col]) (z0f hg) (fun j hj => by rw [z0i hg, Nat.zero_add]; exact hF j (by simpa using hj)) (fun j t ht => ?_)
      simp only [List.getElem?_map, Option.map_eq_some_iff] at ht
      obtain ⟨t0, ht0, rfl⟩ := ht
      exact (hh j t0 ht0).freeze (fun b s hb _ hKb => ⟨by simp [frz, hKb, col], rfl⟩) (fun b _ e => ⟨h0 b e, rfl⟩) (Nat.le_refl _) []
  · exact TRep.fz (zcl he hc) (fun b _ e => ⟨h0 b e, rfl⟩) (Nat.le_refl _)
theorem zas {w : World} {K : Nat -> z0a} {R G : Nat -> Value} {fr : Fr} {a : Act} {dep : Nat} (h : FRep w K R G fr a) : ∀ {xs : List Operand} {ts : List T}, zfi fr dep xs = some ts -> ts.length = xs.length /\ ∀ (j : Nat) (t : T), ts[j]? = some t -> ∃ x, xs[j]? = some x /\ TRep w (frz K (some dep)) [] (a.eval x) t
  | [], ts, hc => by cases hc; exact ⟨rfl, fun j t ht => by simp at ht⟩
  | x :: xs, ts, hc => by
    simp only [zfi] at hc
    split at hc
    · rename_i t ts' h1 h2
      cases hc
      obtain ⟨r1, r2⟩ := zas h h2
      refine ⟨by simp [r1], fun j t' ht => ?_⟩
      match j, ht with
      | 0, ht => simp at ht; subst ht; exact ⟨x, rfl, zgB h (h.opE x) h1⟩
      | j + 1, ht => obtain ⟨y, y1, y2⟩ := r2 j t' (by simpa using ht); exact ⟨y, by simpa using y1, y2⟩
    · cases hc
theorem zam {w : World} {K : Nat -> z0a} {R G : Nat -> Value} {fr : Fr} {a : Act} (h : FRep w K R G fr a) : ∀ {xs : List Operand} {id : Nat}, zan fr xs = some id -> (z0v fr.ob id).isSome
  | [], id, hc => by cases hc
  | x :: xs, id, hc => by
    simp only [zan] at hc
    split at hc
    · rename_i id' he
      cases hc
      have hx := h.opE x
      rw [he] at hx
      obtain ⟨hv, g, _, _, _, t, n2, _⟩ := hx
      rw [n2]; rfl
    · exact zam h hc
theorem za2 {w : World} {K : Nat -> z0a} {R G : Nat -> Value} {fr : Fr} {a : Act} {fn : Fn} {first captured : List Operand} {e : E} (h : FRep w K R G fr a) (hf : z5q fr fn first captured = some e) :
    ERep w K R fr.ob e (.func fn (first.map a.eval).toArray (captured.map a.eval).toArray) := by
  unfold z5q at hf
  split at hf
  · rename_i f
    split at hf
    · cases hf; exact z0N rfl
    · split at hf
      · split at hf
        · rename_i ts hts
          cases hf
          obtain ⟨r1, r2⟩ := zar h hts
          refine ⟨.cl _ f _ _ (fun j => (captured.map a.eval).getD j undef) (by simp [r1]) (fun j hj => ?_) (fun j t ht => ?_), fun _ e => by cases e⟩
          · have : j < captured.length := by omega
            simp [List.getD, this]
          · obtain ⟨x, x1, x2⟩ := r2 j t ht
            have : (captured.map a.eval).getD j undef = a.eval x := by simp [List.getD, x1]
            rw [this]; exact x2
        · cases hf
      · rename_i id hid
        split at hf
        · rename_i ts hts
          cases hf
          obtain ⟨r1, r2⟩ := zas h hts
          refine ⟨.cl _ f _ _ (fun j => (captured.map a.eval).getD j undef) (by simp [r1]) (fun j hj => ?_) (fun j t ht => ?_), fun i e => by cases e; exact zam h hid⟩
          · have : j < captured.length := by omega
            simp [List.getD, this]
          · obtain ⟨x, x1, x2⟩ := r2 j t ht
            have : (captured.map a.eval).getD j undef = a.eval x := by simp [List.getD, x1]
            rw [this]; exact x2
        · cases hf
  · cases hf
def z5b (fr : Fr) (x : Operand) : Option (FuncId × List T) :=
  match opE fr x with
  | .one (.t none (.sc (.func (.func f) fs cs))) => if fs.isEmpty && cs.isEmpty then some (f, []) else none
  | .one (.k (.func (.func f) fs cs)) => if fs.isEmpty && cs.isEmpty then some (f, []) else none
  | .one (.t none (.cl f ts)) => some (f, ts)
  | _ => none
theorem zau {w : World} {K : Nat -> z0a} {R G : Nat -> Value} {fr : Fr} {a : Act} {x : Operand} {f : FuncId} {ts : List T} (h : FRep w K R G fr a) (hc : z5b fr x = some (f, ts)) :
    ∃ vs : List Value, a.eval x = .func (.func f) #[] vs.toArray /\ vs.length = ts.length /\ ∀ (j : Nat) (t : T) (v : Value), ts[j]? = some t -> vs[j]? = some v -> TRep w K [] v t := by
  have hx := h.opE x
  unfold z5b at hc
  split at hc
  · rename_i f' fs cs he
    rw [he] at hx
    split at hc
    · rename_i hb
      cases hc
      simp only [Bool.and_eq_true, Array.isEmpty_iff] at hb
      obtain ⟨rfl, rfl⟩ := hb
      have := hx.1.sc_eq
      exact ⟨[], this, rfl, fun j t v ht => by simp at ht⟩
    · cases hc
  · rename_i f' fs cs he
    rw [he] at hx
    split at hc
    · rename_i hb
      cases hc
      simp only [Bool.and_eq_true, Array.isEmpty_iff] at hb
      obtain ⟨rfl, rfl⟩ := hb
      exact ⟨[], hx, rfl, fun j t v ht => by simp at ht⟩
    · cases hc
  · rename_i f' ts' he
    rw [he] at hx
    cases hc
    obtain ⟨h1, -⟩ := hx
    generalize a.eval x = u at h1
    cases h1 with
    | cl _ _ vs _ F hl hF hh =>
      refine ⟨vs.toList, by simp, by simp [hl], fun j t v ht hv => ?_⟩
      have hlt := (List.getElem?_eq_some_iff.1 ht).1
      have e1 := hF j hlt
      rw [Array.getElem?_toList, e1] at hv
      cases hv
      exact hh j t ht
  · cases hc
end
section
open Go.MapKept
def ziU : Option TyI -> Bool
  | some ⟨.slice _, _, _, _⟩ => true
  | some ⟨.struct _, _, _, _⟩ => true
  | _ => false
def zgd : A -> Option T
  | .t none x => some x
  | .k v => some (z4f false v)
  | _ => none
def za4 : List A -> Option (List T)
  | [] => some []
  | x :: r => match zgd x, za4 r with | some t, some ts => some (t :: ts) | _, _ => none
def zgc : E -> Option T
  | .one (.t none x) => some x
  | .one (.k v) => some (z6m false v)
  | .ag xs => (match za4 xs with | some ts => some (.agg ts) | none => none)
  | _ => none
theorem zeC {w : World} {K : Nat -> z0a} {R : Nat -> Value} {ob : List (Nat × T)} {x : A} {u : Value} {t : T} (h : ARep w K R ob x u) (hl : zgd x = some t) : TRep w K [] u t := by
  unfold zgd at hl
  split at hl
  · cases hl; exact h.1
  · cases hl
    rename_i v
    obtain rfl : u = v := h
    exact z2u _ _ _ _ _
  · cases hl
theorem z8h {w : World} {K : Nat -> z0a} {R : Nat -> Value} {ob : List (Nat × T)} : ∀ {xs : List A} {F : Nat -> Value} {ts : List T}, (∀ j x, xs[j]? = some x -> ARep w K R ob x (F j)) -> za4 xs = some ts -> ts.length = xs.length /\ ∀ (j : Nat) (t : T), ts[j]? = some t -> TRep w K [] (F j) t
  | [], F, ts, hx, hl => by cases hl; exact ⟨rfl, fun j t ht => by simp at ht⟩
  | x :: xs, F, ts, hx, hl => by
    simp only [za4] at hl
    split at hl
    · rename_i t ts' h1 h2
      cases hl
      obtain ⟨r1, r2⟩ := z8h (F := fun j => F (j + 1)) (fun j y hy => hx (j + 1) y (by simpa using hy)) h2
      refine ⟨by simp [r1], fun j t' ht => ?_⟩
      match j, ht with
      | 0, ht => simp at ht; subst ht; exact zeC (hx 0 x rfl) h1
      | j + 1, ht => exact r2 j t' (by simpa using ht)
    · cases hl
theorem zeB {w : World} {K : Nat -> z0a} {R : Nat -> Value} {ob : List (Nat × T)} {e : E} {u : Value} {t : T} (h : ERep w K R ob e u) (hl : zgc e = some t) : TRep w K [] u t := by
  unfold zgc at hl
  split at hl
  · cases hl; exact h.1
  · cases hl
    rename_i v
    obtain rfl : u = v := h
    exact z5Q _ _ _ _
  · rename_i xs
    split at hl
    · rename_i ts h1
      cases hl
      obtain ⟨arr, rfl, e2, e3⟩ := h
      obtain ⟨r1, r2⟩ := z8h (F := fun j => arr.getD j undef) e3 h1
      exact .agg _ arr ts (fun j => arr.getD j undef) (by omega) (fun j hj => z1x _ _ (by omega)) r2
    · cases hl
  · cases hl
def z3O (k : Value) : List Value -> List T -> Option T
  | a :: ks, t :: cs => if z1U a k then some t else z3O k ks cs
  | _, _ => none
def z4S (k : Value) (t : T) : List Value -> List T -> List Value × List T
  | a :: ks, c :: cs => if z1U a k then (k :: ks, t :: cs) else (a :: (z4S k t ks cs).1, c :: (z4S k t ks cs).2)
  | _, _ => ([k], [t])
theorem z7t {k : Value} : ∀ {l : List MapEntry} {cs : List T}, cs.length = l.length -> (∀ e ∈ l, z1U e.key k = false) -> z3O k (l.map fun e => e.key) cs = none /\ ∀ t, z4S k t (l.map fun e => e.key) cs = ((l.map fun e => e.key) ++ [k], cs ++ [t])
  | [], [], _, _ => ⟨rfl, fun _ => rfl⟩
  | [], _ :: _, hl, _ => by simp at hl
  | _ :: _, [], hl, _ => by simp at hl
  | e :: es, c :: cs, hl, h => by
    have e2 := h e (.head _)
    obtain ⟨h1, h2⟩ := z7t (l := es) (cs := cs) (by simpa using hl) fun x hx => h x (.tail _ hx)
    exact ⟨by simp [z3O, e2, h1], fun v => by simp [z4S, e2, h2]⟩
theorem z7s {k : Value} (hkk : z1U k k = true) : ∀ {l : List MapEntry} {cs : List T} {j : Nat} {e : MapEntry}, cs.length = l.length -> l[j]? = some e -> e.key = k -> (∀ i < j, ∀ e', l[i]? = some e' -> z1U e'.key k = false) -> ∃ c, cs[j]? = some c /\ z3O k (l.map fun e => e.key) cs = some c /\ ∀ t, z4S k t (l.map fun e => e.key) cs = ((l.map fun e => e.key).set j k, cs.set j t)
  | [], _, j, e, _, h, _, _ => by simp at h
  | _ :: _, [], _, _, hl, _, _, _ => by simp at hl
  | x :: es, c :: cs, 0, e, _, h, he, _ => by
    simp at h; subst h; subst he
    exact ⟨c, rfl, by simp [z3O, hkk], fun v => by simp [z4S, hkk]⟩
  | x :: es, c :: cs, j + 1, e, hl, h, he, hb => by
    have e2 := hb 0 (by omega) x rfl
    obtain ⟨c', h1, h2, h3⟩ := z7s hkk (l := es) (cs := cs) (j := j) (by simpa using hl) (by simpa using h) he fun i hi e' h' => hb (i + 1) (by omega) e' (by simpa using h')
    exact ⟨c', by simpa using h1, by simp [z3O, e2, h2], fun v => by simp [z4S, e2, h3]⟩
theorem zag {P : Program} {kt : TypeId} {kk : Option IntKind} {k : Value} (hk : KOk P kt kk) (hv : z4Y kk k = true) (l : List MapEntry) (cs : List T) (hl : ∀ x ∈ l, z4Y kk x.key = true) (hc : cs.length = l.length) :
    ((∀ w, (Instr.findKey kt k l).run P w = .ok none w) /\ z3O k (l.map fun e => e.key) cs = none /\ ∀ t, z4S k t (l.map fun e => e.key) cs = ((l.map fun e => e.key) ++ [k], cs ++ [t])) ∨
    ∃ (j : Nat) (e : MapEntry) (c : T), (∀ w, (Instr.findKey kt k l).run P w = .ok (some (j, e.val)) w) /\ l[j]? = some e /\ e.key = k /\ cs[j]? = some c /\ z3O k (l.map fun e => e.key) cs = some c /\ ∀ t, z4S k t (l.map fun e => e.key) cs = ((l.map fun e => e.key).set j k, cs.set j t) := by
  rcases z7u hk hv l hl with ⟨h1, h2⟩ | ⟨j, e, h1, h2, h3, h4⟩
  · exact .inl ⟨h1, z7t hc h2⟩
  · obtain ⟨c, c1, c2, c3⟩ := z7s ((z7j hk hv hv).2 rfl) hc h2 h3 h4
    exact .inr ⟨j, e, c, h1, h2, h3, c1, c2, c3⟩
def ziJ (fr : Fr) : E -> Option (Option Nat × Option Nat × Option IntKind × List Value × List T)
  | .one (.t dep (.ms kk ks cs)) => some (dep, dep, kk, ks, cs)
  | .one (.h id p) => match z0v fr.ob id with
    | none => none
    | some root => match sub root p with
      | some (.mt kk ks cs) => some (some id, none, kk, ks, cs)
      | some (.ms kk ks cs) => some (none, none, kk, ks, cs)
      | _ => none
  | _ => none
theorem z9Q {w : World} {K : Nat -> z0a} {R G : Nat -> Value} {fr : Fr} {a : Act} {e : E} {u : Value} {dep vd : Option Nat} {kk : Option IntKind} {ks : List Value} {cs : List T} (h : FRep w K R G fr a) (he : ERep w K R fr.ob e u) (hr : ziJ fr e = some (dep, vd, kk, ks, cs)) :
    ∃ g ents clock, ∃ F : Nat -> Value, u = .map (some g) /\ frz K dep g = [] /\ w.heap[g]? = some (.map ents clock) /\ MapTs kk ents clock ks cs.length F /\ ∀ j t, cs[j]? = some t -> TRep w (frz K vd) [] (F j) t := by
  have h0 : ∀ dep b, K b = [] -> frz K dep b = [] := fun dep b e => by cases dep <;> simp [frz, e]
  unfold ziJ at hr
  split at hr
  · cases hr
    have h1 := he.1
    cases h1 with
    | ms _ g _ _ _ ents clock F hK hg hh h => exact ⟨g, ents, clock, F, rfl, hK, hg, hh, h⟩
  · rename_i id p
    split at hr
    case h_1 => cases hr
    case h_2 root hroot =>
    obtain ⟨n1, t, n2, n3⟩ := he
    split at hr
    · rename_i kk' ks' cs' hsub
      cases hr
      obtain ⟨v, e1, r⟩ := (h.ob id root hroot).sub (z0q id) hsub
      rw [n1] at e1; cases e1
      cases r with
      | mt _ g _ _ _ ents clock F hc0 hK hg hh hT => exact ⟨g, ents, clock, F, rfl, by simp [frz, hK, col], hg, hh, fun j t ht => TRep.fz (hT j t ht) (fun b _ e => ⟨h0 _ b e, rfl⟩) (Nat.le_refl _)⟩
    · rename_i kk' ks' cs' hsub
      cases hr
      obtain ⟨v, e1, r⟩ := (h.ob id root hroot).sub (z0q id) hsub
      rw [n1] at e1; cases e1
      cases r with
      | ms _ g _ _ _ ents clock F hK hg hh hT => exact ⟨g, ents, clock, F, rfl, hK, hg, hh, hT⟩
    · cases hr
  · cases hr
def z6D (P : Program) (M : Nat -> Bool) (fr : Fr) (t : TypeId) (x key : E) (ok : Bool) : Option E :=
  match z5o P t with
  | none => none
  | some (kk, et) => match zaB P et with
    | none => none
    | some z => match ziJ fr x with
      | none => none
      | some (dep, vd, kk', ks, cs) => match rdK key with
        | none => none
        | some k => if kk = kk' /\ z4Y kk k = true /\ z9b dep M = false then
            (if ok then some (.one (.t vd (.tup [(z3O k ks cs).getD (z6m false z), .sc (.bool (z3O k ks cs).isSome)]))) else some (.one (.t vd ((z3O k ks cs).getD (z6m false z)))))
          else none
theorem z9Z {kk : Option IntKind} {ents : Array MapEntry} {clock : Nat} {ks : List Value} {n : Nat} {F : Nat -> Value} (h : MapTs kk ents clock ks n F) : n = ents.toList.length := by
  obtain ⟨h1, h2, _⟩ := h
  rw [← h2, ← h1]; simp
theorem zbb {P : Program} {w : World} {K : Nat -> z0a} {R G : Nat -> Value} {fr : Fr} {a : Act} {M : Nat -> Bool} {t : TypeId} {x key e : E} {u ku : Value} {ok : Bool} (h : FRep w K R G fr a) (hx : ERep w K R fr.ob x u) (hkey : ERep w K R fr.ob key ku) (hl : z6D P M fr t x key ok = some e) :
    ∃ v, ERep w K R fr.ob e v /\ ∀ w', Stay w w' K M -> (Instr.lookup t u ku ok).run P w' = .ok v w' := by
  unfold z6D at hl
  split at hl
  case h_1 => cases hl
  case h_2 kk et ht =>
  split at hl
  case h_1 => cases hl
  case h_2 z hz =>
  split at hl
  case h_1 => cases hl
  case h_2 dep vd kk' ks cs hrd =>
  split at hl
  case h_1 => cases hl
  case h_2 k hk =>
  split at hl
  case isFalse => cases hl
  case isTrue hc =>
  obtain ⟨rfl, hkb, hdep⟩ := hc
  obtain ⟨kt, u1, u3⟩ := z1D ht
  obtain rfl := z5k hkey hk
  obtain ⟨g, ents, clock, F, rfl, hKg, hg, hm, hT⟩ := z9Q h hx hrd
  have hlen := z9Z hm
  obtain ⟨hm1, hm2, hm3, hm4, -⟩ := hm
  subst hm1
  have hdok : zbm fr.ob vd := by
    unfold ziJ at hrd
    split at hrd
    · cases hrd; exact hx.2
    · split at hrd
      · cases hrd
      · rename_i root hroot
        split at hrd
        · cases hrd; exact fun i e => by cases e
        · cases hrd; exact fun i e => by cases e
        · cases hrd
    · cases hrd
  have hks : ∀ x ∈ ents.toList, z4Y kk x.key = true := fun x hx => hm3 x.key (List.mem_map.2 ⟨x, hx, rfl⟩)
  have hstay : ∀ w', Stay w w' K M -> w'.heap[g]? = some (.map ents clock) := fun w' hst => by
    have := hst.dep hdep (z0f hg) hKg
    rw [this]; exact hg
  obtain ⟨v, hv, hrun⟩ : ∃ v, TRep w (frz K vd) [] v ((z3O ku (ents.toList.map fun e => e.key) cs).getD (z6m false z)) /\ ∀ w', Stay w w' K M -> (Instr.lookup t (.map (some g)) ku ok).run P w' = .ok (if ok then .tuple #[v, .bool (z3O ku (ents.toList.map fun e => e.key) cs).isSome] else v) w' := by
    rcases zag u3 hkb ents.toList cs hks hlen with ⟨h1, h2, -⟩ | ⟨j, e', c, h1, h2, h3, h6, h4, -⟩
    · rw [h2]
      refine ⟨z, z5Q _ _ _ _, fun w' hst => ?_⟩
      simp only [Instr.lookup, Sem.run_bind, run_underlying u1, Go.MapKept.run_getObj_map (hstay w' hst), Result.andThen_ok, Sem.run_pure]
      rw [z3H u3 hkb]
      simp only [Result.andThen_ok, h1, z6Z hz, Sem.run_bind, Sem.run_pure]
      rfl
    · rw [h4]
      refine ⟨e'.val, by rw [hm4 j e' (by simpa using h2)]; exact hT j c h6, fun w' hst => ?_⟩
      simp only [Instr.lookup, Sem.run_bind, run_underlying u1, Go.MapKept.run_getObj_map (hstay w' hst), Result.andThen_ok, Sem.run_pure]
      rw [z3H u3 hkb]
      simp only [Result.andThen_ok, h1, Sem.run_bind, Sem.run_pure]
      rfl
  cases ok with
  | true =>
    simp only [if_true, Option.some.injEq] at hl
    subst hl
    refine ⟨_, ⟨?_, hdok⟩, hrun⟩
    refine .tup _ _ _ (fun j => if j = 0 then v else .bool (z3O ku (ents.toList.map fun e => e.key) cs).isSome) rfl (fun j hj => ?_) (fun j t ht => ?_)
    · match j, hj with
      | 0, _ => rfl
      | 1, _ => rfl
    · match j, ht with
      | 0, ht => cases ht; exact hv
      | 1, ht => cases ht; exact .sc _ _ rfl
  | false =>
    simp only [Bool.false_eq_true, if_false, Option.some.injEq] at hl
    subst hl
    exact ⟨_, ⟨hv, hdok⟩, fun w' hst => by simpa using hrun w' hst⟩
def z6A (P : Program) (M : Nat -> Bool) (fr : Fr) (t : TypeId) (x : E) : Option E :=
  match z5o P t with
  | none => none
  | some _ => match ziJ fr x with
    | none => none
    | some (dep, _, _, ks, _) => if z9b dep M = false then some (scE (.int .i64 ks.length)) else none
theorem zb7 {P : Program} {w : World} {K : Nat -> z0a} {R G : Nat -> Value} {fr : Fr} {a : Act} {M : Nat -> Bool} {t : TypeId} {x e : E} {u : Value} (h : FRep w K R G fr a) (hx : ERep w K R fr.ob x u) (hl : z6A P M fr t x = some e) :
    ∃ v, ERep w K R fr.ob e v /\ ∀ w', Stay w w' K M -> ∀ ty, (Builtin.len_ #[t] ty #[u]).run P w' = .ok v w' := by
  unfold z6A at hl
  split at hl
  case h_1 => cases hl
  case h_2 q ht =>
  split at hl
  case h_1 => cases hl
  case h_2 dep vd kk ks cs hrd =>
  split at hl
  case isFalse => cases hl
  case isTrue hdep =>
  cases hl
  obtain ⟨kk', et⟩ := q
  obtain ⟨kt, u1, u3⟩ := z1D ht
  obtain ⟨g, ents, clock, F, rfl, hKg, hg, hm, -⟩ := z9Q h hx hrd
  refine ⟨_, z0N rfl, fun w' hst ty => ?_⟩
  have hb : w'.heap[g]? = some (.map ents clock) := by rw [hst.dep hdep (z0f hg) hKg]; exact hg
  have hlen : ks.length = ents.size := by rw [← hm.1]; simp
  simp [Builtin.len_, Sem.run_bind, run_underlying u1, Go.MapKept.run_getObj_map hb, Result.andThen_ok, Sem.run_pure, goInt, hlen]
theorem FRep.mapsetG {w w' : World} {K : Nat -> z0a} {R G : Nat -> Value} {fr : Fr} {a : Act} {id : Nat} {p : List Nat} {root root' : T} {t0 t1 : T} {g : Nat} {ents ents' : Array MapEntry} {clock clock' : Nat}
    (h : FRep w K R G fr a) (hroot : z0v fr.ob id = some root) (hbox : sub root p = some t0) (hkid : ∀ j, zaz t0 j = none) (hupd : upd root p t1 = some root') (hnav : nav w (R id) p = some (.map (some g)))
    (hg : w.heap[g]? = some (.map ents clock)) (hg' : w'.heap[g]? = some (.map ents' clock')) (hKg : K g = col id ++ p) (hnew : TRep w' K (col id ++ p) (.map (some g)) t1) (hsz : w'.heap.size = w.heap.size) (hoth : ∀ b, b ≠ g -> w'.heap[b]? = w.heap[b]?) :
    FRep w' K R G { fr with tm := z2k (z4W id) fr.tm, ob := z1Z fr.ob id root' } a := by
  have hrt := h.ob id root hroot
  have hne : ∀ b i s, K b = (i + 2) :: s -> i ≠ id -> b ≠ g := fun b i s e1 e2 e3 => by
    subst e3; rw [hKg] at e1; simp [col] at e1; exact e2 e1.1.symm
  have hne0 : ∀ b, K b = [] -> b ≠ g := fun b e1 e3 => by subst e3; rw [hKg] at e1; simp [col] at e1
  have hfro : ∀ b, b < w.heap.size -> K b = [] -> K b = [] /\ w'.heap[b]? = w.heap[b]? := fun b hb e1 => ⟨e1, hoth b (hne0 b e1)⟩
  have hcell : ∀ gb j, w'.cell? ⟨gb, j, none⟩ = w.cell? ⟨gb, j, none⟩ := fun gb j => by
    by_cases e1 : gb = g
    · subst e1; simp [World.cell?, hg, hg']
    · exact z0l (hoth gb e1) j
  have hway : ∀ i t q, z0v fr.ob i = some t -> (sub t q).isSome -> nav w' (R i) q = nav w (R i) q := fun i t q ho hs =>
    z2O (h.ob i t ho) (z0q i) hs fun r j s gb hq hKb hb => hcell gb j
  have hsub : ∀ q, (sub root q).isSome -> (sub root' q).isSome := fun q hs => by
    by_cases hp : p <+: q
    · obtain ⟨s, rfl⟩ := hp
      rw [z2g hupd]
      rw [z1j hbox] at hs
      cases s with
      | nil => simp [sub]
      | cons j s => simp [sub, hkid] at hs
    · exact z1a hupd hp hs
  have hdep : ∀ i, i ≠ id -> ∀ b, b < w.heap.size -> frz K (some i) b = [] -> frz K (some i) b = [] /\ w'.heap[b]? = w.heap[b]? := fun i hi b hb e1 => by
    refine ⟨e1, ?_⟩
    simp only [frz] at e1
    split at e1
    · rename_i hh
      obtain ⟨s, hs⟩ : ∃ s, K b = (i + 2) :: s := by
        cases hk : K b with
        | nil => rw [hk] at hh; cases hh
        | cons a s => rw [hk] at hh; simp at hh; subst hh; exact ⟨s, rfl⟩
      exact hoth b (hne b i s hs hi)
    · exact (hfro b hb e1).2
  have hobi : ∀ i, i ≠ id -> z0v (z1Z fr.ob id root') i = z0v fr.ob i := fun i hi => by rw [z0e, if_neg (fun e => hi e.symm)]
  refine ⟨fun i => ?_, fun i t ho => ?_, h.nt, h.df⟩
  · show ERep w' K R (z1Z fr.ob id root') (z0E (z2k (z4W id) fr.tm) i) _
    rw [z1F _ rfl]
    refine (h.tm i).map _ fun x u hx => ?_
    cases x with
    | dead => trivial
    | k v => exact hx
    | t dep x =>
      cases dep with
      | none => exact ⟨TRep.fz hx.1 hfro (by omega), fun _ e => by cases e⟩
      | some i =>
        by_cases hi : i = id
        · simp only [z4W, if_pos hi]; trivial
        · simp only [z4W, if_neg hi]
          exact ⟨TRep.fz hx.1 (fun b hb e1 => hdep i hi b hb e1) (by omega), fun _ e => by cases e; rw [hobi i hi]; exact hx.2 i rfl⟩
    | h i q =>
      obtain ⟨n1, t, n2, n3⟩ := hx
      refine ⟨by rw [hway i t q n2 n3]; exact n1, ?_⟩
      by_cases hi : i = id
      · subst hi
        rw [hroot] at n2; cases n2
        exact ⟨root', by simp [z0e], hsub q n3⟩
      · exact ⟨t, by rw [hobi i hi]; exact n2, n3⟩
    | a i q o =>
      obtain ⟨hv, g, n1, n4, n5, t, n2, n3⟩ := hx
      refine ⟨hv, g, by rw [hway i t q n2 n3]; exact n1, n4, n5, ?_⟩
      by_cases hi : i = id
      · subst hi
        rw [hroot] at n2; cases n2
        exact ⟨root', by simp [z0e], hsub q n3⟩
      · exact ⟨t, by rw [hobi i hi]; exact n2, n3⟩
    | tf n cs => exact ⟨hx.1, TRep.fz hx.2 hfro (by omega)⟩
    | ea dep cs o =>
      obtain ⟨g, o, F, e1, e2, e3, e4, e5, e6⟩ := hx
      cases dep with
      | none => exact ⟨g, o, F, e1, e2, by omega, fun j hj => by rw [hcell]; exact e4 j hj, fun j t ht => TRep.fz (e5 j t ht) hfro (by omega), fun _ e => by cases e⟩
      | some i =>
        by_cases hi : i = id
        · simp only [z4W, if_pos hi]; trivial
        · simp only [z4W, if_neg hi]
          exact ⟨g, o, F, e1, e2, by omega, fun j hj => by rw [hcell]; exact e4 j hj, fun j t ht => TRep.fz (e5 j t ht) (fun b hb e1 => hdep i hi b hb e1) (by omega), fun _ e => by cases e; rw [hobi i hi]; exact e6 i rfl⟩
  · rw [z0e] at ho
    split at ho
    · rename_i e1
      subst e1; cases ho
      refine TRep.upd hrt (z0q id) hnav hupd ⟨hfro, fun b hb ⟨s, e1, hs⟩ => ?_, by omega⟩ hnew
      have hb' : b ≠ g := fun e2 => by subst e2; rw [hKg] at e1; exact hs (by rw [List.append_cancel_left e1]; exact List.prefix_rfl)
      exact ⟨rfl, hoth b hb'⟩
    · rename_i e1
      refine (h.ob i t ho).keep (D := But id) ⟨hfro, fun b hb ⟨j, s, e2, hj⟩ => ⟨rfl, hoth b (hne b j s e2 hj)⟩, by omega⟩ (fun s _ => ⟨i, s, rfl, fun e => e1 e.symm⟩)
def z6z (P : Program) (fr : Fr) (t : TypeId) (m key val : E) : Option Fr :=
  match z5o P t with
  | none => none
  | some (kk, _) => match m with
    | .one (.h id p) => match z0v fr.ob id with
      | none => none
      | some root => match sub root p with
        | some (.mt kk' ks cs) => match rdK key, zgc val with
          | some k, some v => if kk = kk' /\ z4Y kk k = true then (match upd root p (.mt kk (z4S k v ks cs).1 (z4S k v ks cs).2) with
              | some root' => some { fr with tm := z2k (z4W id) fr.tm, ob := z1Z fr.ob id root' }
              | none => none) else none
          | _, _ => none
        | _ => none
    | _ => none
theorem zb6 {P : Program} {w : World} {K : Nat -> z0a} {R G : Nat -> Value} {fr fr' : Fr} {a : Act} {t : TypeId} {m key val : E} {um uk uv : Value} (h : FRep w K R G fr a) (hm : ERep w K R fr.ob m um) (hk : ERep w K R fr.ob key uk) (hv : ERep w K R fr.ob val uv) (hf : z6z P fr t m key val = some fr') :
    ∃ w', (Instr.mapUpdate t um uk uv).run P w = .ok () w' /\ FRep w' K R G fr' a /\ Step w K w' K /\ ∀ b i s, K b = (i + 2) :: s -> (∀ id p, m = .one (.h id p) -> i ≠ id) -> w'.heap[b]? = w.heap[b]? := by
  unfold z6z at hf
  split at hf
  case h_1 => cases hf
  case h_2 kk et ht =>
  split at hf
  case h_2 => cases hf
  case h_1 id p =>
  split at hf
  case h_1 => cases hf
  case h_2 root hroot =>
  split at hf
  case h_2 => cases hf
  case h_1 kk' ks cs hsub =>
  split at hf
  case h_2 => cases hf
  case h_1 k v hrk hrv =>
  split at hf
  case isFalse => cases hf
  case isTrue hc =>
  obtain ⟨rfl, hkb⟩ := hc
  split at hf
  case h_2 => cases hf
  case h_1 root' hupd =>
  cases hf
  obtain rfl := z5k hk hrk
  have hvr := zeB hv hrv
  obtain ⟨kt, u1, u3⟩ := z1D ht
  obtain ⟨n1, t0, n2, n3⟩ := hm
  obtain ⟨v0, e1, r⟩ := (h.ob id root hroot).sub (z0q id) hsub
  rw [n1] at e1; cases e1
  obtain ⟨g, ents, clock, F, rfl, hKg, hg, hm, hT⟩ : ∃ g ents clock, ∃ F : Nat -> Value, um = .map (some g) /\ K g = col id ++ p /\ w.heap[g]? = some (.map ents clock) /\ MapTs kk ents clock ks cs.length F /\ ∀ j t, cs[j]? = some t -> TRep w K [] (F j) t := by
    cases r with
    | mt _ g _ _ _ ents clock F hc0 hK hg hh hT => exact ⟨g, ents, clock, F, rfl, hK, hg, hh, hT⟩
  have hlen := z9Z hm
  obtain ⟨hm1, hm2, hm3, hm4, hm5, hm6⟩ := hm
  have hks : ∀ x ∈ ents.toList, z4Y kk x.key = true := fun x hx => hm3 x.key (by rw [← hm1]; exact List.mem_map.2 ⟨x, hx, rfl⟩)
  have main : ∃ ents' clock', ∃ F' : Nat -> Value, (Instr.mapUpdate t (.map (some g)) uk uv).run P w = .ok () { w with heap := w.heap.setIfInBounds g (.map ents' clock') } /\ MapTs kk ents' clock' (z4S uk v ks cs).1 (z4S uk v ks cs).2.length F' /\ ∀ j t, (z4S uk v ks cs).2[j]? = some t -> TRep w K [] (F' j) t := by
    rcases zag u3 hkb ents.toList cs hks hlen with ⟨h1, h2, h3⟩ | ⟨j, e', c, h1, h2, h3, h6, h4, h5⟩
    · refine ⟨ents.push { key := uk, val := uv, born := clock }, clock + 1, fun j => if j = cs.length then uv else F j, ?_, ?_, ?_⟩
      · simp only [Instr.mapUpdate, Sem.run_bind, run_underlying u1, Go.MapKept.run_getObj_map hg, Result.andThen_ok]
        rw [z3H u3 hkb]
        simp only [Result.andThen_ok, h1]
        exact run_setObj_map _ hg
      · rw [← hm1, h3]
        have hps : ∀ (j : Nat) (e : MapEntry), (ents.push { key := uk, val := uv, born := clock })[j]? = some e -> (j < ents.size /\ ents[j]? = some e) ∨ (j = ents.size /\ e = { key := uk, val := uv, born := clock }) := fun j e he => by
          rw [Array.getElem?_push] at he
          split at he
          · rename_i e2; cases he; exact .inr ⟨e2, rfl⟩
          · exact .inl ⟨(Array.getElem?_eq_some_iff.1 he).1, he⟩
        refine ⟨by simp, by simp [hlen], fun x hx => ?_, fun j e he => ?_, fun j e he => ?_, fun i j e e' hi hj hb => ?_⟩
        rotate_left 2
        · rcases hps j e he with ⟨_, h⟩ | ⟨_, h⟩
          · have := hm5 j e h; omega
          · subst h; exact Nat.lt_succ_self _
        · rcases hps i e hi with ⟨a1, a2⟩ | ⟨a1, a2⟩ <;> rcases hps j e' hj with ⟨b1, b2⟩ | ⟨b1, b2⟩
          · exact hm6 i j e e' a2 b2 hb
          · subst b2; have := hm5 i e a2; simp only at hb; omega
          · subst a2; have := hm5 j e' b2; simp only at hb; omega
          · omega
        · rcases List.mem_append.1 hx with hx | hx
          · exact hm3 x (by rw [← hm1]; exact hx)
          · simp at hx; subst hx; exact hkb
        · have hle : cs.length = ents.size := by simpa using hlen
          rw [Array.getElem?_push] at he
          split at he
          · cases he; rename_i e2; simp [hle, e2]
          · have := (Array.getElem?_eq_some_iff.1 he).1
            show e.val = if j = cs.length then uv else F j
            rw [if_neg (by omega)]; exact hm4 j e he
      · rw [← hm1, h3]
        intro j t ht
        rw [List.getElem?_append] at ht
        split at ht
        · rename_i hlt; simp only [if_neg (Nat.ne_of_lt hlt)]; exact hT j t ht
        · rename_i hge
          have hj : j - cs.length < 1 := by have := (List.getElem?_eq_some_iff.1 ht).1; simpa using this
          have : j = cs.length := by omega
          subst this
          simp at ht; subst ht
          simp only [if_true]; exact hvr
    · have hj : ents[j]? = some e' := by simpa using h2
      refine ⟨ents.modify j fun e => { e with key := uk, val := uv }, clock, fun i => if i = j then uv else F i, ?_, ?_, ?_⟩
      · simp only [Instr.mapUpdate, Sem.run_bind, run_underlying u1, Go.MapKept.run_getObj_map hg, Result.andThen_ok]
        rw [z3H u3 hkb]
        simp only [Result.andThen_ok, h1, hj, Option.map_some, Option.getD_some, h3, Sem.run_bind, zbG u3 hkb]
        exact run_setObj_map _ hg
      · rw [← hm1, h5]
        have hmd : ∀ (i : Nat) (e : MapEntry), (ents.modify j fun e => { e with key := uk, val := uv })[i]? = some e -> ∃ e0, ents[i]? = some e0 /\ e0.born = e.born := fun i e he => by
          rw [Array.getElem?_modify] at he
          by_cases e2 : j = i
          · subst e2; rw [if_pos rfl, hj] at he; simp at he; subst he; exact ⟨e', hj, rfl⟩
          · rw [if_neg e2] at he; exact ⟨e, he, rfl⟩
        refine ⟨?_, by simp [hlen], fun x hx => ?_, fun i e he => ?_, fun i e he => ?_, fun i i2 e e2 hi hi2 hb => ?_⟩
        rotate_left 3
        · obtain ⟨e0, h1, h2⟩ := hmd i e he
          rw [← h2]; exact hm5 i e0 h1
        · obtain ⟨e0, h1, h2⟩ := hmd i e hi
          obtain ⟨e1, h3, h4⟩ := hmd i2 e2 hi2
          exact hm6 i i2 e0 e1 h1 h3 (by rw [h2, h4, hb])
        · apply List.ext_getElem?
          intro i
          simp only [List.getElem?_map, Array.getElem?_toList, Array.getElem?_modify, List.getElem?_set]
          by_cases e : j = i
          · subst e
            have : j < ents.size := (Array.getElem?_eq_some_iff.1 hj).1
            simp [hj, this]
          · simp [e]
        · rcases List.mem_or_eq_of_mem_set hx with hx | hx
          · exact hm3 x (by rw [← hm1]; exact hx)
          · subst hx; exact hkb
        · rw [Array.getElem?_modify] at he
          by_cases e2 : j = i
          · subst e2; rw [if_pos rfl, hj] at he; simp at he; subst he; simp
          · rw [if_neg e2] at he
            show e.val = if i = j then uv else F i
            rw [if_neg (fun e3 => e2 (Eq.symm e3))]; exact hm4 i e he
      · rw [← hm1, h5]
        intro i t ht
        rw [List.getElem?_set] at ht
        by_cases e2 : j = i
        · subst e2; rw [if_pos rfl] at ht; split at ht <;> cases ht; simp only [if_true]; exact hvr
        · rw [if_neg e2] at ht; simp only [if_neg (fun e3 => e2 (Eq.symm e3))]; exact hT i t ht
  obtain ⟨ents', clock', F', hrun, hmi, hT'⟩ := main
  have hs := heap_set (o' := .map ents' clock') hg
  have hne0 : ∀ b, K b = [] -> b ≠ g := fun b e1 e3 => by subst e3; rw [hKg] at e1; simp [col] at e1
  refine ⟨_, hrun, h.mapsetG hroot hsub (fun _ => rfl) hupd n1 hg hs.1 hKg (.mt _ g kk _ _ ents' clock' F' (by simp [col]) hKg hs.1 hmi (fun j t ht => TRep.fz (hT' j t ht) (fun b _ e => ⟨e, hs.2 b (hne0 b e)⟩) (by simp))) (by simp) (fun b hb => hs.2 b hb), ⟨rfl, rfl, rfl, by simp, fun b hb hc => ⟨rfl, hs.2 b (fun e => ?_)⟩, fun b arr e fz hb => ⟨arr, e, fz, (hs.2 b (fun e => by subst e; rw [hg] at hb; cases hb)).trans hb, rfl⟩⟩, fun b i s hb hi => hs.2 b (fun e => ?_)⟩
  · subst e; rw [hKg] at hc; rcases hc with hc | hc <;> simp [col] at hc
  · subst e; rw [hKg] at hb; simp [col] at hb; exact hi id p rfl hb.1.symm
def z5p (P : Program) (fr : Fr) (t : TypeId) (r : Option E) (d : Nat) : Option Fr :=
  match z5o P t with
  | none => none
  | some (kk, _) => if d < fr.nt /\ zeQ r = true then
      some { fr with tm := z6Y (z2k (kill d) fr.tm) d (.one (.h d [])), ob := z1Z fr.ob d (.mt kk [] []) } else none
theorem za0 {P : Program} {w : World} {K : Nat -> z0a} {R G : Nat -> Value} {fr fr' : Fr} {a : Act} {t : TypeId} {r : Option E} {ur : Option Value} {d : Nat} (h : FRep w K R G fr a) (hr : zgN w K R fr.ob r ur) (hf : z5p P fr t r d = some fr') :
    ∃ v w', (Instr.makeMap t ur).run P w = .ok v w' /\ (∃ K' R', FRep w' K' R' G fr' (a.put (some d) v) /\ Step w K w' K') /\ ∀ b, b < w.heap.size -> w'.heap[b]? = w.heap[b]? := by
  unfold z5p at hf
  split at hf
  case h_1 => cases hf
  case h_2 kk et ht =>
  split at hf
  case isFalse => cases hf
  case isTrue hc =>
  obtain ⟨hd, hc⟩ := hc
  cases hf
  obtain ⟨kt, u1, u3⟩ := z1D ht
  have hnew := NewB.alloc w (.map #[] 0)
  have hrun : (Instr.makeMap t ur).run P w = .ok (.map (some w.heap.size)) { w with heap := w.heap.push (.map #[] 0) } := by
    cases ur with
    | none => simp [Instr.makeMap, newObj, Sem.run]
    | some v =>
      cases r with
      | none => exact absurd hr id
      | some e =>
        simp only [zeQ] at hc
        split at hc
        · rename_i k n he
          obtain ⟨rfl, -⟩ := z0n hr he
          have h2 : (asInt (.int k n)).run P w = .ok n w := by simp [asInt, asIntOf]
          simp only [Instr.makeMap, Sem.run_bind, run_underlying u1, Result.andThen_ok, h2]
          simp [newObj, Sem.run]
        · cases hc
  refine ⟨_, _, hrun, ?_, fun b hb => hnew.old hb⟩
  have h2 := h.keep (hnew.keep (c := col d))
  have h3 := h2.replace (d := d) (v := .map (some w.heap.size)) (t := .mt kk [] []) ⟨fun b hb e => ⟨e, rfl⟩, fun b hb _ => ⟨rfl, rfl⟩, Nat.le_refl _⟩ (.mt _ w.heap.size kk [] [] #[] 0 (fun _ => undef) (z0q d) (by simp) hnew.new ⟨rfl, (rfl : ([] : List Value).length = 0), (fun x hx => by cases hx), (fun j e he => by simp at he), (fun j e he => by simp at he), (fun i j e e' he => by simp at he)⟩ (fun j t ht => by simp at ht))
  refine ⟨_, _, h3.put (d := d) (x := .one (.h d [])) hd ⟨by simp [z3P, nav], .mt kk [] [], by simp [z0e], rfl⟩, hnew.step⟩
def z6B (P : Program) (fr : Fr) (t : TypeId) (r : Option E) (d : Nat) : Option Fr :=
  match z5o P t with
  | none => none
  | some (_, et) => if ziU (z0z P et) = true then z5p P fr t r d else z6C P fr t r d
theorem za1 {P : Program} {w : World} {K : Nat -> z0a} {R G : Nat -> Value} {fr fr' : Fr} {a : Act} {t : TypeId} {r : Option E} {ur : Option Value} {d : Nat} (h : FRep w K R G fr a) (hr : zgN w K R fr.ob r ur) (hf : z6B P fr t r d = some fr') :
    ∃ v w', (Instr.makeMap t ur).run P w = .ok v w' /\ (∃ K' R', FRep w' K' R' G fr' (a.put (some d) v) /\ Step w K w' K') /\ ∀ b, b < w.heap.size -> w'.heap[b]? = w.heap[b]? := by
  unfold z6B at hf
  split at hf
  · cases hf
  · split at hf
    · exact za0 h hr hf
    · exact zba h hr hf
def z7g (P : Program) (fr : Fr) (t : TypeId) (m key val : E) : Option Fr :=
  match z8F P fr t m key val with | some f => some f | none => z6z P fr t m key val
theorem z7f {P : Program} {w : World} {K : Nat -> z0a} {R G : Nat -> Value} {fr fr' : Fr} {a : Act} {t : TypeId} {m key val : E} {um uk uv : Value} (h : FRep w K R G fr a) (hm : ERep w K R fr.ob m um) (hk : ERep w K R fr.ob key uk) (hv : ERep w K R fr.ob val uv) (hf : z7g P fr t m key val = some fr') :
    ∃ w', (Instr.mapUpdate t um uk uv).run P w = .ok () w' /\ FRep w' K R G fr' a /\ Step w K w' K /\ ∀ b i s, K b = (i + 2) :: s -> (∀ id p, m = .one (.h id p) -> i ≠ id) -> w'.heap[b]? = w.heap[b]? := by
  unfold z7g at hf
  split at hf
  · rename_i f hf'
    cases hf; exact zd4 h hm hk hv hf'
  · exact zb6 h hm hk hv hf
def z8K (P : Program) (M : Nat -> Bool) (fr : Fr) (t : TypeId) (x key : E) (ok : Bool) : Option E :=
  match z8L P M fr t x key ok with | some e => some e | none => z6D P M fr t x key ok
theorem zbc {P : Program} {w : World} {K : Nat -> z0a} {R G : Nat -> Value} {fr : Fr} {a : Act} {M : Nat -> Bool} {t : TypeId} {x key e : E} {u ku : Value} {ok : Bool} (h : FRep w K R G fr a) (hx : ERep w K R fr.ob x u) (hkey : ERep w K R fr.ob key ku) (hl : z8K P M fr t x key ok = some e) :
    ∃ v, ERep w K R fr.ob e v /\ ∀ w', Stay w w' K M -> (Instr.lookup t u ku ok).run P w' = .ok v w' := by
  unfold z8K at hl
  split at hl
  · rename_i f hf'
    cases hl; exact zd6 h hx hkey hf'
  · exact zbb h hx hkey hl
def z8G (P : Program) (M : Nat -> Bool) (fr : Fr) (t : TypeId) (x : E) : Option E :=
  match z8H P M fr t x with | some e => some e | none => z6A P M fr t x
theorem zb8 {P : Program} {w : World} {K : Nat -> z0a} {R G : Nat -> Value} {fr : Fr} {a : Act} {M : Nat -> Bool} {t : TypeId} {x e : E} {u : Value} (h : FRep w K R G fr a) (hx : ERep w K R fr.ob x u) (hl : z8G P M fr t x = some e) :
    ∃ v, ERep w K R fr.ob e v /\ ∀ w', Stay w w' K M -> ∀ ty, (Builtin.len_ #[t] ty #[u]).run P w' = .ok v w' := by
  unfold z8G at hl
  split at hl
  · rename_i f hf'
    cases hl; exact zd5 h hx hf'
  · exact zb7 h hx hl
end
section
def zb9 (P : Program) (M : Nat -> Bool) (fr : Fr) (c : Call) : Option E :=
  match c.callee, c.args.toList, c.argTypes.toList with
  | .builtin .len, [x], [t] => z8G P M fr t (opE fr x)
  | _, _, _ => none
def z3W (P : Program) (M : Nat -> Bool) (fr : Fr) (op : Op) : Option E :=
  match op with
  | .build t parts => z2M P fr t parts.toList
  | .lookup t x i ok => z8K P M fr t (opE fr x) (opE fr i) ok
  | .makeFunc fn first captured => z5q fr fn first.toList captured.toList
  | .call c => (match z3V P M fr (.call c) with | some e => some e | none => zb9 P M fr c)
  | op => z3V P M fr op
theorem z4l {P : Program} {w : World} {K : Nat -> z0a} {R G : Nat -> Value} {fr : Fr} {a : Act} {M : Nat -> Bool} {o : Oper} {e : E} (h : FRep w K R G fr a) (hq : z3W P M fr o.op = some e) :
    ∃ v, ERep w K R fr.ob e v /\ ∀ w', Stay w w' K M -> (execOp a.eval o).run P w' = .ok (.value v) w' := by
  have lift : ∀ {s : Sem Value} {v : Value} {w' : World}, s.run P w' = .ok v w' -> (do pure (Next.value (← s)) : Sem Next).run P w' = .ok (.value v) w' := fun {s v w'} hs => by
    simp only [Sem.run_bind, hs, Result.andThen_ok, Sem.run_pure]
  unfold z3W at hq
  split at hq
  · rename_i t parts hop
    obtain ⟨v, h1, h2⟩ := zfm h hq
    refine ⟨v, h1, fun w' _ => ?_⟩
    have : parts.map (fun (x : Nat × Operand) => (x.1, a.eval x.2)) = (parts.toList.map fun (i, x) => (i, a.eval x)).toArray := by
      apply Array.ext'; simp
    simp only [execOp, hop]
    rw [this]
    simp only [Sem.run_bind, h2, Result.andThen_ok, Sem.run_pure]
  · rename_i t x i ok hop
    obtain ⟨v, h1, h2⟩ := zbc h (h.opE x) (h.opE i) hq
    exact ⟨v, h1, fun w' hst => by simp only [execOp, hop]; exact lift (h2 w' hst)⟩
  · rename_i fn first captured hop
    refine ⟨_, za2 h hq, fun w' _ => ?_⟩
    have e1 : (first.toList.map a.eval).toArray = first.map a.eval := by apply Array.ext'; simp
    have e2 : (captured.toList.map a.eval).toArray = captured.map a.eval := by apply Array.ext'; simp
    rw [e1, e2]
    simp only [execOp, hop, Instr.makeFunc, Sem.run_bind, Sem.run_pure, Result.andThen_ok]
  · rename_i c hop
    split at hq
    · rename_i e' he'
      cases hq
      exact z9S h (by rw [hop]; exact he')
    · unfold zb9 at hq
      split at hq
      · rename_i x t hc hxs hts
        obtain ⟨v, h1, h2⟩ := zb8 h (h.opE x) hq
        refine ⟨v, h1, fun w' hst => ?_⟩
        obtain ⟨callee, args, ats⟩ := c
        simp only at hc hxs hts
        subst hc
        obtain rfl : args = #[x] := by apply Array.ext'; simpa using hxs
        obtain rfl : ats = #[t] := by apply Array.ext'; simpa using hts
        simp only [execOp, hop, resolve, Sem.run_bind, Sem.run_pure, Result.andThen_ok, invoke, builtin]
        simp [h2 w' hst]
      · cases hq
  · exact z9S h hq
def zal (P : Program) (fr : Fr) (o : Oper) : Option Fr :=
  match o.op with
  | .makeMap t r => (match o.dst with | some d => z6B P fr t (r.map (opE fr)) d | none => none)
  | .mapUpdate t m k v => (match o.dst with | none => z7g P fr t (opE fr m) (opE fr k) (opE fr v) | some _ => none)
  | .insert t m k v => (match o.dst with | none => z7g P fr t (opE fr m) (opE fr k) (opE fr v) | some _ => none)
  | _ => zkY P fr o
def z8p (o : Oper) : Bool :=
  match o.op with
  | .mapUpdate _ _ _ _ => false
  | .insert _ _ _ _ => false
  | _ => zbq o
theorem z6G {P : Program} {w : World} {K : Nat -> z0a} {R G : Nat -> Value} {fr fr' : Fr} {a : Act} {o : Oper} (h : FRep w K R G fr a) (hf : zal P fr o = some fr') :
    ∃ r w', (execOp a.eval o).run P w = .ok r w' /\ ((∃ v, r = .value v /\ ∃ K' R', FRep w' K' R' G fr' (a.put o.dst v) /\ Step w K w' K') ∨ (r = .skip /\ o.dst = none /\ ∃ K' R', FRep w' K' R' G fr' a /\ Step w K w' K')) /\ (z8p o = true -> ∀ b, b < w.heap.size -> w'.heap[b]? = w.heap[b]?) := by
  have lift : ∀ {s : Sem Value} {v : Value} {w'}, s.run P w = .ok v w' -> (do pure (Next.value (← s)) : Sem Next).run P w = .ok (.value v) w' := fun {s v w'} hs => by
    simp only [Sem.run_bind, hs, Result.andThen_ok, Sem.run_pure]
  unfold zal at hf
  split at hf
  · rename_i t r hop
    split at hf
    · rename_i d hd
      obtain ⟨v, w', h1, h2, h3⟩ := za1 h (z9m h r) hf
      exact ⟨_, w', by simp only [execOp, hop]; exact lift h1, .inl ⟨v, rfl, by rw [hd]; exact h2⟩, fun _ => h3⟩
    · cases hf
  · rename_i t m k v hop
    split at hf
    · rename_i hd
      obtain ⟨w', h1, h2, h3, _⟩ := z7f h (h.opE m) (h.opE k) (h.opE v) hf
      exact ⟨.skip, w', by simp only [execOp, hop, Sem.run_bind, h1, Result.andThen_ok, Sem.run_pure], .inr ⟨rfl, hd, K, R, h2, h3⟩, fun hc => by simp [z8p, hop] at hc⟩
    · cases hf
  · rename_i t m k v hop
    split at hf
    · rename_i hd
      obtain ⟨w', h1, h2, h3, _⟩ := z7f h (h.opE m) (h.opE k) (h.opE v) hf
      exact ⟨.skip, w', by simp only [execOp, hop, Sem.run_bind, h1, Result.andThen_ok, Sem.run_pure], .inr ⟨rfl, hd, K, R, h2, h3⟩, fun hc => by simp [z8p, hop] at hc⟩
    · cases hf
  · rename_i h1 h2 h3
    obtain ⟨r, w', e1, e2, e3⟩ := zim h hf
    refine ⟨r, w', e1, e2, fun hc => e3 ?_⟩
    unfold z8p at hc
    split at hc
    · cases hc
    · cases hc
    · exact hc
def putF (fr : Fr) (dst : Option Nat) (e : E) : Option Fr :=
  match dst with
  | none => some fr
  | some d => if d < fr.nt then some { fr with tm := z6Y fr.tm d e } else none
theorem FRep.putF {w : World} {K : Nat -> z0a} {R G : Nat -> Value} {fr fr' : Fr} {a : Act} {dst : Option Nat} {e : E} {v : Value} (h : FRep w K R G fr a) (he : ERep w K R fr.ob e v) (hf : putF fr dst e = some fr') : FRep w K R G fr' (a.put dst v) := by
  unfold Proofs.YthbchhekejljjaaGreatDoor.putF at hf
  split at hf
  · cases hf; exact h
  · split at hf
    · rename_i hd
      cases hf; exact h.put hd he
    · cases hf
def zgk (s : Nat) (p : List Nat) : List Nat := if s < 100000 then p else p ++ [s / 100000 - 1]
def zif (fr : Fr) (s : Nat) : Fr := match z0E fr.tm (s % 100000) with | .one (.h id p) => (freezeKids fr id (zgk s p)).getD fr | .one (.a id p _) => (freezeKids fr id (zgk s p)).getD fr | _ => fr
def frz1 (fr : Fr) (s : Nat) : Fr := if 1000000000 <= s then zif fr (s - 1000000000) else match z0E fr.tm (s % 100000) with | .one (.h id p) => (z1K fr id (zgk s p)).getD fr | .one (.a id p _) => (z1K fr id (zgk s p)).getD fr | .one (.tf n cs) => { fr with tm := z6Y fr.tm (s % 100000) (.one (.t none (.sl n cs))) } | _ => fr
def zie (fr : Fr) : List Nat -> Fr
  | [] => fr
  | s :: l => zie (frz1 fr s) l
theorem z8U {w : World} {G : Nat -> Value} {a : Act} : ∀ {l : List Nat} {K : Nat -> z0a} {R : Nat -> Value} {fr : Fr}, FRep w K R G fr a -> ∃ K', FRep w K' R G (zie fr l) a /\ Step w K w K'
  | [], K, R, fr, h => ⟨K, h, Step.refl _ _⟩
  | s :: l, K, R, fr, h => by
    have h1 : ∃ K', FRep w K' R G (frz1 fr s) a /\ Step w K w K' := by
      unfold frz1
      split
      · unfold zif
        split
        · rename_i id p he
          cases hf : freezeKids fr id (zgk (s - 1000000000) p) with
          | none => exact ⟨K, h, Step.refl _ _⟩
          | some fr' => exact h.freezeKids hf
        · rename_i id p off he
          cases hf : freezeKids fr id (zgk (s - 1000000000) p) with
          | none => exact ⟨K, h, Step.refl _ _⟩
          | some fr' => exact h.freezeKids hf
        · exact ⟨K, h, Step.refl _ _⟩
      split
      · rename_i id p he
        cases hf : z1K fr id (zgk s p) with
        | none => exact ⟨K, h, Step.refl _ _⟩
        | some fr' => exact ⟨_, (h.freeze hf).1, z4r id _⟩
      · rename_i id p off he
        cases hf : z1K fr id (zgk s p) with
        | none => exact ⟨K, h, Step.refl _ _⟩
        | some fr' => exact ⟨_, (h.freeze hf).1, z4r id _⟩
      · rename_i n cs he
        have h2 := h.tm (s % 100000)
        rw [he] at h2
        exact ⟨K, h.reput (d := s % 100000) (x := .one (.t none (.sl n cs))) ⟨h2.2, fun _ e => by cases e⟩, Step.refl _ _⟩
      · exact ⟨K, h, Step.refl _ _⟩
    obtain ⟨K1, h2, h3⟩ := h1
    obtain ⟨K2, h4, h5⟩ := z8U (l := l) h2
    exact ⟨K2, h4, h3.trans h5⟩
def z8a : Operand -> Nat
  | .tmp s => s
  | _ => 999999999
def opF (P : Program) (C : z0b) (wio : FuncId -> Nat -> Bool) (fr : Fr) (o : Oper) : Option Fr :=
  match o.op with
  | .assign x => (match putF fr o.dst (opE fr x) with
    | some fr1 => (match o.dst with | some d => if wio 777781 d = true then some fr1 else zkG P fr1 o.type d | none => some fr1)
    | none => none)
  | .call { callee := .value c, args, .. } => (match z5b fr c with | some (f, cs) => z5z C wio fr f (args.toList.map (opE fr) ++ cs.map fun t => .one (.t none t)) o.dst | none => none)
  | .store t ad x => if wio 777784 (z8a x) = true then (match o.dst with | none => z7Y P false (frz1 fr (z8a x)) t (opE (frz1 fr (z8a x)) ad) (opE (frz1 fr (z8a x)) x) | some _ => none) else if wio 999999 0 = true then (match o.dst with | none => z7Y P true fr t (opE fr ad) (opE fr x) | some _ => none) else zal P fr o
  | .buildSlice t n parts => if wio 777780 (o.dst.getD 0) = true then (match o.dst with | some d => if d < fr.nt then z4t P fr t n parts.toList d else none | none => none) else if wio 777782 (o.dst.getD 0) = true then (match o.dst with | some d => z3e P true fr t n parts.toList d | none => none) else zal P fr o
  | op => (match z3W P noM fr op with
    | some e => putF fr o.dst e
    | none => zal P fr o)
theorem z5T {P : Program} {w : World} {K : Nat -> z0a} {R G : Nat -> Value} {fr : Fr} {a : Act} {o : Oper} {c : Operand} {args : Array Operand} {ats : Array TypeId} {f : FuncId} {cs : List T} (h : FRep w K R G fr a) (hop : o.op = .call { callee := .value c, args := args, argTypes := ats }) (hc : z5b fr c = some (f, cs)) :
    ∃ vs : List Value, ((callFunc f vs.toArray).run P w = .ok (.enter f vs.toArray) w -> (execOp a.eval o).run P w = .ok (.enter f vs.toArray) w) /\ vs.length = (args.toList.map (opE fr) ++ cs.map fun t => E.one (.t none t)).length /\
      ∀ (j : Nat) (e : E) (v : Value), (args.toList.map (opE fr) ++ cs.map fun t => E.one (.t none t))[j]? = some e -> vs[j]? = some v -> ERep w K R fr.ob e v := by
  obtain ⟨us, u1, u2, u3⟩ := zau h hc
  refine ⟨args.toList.map a.eval ++ us, fun hcall => ?_, by simp [u2], fun j e v he hv => ?_⟩
  · have ha : (args.toList.map a.eval ++ us).toArray = args.map a.eval ++ us.toArray := by apply Array.ext'; simp
    rw [ha] at hcall ⊢
    simp only [execOp, hop, resolve, u1, Deferred.ofValue, Sem.run_bind, Sem.run_pure, Result.andThen_ok, invoke]
    simpa using hcall
  · rcases Nat.lt_or_ge j args.toList.length with hj | hj
    · rw [List.getElem?_append_left (by simpa using hj)] at he hv
      simp only [List.getElem?_map, Option.map_eq_some_iff] at he hv
      obtain ⟨x, hx, rfl⟩ := he
      obtain ⟨y, hy, rfl⟩ := hv
      rw [hx] at hy; cases hy
      exact h.opE x
    · rw [List.getElem?_append_right (by simpa using hj)] at he hv
      simp only [List.length_map, List.getElem?_map, Option.map_eq_some_iff] at he hv
      obtain ⟨t, ht, rfl⟩ := he
      exact ⟨u3 _ t v ht hv, fun _ e => by cases e⟩
theorem zhS {P : Program} {I : World -> (Nat -> z0a) -> Prop} {C : z0b} {wio : FuncId -> Nat -> Bool} {w : World} {K : Nat -> z0a} {R G : Nat -> Value} {fr fr' : Fr} {a : Act} {o : Oper} {next : Act -> World -> Prop} {Q : Exit -> Act -> World -> Prop}
    (hI : EnvS I) (hC : z2J P I C) (h : FRep w K R G fr a) (hIw : I w K) (hf : opF P C wio fr o = some fr') (hn : ∀ a' w' K' R', FRep w' K' R' G fr' a' -> Step w K w' K' -> next a' w') : o.wp P a w next Q := by
  unfold opF at hf
  split at hf
  · rename_i x hop
    split at hf
    case h_2 => cases hf
    case h_1 fr1 h1 =>
    have h2 := h.putF (v := a.eval x) (h.opE x) h1
    have hrun : (execOp a.eval o).run P w = .ok (.value (a.eval x)) w := by simp [execOp, hop]
    unfold Oper.wp
    rw [hrun]
    simp only [Oper.upon]
    split at hf
    · rename_i d hd
      split at hf
      · cases hf
        exact hn _ w K R h2 (Step.refl _ _)
      · obtain ⟨K', R', e1, e2, e3, _⟩ := zfr h2 hf
        exact hn _ w K' R' e1 e2
    · cases hf
      exact hn _ w K R h2 (Step.refl _ _)
  · rename_i c args ats hop
    split at hf
    · rename_i f cs hc
      obtain ⟨vs, q1, q2, q3⟩ := z5T (P := P) h hop hc
      exact zbr hI hC h hIw q1 q2 q3 hf fun a' w' K' R' h1 h2 _ => hn a' w' K' R' h1 h2
    · cases hf
  · rename_i t ad x hop
    have dflt : ∀ {fr'}, zal P fr o = some fr' -> (∀ a' w' K' R', FRep w' K' R' G fr' a' -> Step w K w' K' -> next a' w') -> o.wp P a w next Q := fun {fr'} hf hn => by
      obtain ⟨r, w', h1, h2, _⟩ := z6G h hf
      unfold Oper.wp
      rw [h1]
      rcases h2 with ⟨v, rfl, K', R', e1, e2⟩ | ⟨rfl, hd, K', R', e1, e2⟩
      · exact hn _ w' K' R' e1 e2
      · simp only [Oper.upon, hd]
        exact hn _ w' K' R' e1 e2
    split at hf
    · split at hf
      · rename_i hd
        obtain ⟨K0, h0, s0⟩ := z8U (l := [z8a x]) h
        simp only [zie] at h0
        obtain ⟨w', h1, ⟨K', R', e1, e2⟩, _⟩ := z5D h0 (h0.opE ad) (h0.opE x) hf
        unfold Oper.wp
        have hrun : (execOp a.eval o).run P w = .ok .skip w' := by
          simp only [execOp, hop, Sem.run_bind, h1, Result.andThen_ok, Sem.run_pure]
        rw [hrun]
        simp only [Oper.upon, hd]
        exact hn _ w' K' R' e1 (s0.trans e2)
      · cases hf
    split at hf
    · split at hf
      · rename_i hd
        obtain ⟨w', h1, ⟨K', R', e1, e2⟩, _⟩ := z5D h (h.opE ad) (h.opE x) hf
        unfold Oper.wp
        have hrun : (execOp a.eval o).run P w = .ok .skip w' := by
          simp only [execOp, hop, Sem.run_bind, h1, Result.andThen_ok, Sem.run_pure]
        rw [hrun]
        simp only [Oper.upon, hd]
        exact hn _ w' K' R' e1 e2
      · cases hf
    · exact dflt hf hn
  · rename_i t n parts hop
    split at hf
    · split at hf
      · rename_i d hd
        split at hf
        · rename_i hlt
          obtain ⟨v, w', h1, K', R', e1, e2⟩ := z9e h hlt hf
          have : parts.map (fun (x : Nat × Operand) => (x.1, a.eval x.2)) = (parts.toList.map fun (i, x) => (i, a.eval x)).toArray := by
            apply Array.ext'; simp
          have hrun : (execOp a.eval o).run P w = .ok (.value v) w' := by
            simp only [execOp, hop]
            rw [this]
            simp only [Sem.run_bind, h1, Result.andThen_ok, Sem.run_pure]
          unfold Oper.wp
          rw [hrun]
          simp only [Oper.upon, hd]
          exact hn _ w' K' R' e1 e2
        · cases hf
      · cases hf
    · split at hf
      · split at hf
        · rename_i d hd
          obtain ⟨v, w', _, h1, ⟨K', R', e1, e2, _⟩, _⟩ := z4j h hf
          have : parts.map (fun (x : Nat × Operand) => (x.1, a.eval x.2)) = (parts.toList.map fun (i, x) => (i, a.eval x)).toArray := by
            apply Array.ext'; simp
          have hrun : (execOp a.eval o).run P w = .ok (.value v) w' := by
            simp only [execOp, hop]
            rw [this]
            simp only [Sem.run_bind, h1, Result.andThen_ok, Sem.run_pure]
          unfold Oper.wp
          rw [hrun]
          simp only [Oper.upon, hd]
          exact hn _ w' K' R' e1 e2
        · cases hf
      · obtain ⟨r, w', h1, h2, _⟩ := z6G h hf
        unfold Oper.wp
        rw [h1]
        rcases h2 with ⟨v, rfl, K', R', e1, e2⟩ | ⟨rfl, hd, K', R', e1, e2⟩
        · exact hn _ w' K' R' e1 e2
        · simp only [Oper.upon, hd]
          exact hn _ w' K' R' e1 e2
  · split at hf
    · rename_i e he
      obtain ⟨v, h1, h2⟩ := z4l h he
      unfold Oper.wp
      rw [h2 w (Stay.refl w K noM)]
      exact hn _ w K R (h.putF h1 hf) (Step.refl _ _)
    · obtain ⟨r, w', h1, h2, _⟩ := z6G h hf
      unfold Oper.wp
      rw [h1]
      rcases h2 with ⟨v, rfl, K', R', e1, e2⟩ | ⟨rfl, hd, K', R', e1, e2⟩
      · exact hn _ w' K' R' e1 e2
      · simp only [Oper.upon, hd]
        exact hn _ w' K' R' e1 e2
def zbw : E -> Option (Option Bool)
  | .one (.k (.bool b)) => some (some b)
  | .one (.k _) => some none
  | .one (.t _ (.sc (.bool b))) => some (some b)
  | _ => none
def z3a (ops : Array Oper) (fr : Fr) (o : Oper) : Option Bool :=
  match o.guard with
  | none => some true
  | some (j, want) => match (ops[j]?).bind (·.dst) with
    | none => some false
    | some t => if t < fr.nt then (match zbw (z0E fr.tm t) with | some b => some (b == some want) | none => none) else none
theorem z3r {w : World} {K : Nat -> z0a} {R G : Nat -> Value} {fr : Fr} {a : Act} {ops : Array Oper} {o : Oper} {b : Bool} (h : FRep w K R G fr a) (hg : z3a ops fr o = some b) : Region.wanted o (yielded ops a.tmps) = b := by
  unfold z3a at hg
  unfold Region.wanted
  split at hg
  · rename_i hn
    rw [hn]; cases hg; rfl
  · rename_i j want hn
    rw [hn]
    simp only
    split at hg
    · rename_i hd
      cases hg
      simp [yielded, hd]
    · rename_i t hd
      split at hg
      · rename_i ht
        split at hg
        · rename_i y hy
          cases hg
          have hreg := h.tm t
          rw [z3M, if_pos (by rw [h.nt]; exact ht)] at hreg
          have htmp : a.tmps[t]? = some (a.tmps.getD t undef) := z1x _ _ (by rw [h.nt]; exact ht)
          have hyy : yielded ops a.tmps j = y := by
            simp only [yielded, hd, Option.bind_some, htmp]
            generalize a.tmps.getD t undef = u at hreg
            unfold zbw at hy
            split at hy
            · rename_i b' he
              cases hy
              rw [he] at hreg
              obtain rfl : u = .bool b' := hreg
              rfl
            · rename_i v hnb he
              cases hy
              rw [he] at hreg
              obtain rfl : u = v := hreg
              cases u <;> first | rfl | (exfalso; exact hnb _ rfl)
            · rename_i dep b' he
              cases hy
              rw [he] at hreg
              have := hreg.1.sc_eq
              subst this; rfl
            · cases hy
          rw [hyy]
        · cases hg
      · cases hg
def zaX (P : Program) (C : z0b) (wio : FuncId -> Nat -> Bool) (ops : Array Oper) : List Oper -> Fr -> Option Fr
  | [], fr => some fr
  | o :: rest, fr => match z3a ops fr o with
    | none => none
    | some true => (match opF P C wio fr o with | some fr' => zaX P C wio ops rest fr' | none => none)
    | some false => (match putF fr o.dst (.one (.k undef)) with | some fr' => zaX P C wio ops rest fr' | none => none)
theorem zef {P : Program} {I : World -> (Nat -> z0a) -> Prop} {C : z0b} {wio : FuncId -> Nat -> Bool} {ops : Array Oper} {Q : Exit -> Act -> World -> Prop} (hI : EnvS I) (hC : z2J P I C) : ∀ {l : List Oper} {w : World} {K : Nat -> z0a} {R G : Nat -> Value} {fr fr' : Fr} {a : Act}, FRep w K R G fr a -> I w K -> zaX P C wio ops l fr = some fr' ->
    (∀ a' w' K' R', FRep w' K' R' G fr' a' -> Step w K w' K' -> Q .normal a' w') -> wpList P ops Q l a w
  | [], w, K, R, G, fr, fr', a, h, hIw, hf, hn => by
    cases hf
    exact wpList_nil (hn a w K R h (Step.refl _ _))
  | o :: rest, w, K, R, G, fr, fr', a, h, hIw, hf, hn => by
    simp only [zaX] at hf
    split at hf
    · cases hf
    · rename_i hg
      split at hf
      · rename_i fr1 h1
        refine wpList_step fun Kk hK => ?_
        rw [z3r h hg]
        simp only [if_true]
        exact zhS hI hC h hIw h1 fun a' w' K' R' hr hs => hK a' w' (zef hI hC hr (hI.step hIw hs) hf fun a2 w2 K2 R2 hr2 hs2 => hn a2 w2 K2 R2 hr2 (hs.trans hs2))
      · cases hf
    · rename_i hg
      split at hf
      · rename_i fr1 h1
        refine wpList_step fun Kk hK => ?_
        rw [z3r h hg]
        simp only [Bool.false_eq_true, if_false]
        exact hK _ _ (zef hI hC (h.putF (v := undef) (e := .one (.k undef)) rfl h1) hIw hf hn)
      · cases hf
end
section
section
variable {P : Program} {ops : Array Oper} {Q : Exit -> Act -> World -> Prop} {md : Region.Mode}
def NoPz (Q : Exit -> Act -> World -> Prop) : Exit -> Act -> World -> Prop
  | .panic _, _, _ => False
  | e, a, w => Q e a w
theorem NoPz.imp {Q : Exit -> Act -> World -> Prop} : ∀ (e : Exit) (a : Act) (w : World), NoPz Q e a w -> Q e a w := fun e a w h => by
  cases e <;> first | exact h | exact (h : False).elim
def ShutL (md : Region.Mode) (ops : Array Oper) (L : Array Bool) : Prop :=
  L.size = ops.size /\ ∀ (i : Nat) (o : Oper), ops[i]? = some o -> L.getD i false = true -> ∀ e ∈ o.after, Region.binds md e = true -> L.getD e.on false = true
theorem ShutL.set {L : Array Bool} {j : Nat} (h : ShutL md ops L) (hj : j ∈ Region.ready md ops L) : ShutL md ops (L.setIfInBounds j true) := by
  obtain ⟨h1, h2⟩ := h
  obtain ⟨j1, o, j2, j3⟩ := mem_ready.1 hj
  refine ⟨by simpa using h1, fun i oi hi hl e he hb => ?_⟩
  have mono : ∀ k, L.getD k false = true -> (L.setIfInBounds j true).getD k false = true := fun k hk => by
    simp only [Array.getD_eq_getD_getElem?, Array.getElem?_setIfInBounds] at hk ⊢
    split
    · split <;> simp_all
    · exact hk
  by_cases e1 : i = j
  · subst e1
    rw [j2] at hi; cases hi
    exact mono _ (j3 e he hb)
  · refine mono _ (h2 i oi hi ?_ e he hb)
    simp only [Array.getD_eq_getD_getElem?, Array.getElem?_setIfInBounds] at hl ⊢
    rw [if_neg (fun e2 => e1 e2.symm)] at hl
    exact hl
def zjd (md : Region.Mode) (ops : Array Oper) (l : List Nat) : List Nat := l.flatMap fun i => match ops[i]? with | some o => (o.after.toList.filter (Region.binds md)).map (·.on) | none => []
def zix (md : Region.Mode) (ops : Array Oper) : Nat -> List Nat -> List Nat
  | 0, l => l
  | n + 1, l => zix md ops n ((zjd md ops l).foldl (fun acc x => if acc.contains x then acc else x :: acc) l)
theorem zbT {x : Nat} : ∀ {m l : List Nat}, x ∈ m.foldl (fun acc x => if acc.contains x then acc else x :: acc) l -> x ∈ m ∨ x ∈ l
  | [], l, h => .inr h
  | a :: m, l, h => by
    simp only [List.foldl_cons] at h
    rcases zbT h with h | h
    · exact .inl (.tail _ h)
    · split at h
      · exact .inr h
      · rcases List.mem_cons.1 h with h | h
        · subst h; exact .inl (.head _)
        · exact .inr h
theorem z5V {L : Array Bool} (hL : ShutL md ops L) : ∀ (n : Nat) (l : List Nat), (∀ i ∈ l, L.getD i false = true) -> ∀ i ∈ zix md ops n l, L.getD i false = true
  | 0, l, h, i, hi => h i hi
  | n + 1, l, h, i, hi => by
    refine z5V hL n _ (fun k hk => ?_) i hi
    rcases zbT hk with hk | hk
    · simp only [zjd, List.mem_flatMap] at hk
      obtain ⟨j, hj, hk⟩ := hk
      split at hk
      · rename_i o ho
        simp only [List.mem_map, List.mem_filter, Array.mem_toList_iff] at hk
        obtain ⟨e, ⟨he, hb⟩, rfl⟩ := hk
        exact hL.2 j o ho (h j hj) e he hb
      · cases hk
    · exact h k hk
def z2K (P : Program) (md : Region.Mode) (ops : Array Oper) (Q : Exit -> Act -> World -> Prop) (S : Array Bool -> World -> Prop) : Nat -> Array Bool -> Act -> World -> Prop
  | 0, L, a, w => Region.ready md ops L = [] /\ Q .normal a w
  | n + 1, L, a, w =>
    (Region.ready md ops L = [] -> Q .normal a w) /\
    ∀ i ∈ Region.ready md ops L, wpOp P ops Q i (fun a' w' => S (L.setIfInBounds i true) w' /\ z2K P md ops Q S n (L.setIfInBounds i true) a' w') a w
theorem z5A {S : Array Bool -> World -> Prop} : ∀ (n : Nat) (L : Array Bool) (a : Act) (w : World), z2K P md ops Q S n L a w -> wpAny P md ops Q n L a w
  | 0, _, _, _, h => h
  | n + 1, _, _, _, h => ⟨h.1, fun i hi => wpOp_mono (fun a' w' h' => z5A n _ a' w' h'.2) (h.2 i hi)⟩
theorem z3x {S S' : Array Bool -> World -> Prop} (p : Array Bool -> Prop) (hp : ∀ L j, p L -> p (L.setIfInBounds j true)) (h : ∀ L w, p L -> S' L w -> S L w) : ∀ (n : Nat) (L : Array Bool) (a : Act) (w : World), p L -> z2K P md ops Q S' n L a w -> z2K P md ops Q S n L a w
  | 0, _, _, _, _, hh => hh
  | n + 1, L, a, w, hL, hh => ⟨hh.1, fun i hi => wpOp_mono (fun a' w' h3 => ⟨h _ _ (hp L i hL) h3.1, z3x p hp h n _ a' w' (hp L i hL) h3.2⟩) (hh.2 i hi)⟩
theorem z5X {S : Array Bool -> World -> Prop} {C : World -> Prop} {i : Nat} {oi : Oper} {v : Value} (hi : ops[i]? = some oi) (hsel : ∀ (j : Nat) (o : Oper) cs b, ops[j]? = some o -> o.op ≠ .select cs b)
    (hQ : ∀ c a w, Q (.panic c) (a.put oi.dst v) w -> Q (.panic c) a w) (hS : ∀ L w, S (L.setIfInBounds i true) w ↔ S L w) (hC : ∀ L w, ShutL md ops L -> L.getD i true = false -> S L w -> C w) :
    ∀ (n : Nat) (L : Array Bool) (a : Act) (w : World), ShutL md ops L ->
      (∀ j oj, ops[j]? = some oj -> j ≠ i -> L.getD j true = false -> (∀ e ∈ oj.after, Region.binds md e = true -> e.on ≠ i) -> oi.apart ops oj = true) ->
      i ∈ Region.ready md ops L -> YieldsIf P ops C oi v a -> S L w ->
      z2K P md ops Q S n (L.setIfInBounds i true) (a.put oi.dst v) w -> z2K P md ops Q S (n + 1) L a w := by
  intro n
  induction n with
  | zero =>
    intro L a w hsh _ hr hy hSw H
    have hun := (mem_ready.1 hr).1
    refine ⟨fun h => (by rw [h] at hr; cases hr), fun j hj => ?_⟩
    by_cases hji : j = i
    · subst hji; exact hy.wpOp hi (hC L w hsh hun hSw) ⟨(hS L w).2 hSw, H⟩
    · have := ready_mono hj hji
      rw [H.1] at this
      cases this
  | succ n ih =>
    intro L a w hsh hfree hr hy hSw H
    have hun := (mem_ready.1 hr).1
    refine ⟨fun h => (by rw [h] at hr; cases hr), fun j hj => ?_⟩
    by_cases hji : j = i
    · subst hji; exact hy.wpOp hi (hC L w hsh hun hSw) ⟨(hS L w).2 hSw, H⟩
    · have h1 := H.2 j (ready_mono hj hji)
      obtain ⟨hjun, oj, hoj, hall⟩ := mem_ready.1 hj
      have hnot : ∀ e ∈ oj.after, Region.binds md e = true -> e.on ≠ i := fun e he hb heq => by
        have h1 := hall e he hb
        have h0 := (mem_ready.1 hr).1
        rw [heq] at h1
        rcases Nat.lt_or_ge i L.size with h' | h'
        · simp [h'] at h0 h1; rw [h0] at h1; cases h1
        · simp [Array.getElem?_eq_none h'] at h1
      have h2 := wpOp_putIf hoj (hfree j oj hoj hji hjun hnot) (fun cs b => hsel i oi cs b hi) (fun cs b => hsel j oj cs b hoj) hQ hy h1
      have hfree' : ∀ k ok, ops[k]? = some ok -> k ≠ i -> (L.setIfInBounds j true).getD k true = false ->
          (∀ e ∈ ok.after, Region.binds md e = true -> e.on ≠ i) -> oi.apart ops ok = true := fun k ok hk hki hun hno => by
        refine hfree k ok hk hki ?_ hno
        by_cases hjk : j = k
        · subst hjk; exact hjun
        · rw [getD_set_ne true hjk] at hun; exact hun
      have hcomm : (L.setIfInBounds i true).setIfInBounds j true = (L.setIfInBounds j true).setIfInBounds i true := (Array.setIfInBounds_comm _ _ (Ne.symm hji))
      refine wpOp_mono (fun a' w' h3 => ?_) h2
      have hS' : S (L.setIfInBounds j true) w' := by
        have := h3.2.1
        rw [hcomm] at this
        exact (hS _ w').1 this
      refine ⟨hS', ih (L.setIfInBounds j true) a' w' (hsh.set hj) hfree' (ready_mono hr (Ne.symm hji)) h3.1 hS' ?_⟩
      have := h3.2.2
      rwa [hcomm] at this
def z3B : List (Nat × Oper × Nat) -> Option Nat
  | [] => none
  | (k, _, m) :: r => if m = 2 then some k else z3B r
def zhr (md : Region.Mode) (ops : Array Oper) (k : Nat) (rest : List (Nat × Oper × Nat)) : Bool := match z3B rest with | none => true | some z => (zix md ops ops.size [z]).contains k
def z2W (P : Program) (md : Region.Mode) (ops : Array Oper) (Q : Exit -> Act -> World -> Prop) : List (Nat × Oper × Nat) -> (World -> Prop) -> (World -> Prop) -> (World -> Prop) -> Act -> Prop
  | [], A, B, T, a => ∀ w, T w -> Q .normal a w
  | (k, o, m) :: rest, A, B, T, a =>
    if Region.wanted o (yielded ops a.tmps) = true then
      (if m = 0 ∨ m = 3 then ∃ v, (∀ w, (if m = 0 then A w else B w) -> (execOp a.eval o).run P w = .ok (.value v) w) /\ z2W P md ops Q rest A B T (a.put o.dst v)
      else ∀ w, T w -> o.wp P a w (fun a' w' => ∃ A' B' T' : World -> Prop, T' w' /\ (∀ x, T' x -> A' x) /\ (∀ x, A' x -> B' x) /\ (∀ x, B' x -> B x) /\ (m = 2 ∨ ∀ x, A' x -> A x) /\ z2W P md ops Q rest A' B' T' a') Q)
    else z2W P md ops Q rest A B T (a.put o.dst undef)
def z8f (md : Region.Mode) (ops : Array Oper) : List (Nat × Oper × Nat) -> Array Bool -> Bool
  | [], L => decide (Region.ready md ops L = [])
  | (k, _, m) :: rest, L => (if m = 0 ∨ m = 3 then (Region.ready md ops L).contains k && Region.free md ops L k && decide (z3B rest ≠ some k) && (m == 3 || zhr md ops k rest) else decide (Region.ready md ops L = [k])) && z8f md ops rest (L.setIfInBounds k true)
def zbp (z : Option Nat) (A B : World -> Prop) (L : Array Bool) (w : World) : Prop := match z with | none => A w | some z => if L.getD z false = true then B w else A w
theorem zh4 {z : Option Nat} {A B : World -> Prop} (hAB : ∀ x, A x -> B x) {L : Array Bool} {w : World} (h : zbp z A B L w) : B w := by
  unfold zbp at h
  split at h
  · exact hAB _ h
  · split at h
    · exact h
    · exact hAB _ h
theorem zbo {z : Option Nat} {A B : World -> Prop} (hAB : ∀ x, A x -> B x) {L : Array Bool} {w : World} (h : A w) : zbp z A B L w := by
  unfold zbp
  split
  · exact h
  · split
    · exact hAB _ h
    · exact h
theorem z2Q {L : Array Bool} {k : Nat} (h : k < L.size) : (L.setIfInBounds k true).getD k false = true := by
  simp [Array.getD_eq_getD_getElem?, h]
theorem z3F {L : Array Bool} {k j : Nat} (h : L.getD k false = true) : (L.setIfInBounds j true).getD k false = true := by
  simp only [Array.getD_eq_getD_getElem?, Array.getElem?_setIfInBounds] at h ⊢
  split
  · split <;> simp_all
  · exact h
theorem zeT {L : Array Bool} {k : Nat} (h : L.getD k true = false) : L.getD k false = false := by
  simp only [Array.getD_eq_getD_getElem?] at h ⊢
  cases hk : L[k]? with
  | none => rfl
  | some b => rw [hk] at h; simpa using h
theorem z3w (hs : Region.noSelect ops = true) (hQ : ∀ c a d v w, Q (.panic c) (Act.put a d v) w -> Q (.panic c) a w) : ∀ (l : List (Nat × Oper × Nat)) (L : Array Bool) (A B T : World -> Prop) (a : Act),
    (∀ x ∈ l, ops[x.1]? = some x.2.1) -> ShutL md ops L -> z8f md ops l L = true -> (∀ x, A x -> B x) -> (∀ x, T x -> A x) -> z2W P md ops Q l A B T a -> ∀ w, T w -> z2K P md ops Q (zbp (z3B l) A B) l.length L a w
  | [], L, A, B, T, a, _, hsh, hO, hAB, hTA, h, w, hw => ⟨by simpa [z8f] using hO, h w hw⟩
  | (k, o, m) :: rest, L, A, B, T, a, hl, hsh, hO, hAB, hTA, h, w, hw => by
    have h0 : ops[k]? = some o := hl (k, o, m) (by simp)
    have hk : k < L.size := by rw [hsh.1]; exact (Array.getElem?_eq_some_iff.1 h0).1
    have hl' : ∀ x ∈ rest, ops[x.1]? = some x.2.1 := fun x hx => hl x (by simp [hx])
    simp only [z8f, Bool.and_eq_true] at hO
    obtain ⟨hO1, hO2⟩ := hO
    by_cases hm : m = 0 ∨ m = 3
    · rw [if_pos hm] at hO1
      simp only [Bool.and_eq_true, decide_eq_true_eq] at hO1
      obtain ⟨⟨⟨hr, hf⟩, hzk⟩, hso⟩ := hO1
      have hm2 : m ≠ 2 := by rcases hm with e | e <;> omega
      have hr' : k ∈ Region.ready md ops L := by simpa using hr
      have key : ∃ v, YieldsIf P ops (fun w => if m = 0 then A w else B w) o v a /\ z2W P md ops Q rest A B T (a.put o.dst v) := by
        simp only [z2W, if_pos hm] at h
        split at h
        · rename_i hwt
          obtain ⟨v, h1, h2⟩ := h
          exact ⟨v, .inl ⟨hwt, h1⟩, h2⟩
        · rename_i hwt
          exact ⟨undef, .inr ⟨by simpa using hwt, rfl⟩, h⟩
      obtain ⟨v, hy, hK⟩ := key
      have hnz : z3B ((k, o, m) :: rest) = z3B rest := by simp [z3B, hm2]
      rw [hnz]
      refine z5X (C := fun w => if m = 0 then A w else B w) h0 (Region.noSelect_spec hs) (fun c a w h => hQ c a _ _ w h) (fun L' w' => ?_) (fun L' w' hsh' hun hS => ?_) rest.length L a w hsh (Region.free_spec h0 hf) hr' hy (zbo hAB (hTA _ hw))
        (z3w hs hQ rest _ A B T _ hl' (hsh.set hr') hO2 hAB hTA hK w hw)
      · cases hz : z3B rest with
        | none => exact Iff.rfl
        | some z =>
          have hne : z ≠ k := fun e => hzk (by rw [hz, e])
          have : (L'.setIfInBounds k true).getD z false = L'.getD z false := by
            simp only [Array.getD_eq_getD_getElem?, Array.getElem?_setIfInBounds]
            rw [if_neg (fun e => hne e.symm)]
          simp only [zbp, this]
      · by_cases hm0 : m = 0
        · rw [if_pos hm0]
          subst hm0
          have hso : zhr md ops k rest = true := by simpa using hso
          unfold zhr at hso
          split at hso
          · rename_i hz
            rw [hz] at hS
            exact hS
          · rename_i z hz
            rw [hz] at hS
            simp only [zbp] at hS
            split at hS
            · rename_i hlz
              have := z5V hsh' ops.size [z] (fun i hi => by simp at hi; subst hi; exact hlz) k (by simpa using hso)
              rw [zeT hun] at this
              cases this
            · exact hS
        · rw [if_neg hm0]
          exact zh4 hAB hS
    · rw [if_neg hm] at hO1
      have hr : Region.ready md ops L = [k] := by simpa using hO1
      have hr' : k ∈ Region.ready md ops L := by rw [hr]; simp
      refine ⟨fun h1 => (by rw [h1] at hr; cases hr), fun i hi => ?_⟩
      rw [hr] at hi
      obtain rfl : i = k := by simpa using hi
      simp only [z2W, if_neg hm] at h
      unfold wpOp
      simp only [h0]
      have fin : ∀ (A' B' T' : World -> Prop) (a' : Act) (w' : World), T' w' -> (∀ x, T' x -> A' x) -> (∀ x, A' x -> B' x) -> (∀ x, B' x -> B x) -> (m = 2 ∨ ∀ x, A' x -> A x) -> z2W P md ops Q rest A' B' T' a' ->
          zbp (z3B ((i, o, m) :: rest)) A B (L.setIfInBounds i true) w' /\ z2K P md ops Q (zbp (z3B ((i, o, m) :: rest)) A B) rest.length (L.setIfInBounds i true) a' w' := fun A' B' T' a' w' t1 t2 t3 t4 t5 t6 => by
        have hrest := z3w hs hQ rest _ A' B' T' a' hl' (hsh.set hr') hO2 t3 t2 t6 w' t1
        by_cases hm2 : m = 2
        · have hz : z3B ((i, o, m) :: rest) = some i := by simp [z3B, hm2]
          rw [hz]
          have hp : ∀ (L' : Array Bool) (x : World), L'.getD i false = true -> zbp (z3B rest) A' B' L' x -> zbp (some i) A B L' x := fun L' x hL hx => by
            simp only [zbp, hL, if_true]
            exact t4 _ (zh4 t3 hx)
          refine ⟨hp _ _ (z2Q hk) (zbo t3 (t2 _ t1)), z3x (fun L' => L'.getD i false = true) (fun L' j hL => z3F hL) hp rest.length _ a' w' (z2Q hk) hrest⟩
        · have hz : z3B ((i, o, m) :: rest) = z3B rest := by simp [z3B, hm2]
          rw [hz]
          have t5' : ∀ x, A' x -> A x := by rcases t5 with e | e; exact absurd e hm2; exact e
          have hp : ∀ (L' : Array Bool) (x : World), True -> zbp (z3B rest) A' B' L' x -> zbp (z3B rest) A B L' x := fun L' x _ hx => by
            cases hz2 : z3B rest with
            | none => rw [hz2] at hx; exact t5' _ hx
            | some z =>
              rw [hz2] at hx
              simp only [zbp] at hx ⊢
              by_cases hh : L'.getD z false = true
              · rw [if_pos hh] at hx ⊢; exact t4 _ hx
              · rw [if_neg hh] at hx ⊢; exact t5' _ hx
          exact ⟨hp _ _ trivial (zbo t3 (t2 _ t1)), z3x (fun _ => True) (fun _ _ _ => trivial) hp rest.length _ a' w' trivial hrest⟩
      split
      · rename_i hwt
        rw [if_pos hwt] at h
        exact .inl (Oper.wp_mono (fun a' w' ⟨A', B', T', h1, h2, h3, h4, h5, h6⟩ => fin A' B' T' a' w' h1 h2 h3 h4 h5 h6) (h w hw))
      · rename_i hwt
        rw [if_neg hwt] at h
        exact fin A B T _ w hw hTA hAB (fun _ h => h) (.inr fun _ h => h) h
def z5n (ops : Array Oper) (sch : List (Nat × Nat)) : List (Nat × Oper × Nat) := sch.filterMap fun x => (ops[x.1]?).map fun o => (x.1, o, x.2)
theorem z6n {id : Nat} {a : Act} {w : World} {l : List Oper} (sch : List (Nat × Nat)) (A B T : World -> Prop) (hm : P.follows .mixedOrders = true) (hlen : (z5n l.toArray sch).length = l.length)
    (hs : Region.noSelect l.toArray = true) (hO : z8f .any l.toArray (z5n l.toArray sch) (Array.replicate l.length false) = true)
    (hAB : ∀ x, A x -> B x) (hTA : ∀ x, T x -> A x) (hT : T w.drew) (h : z2W P .any l.toArray (NoPz Q) (z5n l.toArray sch) A B T a) : (Code.region id l.toArray true).wp P Q a w := by
  refine Code.wp_mono NoPz.imp (wp_region_any hm ?_)
  have hsh : ShutL .any l.toArray (Array.replicate l.length false) := ⟨by simp, fun i o ho hL => by
    simp only [Array.getD_eq_getD_getElem?, Array.getElem?_replicate] at hL
    split at hL <;> simp at hL⟩
  have := z3w (md := .any) hs (fun _ _ _ _ _ h => h) (z5n l.toArray sch) (Array.replicate l.length false) A B T a (fun x hx => by
    simp only [z5n, List.mem_filterMap, Option.map_eq_some_iff] at hx
    obtain ⟨y, _, o, ho, rfl⟩ := hx
    exact ho) hsh hO hAB hTA h w.drew hT
  rw [hlen] at this
  have h2 := z5A _ _ _ _ this
  simpa using h2
end
end
section
inductive SchT where
  | nil
  | op (k m : Nat) (rest : SchT)
  | alt (a b : SchT)
def SchT.heads : SchT -> List Nat
  | .nil => []
  | .op k _ _ => [k]
  | .alt a b => a.heads ++ b.heads
def SchT.nexts : SchT -> List Nat
  | .nil => []
  | .op k m r => if m = 2 then [k] else r.nexts
  | .alt a b => a.nexts ++ b.nexts
def SchT.depth : SchT -> Nat
  | .nil => 0
  | .op _ _ r => r.depth + 1
  | .alt a _ => a.depth
section
variable {P : Program} {ops : Array Oper} {Q : Exit -> Act -> World -> Prop} {md : Region.Mode}
def z6o (P : Program) (md : Region.Mode) (ops : Array Oper) (Q : Exit -> Act -> World -> Prop) : SchT -> (World -> Prop) -> (World -> Prop) -> (World -> Prop) -> Act -> Prop
  | .nil, A, B, T, a => ∀ w, T w -> Q .normal a w
  | .op k m rest, A, B, T, a => ∃ o, ops[k]? = some o /\
    (if Region.wanted o (yielded ops a.tmps) = true then
      (if m = 0 ∨ m = 3 then ∃ v, (∀ w, (if m = 0 then A w else B w) -> (execOp a.eval o).run P w = .ok (.value v) w) /\ z6o P md ops Q rest A B T (a.put o.dst v)
      else ∀ w, T w -> o.wp P a w (fun a' w' => ∃ A' B' T' : World -> Prop, T' w' /\ (∀ x, T' x -> A' x) /\ (∀ x, A' x -> B' x) /\ (∀ x, B' x -> B x) /\ (m = 2 ∨ ∀ x, A' x -> A x) /\ z6o P md ops Q rest A' B' T' a') Q)
    else z6o P md ops Q rest A B T (a.put o.dst undef))
  | .alt x y, A, B, T, a => z6o P md ops Q x A B T a /\ z6o P md ops Q y A B T a
def z0T (md : Region.Mode) (ops : Array Oper) : Bool -> SchT -> Array Bool -> Bool
  | top, .nil, L => top && decide (Region.ready md ops L = [])
  | top, .op k m rest, L => (if top = true /\ (m = 0 ∨ m = 3) then (Region.ready md ops L).contains k && Region.free md ops L k && !(rest.nexts.contains k) && (m == 3 || rest.nexts.all fun z => (zix md ops ops.size [z]).contains k) else (decide (m = 1 ∨ m = 2)) && (if top = true then decide (Region.ready md ops L = [k]) else (Region.ready md ops L).contains k)) && z0T md ops true rest (L.setIfInBounds k true)
  | top, .alt a b, L => (!top || decide (∀ i ∈ Region.ready md ops L, i ∈ a.heads ++ b.heads)) && decide (a.depth = b.depth) && z0T md ops false a L && z0T md ops false b L
def z7x (zs : List Nat) (A B : World -> Prop) (L : Array Bool) (w : World) : Prop := if ∃ z ∈ zs, L.getD z false = true then B w else A w
theorem zff {zs : List Nat} {A B : World -> Prop} (hAB : ∀ x, A x -> B x) {L : Array Bool} {w : World} (h : z7x zs A B L w) : B w := by
  unfold z7x at h; split at h
  · exact h
  · exact hAB _ h
theorem zfe {zs : List Nat} {A B : World -> Prop} (hAB : ∀ x, A x -> B x) {L : Array Bool} {w : World} (h : A w) : z7x zs A B L w := by
  unfold z7x; split
  · exact hAB _ h
  · exact h
theorem zab {L : Array Bool} {k z : Nat} (h : z ≠ k) : (L.setIfInBounds k true).getD z false = L.getD z false := by
  simp only [Array.getD_eq_getD_getElem?, Array.getElem?_setIfInBounds]
  rw [if_neg (fun e => h e.symm)]
theorem zgw {zs : List Nat} {k m : Nat} {rest : SchT} {L : Array Bool} {A B T : World -> Prop} {a : Act} {o : Oper} {n : Nat} (ho : ops[k]? = some o) (hk : k < L.size) (hm : m = 1 ∨ m = 2) (hz : m = 2 -> k ∈ zs) (hz1 : m ≠ 2 -> ∀ z ∈ rest.nexts, z ∈ zs)
    (hAB : ∀ x, A x -> B x) (hTA : ∀ x, T x -> A x) (h : z6o P md ops Q (.op k m rest) A B T a) {w : World} (hw : T w)
    (ih : ∀ (A' B' T' : World -> Prop) (a' : Act), (∀ x, A' x -> B' x) -> (∀ x, T' x -> A' x) -> z6o P md ops Q rest A' B' T' a' -> ∀ w, T' w -> z2K P md ops Q (z7x rest.nexts A' B') n (L.setIfInBounds k true) a' w) :
    wpOp P ops Q k (fun a' w' => z7x zs A B (L.setIfInBounds k true) w' /\ z2K P md ops Q (z7x zs A B) n (L.setIfInBounds k true) a' w') a w := by
  obtain ⟨o2, ho2, h⟩ := h
  rw [ho] at ho2; cases ho2
  have hm' : ¬ (m = 0 ∨ m = 3) := by omega
  have fin : ∀ (A' B' T' : World -> Prop) (a' : Act) (w' : World), T' w' -> (∀ x, T' x -> A' x) -> (∀ x, A' x -> B' x) -> (∀ x, B' x -> B x) -> (m = 2 ∨ ∀ x, A' x -> A x) -> z6o P md ops Q rest A' B' T' a' ->
      z7x zs A B (L.setIfInBounds k true) w' /\ z2K P md ops Q (z7x zs A B) n (L.setIfInBounds k true) a' w' := fun A' B' T' a' w' t1 t2 t3 t4 t5 t6 => by
    have hrest := ih A' B' T' a' t3 t2 t6 w' t1
    have hp : ∀ (L' : Array Bool) (x : World), L'.getD k false = true -> z7x rest.nexts A' B' L' x -> z7x zs A B L' x := fun L' x hL hx => by
      by_cases hm2 : m = 2
      · unfold z7x
        rw [if_pos ⟨k, hz hm2, hL⟩]
        exact t4 _ (zff t3 hx)
      · have t5' : ∀ x, A' x -> A x := by rcases t5 with e | e; exact absurd e hm2; exact e
        unfold z7x
        split
        · exact t4 _ (zff t3 hx)
        · rename_i hno
          unfold z7x at hx
          rw [if_neg (fun ⟨z, h1, h2⟩ => hno ⟨z, hz1 hm2 z h1, h2⟩)] at hx
          exact t5' _ hx
    exact ⟨hp _ _ (z2Q hk) (zfe t3 (t2 _ t1)), z3x (fun L' => L'.getD k false = true) (fun L' j hL => z3F hL) hp n _ a' w' (z2Q hk) hrest⟩
  unfold wpOp
  simp only [ho]
  split
  · rename_i hwt
    rw [if_pos hwt, if_neg hm'] at h
    exact .inl (Oper.wp_mono (fun a' w' ⟨A', B', T', h1, h2, h3, h4, h5, h6⟩ => fin A' B' T' a' w' h1 h2 h3 h4 h5 h6) (h w hw))
  · rename_i hwt
    rw [if_neg hwt] at h
    exact fin A B T _ w hw hTA hAB (fun _ h => h) (.inr fun _ h => h) h
theorem z2X (hs : Region.noSelect ops = true) (hQ : ∀ c a d v w, Q (.panic c) (Act.put a d v) w -> Q (.panic c) a w) : ∀ (s : SchT) (L : Array Bool) (A B T : World -> Prop) (a : Act), ShutL md ops L -> (∀ x, A x -> B x) -> (∀ x, T x -> A x) -> z6o P md ops Q s A B T a -> ∀ w, T w ->
    (z0T md ops true s L = true -> z2K P md ops Q (z7x s.nexts A B) s.depth L a w) /\
    (z0T md ops false s L = true -> ∀ (zs : List Nat) (n : Nat), (∀ z ∈ s.nexts, z ∈ zs) -> s.depth = n + 1 -> ∀ i ∈ s.heads, wpOp P ops Q i (fun a' w' => z7x zs A B (L.setIfInBounds i true) w' /\ z2K P md ops Q (z7x zs A B) n (L.setIfInBounds i true) a' w') a w)
  | .nil, L, A, B, T, a, hsh, hAB, hTA, h, w, hw => ⟨fun hO => ⟨by simpa [z0T] using hO, h w hw⟩, fun hO => by simp [z0T] at hO⟩
  | .op k m rest, L, A, B, T, a, hsh, hAB, hTA, h, w, hw => by
    obtain ⟨o, h0, h'⟩ := h
    have hk : k < L.size := by rw [hsh.1]; exact (Array.getElem?_eq_some_iff.1 h0).1
    have eff : ∀ (zs : List Nat) (n : Nat), (m = 1 ∨ m = 2) -> (∀ z ∈ (SchT.op k m rest).nexts, z ∈ zs) -> rest.depth = n -> k ∈ Region.ready md ops L -> z0T md ops true rest (L.setIfInBounds k true) = true ->
        wpOp P ops Q k (fun a' w' => z7x zs A B (L.setIfInBounds k true) w' /\ z2K P md ops Q (z7x zs A B) n (L.setIfInBounds k true) a' w') a w := fun zs n hm hz hd hr hO => by
      refine zgw h0 hk hm (fun e => hz k (by simp [SchT.nexts, e])) (fun e z hzz => hz z (by simp [SchT.nexts, e, hzz])) hAB hTA ⟨o, h0, h'⟩ hw ?_
      intro A' B' T' a' k1 k2 k3 w' k4
      subst hd
      exact (z2X hs hQ rest _ A' B' T' a' (hsh.set hr) k1 k2 k3 w' k4).1 hO
    constructor
    · intro hO
      simp only [z0T, Bool.and_eq_true] at hO
      obtain ⟨hO1, hO2⟩ := hO
      by_cases hm : m = 0 ∨ m = 3
      · rw [if_pos ⟨trivial, hm⟩] at hO1
        simp only [Bool.and_eq_true, Bool.not_eq_true'] at hO1
        obtain ⟨⟨⟨hr, hf⟩, hzk⟩, hso⟩ := hO1
        have hm2 : m ≠ 2 := by rcases hm with e | e <;> omega
        have hr' : k ∈ Region.ready md ops L := by simpa using hr
        have key : ∃ v, YieldsIf P ops (fun w => if m = 0 then A w else B w) o v a /\ z6o P md ops Q rest A B T (a.put o.dst v) := by
          rw [if_pos hm] at h'
          split at h'
          · rename_i hwt
            obtain ⟨v, h1, h2⟩ := h'
            exact ⟨v, .inl ⟨hwt, h1⟩, h2⟩
          · rename_i hwt
            exact ⟨undef, .inr ⟨by simpa using hwt, rfl⟩, h'⟩
        obtain ⟨v, hy, hK⟩ := key
        have hnz : (SchT.op k m rest).nexts = rest.nexts := by simp [SchT.nexts, hm2]
        rw [hnz]
        refine z5X (C := fun w => if m = 0 then A w else B w) h0 (Region.noSelect_spec hs) (fun c a w h => hQ c a _ _ w h) (fun L' w' => ?_) (fun L' w' hsh' hun hS => ?_) rest.depth L a w hsh (Region.free_spec h0 hf) hr' hy (zfe hAB (hTA _ hw))
          ((z2X hs hQ rest _ A B T _ (hsh.set hr') hAB hTA hK w hw).1 hO2)
        · have : (∃ z ∈ rest.nexts, (L'.setIfInBounds k true).getD z false = true) ↔ ∃ z ∈ rest.nexts, L'.getD z false = true := by
            constructor
            · rintro ⟨z, h1, h2⟩
              have hne : z ≠ k := fun e => by rw [← e] at hzk; simp [h1] at hzk
              exact ⟨z, h1, by rwa [zab hne] at h2⟩
            · rintro ⟨z, h1, h2⟩
              exact ⟨z, h1, z3F h2⟩
          simp only [z7x, this]
        · by_cases hm0 : m = 0
          · rw [if_pos hm0]
            subst hm0
            have hso : (rest.nexts.all fun z => (zix md ops ops.size [z]).contains k) = true := by simpa using hso
            unfold z7x at hS
            split at hS
            · rename_i hlz
              obtain ⟨z, hz1, hz2⟩ := hlz
              have h3 := List.all_eq_true.1 hso z hz1
              have := z5V hsh' ops.size [z] (fun i hi => by simp at hi; subst hi; exact hz2) k (by simpa using h3)
              rw [zeT hun] at this
              cases this
            · exact hS
          · rw [if_neg hm0]
            exact zff hAB hS
      · rw [if_neg (fun hh => hm hh.2)] at hO1
        simp only [Bool.and_eq_true, decide_eq_true_eq, if_true] at hO1
        obtain ⟨hm1, hr⟩ := hO1
        have hr' : k ∈ Region.ready md ops L := by rw [hr]; simp
        refine ⟨fun h1 => (by rw [h1] at hr; cases hr), fun i hi => ?_⟩
        rw [hr] at hi
        obtain rfl : i = k := by simpa using hi
        exact eff _ _ hm1 (fun z hz => hz) rfl hr' hO2
    · intro hO zs n hz hd i hi
      simp only [z0T, Bool.and_eq_true] at hO
      obtain ⟨hO1, hO2⟩ := hO
      rw [if_neg (fun hh => by cases hh.1)] at hO1
      simp only [Bool.and_eq_true, decide_eq_true_eq, Bool.false_eq_true, if_false] at hO1
      obtain ⟨hm1, hr⟩ := hO1
      obtain rfl : i = k := by simpa [SchT.heads] using hi
      exact eff zs n hm1 hz (by simpa [SchT.depth] using hd) (by simpa using hr) hO2
  | .alt x y, L, A, B, T, a, hsh, hAB, hTA, h, w, hw => by
    obtain ⟨hx, hy⟩ := h
    have sx := z2X hs hQ x L A B T a hsh hAB hTA hx w hw
    have sy := z2X hs hQ y L A B T a hsh hAB hTA hy w hw
    have both : z0T md ops false x L = true -> z0T md ops false y L = true -> x.depth = y.depth -> ∀ (zs : List Nat) (n : Nat), (∀ z ∈ (SchT.alt x y).nexts, z ∈ zs) -> x.depth = n + 1 -> ∀ i ∈ x.heads ++ y.heads, wpOp P ops Q i (fun a' w' => z7x zs A B (L.setIfInBounds i true) w' /\ z2K P md ops Q (z7x zs A B) n (L.setIfInBounds i true) a' w') a w := fun o1 o2 hd zs n hz hn i hi => by
      rcases List.mem_append.1 hi with hi | hi
      · exact sx.2 o1 zs n (fun z h => hz z (by simp [SchT.nexts, h])) hn i hi
      · exact sy.2 o2 zs n (fun z h => hz z (by simp [SchT.nexts, h])) (by omega) i hi
    constructor
    · intro hO
      simp only [z0T, Bool.and_eq_true, decide_eq_true_eq, Bool.not_true, Bool.false_or] at hO
      obtain ⟨⟨⟨h1, h2⟩, h3⟩, h4⟩ := hO
      have hdep : ∀ (s : SchT), z0T md ops false s L = true -> ∃ n, s.depth = n + 1 /\ ∃ i ∈ s.heads, i ∈ Region.ready md ops L := by
        intro s
        induction s with
        | nil => intro hh; simp [z0T] at hh
        | op k m r _ =>
          intro hh
          simp only [z0T, Bool.and_eq_true] at hh
          have hh1 := hh.1
          rw [if_neg (fun hh => by cases hh.1)] at hh1
          simp only [Bool.and_eq_true, Bool.false_eq_true, if_false] at hh1
          exact ⟨r.depth, rfl, k, by simp [SchT.heads], by simpa using hh1.2⟩
        | alt p q ihp ihq =>
          intro hh
          simp only [z0T, Bool.and_eq_true] at hh
          obtain ⟨n, e1, i, e2, e3⟩ := ihp hh.1.2
          exact ⟨n, e1, i, by simp [SchT.heads, e2], e3⟩
      obtain ⟨n, hn, j, hj, hjr⟩ := hdep x h3
      show z2K P md ops Q _ x.depth L a w
      rw [hn]
      refine ⟨fun he => (by rw [he] at hjr; cases hjr), fun i hi => both h3 h4 h2 _ n (fun z hz => hz) hn i (h1 i hi)⟩
    · intro hO zs n hz hd i hi
      simp only [z0T, Bool.and_eq_true, decide_eq_true_eq] at hO
      obtain ⟨⟨⟨_, h2⟩, h3⟩, h4⟩ := hO
      exact both h3 h4 h2 zs n hz hd i hi
theorem z8t {id : Nat} {a : Act} {w : World} {l : List Oper} (s : SchT) (A B T : World -> Prop) (hm : P.follows .mixedOrders = true) (hlen : s.depth = l.length)
    (hs : Region.noSelect l.toArray = true) (hO : z0T .any l.toArray true s (Array.replicate l.length false) = true)
    (hAB : ∀ x, A x -> B x) (hTA : ∀ x, T x -> A x) (hT : T w.drew) (h : z6o P .any l.toArray (NoPz Q) s A B T a) : (Code.region id l.toArray true).wp P Q a w := by
  refine Code.wp_mono NoPz.imp (wp_region_any hm ?_)
  have hsh : ShutL .any l.toArray (Array.replicate l.length false) := ⟨by simp, fun i o ho hL => by
    simp only [Array.getD_eq_getD_getElem?, Array.getElem?_replicate] at hL
    split at hL <;> simp at hL⟩
  have := (z2X (md := .any) hs (fun _ _ _ _ _ h => h) s (Array.replicate l.length false) A B T a hsh hAB hTA h w.drew hT).1 hO
  rw [hlen] at this
  have h2 := z5A _ _ _ _ this
  simpa using h2
end
end
section
def z4y (P : Program) (C : z0b) (wio : FuncId -> Nat -> Bool) (fr : Fr) (o : Oper) : Option Fr :=
  match o.op with
  | .call { callee := .value c, args, .. } => (match z5b fr c with
    | some (f, cs) => (match z7K fr (wio f) (args.toList.map (opE fr) ++ cs.map fun t => .one (.t none t)) 0 with | some (_, _, none) => z5z C wio fr f (args.toList.map (opE fr) ++ cs.map fun t => .one (.t none t)) o.dst | _ => none)
    | none => none)
  | op => (match z3W P noM fr op with
    | some e => putF fr o.dst e
    | none => if z8p o then zal P fr o else none)
def zl3 (w x : World) : Prop := ∀ b, b < w.heap.size -> x.heap[b]? = w.heap[b]?
theorem zfj {P : Program} {I : World -> (Nat -> z0a) -> Prop} {C : z0b} {wio : FuncId -> Nat -> Bool} {w : World} {K : Nat -> z0a} {R G : Nat -> Value} {fr fr' : Fr} {a : Act} {o : Oper} {next : Act -> World -> Prop} {Q : Exit -> Act -> World -> Prop}
    (hI : EnvS I) (hC : z2J P I C) (h : FRep w K R G fr a) (hIw : I w K) (hf : z4y P C wio fr o = some fr') (hn : ∀ a' w' K' R', FRep w' K' R' G fr' a' -> Step w K w' K' -> zl3 w w' -> next a' w') : o.wp P a w next Q := by
  unfold z4y at hf
  split at hf
  · rename_i c args ats hop
    split at hf
    · rename_i f cs hc
      split at hf
      · rename_i ts deps hargs
        obtain ⟨vs, q1, q2, q3⟩ := z5T (P := P) h hop hc
        exact zbr hI hC h hIw q1 q2 q3 hf fun a' w' K' R' h1 h2 h3 => hn a' w' K' R' h1 h2 (fun b hb => (h3 _ _ _ hargs b hb (z3q _)).2)
      · cases hf
    · cases hf
  · split at hf
    · rename_i e he
      obtain ⟨v, h1, h2⟩ := z4l h he
      unfold Oper.wp
      rw [h2 w (Stay.refl w K noM)]
      exact hn _ w K R (h.putF h1 hf) (Step.refl _ _) fun _ _ => rfl
    · split at hf
      · rename_i hc
        obtain ⟨r, w', h1, h2, h3⟩ := z6G h hf
        unfold Oper.wp
        rw [h1]
        rcases h2 with ⟨v, rfl, K', R', e1, e2⟩ | ⟨rfl, hd, K', R', e1, e2⟩
        · exact hn _ w' K' R' e1 e2 (h3 hc)
        · simp only [Oper.upon, hd]
          exact hn _ w' K' R' e1 e2 (h3 hc)
      · cases hf
def wrF (P : Program) (C : z0b) (wio : FuncId -> Nat -> Bool) (M : Nat -> Bool) (fr : Fr) (o : Oper) : Option Fr :=
  match o.op with
  | .call { callee := .value c, args, .. } => (match z5b fr c with
    | none => none
    | some (f, cs) => (match z7K fr (wio f) (args.toList.map (opE fr) ++ cs.map fun t => .one (.t none t)) 0 with
      | some (_, _, none) => z5z C wio fr f (args.toList.map (opE fr) ++ cs.map fun t => .one (.t none t)) o.dst
      | some (_, _, some (_, id)) => if M id then z5z C wio fr f (args.toList.map (opE fr) ++ cs.map fun t => .one (.t none t)) o.dst else none
      | none => none))
  | .buildSlice t n parts => (match o.dst with
    | some d => if M d = false /\ z2b P fr t n parts.toList d = true then z1V P fr t n parts.toList d else none
    | none => none)
  | .makeSlice t l c => (match o.dst, rdV (opE fr l), rdV (opE fr c) with
    | some d, some (.int _ l'), some (.int _ c') => if M d = false then z2T P fr t l' c' d else none
    | _, _, _ => none)
  | .call { callee := .builtin .append, args, argTypes } => (match o.dst, args.toList, argTypes.toList with
    | some d, [s, x], [st, xt] => if M d = true /\ (z9g (opE fr s)).all M = true /\ z9j fr d s x = true then z7C P fr d st xt s x else none
    | _, _, _ => none)
  | _ => none
theorem ziO {P : Program} {I : World -> (Nat -> z0a) -> Prop} {C : z0b} {wio : FuncId -> Nat -> Bool} {M : Nat -> Bool} {w : World} {K : Nat -> z0a} {R G : Nat -> Value} {fr fr' : Fr} {a : Act} {o : Oper} {next : Act -> World -> Prop} {Q : Exit -> Act -> World -> Prop}
    (hI : EnvS I) (hC : z2J P I C) (h : FRep w K R G fr a) (hIw : I w K) (hf : wrF P C wio M fr o = some fr') (hn : ∀ a' w' K' R', FRep w' K' R' G fr' a' -> Step w K w' K' -> (∀ x, Stay w' x K' M -> Stay w x K M) -> next a' w') : o.wp P a w next Q := by
  unfold wrF at hf
  split at hf
  · rename_i c args ats hop
    split at hf
    · cases hf
    rename_i f cs hc
    obtain ⟨vs, q1, q2, q3⟩ := z5T (P := P) h hop hc
    have fin : ∀ ts deps io, z7K fr (wio f) (args.toList.map (opE fr) ++ cs.map fun t => .one (.t none t)) 0 = some (ts, deps, io) -> (∀ i id, io = some (i, id) -> M id = true) -> z5z C wio fr f (args.toList.map (opE fr) ++ cs.map fun t => .one (.t none t)) o.dst = some fr' -> o.wp P a w next Q := fun ts deps io hargs hM hcall =>
      zbr hI hC h hIw q1 q2 q3 hcall fun a' w' K' R' h1 h2 h3 => hn a' w' K' R' h1 h2 fun x hx b hb hcb => by
        have hno : ¬ z4Z io (K b) := by
          rintro ⟨i, id, s, e1, e2⟩
          rcases hcb with e | ⟨j, q, e, hj⟩
          · rw [e] at e2; cases e2
          · rw [e] at e2
            have : j = id := by simpa using (List.cons.inj e2).1
            subst this
            have := hM i j e1
            rw [hj] at this; cases this
        obtain ⟨p1, p2⟩ := h3 _ _ _ hargs b hb hno
        rw [hx b (Nat.lt_of_lt_of_le hb h2.size) (by
          rcases p1 with e | e
          · exact .inl e
          · rcases hcb with e2 | ⟨j, q, e2, hj⟩
            · exact .inl (e.trans e2)
            · exact .inr ⟨j, q, e.trans e2, hj⟩)]
        exact p2
    split at hf
    · rename_i ts deps hargs
      exact fin _ _ _ hargs (fun i id e => by cases e) hf
    · rename_i ts deps i id hargs
      split at hf
      · rename_i hc
        exact fin _ _ _ hargs (fun i' id' e => by cases e; simpa using hc) hf
      · cases hf
    · cases hf
  · rename_i t n parts hop
    split at hf
    · rename_i d hd
      split at hf
      · rename_i hc
        obtain ⟨v, w', h1, ⟨K', R', h2, h3, h4⟩, h5⟩ := z4i h hf
        have hrun : (execOp a.eval o).run P w = .ok (.value v) w' := by
          simp only [execOp, hop]
          have : parts.map (fun (x : Nat × Operand) => (x.1, a.eval x.2)) = (parts.toList.map fun (i, x) => (i, a.eval x)).toArray := by
            apply Array.ext'; simp
          rw [this]
          simp only [Sem.run_bind, h1, Result.andThen_ok, Sem.run_pure]
        unfold Oper.wp
        rw [hrun]
        have h2' : FRep w' K' R' G fr' (a.put o.dst v) := by rw [hd]; exact h2
        exact hn _ w' K' R' h2' h3 fun x hx b hb hcb => by
          rw [hx b (Nat.lt_of_lt_of_le hb h3.size) (h4 hc.2 M hc.1 b hb hcb)]
          exact h5 b hb
      · cases hf
    · cases hf
  · rename_i t l c hop
    split at hf
    · rename_i d k l' k' c' hd hl hc'
      split at hf
      · rename_i hc
        obtain ⟨e1, -⟩ := z0n (h.opE l) hl
        obtain ⟨e2, -⟩ := z0n (h.opE c) hc'
        obtain ⟨v, w', h1, ⟨K', R', h2, h3, h4⟩, h5⟩ := z4A (k := k) (k' := k') h hf
        have hrun : (execOp a.eval o).run P w = .ok (.value v) w' := by
          simp only [execOp, hop, e1, e2, Sem.run_bind, h1, Result.andThen_ok, Sem.run_pure]
        unfold Oper.wp
        rw [hrun]
        have h2' : FRep w' K' R' G fr' (a.put o.dst v) := by rw [hd]; exact h2
        exact hn _ w' K' R' h2' h3 fun x hx b hb hcb => by
          rw [hx b (Nat.lt_of_lt_of_le hb h3.size) (h4 rfl M hc b hb hcb)]
          exact h5 b hb
      · cases hf
    · cases hf
  · rename_i args ats hop
    split at hf
    · rename_i d s x st xt hd ha ht
      split at hf
      · rename_i hc
        obtain ⟨c1, c2, c3⟩ := hc
        obtain rfl : args = #[s, x] := by apply Array.ext'; simpa using ha
        obtain rfl : ats = #[st, xt] := by apply Array.ext'; simpa using ht
        obtain ⟨v, w', h1, ⟨K', R', h2, h3, h4⟩, h5⟩ := z8r (ty := o.type) h hf
        have hrun : (execOp a.eval o).run P w = .ok (.value v) w' := by
          simp only [execOp, hop, resolve, Sem.run_bind, Sem.run_pure, Result.andThen_ok, invoke, builtin]
          simp [h1]
        unfold Oper.wp
        rw [hrun]
        have h2' : FRep w' K' R' G fr' (a.put o.dst v) := by rw [hd]; exact h2
        have hb0 : ∀ i ∈ z9g (opE fr s), M i = true := fun i hi => List.all_eq_true.1 c2 i hi
        exact hn _ w' K' R' h2' h3 fun y hy b hb hcb => by
          rw [hy b (Nat.lt_of_lt_of_le hb h3.size) (h4 c3 M c1 hb0 b hb hcb)]
          refine h5 b hb ?_
          rcases hcb with e | ⟨i, q, e, hi⟩
          · exact .inl e
          · refine .inr ⟨i, q, e, ?_⟩
            by_cases hm : (z9g (opE fr s)).contains i = true
            · have := hb0 i (by simpa using hm)
              rw [hi] at this; cases this
            · simpa using hm
      · cases hf
    · cases hf
  · cases hf
def zgl (fr : Fr) : Option (List Nat) -> Fr
  | none => fr
  | some l => zie fr l
theorem zcc {w : World} {G : Nat -> Value} {a : Act} {l : Option (List Nat)} {K : Nat -> z0a} {R : Nat -> Value} {fr : Fr} (h : FRep w K R G fr a) : ∃ K', FRep w K' R G (zgl fr l) a /\ Step w K w K' := by
  cases l with
  | none => exact ⟨K, h, Step.refl _ _⟩
  | some l => exact z8U h
def Fro (w : World) (K : Nat -> z0a) (x : World) : Prop := ∀ b, b < w.heap.size -> K b = [] -> x.heap[b]? = w.heap[b]?
theorem Fro.later {w w' : World} {K K' : Nat -> z0a} (s : Step w K w' K') {x : World} (h : Fro w' K' x) : Fro w K x := fun b hb e => by
  obtain ⟨a1, a2⟩ := s.old b hb (.inl e)
  rw [h b (Nat.lt_of_lt_of_le hb s.size) (a1.trans e), a2]
def clsA (same : Bool) (w : World) (K : Nat -> z0a) (M : Nat -> Bool) (x : World) : Prop := if same then zl3 w x else Stay w x K M
theorem clsA.fro {same : Bool} {w : World} {K : Nat -> z0a} {M : Nat -> Bool} {x : World} (h : clsA same w K M x) : Fro w K x := fun b hb e => by
  unfold clsA at h
  split at h
  · exact h b hb
  · exact h b hb (.inl e)
theorem clsA.stay {same : Bool} {w : World} {K : Nat -> z0a} {M : Nat -> Bool} {x : World} (h : clsA same w K M x) : Stay w x K M := fun b hb e => by
  unfold clsA at h
  split at h
  · exact h b hb
  · exact h b hb e
theorem clsA.self (same : Bool) (w : World) (K : Nat -> z0a) (M : Nat -> Bool) : clsA same w K M w := by
  unfold clsA
  split
  · exact fun _ _ => rfl
  · exact Stay.refl _ _ _
def z4e (P : Program) (C : z0b) (wio : FuncId -> Nat -> Bool) (same : Bool) (M : Nat -> Bool) (ops : Array Oper) : List (Nat × Oper × Nat) -> Fr -> Option Fr
  | [], fr => some fr
  | (k, o, m) :: rest, fr => match z3a ops fr o with
    | none => none
    | some false => (match putF fr o.dst (.one (.k undef)) with | some fr' => z4e P C wio same M ops rest fr' | none => none)
    | some true =>
      if m = 0 ∨ m = 3 then (match z3W P (if m = 0 then M else zl2) fr o.op with
        | some e => (match putF fr o.dst e with | some fr' => z4e P C wio same M ops rest fr' | none => none)
        | none => none)
      else (match (if m = 2 then opF P C wio fr o else if same then z4y P C wio fr o else wrF P C wio M fr o) with | some fr' => z4e P C wio same M ops rest fr' | none => none)
theorem z2U {P : Program} {I : World -> (Nat -> z0a) -> Prop} {C : z0b} {wio : FuncId -> Nat -> Bool} {same : Bool} {M : Nat -> Bool} {ops : Array Oper} {Q : Exit -> Act -> World -> Prop} (hI : EnvS I) (hC : z2J P I C) : ∀ {l : List (Nat × Oper × Nat)} {w : World} {K : Nat -> z0a} {R G : Nat -> Value} {fr fr' : Fr} {a : Act}, FRep w K R G fr a -> I w K -> z4e P C wio same M ops l fr = some fr' ->
    (∀ a' w' K' R', FRep w' K' R' G fr' a' -> Step w K w' K' -> Q .normal a' w') -> z2W P .any ops (NoPz Q) l (clsA same w K M) (Fro w K) (fun x => x = w) a
  | [], w, K, R, G, fr, fr', a, h, hIw, hf, hn => by
    cases hf
    intro x hx
    subst hx; exact hn a x K R h (Step.refl _ _)
  | (k, o, m) :: rest, w, K, R, G, fr, fr', a, h, hIw, hf, hn => by
    simp only [z4e] at hf
    simp only [z2W]
    split at hf
    · cases hf
    · rename_i hg
      rw [if_neg (by rw [z3r h hg]; simp)]
      split at hf
      · rename_i fr1 h1
        exact z2U hI hC (h.putF (v := undef) (e := .one (.k undef)) rfl h1) hIw hf hn
      · cases hf
    · rename_i hg
      rw [if_pos (z3r h hg)]
      split at hf
      · rename_i hm
        rw [if_pos hm]
        split at hf
        · rename_i e he
          split at hf
          · rename_i fr1 h1
            obtain ⟨v, r1, r2⟩ := z4l h he
            refine ⟨v, fun x hx => r2 x ?_, z2U hI hC (h.putF r1 h1) hIw hf hn⟩
            by_cases hm0 : m = 0
            · rw [if_pos hm0] at hx ⊢; exact hx.stay
            · rw [if_neg hm0] at hx ⊢
              intro b hb hc
              rcases hc with hc | ⟨i, s, _, hc⟩
              · exact hx b hb hc
              · cases hc
          · cases hf
        · cases hf
      · rename_i hm
        rw [if_neg hm]
        intro x hx
        subst hx
        split at hf
        · rename_i fr1 h1
          by_cases hm2 : m = 2
          · rw [if_pos hm2] at h1
            exact zhS hI hC h hIw h1 fun a' w' K' R' hr hs => ⟨clsA same w' K' M, Fro w' K', fun y => y = w', rfl, fun y hy => by subst hy; exact clsA.self _ _ _ _, fun y hy => hy.fro, fun y hy => hy.later hs, .inl hm2, z2U hI hC hr (hI.step hIw hs) hf fun a2 w2 K2 R2 hr2 hs2 => hn a2 w2 K2 R2 hr2 (hs.trans hs2)⟩
          · rw [if_neg hm2] at h1
            cases same with
            | true =>
              rw [if_pos rfl] at h1
              refine zfj hI hC h hIw h1 fun a' w' K' R' hr hs hsame => ⟨clsA true w' K' M, Fro w' K', fun y => y = w', rfl, fun y hy => by subst hy; exact clsA.self _ _ _ _, fun y hy => hy.fro, fun y hy => hy.later hs, .inr fun y hy => ?_, z2U hI hC hr (hI.step hIw hs) hf fun a2 w2 K2 R2 hr2 hs2 => hn a2 w2 K2 R2 hr2 (hs.trans hs2)⟩
              intro b hb
              have : zl3 w' y := hy
              rw [this b (Nat.lt_of_lt_of_le hb hs.size)]
              exact hsame b hb
            | false =>
              rw [if_neg (by simp)] at h1
              exact ziO hI hC h hIw h1 fun a' w' K' R' hr hs hstay => ⟨clsA false w' K' M, Fro w' K', fun y => y = w', rfl, fun y hy => by subst hy; exact clsA.self _ _ _ _, fun y hy => hy.fro, fun y hy => hy.later hs, .inr fun y hy => hstay y hy, z2U hI hC hr (hI.step hIw hs) hf fun a2 w2 K2 R2 hr2 hs2 => hn a2 w2 K2 R2 hr2 (hs.trans hs2)⟩
        · cases hf
def z6q (f g : Fr) : Prop := f.nt = g.nt /\ (∀ i ∈ f.tm.map (·.1) ++ g.tm.map (·.1), z0E f.tm i = z0E g.tm i) /\ (∀ i ∈ f.ob.map (·.1) ++ g.ob.map (·.1), z0v f.ob i = z0v g.ob i)
theorem z8S : ∀ {l : List (Nat × E)} {i : Nat}, i ∉ l.map (·.1) -> z0E l i = .one .dead
  | [], i, _ => rfl
  | (j, x) :: l, i, h => by
    simp only [List.map_cons, List.mem_cons, not_or] at h
    simp only [z0E]
    rw [if_neg (fun e => h.1 e.symm)]
    exact z8S h.2
theorem z8Q : ∀ {l : List (Nat × T)} {i : Nat}, i ∉ l.map (·.1) -> z0v l i = none
  | [], i, _ => rfl
  | (j, x) :: l, i, h => by
    simp only [List.map_cons, List.mem_cons, not_or] at h
    simp only [z0v]
    rw [if_neg (fun e => h.1 e.symm)]
    exact z8Q h.2
theorem FRep.same {f g : Fr} (h : z6q f g) {w : World} {K : Nat -> z0a} {R G : Nat -> Value} {a : Act} (hr : FRep w K R G g a) : FRep w K R G f a := by
  obtain ⟨h1, h2, h3⟩ := h
  have e2 : ∀ i, z0E f.tm i = z0E g.tm i := fun i => by
    by_cases hi : i ∈ f.tm.map (·.1) ++ g.tm.map (·.1)
    · exact h2 i hi
    · simp only [List.mem_append, not_or] at hi
      rw [z8S hi.1, z8S hi.2]
  have e3 : ∀ i, z0v f.ob i = z0v g.ob i := fun i => by
    by_cases hi : i ∈ f.ob.map (·.1) ++ g.ob.map (·.1)
    · exact h3 i hi
    · simp only [List.mem_append, not_or] at hi
      rw [z8Q hi.1, z8Q hi.2]
  have hA : ∀ x u, ARep w K R g.ob x u -> ARep w K R f.ob x u := fun x u hx => by
    cases x with
    | dead => trivial
    | k v => exact hx
    | t dep x => exact ⟨hx.1, fun i e => by rw [e3]; exact hx.2 i e⟩
    | h i q => obtain ⟨n1, t, n2, n3⟩ := hx; exact ⟨n1, t, by rw [e3]; exact n2, n3⟩
    | a i q off => obtain ⟨hv, g', n1, n4, n5, t, n2, n3⟩ := hx; exact ⟨hv, g', n1, n4, n5, t, by rw [e3]; exact n2, n3⟩
    | tf n cs => exact hx
    | ea dep cs off => obtain ⟨g', o, F, k1, k2, k3, k4, k5, k6⟩ := hx; exact ⟨g', o, F, k1, k2, k3, k4, k5, fun i e => by rw [e3]; exact k6 i e⟩
  refine ⟨fun i => ?_, fun id t ht => hr.ob id t (by rw [← e3]; exact ht), by rw [h1]; exact hr.nt, hr.df⟩
  rw [e2 i]
  exact (hr.tm i).mono hA
def zjF (k : Nat) (x : E) : List (Nat × E) -> List (Nat × E)
  | [] => [(k, x)]
  | (j, y) :: r => if k < j then (k, x) :: (j, y) :: r else if k = j then (k, x) :: r else (j, y) :: zjF k x r
def zjE (k : Nat) (x : T) : List (Nat × T) -> List (Nat × T)
  | [] => [(k, x)]
  | (j, y) :: r => if k < j then (k, x) :: (j, y) :: r else if k = j then (k, x) :: r else (j, y) :: zjE k x r
def zju : List (Nat × E) -> List (Nat × E)
  | [] => []
  | (k, x) :: r => zjF k x (zju r)
def zjt : List (Nat × T) -> List (Nat × T)
  | [] => []
  | (k, x) :: r => zjE k x (zjt r)
def zgU (fr : Fr) : Fr := { fr with tm := zju fr.tm, ob := zjt fr.ob }
theorem zcb (k : Nat) (x : E) (i : Nat) : ∀ l : List (Nat × E), z0E (zjF k x l) i = if k = i then x else z0E l i
  | [] => rfl
  | (j, y) :: r => by
    simp only [zjF]
    by_cases h1 : k < j
    · rw [if_pos h1]; rfl
    · rw [if_neg h1]
      by_cases h2 : k = j
      · rw [if_pos h2]; subst h2
        simp only [z0E]
        by_cases h3 : k = i
        · rw [if_pos h3, if_pos h3]
        · rw [if_neg h3, if_neg h3, if_neg h3]
      · rw [if_neg h2]
        simp only [z0E, zcb k x i r]
        by_cases h3 : k = i
        · subst h3
          rw [if_neg (fun e => h2 e.symm), if_pos rfl, if_pos rfl]
        · rw [if_neg h3, if_neg h3]
theorem zc8 (k : Nat) (x : T) (i : Nat) : ∀ l : List (Nat × T), z0v (zjE k x l) i = if k = i then some x else z0v l i
  | [] => rfl
  | (j, y) :: r => by
    simp only [zjE]
    by_cases h1 : k < j
    · rw [if_pos h1]; rfl
    · rw [if_neg h1]
      by_cases h2 : k = j
      · rw [if_pos h2]; subst h2
        simp only [z0v]
        by_cases h3 : k = i
        · rw [if_pos h3, if_pos h3]
        · rw [if_neg h3, if_neg h3, if_neg h3]
      · rw [if_neg h2]
        simp only [z0v, zc8 k x i r]
        by_cases h3 : k = i
        · subst h3
          rw [if_neg (fun e => h2 e.symm), if_pos rfl, if_pos rfl]
        · rw [if_neg h3, if_neg h3]
theorem zc9 (i : Nat) : ∀ l : List (Nat × E), z0E (zju l) i = z0E l i
  | [] => rfl
  | (k, x) :: r => by simp only [zju, zcb, zc9 i r, z0E]
theorem zc7 (i : Nat) : ∀ l : List (Nat × T), z0v (zjt l) i = z0v l i
  | [] => rfl
  | (k, x) :: r => by simp only [zjt, zc8, zc7 i r, z0v]
theorem FRep.nrm {fr : Fr} {w : World} {K : Nat -> z0a} {R G : Nat -> Value} {a : Act} (h : FRep w K R G fr a) : FRep w K R G (zgU fr) a :=
  FRep.same (f := zgU fr) (g := fr) ⟨rfl, fun i _ => zc9 i _, fun i _ => zc7 i _⟩ h
def eqV : Value -> Value -> Bool
  | .bool a, .bool b => a == b
  | .int k n, .int l m => decide (k = l) && decide (n = m)
  | .string a, .string b => decide (a = b)
  | .pointer none, .pointer none => true
  | .slice none a b, .slice none c d => Nat.beq a c && Nat.beq b d
  | .map none, .map none => true
  | .nilFunc, .nilFunc => true
  | .nilIface, .nilIface => true
  | _, _ => false
theorem zch {v u : Value} (h : eqV v u = true) : v = u := by
  unfold eqV at h
  split at h <;> first | (cases h; done) | rfl | (simp only [Bool.and_eq_true, decide_eq_true_eq, beq_iff_eq] at h; first | (obtain ⟨rfl, rfl⟩ := h; rfl) | (subst h; rfl)) | skip
  simp only [Bool.and_eq_true] at h
  rw [Nat.eq_of_beq_eq_true h.1, Nat.eq_of_beq_eq_true h.2]
def zjM : List (Value × Value) -> List (Value × Value) -> Bool
  | [], [] => true
  | (a, b) :: r, (c, d) :: s => eqV a c && eqV b d && zjM r s
  | _, _ => false
theorem zbh : ∀ {a b : List (Value × Value)}, zjM a b = true -> a = b
  | [], [], _ => rfl
  | (a, b) :: r, (c, d) :: s, h => by
    simp only [zjM, Bool.and_eq_true] at h
    rw [zch h.1.1, zch h.1.2, zbh h.2]
mutual
def eqT : T -> T -> Bool
  | .sc v, .sc u => eqV v u
  | .dead, .dead => true
  | .agg a, .agg b => zbi a b
  | .tup a, .tup b => zbi a b
  | .sl n a, .sl m b => Nat.beq n m && zbi a b
  | .os s n a, .os t m b => Nat.beq s t && Nat.beq n m && zbi a b
  | .vr a, .vr b => zbi a b
  | .vo n a, .vo m b => Nat.beq n m && zbi a b
  | .pr a, .pr b => zbi a b
  | .mp k a, .mp l b => decide (k = l) && zjM a b
  | .mr k a, .mr l b => decide (k = l) && zjM a b
  | .cl f a, .cl g b => decide (f = g) && zbi a b
  | _, _ => false
def zbi : List T -> List T -> Bool
  | [], [] => true
  | a :: r, b :: s => eqT a b && zbi r s
  | _, _ => false
end
mutual
theorem zf8 : ∀ {a b : T}, eqT a b = true -> a = b
  | .sc v, b, h => by cases b <;> simp only [eqT] at h <;> first | (cases h; done) | rw [zch h]
  | .dead, b, h => by cases b <;> simp only [eqT] at h <;> first | (cases h; done) | rfl
  | .agg a, b, h => by cases b <;> simp only [eqT] at h <;> first | (cases h; done) | rw [z3c h]
  | .tup a, b, h => by cases b <;> simp only [eqT] at h <;> first | (cases h; done) | rw [z3c h]
  | .sl n a, b, h => by cases b <;> simp only [eqT, Bool.and_eq_true] at h <;> first | (cases h; done) | rw [Nat.eq_of_beq_eq_true h.1, z3c h.2]
  | .os s n a, b, h => by cases b <;> simp only [eqT, Bool.and_eq_true] at h <;> first | (cases h; done) | rw [Nat.eq_of_beq_eq_true h.1.1, Nat.eq_of_beq_eq_true h.1.2, z3c h.2]
  | .vr a, b, h => by cases b <;> simp only [eqT] at h <;> first | (cases h; done) | rw [z3c h]
  | .vo n a, b, h => by cases b <;> simp only [eqT, Bool.and_eq_true] at h <;> first | (cases h; done) | rw [Nat.eq_of_beq_eq_true h.1, z3c h.2]
  | .pr a, b, h => by cases b <;> simp only [eqT] at h <;> first | (cases h; done) | rw [z3c h]
  | .mp k a, b, h => by cases b <;> simp only [eqT, Bool.and_eq_true, decide_eq_true_eq] at h <;> first | (cases h; done) | rw [h.1, zbh h.2]
  | .mr k a, b, h => by cases b <;> simp only [eqT, Bool.and_eq_true, decide_eq_true_eq] at h <;> first | (cases h; done) | rw [h.1, zbh h.2]
  | .mt _ _ _, b, h => by cases b <;> simp only [eqT] at h <;> cases h
  | .ms _ _ _, b, h => by cases b <;> simp only [eqT] at h <;> cases h
  | .cl f a, b, h => by cases b <;> simp only [eqT, Bool.and_eq_true, decide_eq_true_eq] at h <;> first | (cases h; done) | rw [h.1, z3c h.2]
theorem z3c : ∀ {a b : List T}, zbi a b = true -> a = b
  | [], [], _ => rfl
  | a :: r, b :: s, h => by
    simp only [zbi, Bool.and_eq_true] at h
    rw [zf8 h.1, z3c h.2]
  | [], _ :: _, h => by simp [zbi] at h
  | _ :: _, [], h => by simp [zbi] at h
end
def eqA : A -> A -> Bool
  | .dead, .dead => true
  | .k a, .k b => eqV a b
  | .t d x, .t e y => decide (d = e) && eqT x y
  | .h i p, .h j q => decide (i = j) && decide (p = q)
  | .a i p o, .a j q o' => decide (i = j) && decide (p = q) && decide (o = o')
  | .ea d x o, .ea e y o' => decide (d = e) && zbi x y && decide (o = o')
  | .tf n x, .tf m y => decide (n = m) && zbi x y
  | _, _ => false
theorem zh3 {a b : A} (h : eqA a b = true) : a = b := by
  cases a <;> cases b <;> simp only [eqA, Bool.and_eq_true, decide_eq_true_eq] at h <;> first | (cases h; done) | rfl | (rw [zch h]; done) | (rw [h.1, zf8 h.2]; done) | (rw [h.1, h.2]; done) | (rw [h.1.1, h.1.2, h.2]; done) | (rw [h.1.1, z3c h.1.2, h.2]; done) | (rw [h.1, z3c h.2]; done)
def zkX : List A -> List A -> Bool
  | [], [] => true
  | a :: r, b :: s => eqA a b && zkX r s
  | _, _ => false
theorem zfa : ∀ {a b : List A}, zkX a b = true -> a = b
  | [], [], _ => rfl
  | a :: r, b :: s, h => by
    simp only [zkX, Bool.and_eq_true] at h
    rw [zh3 h.1, zfa h.2]
def eqE : E -> E -> Bool
  | .one a, .one b => eqA a b
  | .ag a, .ag b => zkX a b
  | _, _ => false
theorem zjN {a b : E} (h : eqE a b = true) : a = b := by
  cases a <;> cases b <;> simp only [eqE] at h <;> first | (cases h; done) | (rw [zh3 h]; done) | (rw [zfa h]; done)
def zkV : List (Nat × E) -> List (Nat × E) -> Bool
  | [], [] => true
  | (i, a) :: r, (j, b) :: s => Nat.beq i j && eqE a b && zkV r s
  | _, _ => false
theorem zf7 : ∀ {a b : List (Nat × E)}, zkV a b = true -> a = b
  | [], [], _ => rfl
  | (i, a) :: r, (j, b) :: s, h => by
    simp only [zkV, Bool.and_eq_true] at h
    rw [Nat.eq_of_beq_eq_true h.1.1, zjN h.1.2, zf7 h.2]
def zkW : List (Nat × T) -> List (Nat × T) -> Bool
  | [], [] => true
  | (i, a) :: r, (j, b) :: s => Nat.beq i j && eqT a b && zkW r s
  | _, _ => false
theorem zf9 : ∀ {a b : List (Nat × T)}, zkW a b = true -> a = b
  | [], [], _ => rfl
  | (i, a) :: r, (j, b) :: s, h => by
    simp only [zkW, Bool.and_eq_true] at h
    rw [Nat.eq_of_beq_eq_true h.1.1, zf8 h.1.2, zf9 h.2]
def zfP (f g : Fr) : Bool := Nat.beq f.nt g.nt && zkV f.tm g.tm && zkW f.ob g.ob
theorem zfO {f g : Fr} (h : zfP f g = true) : z6q f g := by
  simp only [zfP, Bool.and_eq_true] at h
  have e1 := Nat.eq_of_beq_eq_true h.1.1
  have e2 := zf7 h.1.2
  have e3 := zf9 h.2
  exact ⟨e1, fun i _ => by rw [e2], fun i _ => by rw [e3]⟩
open Classical in
noncomputable def zei (x y : Fr) : Option Fr := if zfP x y = true then some x else if z6q x y then some x else none
theorem z5G {x y z : Fr} (h : zei x y = some z) : x = z /\ z6q x y := by
  unfold zei at h
  split at h
  · rename_i hb; cases h; exact ⟨rfl, zfO hb⟩
  · split at h
    · rename_i hs; cases h; exact ⟨rfl, hs⟩
    · cases h
theorem z8D {x y : Fr} (h : z6q x y) : zei x y = some x := by
  unfold zei
  by_cases hb : zfP x y = true
  · rw [if_pos hb]
  · rw [if_neg hb, if_pos h]
open Classical in
noncomputable def z2H (P : Program) (C : z0b) (wio : FuncId -> Nat -> Bool) (same : Bool) (M : Nat -> Bool) (ops : Array Oper) : SchT -> Fr -> Option Fr
  | .nil, fr => some fr
  | .op k m rest, fr => match ops[k]? with
    | none => none
    | some o => match z3a ops fr o with
      | none => none
      | some false => (match putF fr o.dst (.one (.k undef)) with | some fr' => z2H P C wio same M ops rest (zgU fr') | none => none)
      | some true =>
        if m = 0 ∨ m = 3 then (match z3W P (if m = 0 then M else zl2) fr o.op with
          | some e => (match putF fr o.dst e with | some fr' => z2H P C wio same M ops rest (zgU fr') | none => none)
          | none => none)
        else (match (if m = 2 then opF P C wio fr o else if same then z4y P C wio fr o else wrF P C wio M fr o) with | some fr' => z2H P C wio same M ops rest (zgU fr') | none => none)
  | .alt a b, fr => match z2H P C wio same M ops a fr, z2H P C wio same M ops b fr with
    | some x, some y => zei x y
    | _, _ => none
theorem z2a {P : Program} {I : World -> (Nat -> z0a) -> Prop} {C : z0b} {wio : FuncId -> Nat -> Bool} {same : Bool} {M : Nat -> Bool} {ops : Array Oper} {Q : Exit -> Act -> World -> Prop} (hI : EnvS I) (hC : z2J P I C) : ∀ {l : SchT} {w : World} {K : Nat -> z0a} {R G : Nat -> Value} {fr fr' : Fr} {a : Act}, FRep w K R G fr a -> I w K -> z2H P C wio same M ops l fr = some fr' ->
    (∀ a' w' K' R', FRep w' K' R' G fr' a' -> Step w K w' K' -> Q .normal a' w') -> z6o P .any ops (NoPz Q) l (clsA same w K M) (Fro w K) (fun x => x = w) a
  | .nil, w, K, R, G, fr, fr', a, h, hIw, hf, hn => by
    simp only [z2H, Option.some.injEq] at hf
    subst hf
    intro x hx
    subst hx; exact hn a x K R h (Step.refl _ _)
  | .alt x y, w, K, R, G, fr, fr', a, h, hIw, hf, hn => by
    simp only [z2H] at hf
    split at hf
    · rename_i f1 f2 h1 h2
      obtain ⟨rfl, hs⟩ := z5G hf
      exact ⟨z2a hI hC h hIw h1 hn, z2a hI hC h hIw h2 fun a' w' K' R' hr hst => hn a' w' K' R' (hr.same hs) hst⟩
    · cases hf
  | .op k m rest, w, K, R, G, fr, fr', a, h, hIw, hf, hn => by
    simp only [z2H] at hf
    split at hf
    · cases hf
    rename_i o ho
    refine ⟨o, ho, ?_⟩
    split at hf
    · cases hf
    · rename_i hg
      rw [if_neg (by rw [z3r h hg]; simp)]
      split at hf
      · rename_i fr1 h1
        exact z2a hI hC (h.putF (v := undef) (e := .one (.k undef)) rfl h1).nrm hIw hf hn
      · cases hf
    · rename_i hg
      rw [if_pos (z3r h hg)]
      split at hf
      · rename_i hm
        rw [if_pos hm]
        split at hf
        · rename_i e he
          split at hf
          · rename_i fr1 h1
            obtain ⟨v, r1, r2⟩ := z4l h he
            refine ⟨v, fun x hx => r2 x ?_, z2a hI hC (h.putF r1 h1).nrm hIw hf hn⟩
            by_cases hm0 : m = 0
            · rw [if_pos hm0] at hx ⊢; exact hx.stay
            · rw [if_neg hm0] at hx ⊢
              intro b hb hc
              rcases hc with hc | ⟨i, s, _, hc⟩
              · exact hx b hb hc
              · cases hc
          · cases hf
        · cases hf
      · rename_i hm
        rw [if_neg hm]
        intro x hx
        subst hx
        split at hf
        · rename_i fr1 h1
          by_cases hm2 : m = 2
          · rw [if_pos hm2] at h1
            exact zhS hI hC h hIw h1 fun a' w' K' R' hr hs => ⟨clsA same w' K' M, Fro w' K', fun y => y = w', rfl, fun y hy => by subst hy; exact clsA.self _ _ _ _, fun y hy => hy.fro, fun y hy => hy.later hs, .inl hm2, z2a hI hC hr.nrm (hI.step hIw hs) hf fun a2 w2 K2 R2 hr2 hs2 => hn a2 w2 K2 R2 hr2 (hs.trans hs2)⟩
          · rw [if_neg hm2] at h1
            cases same with
            | true =>
              rw [if_pos rfl] at h1
              refine zfj hI hC h hIw h1 fun a' w' K' R' hr hs hsame => ⟨clsA true w' K' M, Fro w' K', fun y => y = w', rfl, fun y hy => by subst hy; exact clsA.self _ _ _ _, fun y hy => hy.fro, fun y hy => hy.later hs, .inr fun y hy => ?_, z2a hI hC hr.nrm (hI.step hIw hs) hf fun a2 w2 K2 R2 hr2 hs2 => hn a2 w2 K2 R2 hr2 (hs.trans hs2)⟩
              intro b hb
              have : zl3 w' y := hy
              rw [this b (Nat.lt_of_lt_of_le hb hs.size)]
              exact hsame b hb
            | false =>
              rw [if_neg (by simp)] at h1
              exact ziO hI hC h hIw h1 fun a' w' K' R' hr hs hstay => ⟨clsA false w' K' M, Fro w' K', fun y => y = w', rfl, fun y hy => by subst hy; exact clsA.self _ _ _ _, fun y hy => hy.fro, fun y hy => hy.later hs, .inr fun y hy => hstay y hy, z2a hI hC hr.nrm (hI.step hIw hs) hf fun a2 w2 K2 R2 hr2 hs2 => hn a2 w2 K2 R2 hr2 (hs.trans hs2)⟩
        · cases hf
end
section
inductive X where
  | n
  | x (id : Nat)
  | r
def zbA : X -> Exit
  | .n => .normal
  | .x id => .exit id
  | .r => .ret
structure Cfg where
  wio : FuncId -> Nat -> Bool
  live : Nat -> Option (List Nat)
  dr : Nat -> Option (List (Nat × Nat))
  wr : Nat -> List Nat := fun _ => []
  fz : Nat -> Option (List Nat) := fun _ => none
  dt : Nat -> Option SchT := fun _ => none
def z4D : Code -> Nat
  | .region id _ _ => id
  | .seq a _ => z4D a
  | .cond _ a _ => z4D a
  | .block _ c => z4D c
  | .loop c => z4D c
  | .scope c => z4D c
  | _ => 0
def onE : E -> List Nat
  | .one x => (onA x).toList
  | .ag xs => xs.filterMap onA
def ids : List (Nat × E) -> List Nat
  | [] => []
  | (_, e) :: r => onE e ++ ids r
def z7I (ob : List (Nat × T)) : List Nat -> List (Nat × T)
  | [] => []
  | i :: r => match z0v ob i with | some t => z1Z (z7I ob r) i t | none => z7I ob r
def z7H (tm : List (Nat × E)) : List Nat -> List (Nat × E)
  | [] => []
  | i :: r => (i, z0E tm i) :: z7H tm r
def z3I (n : Nat) : List (Nat × E) -> List (Nat × E)
  | [] => []
  | (i, e) :: r => if n <= i then (i, e) :: z3I n r else z3I n r
def zdn (l : List Nat) (n : Nat) : Nat := if l.contains 999999 then 1000000000 else n
def z4E (keep : Option (List Nat)) (fr : Fr) : Fr :=
  match keep with
  | none => fr
  | some l => { fr with tm := z7H fr.tm l ++ z3I (zdn l fr.nt) fr.tm, ob := z7I fr.ob (ids (z7H fr.tm l ++ z3I (zdn l fr.nt) fr.tm)) }
theorem z2t (ob : List (Nat × T)) : ∀ (l : List Nat) (i : Nat), z0v (z7I ob l) i = if i ∈ l then z0v ob i else none
  | [], i => by simp [z7I, z0v]
  | j :: r, i => by
    simp only [z7I]
    split
    · rename_i t ht
      rw [z0e, z2t ob r i]
      by_cases e : j = i
      · subst e; simp [ht]
      · simp only [if_neg e, List.mem_cons, Ne.symm e, false_or]
    · rename_i hn
      rw [z2t ob r i]
      by_cases e : i = j
      · subst e; simp [hn]
      · simp [e]
theorem zbe (l m : List (Nat × E)) (i : Nat) : ((∃ e, (i, e) ∈ l) /\ z0E (l ++ m) i = z0E l i) ∨ z0E (l ++ m) i = z0E m i := by
  induction l with
  | nil => exact .inr rfl
  | cons a r ih =>
    obtain ⟨j, x⟩ := a
    simp only [List.cons_append, z0E]
    by_cases h : j = i
    · subst h; left; exact ⟨⟨x, by simp⟩, by simp⟩
    · simp only [if_neg h]
      rcases ih with ⟨⟨e, he⟩, h2⟩ | h2
      · left; exact ⟨⟨e, by simp [he]⟩, h2⟩
      · right; exact h2
theorem za6 (tm : List (Nat × E)) : ∀ (l : List Nat) (i : Nat), (∃ e, (i, e) ∈ z7H tm l) -> z0E (z7H tm l) i = z0E tm i
  | [], i, h => by obtain ⟨e, he⟩ := h; cases he
  | j :: r, i, h => by
    simp only [z7H, z0E]
    by_cases e : j = i
    · subst e; simp
    · rw [if_neg e]
      refine za6 tm r i ?_
      obtain ⟨x, hx⟩ := h
      simp only [z7H] at hx
      rcases List.mem_cons.1 hx with hx | hx
      · cases hx; exact absurd rfl e
      · exact ⟨x, hx⟩
theorem z5N (n : Nat) : ∀ (tm : List (Nat × E)) (i : Nat), z0E (z3I n tm) i = z0E tm i ∨ z0E (z3I n tm) i = .one .dead
  | [], i => .inl rfl
  | (j, x) :: r, i => by
    simp only [z3I]
    by_cases e : j = i
    · subst e
      split
      · left; simp [z0E]
      · rename_i hn
        right
        have : ∀ l : List (Nat × E), z0E (z3I n l) j = .one .dead := by
          intro l
          induction l with
          | nil => rfl
          | cons b r ih =>
            obtain ⟨k, y⟩ := b
            simp only [z3I]
            split
            · simp only [z0E]; rw [if_neg (by omega)]; exact ih
            · exact ih
        exact this r
    · split
      · simp only [z0E, if_neg e]; exact z5N n r i
      · simp only [z0E, if_neg e]; exact z5N n r i
theorem zca : ∀ {tm : List (Nat × E)} {i : Nat}, z0E tm i = .one .dead ∨ (i, z0E tm i) ∈ tm
  | [], i => .inl rfl
  | (j, x) :: r, i => by
    simp only [z0E]
    by_cases e : j = i
    · subst e; right; simp
    · rw [if_neg e]
      rcases zca (tm := r) (i := i) with h | h
      · exact .inl h
      · exact .inr (by simp [h])
theorem zeO : ∀ {tm : List (Nat × E)} {i : Nat} {e : E}, (i, e) ∈ tm -> ∀ j ∈ onE e, j ∈ ids tm
  | (k, x) :: r, i, e, h, j, hj => by
    simp only [ids, List.mem_append]
    rcases List.mem_cons.1 h with h | h
    · cases h; exact .inl hj
    · exact .inr (zeO h j hj)
theorem FRep.canon {w : World} {K : Nat -> z0a} {R G : Nat -> Value} {fr : Fr} {a : Act} (h : FRep w K R G fr a) (keep : Option (List Nat)) : FRep w K R G (z4E keep fr) a := by
  unfold z4E
  split
  · exact h
  rename_i l
  let tm' := z7H fr.tm l ++ z3I (zdn l fr.nt) fr.tm
  have hget : ∀ i, z0E tm' i = z0E fr.tm i ∨ z0E tm' i = .one .dead := fun i => by
    rcases zbe (z7H fr.tm l) (z3I (zdn l fr.nt) fr.tm) i with ⟨he, e⟩ | e
    · left; rw [show z0E tm' i = _ from e]; exact za6 fr.tm l i he
    · rw [show z0E tm' i = _ from e]; exact z5N (zdn l fr.nt) fr.tm i
  have hsub : ∀ i t, z0v (z7I fr.ob (ids tm')) i = some t -> z0v fr.ob i = some t := fun i t ht => by
    rw [z2t] at ht
    split at ht
    · exact ht
    · cases ht
  have hA : ∀ x u, (∀ j, onA x = some j -> j ∈ ids tm') -> ARep w K R fr.ob x u -> ARep w K R (z7I fr.ob (ids tm')) x u := fun x u hx hr => by
    cases x with
    | dead => trivial
    | k v => exact hr
    | t dep x => exact ⟨hr.1, fun i e => by subst e; rw [z2t, if_pos (hx i rfl)]; exact hr.2 i rfl⟩
    | h i q => obtain ⟨n1, t, n2, n3⟩ := hr; exact ⟨n1, t, by rw [z2t, if_pos (hx i rfl)]; exact n2, n3⟩
    | a i q off => obtain ⟨hv, g, n1, n4, n5, t, n2, n3⟩ := hr; exact ⟨hv, g, n1, n4, n5, t, by rw [z2t, if_pos (hx i rfl)]; exact n2, n3⟩
    | tf n cs => exact hr
    | ea dep cs off => obtain ⟨g, o, F, e1, e2, e3, e4, e5, e6⟩ := hr; exact ⟨g, o, F, e1, e2, e3, e4, e5, fun i e => by subst e; rw [z2t, if_pos (hx i rfl)]; exact e6 i rfl⟩
  refine ⟨fun i => ?_, fun id t ht => h.ob id t (hsub id t ht), h.nt, h.df⟩
  show ERep w K R (z7I fr.ob (ids tm')) (z0E tm' i) _
  rcases zca (tm := tm') (i := i) with hd | hm
  · rw [hd]; trivial
  · rcases hget i with e | e
    · have hr := h.tm i
      rw [← e] at hr
      have hon : ∀ j ∈ onE (z0E tm' i), j ∈ ids tm' := zeO hm
      revert hr hon
      generalize z0E tm' i = ee
      intro hr hon
      cases ee with
      | one x => exact hA x _ (fun j hj => hon j (by simp [onE, hj])) hr
      | ag xs =>
        obtain ⟨arr, e1, e2, e3⟩ := hr
        exact ⟨arr, e1, e2, fun j x hx => hA x _ (fun k hk => hon k (by simp only [onE, List.mem_filterMap]; exact ⟨x, List.mem_of_getElem? hx, hk⟩)) (e3 j x hx)⟩
    · rw [e]; trivial
def z5u (body : Fr -> Option (X × Fr)) (cn : Fr -> Fr) : Nat -> Fr -> Option (X × Fr)
  | 0, _ => none
  | n + 1, fr => match body (cn fr) with
    | some (.n, fr') => z5u body cn n fr'
    | some (x, fr') => some (x, fr')
    | none => none
def z2o (P : Program) : List Oper -> Fr -> Option Fr
  | [], fr => some fr
  | o :: l, fr => match o.op, o.dst with
    | .assign _, some d => (match zkG P fr o.type d with | some fr' => z2o P l fr' | none => none)
    | _, _ => z2o P l fr
theorem z5U {P : Program} {w : World} {G : Nat -> Value} {a : Act} : ∀ {l : List Oper} {K : Nat -> z0a} {R : Nat -> Value} {fr fr' : Fr}, FRep w K R G fr a -> z2o P l fr = some fr' -> ∃ K' R', FRep w K' R' G fr' a /\ Step w K w K'
  | [], K, R, fr, fr', h, hf => by cases hf; exact ⟨K, R, h, Step.refl _ _⟩
  | o :: l, K, R, fr, fr', h, hf => by
    simp only [z2o] at hf
    split at hf
    · split at hf
      · rename_i fr1 h1
        obtain ⟨K1, R1, a1, a2, _, _⟩ := zfr h h1
        obtain ⟨K2, R2, b1, b2⟩ := z5U (l := l) a1 hf
        exact ⟨K2, R2, b1, a2.trans b2⟩
      · cases hf
    · exact z5U (l := l) h hf
noncomputable def z3m (P : Program) (C : z0b) (cf : Cfg) (id : Nat) (ops : Array Oper) (fr : Fr) : Option Fr :=
  match cf.dt id with
  | some t => z2H P C cf.wio (cf.wr id).isEmpty (cf.wr id).contains ops t fr
  | none => (match cf.dr id with
    | some sch => z4e P C cf.wio (cf.wr id).isEmpty (cf.wr id).contains ops (z5n ops sch) fr
    | none => none)
noncomputable def z0x (P : Program) (C : z0b) (cf : Cfg) (LF : Nat) : Code -> Fr -> Option (X × Fr)
  | .skip, fr => some (.n, fr)
  | .label _, fr => some (.n, fr)
  | .region id ops draw, fr =>
    if draw then (match z3m P C cf id ops (zgl fr (cf.fz id)) with
      | some fr1 => (match z2o P ops.toList fr1 with | some fr2 => some (.n, fr2) | none => none)
      | none => none)
    else (match zaX P C cf.wio ops ops.toList (zgl fr (cf.fz id)) with | some fr' => some (.n, fr') | none => none)
  | .seq a b, fr => (match z0x P C cf LF a fr with
    | some (.n, fr') => z0x P C cf LF b fr'
    | r => r)
  | .cond c x y, fr => (match rdV (opE fr c) with
    | some (.bool true) => z0x P C cf LF x fr
    | some (.bool false) => z0x P C cf LF y fr
    | _ => none)
  | .block id c, fr => (match z0x P C cf LF c fr with
    | some (.x i, fr') => if i = id then some (.n, fr') else some (.x i, fr')
    | r => r)
  | .scope c, fr => z0x P C cf LF c fr
  | .loop c, fr => z5u (fun fr => z0x P C cf LF c fr) (z4E (cf.live (z4D c))) LF fr
  | .exit id, fr => some (.x id, fr)
  | .ret, fr => some (.r, fr)
  | _, _ => none
def zeo (ops : Array Oper) (sch : List (Nat × Nat)) : Bool :=
  decide ((z5n ops sch).length = ops.toList.length) && Region.noSelect ops && z8f .any ops (z5n ops sch) (Array.replicate ops.toList.length false)
def z4U (ops : Array Oper) (t : SchT) : Bool :=
  decide (t.depth = ops.toList.length) && Region.noSelect ops && z0T .any ops true t (Array.replicate ops.toList.length false)
def okC (cf : Cfg) : Code -> Bool
  | .region id ops draw => !draw || (match cf.dt id with | some t => z4U ops t | none => (match cf.dr id with | some sch => zeo ops sch | none => true))
  | .seq a b => okC cf a && okC cf b
  | .cond _ x y => okC cf x && okC cf y
  | .block _ c => okC cf c
  | .loop c => okC cf c
  | .scope c => okC cf c
  | _ => true
theorem z4w {p : Nat -> Prop} : ∀ {n : Nat}, p n -> ∃ m, p m /\ ∀ k, p k -> m <= k := by
  intro n
  induction n using Nat.strongRecOn with
  | _ n ih =>
    intro h
    by_cases hc : ∃ k, k < n /\ p k
    · obtain ⟨k, hk, hp⟩ := hc
      exact ih k hk hp
    · exact ⟨n, h, fun k hp => Nat.le_of_not_lt fun hk => hc ⟨k, hk, hp⟩⟩
theorem zdK {P : Program} {c : Code} {Q : Exit -> Act -> World -> Prop} (J : Nat -> Act -> World -> Prop) (round : ∀ n a w, J n a w -> c.wp P (Exit.then (fun a' w' => ∃ m, m < n /\ J m a' w') Q) a w) {n : Nat} {a : Act} {w : World} (h : J n a w) : (Code.loop c).wp P Q a w := by
  classical
  let L : Act -> World -> Nat -> Prop := fun a w m => J m a w /\ ∀ k, J k a w -> m <= k
  have hL : ∀ a w, (∃ n, J n a w) -> ∃ m, L a w m := fun a w ⟨n, hn⟩ => z4w hn
  refine wp_loop (fun a w => ∃ n, J n a w) (fun a w => if h : ∃ m, L a w m then h.choose else 0) ⟨n, h⟩ fun a w hI => ?_
  have hI2 := hL a w hI
  obtain ⟨hj, hmin⟩ := hI2.choose_spec
  refine Code.wp_mono (fun e a' w' hq => ?_) (round _ a w hj)
  cases e with
  | normal =>
    obtain ⟨m, hm, hJ⟩ := hq
    refine ⟨⟨m, hJ⟩, ?_⟩
    have hI' := hL a' w' ⟨m, hJ⟩
    rw [dif_pos hI', dif_pos hI2]
    exact Nat.lt_of_le_of_lt (hI'.choose_spec.2 m hJ) hm
  | exit id => exact hq
  | goto l => exact hq
  | ret => exact hq
  | panic ch => exact hq
  | outgrown => exact hq
theorem zbn {P : Program} {I : World -> (Nat -> z0a) -> Prop} {C : z0b} {cf : Cfg} {LF : Nat} (hI : EnvS I) (hC : z2J P I C) (hm : P.follows .mixedOrders = true) : ∀ (c : Code) {w : World} {K : Nat -> z0a} {R G : Nat -> Value} {fr fr' : Fr} {x : X} {a : Act} {Q : Exit -> Act -> World -> Prop}, okC cf c = true -> FRep w K R G fr a -> I w K ->
    z0x P C cf LF c fr = some (x, fr') -> (∀ a' w' K' R', FRep w' K' R' G fr' a' -> Step w K w' K' -> Q (zbA x) a' w') -> c.wp P Q a w := by
  intro c
  induction c with
  | skip => intro w K R G fr fr' x a Q ho h hIw hf hq; cases hf; exact wp_skip (hq a w K R h (Step.refl _ _))
  | label l => intro w K R G fr fr' x a Q ho h hIw hf hq; cases hf; exact wp_label (hq a w K R h (Step.refl _ _))
  | exit id => intro w K R G fr fr' x a Q ho h hIw hf hq; cases hf; exact wp_exit (hq a w K R h (Step.refl _ _))
  | ret => intro w K R G fr fr' x a Q ho h hIw hf hq; cases hf; exact wp_ret (hq a w K R h (Step.refl _ _))
  | goto l => intro w K R G fr fr' x a Q ho h hIw hf hq; cases hf
  | scope c ih =>
    intro w K R G fr fr' x a Q ho h hIw hf hq
    simp only [okC] at ho
    simp only [z0x] at hf
    refine wp_scope_straight (ih ho h hIw hf fun a' w' K' R' hr hs => ?_)
    have := hq a' w' K' R' hr hs
    cases x <;> exact this
  | refuse s => intro w K R G fr fr' x a Q ho h hIw hf hq; cases hf
  | rangeFunc => intro w K R G fr fr' x a Q ho h hIw hf hq; cases hf
  | region id ops draw =>
    intro w K R G fr fr' x a Q ho h hIw hf hq
    simp only [z0x] at hf
    split at hf
    · rename_i hd
      subst hd
      split at hf
      · rename_i fr1 h1
        split at hf
        · rename_i fr2 h2
          cases hf
          obtain ⟨Kz, hz, hsz⟩ := zcc (l := cf.fz id) h
          have hd2 : FRep w.drew Kz R G (zgl fr (cf.fz id)) a := hz.keep ⟨fun b hb e => ⟨e, rfl⟩, fun b hb _ => ⟨rfl, rfl⟩, Nat.le_refl _⟩
          have hId : I w.drew Kz := hI.keep (hI.step hIw hsz) (Nat.le_refl _) fun b hb e => ⟨e, rfl⟩
          have hfin : ∀ a' w' K' R', FRep w' K' R' G fr1 a' -> Step w.drew Kz w' K' -> Q .normal a' w' := fun a' w' K' R' hr hs => by
            obtain ⟨K2, R2, e1, e2⟩ := z5U hr h2
            have hs0 : Step w Kz w' K' := ⟨hs.os, hs.tape, hs.output, hs.size, hs.old, hs.sz⟩
            exact hq a' w' K2 R2 e1 ((hsz.trans hs0).trans e2)
          rw [show Code.region id ops true = Code.region id ops.toList.toArray true by rw [Array.toArray_toList]]
          unfold z3m at h1
          split at h1
          · rename_i t ht
            simp only [okC, ht, z4U, Bool.not_true, Bool.false_or, Bool.and_eq_true, decide_eq_true_eq] at ho
            obtain ⟨⟨o1, o2⟩, o3⟩ := ho
            refine z8t t (clsA (cf.wr id).isEmpty w.drew Kz (cf.wr id).contains) (Fro w.drew Kz) (fun y => y = w.drew) hm o1 (by rw [Array.toArray_toList]; exact o2) (by rw [Array.toArray_toList]; exact o3) (fun y hy => hy.fro) (fun y hy => by subst hy; exact clsA.self _ _ _ _) rfl ?_
            rw [Array.toArray_toList]
            exact z2a hI hC hd2 hId h1 hfin
          · rename_i ht
            split at h1
            · rename_i sch hsch
              simp only [okC, ht, hsch, zeo, Bool.not_true, Bool.false_or, Bool.and_eq_true, decide_eq_true_eq] at ho
              obtain ⟨⟨o1, o2⟩, o3⟩ := ho
              refine z6n sch (clsA (cf.wr id).isEmpty w.drew Kz (cf.wr id).contains) (Fro w.drew Kz) (fun y => y = w.drew) hm (by rw [Array.toArray_toList]; exact o1) (by rw [Array.toArray_toList]; exact o2) (by rw [Array.toArray_toList]; exact o3) (fun y hy => hy.fro) (fun y hy => by subst hy; exact clsA.self _ _ _ _) rfl ?_
              rw [Array.toArray_toList]
              exact z2U hI hC hd2 hId h1 hfin
            · cases h1
        · cases hf
      · cases hf
    · rename_i hd
      have hd' : draw = false := by simpa using hd
      subst hd'
      split at hf
      · rename_i fr1 h1
        cases hf
        obtain ⟨Kz, hz, hsz⟩ := zcc (l := cf.fz id) h
        exact wp_region_list (zef hI hC hz (hI.step hIw hsz) h1 fun a' w' K' R' hr hs => hq a' w' K' R' hr (hsz.trans hs))
      · cases hf
  | seq c1 c2 ih1 ih2 =>
    intro w K R G fr fr' x a Q ho h hIw hf hq
    simp only [okC, Bool.and_eq_true] at ho
    simp only [z0x] at hf
    refine wp_seq ?_
    split at hf
    · rename_i fr1 h1
      exact ih1 ho.1 h hIw h1 fun a1 w1 K1 R1 hr hs => ih2 ho.2 hr (hI.step hIw hs) hf fun a2 w2 K2 R2 hr2 hs2 => hq a2 w2 K2 R2 hr2 (hs.trans hs2)
    · rename_i hne
      cases x with
      | n => exact absurd hf (hne _)
      | x id => exact ih1 ho.1 h hIw hf fun a1 w1 K1 R1 hr hs => hq a1 w1 K1 R1 hr hs
      | r => exact ih1 ho.1 h hIw hf fun a1 w1 K1 R1 hr hs => hq a1 w1 K1 R1 hr hs
  | cond c x1 y1 ih1 ih2 =>
    intro w K R G fr fr' x a Q ho h hIw hf hq
    simp only [okC, Bool.and_eq_true] at ho
    simp only [z0x] at hf
    split at hf
    · rename_i hc
      obtain ⟨e1, -⟩ := z0n (h.opE c) hc
      exact wp_cond_true e1 (ih1 ho.1 h hIw hf hq)
    · rename_i hc
      obtain ⟨e1, -⟩ := z0n (h.opE c) hc
      exact wp_cond_false e1 (ih2 ho.2 h hIw hf hq)
    · cases hf
  | block id c ih =>
    intro w K R G fr fr' x a Q ho h hIw hf hq
    simp only [okC] at ho
    simp only [z0x] at hf
    refine wp_block ?_
    split at hf
    · rename_i i fr1 h1
      split at hf
      · rename_i hi
        cases hf
        exact ih ho h hIw h1 fun a1 w1 K1 R1 hr hs => by
          simp only [zbA, Exit.inBlock, if_pos hi]; exact hq a1 w1 K1 R1 hr hs
      · rename_i hi
        cases hf
        exact ih ho h hIw h1 fun a1 w1 K1 R1 hr hs => by
          simp only [zbA, Exit.inBlock, if_neg hi]; exact hq a1 w1 K1 R1 hr hs
    · rename_i hne
      cases x with
      | n => exact ih ho h hIw hf fun a1 w1 K1 R1 hr hs => hq a1 w1 K1 R1 hr hs
      | x i => exact absurd hf (hne _ _)
      | r => exact ih ho h hIw hf fun a1 w1 K1 R1 hr hs => hq a1 w1 K1 R1 hr hs
  | loop c ih =>
    intro w K R G fr fr' x a Q ho h hIw hf hq
    simp only [okC] at ho
    simp only [z0x] at hf
    refine zdK (fun n a1 w1 => ∃ fr1 K1 R1, FRep w1 K1 R1 G fr1 a1 /\ Step w K w1 K1 /\ z5u (fun fr => z0x P C cf LF c fr) (z4E (cf.live (z4D c))) n fr1 = some (x, fr')) (fun n a1 w1 hJ => ?_) ⟨fr, K, R, h, Step.refl _ _, hf⟩
    obtain ⟨fr1, K1, R1, h1, hs1, hi⟩ := hJ
    cases n with
    | zero => cases hi
    | succ n =>
      simp only [z5u] at hi
      split at hi
      · rename_i fr2 h2
        exact ih ho (h1.canon _) (hI.step hIw hs1) h2 fun a2 w2 K2 R2 hr hs => ⟨n, Nat.lt_succ_self n, fr2, K2, R2, hr, hs1.trans hs, hi⟩
      · rename_i x2 fr2 hne h2
        cases hi
        cases x with
        | n => exact absurd rfl (hne)
        | x i => exact ih ho (h1.canon _) (hI.step hIw hs1) h2 fun a2 w2 K2 R2 hr hs => hq a2 w2 K2 R2 hr (hs1.trans hs)
        | r => exact ih ho (h1.canon _) (hI.step hIw hs1) h2 fun a2 w2 K2 R2 hr hs => hq a2 w2 K2 R2 hr (hs1.trans hs)
      · cases hi
end
section
def z6l (i : Nat) : T -> E
  | .vr _ => .one (.a i [] 0)
  | .os _ _ _ => .one (.h i [])
  | .vo off _ => .one (.a i [] off)
  | .pr cs => .one (.ea none cs 0)
  | t => .one (.t none t)
def z3K (nt : Nat) : List T -> Nat -> List (Nat × E)
  | [], _ => []
  | t :: ts, i => if z2L t then (i, z6l i t) :: (nt + 1000 + i, z6l i t) :: z3K nt ts (i + 1) else (i, z6l i t) :: z3K nt ts (i + 1)
def zjp : T -> T
  | .vo _ cs => .vr cs
  | t => t
def z3t : List T -> Nat -> List (Nat × T)
  | [], _ => []
  | t :: ts, i => if z2L t then (i, zjp t) :: z3t ts (i + 1) else z3t ts (i + 1)
theorem z5O : ∀ (ts : List T) (i j : Nat) (t : T), z0v (z3t ts i) j = some t -> i <= j /\ ∃ t0, t = zjp t0 /\ ts[j - i]? = some t0 /\ z2L t0 = true
  | [], i, j, t, h => by cases h
  | t0 :: ts, i, j, t, h => by
    simp only [z3t] at h
    split at h
    · rename_i hio
      simp only [z0v] at h
      split at h
      · rename_i e
        cases h
        subst e
        exact ⟨Nat.le_refl _, t0, rfl, by simp, hio⟩
      · obtain ⟨h1, t1, h0, h2, h3⟩ := z5O ts (i + 1) j t h
        exact ⟨by omega, t1, h0, by rw [show j - i = (j - (i + 1)) + 1 by omega, List.getElem?_cons_succ]; exact h2, h3⟩
    · obtain ⟨h1, t1, h0, h2, h3⟩ := z5O ts (i + 1) j t h
      exact ⟨by omega, t1, h0, by rw [show j - i = (j - (i + 1)) + 1 by omega, List.getElem?_cons_succ]; exact h2, h3⟩
theorem zak : ∀ (ts : List T) (i j : Nat) (t : T), ts[j]? = some t -> z2L t = true -> z0v (z3t ts i) (i + j) = some (zjp t)
  | [], i, j, t, h, _ => by simp at h
  | t0 :: ts, i, 0, t, h, hio => by
    simp at h; subst h
    simp [z3t, hio, z0v]
  | t0 :: ts, i, j + 1, t, h, hio => by
    have ih := zak ts (i + 1) j t (by simpa using h) hio
    rw [show i + 1 + j = i + (j + 1) by omega] at ih
    simp only [z3t]
    split
    · simp only [z0v]; rw [if_neg (by omega)]; exact ih
    · exact ih
theorem z8o (nt : Nat) : ∀ (ts : List T) (i k : Nat), z0E (z3K nt ts i) k = .one .dead ∨ ∃ j t, ts[j]? = some t /\ z0E (z3K nt ts i) k = z6l (i + j) t /\ (k = i + j ∨ (z2L t = true /\ k = nt + 1000 + (i + j)))
  | [], i, k => .inl rfl
  | t :: ts, i, k => by
    have rest : z0E (z3K nt ts (i + 1)) k = .one .dead ∨ ∃ j t', (t :: ts)[j]? = some t' /\ z0E (z3K nt ts (i + 1)) k = z6l (i + j) t' /\ (k = i + j ∨ (z2L t' = true /\ k = nt + 1000 + (i + j))) := by
      rcases z8o nt ts (i + 1) k with h | ⟨j, t', h1, h2, h3⟩
      · exact .inl h
      · refine .inr ⟨j + 1, t', by simpa using h1, by rw [h2]; congr 1; omega, ?_⟩
        rcases h3 with h3 | ⟨h3, h4⟩
        · left; omega
        · right; exact ⟨h3, by omega⟩
    simp only [z3K]
    split
    · rename_i hio
      simp only [z0E]
      split
      · rename_i e; exact .inr ⟨0, t, rfl, rfl, .inl e.symm⟩
      · split
        · rename_i e; exact .inr ⟨0, t, rfl, rfl, .inr ⟨hio, e.symm⟩⟩
        · exact rest
    · simp only [z0E]
      split
      · rename_i e; exact .inr ⟨0, t, rfl, rfl, .inl e.symm⟩
      · exact rest
def z3L (nt : Nat) (args : List T) : Fr := ⟨nt, z3K nt args 0, z3t args 0⟩
def zgI : Option T -> Value -> Value
  | some (.vo _ _), .pointer (some a) => .pointer (some ⟨a.block, 0, none⟩)
  | _, v => v
theorem zaj {w : World} {K : Nat -> z0a} {args : List T} {vals : Array Value} {nt : Nat} (hs : vals.size = args.length) (hr : ∀ i t, args[i]? = some t -> z8s w K i (vals.getD i undef) t) (hn : args.length <= nt) :
    FRep w K (fun i => zgI (args[i]?) (vals.getD i undef)) (fun i => vals.getD (i - (nt + 1000)) undef) (z3L nt args) { tmps := vals ++ Array.replicate (nt - vals.size) undef, defers := [] } := by
  refine ⟨fun k => ?_, fun id t ht => ?_, by simp [z3L]; omega, rfl⟩
  · show ERep w K _ (z3t args 0) (z0E (z3K nt args 0) k) _
    rcases z8o nt args 0 k with h | ⟨j, t, h1, h2, h3⟩
    · rw [h]; trivial
    · rw [h2, Nat.zero_add]
      have hlt := (List.getElem?_eq_some_iff.1 h1).1
      have hreg : z3M { tmps := vals ++ Array.replicate (nt - vals.size) undef, defers := [] } (fun i => vals.getD (i - (nt + 1000)) undef) k = vals.getD j undef := by
        rcases h3 with e | ⟨_, e⟩
        · have hk : k = j := by omega
          subst hk
          rw [z3M, if_pos (by simp; omega)]
          simp only [Array.getD_eq_getD_getElem?, Array.getElem?_append]
          rw [if_pos (by omega)]
        · rw [z3M, if_neg (by simp; omega), e, show nt + 1000 + (0 + j) - (nt + 1000) = j by omega]
      rw [hreg]
      have hr' := hr j t h1
      unfold z8s at hr'
      have hob : z2L t = true -> z0v (z3t args 0) j = some (zjp t) := fun hio => by
        have := zak args 0 j t h1 hio
        rwa [Nat.zero_add] at this
      cases t with
      | vr cs =>
        have hob' := hob rfl
        simp only [z2L, if_true] at hr'
        generalize hv : vals.getD j undef = v at hr'
        have hvv : v = vals.getD j undef := hv.symm
        cases hr' with
        | vr c g cs arr e fz F hfz hc0 hK hg hl hF hh => exact ⟨_, g, rfl, by simp [hv, h1, zgI, z2n], rfl, _, hob', rfl⟩
      | os sz n cs => exact ⟨by simp [h1, zgI, nav], _, hob rfl, rfl⟩
      | vo off cs =>
        have hob' := hob rfl
        simp only [z2L, if_true] at hr'
        generalize hv : vals.getD j undef = v at hr'
        cases hr' with
        | vo c g off cs h2 => exact ⟨.pointer (some ⟨g, 0, none⟩), g, by simp [hv, h1, zgI, nav], rfl, rfl, _, hob', rfl⟩
      | pr cs =>
        simp only [z2L, Bool.false_eq_true, if_false] at hr'
        generalize hv : vals.getD j undef = v at hr'
        cases hr' with
        | pr c g o cs F hK hg hF hh => exact ⟨g, o, F, rfl, hK, hg, hF, hh, fun _ e => by cases e⟩
      | sc v => exact ⟨hr', fun _ e => by cases e⟩
      | dead => exact ⟨hr', fun _ e => by cases e⟩
      | agg cs => exact ⟨hr', fun _ e => by cases e⟩
      | tup cs => exact ⟨hr', fun _ e => by cases e⟩
      | mp kk es => exact ⟨hr', fun _ e => by cases e⟩
      | mr kk es => exact ⟨hr', fun _ e => by cases e⟩
      | mt => exact ⟨hr', fun _ e => by cases e⟩
      | ms => exact ⟨hr', fun _ e => by cases e⟩
      | cl f cs => exact ⟨hr', fun _ e => by cases e⟩
      | sl n cs => exact ⟨hr', fun _ e => by cases e⟩
  · obtain ⟨h1, t0, h0, h2, h3⟩ := z5O args 0 id t ht
    have h2' : args[id]? = some t0 := by simpa using h2
    have := hr id t0 h2'
    unfold z8s at this
    rw [h3] at this
    simp only [if_true] at this
    rw [h2', h0]
    cases t0 with
    | vo off cs =>
      generalize hv : vals.getD id undef = v at this
      cases this with
      | vo c g off cs h2 => exact h2
    | _ => exact this
def zj7 (P : Program) (fr : Fr) : ResultVar -> Option E
  | .tmp t => if t < fr.nt then some (z0E fr.tm t) else none
  | .cell ad ty => if ad < fr.nt then zd7 P noM fr ty (z0E fr.tm ad) else none
def zee (P : Program) (fr : Fr) : List ResultVar -> Option (List E)
  | [] => some []
  | r :: rs => match zj7 P fr r, zee P fr rs with | some e, some es => some (e :: es) | _, _ => none
def ziI : ResultVar -> Array Value -> Sem Value
  | .tmp t, tmps => pure (tmps.getD t undef)
  | .cell a t, tmps => do loadVar t (← asAddr (tmps.getD a undef))
theorem zfW {P : Program} {w : World} {K : Nat -> z0a} {R G : Nat -> Value} {fr : Fr} {a : Act} {r : ResultVar} {e : E} (h : FRep w K R G fr a) (hr : zj7 P fr r = some e) : ∃ v, ERep w K R fr.ob e v /\ (ziI r a.tmps).run P w = .ok v w := by
  have hreg : ∀ t, t < fr.nt -> ERep w K R fr.ob (z0E fr.tm t) (a.tmps.getD t undef) := fun t ht => by
    have := h.tm t
    rwa [z3M, if_pos (by rw [h.nt]; exact ht)] at this
  cases r with
  | tmp t =>
    simp only [zj7] at hr
    split at hr
    · rename_i ht
      cases hr
      exact ⟨_, hreg t ht, by simp [ziI]⟩
    · cases hr
  | cell ad ty =>
    simp only [zj7] at hr
    split at hr
    · rename_i ht
      obtain ⟨v, h1, h2⟩ := zbV h (hreg ad ht) hr
      refine ⟨v, h1, ?_⟩
      have h3 := h2 w (Stay.refl w K noM)
      have hp : ∃ ad', a.tmps.getD ad undef = .pointer (some ad') := by
        have hx := hreg ad ht
        unfold zd7 at hr
        split at hr
        · cases hr
        · split at hr
          · rename_i id p off hg
            rw [hg] at hx
            obtain ⟨hv, g, _, _, n5, _⟩ := hx
            exact ⟨_, n5⟩
          · rename_i dep cs off hg
            rw [hg] at hx
            obtain ⟨g, o, F, n5, _⟩ := hx
            exact ⟨_, n5⟩
          · cases hr
      obtain ⟨ad', hp⟩ := hp
      rw [hp] at h3
      simp only [ziI, hp, asAddr, Sem.run_bind, Sem.run_pure, Result.andThen_ok]
      simpa [Instr.loadAt, Instr.sureAddr] using h3
    · cases hr
theorem z9P {P : Program} {w : World} {K : Nat -> z0a} {R G : Nat -> Value} {fr : Fr} {a : Act} (h : FRep w K R G fr a) : ∀ {rs : List ResultVar} {es : List E}, zee P fr rs = some es ->
    ∃ vs : List Value, vs.length = es.length /\ es.length = rs.length /\ (∀ j e, es[j]? = some e -> ERep w K R fr.ob e (vs.getD j undef)) /\ (rs.mapM (fun r => ziI r a.tmps)).run P w = .ok vs w
  | [], es, hr => by cases hr; exact ⟨[], rfl, rfl, fun j e hj => by simp at hj, by simp⟩
  | r :: rs, es, hr => by
    simp only [zee] at hr
    split at hr
    · rename_i e es' h1 h2
      cases hr
      obtain ⟨v, a1, a2⟩ := zfW h h1
      obtain ⟨vs, b1, b0, b2, b3⟩ := z9P h h2
      refine ⟨v :: vs, by simp [b1], by simp [b0], fun j e hj => ?_, ?_⟩
      · match j, hj with
        | 0, hj => simp at hj; subst hj; simpa using a1
        | j + 1, hj => simpa using b2 j e (by simpa using hj)
      · rw [List.mapM_cons]
        simp only [Sem.run_bind, a2, b3, Result.andThen_ok, Sem.run_pure]
    · cases hr
def z9I : E -> T
  | .one _ => .dead
  | .ag xs => .agg (xs.map fun _ => .dead)
def z4x : List E -> List A
  | [] => []
  | .one x :: es => x :: z4x es
  | .ag xs :: es => xs ++ z4x es
def z6h : Nat -> Nat -> List E -> List (List Nat × Nat)
  | _, _, [] => []
  | j, base, .one x :: es => ([j], base) :: z6h (j + 1) (base + 1) es
  | j, base, .ag xs :: es => (List.range xs.length).map (fun i => ([j, i], base + i)) ++ z6h (j + 1) (base + xs.length) es
theorem z4T {w : World} {K : Nat -> z0a} {R : Nat -> Value} {ob : List (Nat × T)} : ∀ {es : List E} {us : List Value} {j0 base : Nat}, us.length = es.length -> (∀ j e, es[j]? = some e -> ERep w K R ob e (us.getD j undef)) ->
    ∃ vs : List Value, vs.length = (z4x es).length /\ (∀ k x, (z4x es)[k]? = some x -> ARep w K R ob x (vs.getD k undef)) /\
      ∀ q r, (q, r) ∈ z6h j0 base es -> ∃ k, k < vs.length /\ r = base + k /\ ∃ j q', q = (j0 + j) :: q' /\ j < es.length /\ nav w (us.getD j undef) q' = some (vs.getD k undef)
  | [], us, j0, base, hl, hr => ⟨[], rfl, fun k x hk => by simp [z4x] at hk, fun q r hm => by cases hm⟩
  | .one x :: es, us, j0, base, hl, hr => by
    match us, hl with
    | u :: us, hl =>
      obtain ⟨vs, a1, a2, a3⟩ := z4T (es := es) (us := us) (j0 := j0 + 1) (base := base + 1) (by simpa using hl) (fun j e hj => by simpa using hr (j + 1) e (by simpa using hj))
      refine ⟨u :: vs, by simp [z4x, a1], fun k y hk => ?_, fun q r hm => ?_⟩
      · match k, hk with
        | 0, hk => simp [z4x] at hk; subst hk; exact (hr 0 (.one x) rfl : ERep w K R ob (.one x) u)
        | k + 1, hk => simpa using a2 k y (by simpa [z4x] using hk)
      · simp only [z6h] at hm
        rcases List.mem_cons.1 hm with hm | hm
        · cases hm
          exact ⟨0, by simp, by simp, 0, [], by simp, by simp, by simp [nav]⟩
        · obtain ⟨k, k1, k2, j, q', k3, k4, k5⟩ := a3 q r hm
          exact ⟨k + 1, by simpa using k1, by omega, j + 1, q', by rw [k3]; congr 1; omega, by simpa using k4, by simpa using k5⟩
  | .ag xs :: es, us, j0, base, hl, hr => by
    match us, hl with
    | u :: us, hl =>
      obtain ⟨arr, b1, b2, b3⟩ := hr 0 (.ag xs) rfl
      obtain ⟨vs, a1, a2, a3⟩ := z4T (es := es) (us := us) (j0 := j0 + 1) (base := base + xs.length) (by simpa using hl) (fun j e hj => by simpa using hr (j + 1) e (by simpa using hj))
      have hal : arr.toList.length = xs.length := by simpa using b2
      refine ⟨arr.toList ++ vs, by simp [z4x, a1, b2], fun k y hk => ?_, fun q r hm => ?_⟩
      · simp only [z4x] at hk
        by_cases hlt : k < xs.length
        · rw [List.getElem?_append_left hlt] at hk
          have := b3 k y hk
          have e1 : (arr.toList ++ vs).getD k undef = arr.getD k undef := by
            simp only [List.getD_eq_getElem?_getD, List.getElem?_append_left (show k < arr.toList.length by omega), Array.getElem?_toList, Array.getD_eq_getD_getElem?]
          rw [e1]; exact this
        · rw [List.getElem?_append_right (by omega)] at hk
          have := a2 _ y hk
          have e1 : (arr.toList ++ vs).getD k undef = vs.getD (k - xs.length) undef := by
            simp only [List.getD_eq_getElem?_getD, List.getElem?_append_right (show arr.toList.length <= k by omega), hal]
          rw [e1]; exact this
      · simp only [z6h, List.mem_append, List.mem_map, List.mem_range] at hm
        rcases hm with ⟨i, hi, he⟩ | hm
        · cases he
          have hia : i < arr.size := by omega
          refine ⟨i, by simp; omega, rfl, 0, [i], by simp, by simp, ?_⟩
          have e1 : (arr.toList ++ vs).getD i undef = arr.getD i undef := by
            simp only [List.getD_eq_getElem?_getD, List.getElem?_append_left (show i < arr.toList.length by omega), Array.getElem?_toList, Array.getD_eq_getD_getElem?]
          rw [e1]
          have hu : (u :: us).getD 0 undef = .agg arr := by simpa using b1
          rw [hu]
          simp [nav, z6s, Array.getD_eq_getD_getElem?, hia]
        · obtain ⟨k, k1, k2, j, q', k3, k4, k5⟩ := a3 q r hm
          refine ⟨xs.length + k, by simp; omega, by omega, j + 1, q', by rw [k3]; congr 1; omega, by simpa using k4, ?_⟩
          have e1 : (arr.toList ++ vs).getD (xs.length + k) undef = vs.getD k undef := by
            simp only [List.getD_eq_getElem?_getD, List.getElem?_append_right (show arr.toList.length <= xs.length + k by omega), hal]
            congr 2; omega
          rw [e1]; simpa using k5
end
end Go.Proofs.YthbchhekejljjaaGreatDoor

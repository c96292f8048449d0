/- Proved here: a part of the proof of the law at hand, in one text: no condition. -/
import Derived.WalkKit
import Derived.Below
import Derived.Laws.Cells
import Derived.ChangeKeysEq
import Derived.Laws.BytesString
import Derived.IntWalk
import Derived.Laws.AppendOwn
set_option linter.unusedVariables false
set_option linter.unusedSimpArgs false
set_option linter.unusedSectionVars false
namespace Go.Proofs.YthbchhekejljjaaGreatDoor
section
inductive T where
  | sc (v : Value)
  | dead
  | agg (cs : List T)
  | tup (cs : List T)
  | sl (n : Nat) (cs : List T)
  | os (sz n : Nat) (cs : List T)
  | vr (cs : List T)
  | vo (off : Nat) (cs : List T)
  | pr (cs : List T)
  | mp (kk : Option IntKind) (es : List (Value × Value))
  | mr (kk : Option IntKind) (es : List (Value × Value))
  | mt (kk : Option IntKind) (ks : List Value) (cs : List T)
  | ms (kk : Option IntKind) (ks : List Value) (cs : List T)
  | cl (f : FuncId) (cs : List T)
abbrev z0a := List Nat
def scB : Value -> Bool
  | .bool _ | .int _ _ | .float _ _ | .string _ | .pointer none | .map none | .nilFunc | .nilIface => true
  | .func _ a b => a.isEmpty && b.isEmpty
  | _ => false
def ext (c : z0a) (j : Nat) : z0a := match c with | [] => [] | _ => c ++ [j]
theorem z2m {c : z0a} (h : c ≠ []) (j : Nat) : ext c j = c ++ [j] := by cases c <;> simp_all [ext]
def zfY : Value -> Bool
  | .agg vs => (match vs.toList with | [.int .i64 _, .int .i64 _] => true | _ => false)
  | _ => false
def zeH : Value -> Bool
  | .int .i64 _ => true
  | _ => false
def zkI (n : Nat) : Value -> Bool
  | .agg vs => decide (vs.size = n) && vs.toList.all zeH
  | _ => false
def agI (xs : List Int) : Value := .agg (xs.map (Value.int .i64)).toArray
def z4Y (kk : Option IntKind) (v : Value) : Bool := match kk, v with | some .i8, v => zfY v | some .i16, v => zkI 7 v | some k, .int k' _ => k == k' | none, .string _ => true | _, _ => false
def zdD (kk : Option IntKind) (ents : Array MapEntry) (clock : Nat) (es : List (Value × Value)) : Prop := ents.toList.map (fun e => (e.key, e.val)) = es /\ (∀ x ∈ es, z4Y kk x.1 = true /\ scB x.2 = true) /\ (∀ x ∈ ents.toList, x.born < clock) /\ (ents.toList.map (·.born)).Nodup
def MapTs (kk : Option IntKind) (ents : Array MapEntry) (clock : Nat) (ks : List Value) (n : Nat) (F : Nat -> Value) : Prop := ents.toList.map (fun e => e.key) = ks /\ ks.length = n /\ (∀ k ∈ ks, z4Y kk k = true) /\ (∀ (j : Nat) (e : MapEntry), ents[j]? = some e -> e.val = F j) /\ (∀ (j : Nat) (e : MapEntry), ents[j]? = some e -> e.born < clock) /\ ∀ (i j : Nat) (e e' : MapEntry), ents[i]? = some e -> ents[j]? = some e' -> e.born = e'.born -> i = j
inductive TRep (w : World) (K : Nat -> z0a) : z0a -> Value -> T -> Prop
  | sc (c v) (h : scB v = true) : TRep w K c v (.sc v)
  | dead (c v) : TRep w K c v .dead
  | agg (c) (vs : Array Value) (cs : List T) (F : Nat -> Value) (hl : vs.size = cs.length) (hF : ∀ j, j < cs.length -> vs[j]? = some (F j)) (h : ∀ j t, cs[j]? = some t -> TRep w K (ext c j) (F j) t) : TRep w K c (.agg vs) (.agg cs)
  | tup (c) (vs : Array Value) (cs : List T) (F : Nat -> Value) (hl : vs.size = cs.length) (hF : ∀ j, j < cs.length -> vs[j]? = some (F j)) (h : ∀ j t, cs[j]? = some t -> TRep w K (ext c j) (F j) t) : TRep w K c (.tuple vs) (.tup cs)
  | emp (c a cap) (hc : cap <= maxLen) : TRep w K c (.slice a 0 cap) (.sl 0 [])
  | fro (c g o n cap cs) (F : Nat -> Value) (hK : K g = []) (hg : g < w.heap.size) (hn : n <= cap) (hc : cap <= maxLen) (hF : ∀ j, j < cs.length -> w.cell? ⟨g, o + j, none⟩ = some (F j))
      (h : ∀ j t, cs[j]? = some t -> TRep w K [] (F j) t) : TRep w K c (.slice (some ⟨g, o, none⟩) n cap) (.sl n cs)
  | nil (c sz) : TRep w K c (.slice none 0 0) (.os sz 0 [])
  | own (c g n cap size cs) (arr : Array Value) (e : TypeId) (fz : Nat × Nat) (F : Nat -> Value) (hfz : ∀ i, i < arr.size -> ¬ (fz.1 <= i /\ fz.1 ≠ fz.2)) (hc0 : c ≠ []) (hK : K g = c) (hg : w.heap[g]? = some (.cells arr e fz)) (hs : arr.size = cap * size) (hl : cs.length = n * size) (hz : 0 < size)
      (hn : n <= cap) (hc : cap <= maxLen) (hF : ∀ j, j < cs.length -> arr[j]? = some (F j)) (h : ∀ j t, cs[j]? = some t -> TRep w K (c ++ [j]) (F j) t) : TRep w K c (.slice (some ⟨g, 0, none⟩) n cap) (.os size n cs)
  | vr (c g cs) (arr : Array Value) (e : TypeId) (fz : Nat × Nat) (F : Nat -> Value) (hfz : ∀ i, i < arr.size -> ¬ (fz.1 <= i /\ fz.1 ≠ fz.2)) (hc0 : c ≠ []) (hK : K g = c) (hg : w.heap[g]? = some (.cells arr e fz)) (hl : cs.length <= arr.size)
      (hF : ∀ j, j < cs.length -> arr[j]? = some (F j)) (h : ∀ j t, cs[j]? = some t -> TRep w K (c ++ [j]) (F j) t) : TRep w K c (.pointer (some ⟨g, 0, none⟩)) (.vr cs)
  | vo (c g off cs) (h : TRep w K c (.pointer (some ⟨g, 0, none⟩)) (.vr cs)) : TRep w K c (.pointer (some ⟨g, off, none⟩)) (.vo off cs)
  | pr (c g o cs) (F : Nat -> Value) (hK : K g = []) (hg : g < w.heap.size) (hF : ∀ j, j < cs.length -> w.cell? ⟨g, o + j, none⟩ = some (F j))
      (h : ∀ j t, cs[j]? = some t -> TRep w K [] (F j) t) : TRep w K c (.pointer (some ⟨g, o, none⟩)) (.pr cs)
  | mr (c g kk es) (ents : Array MapEntry) (clock : Nat) (hK : K g = []) (hg : w.heap[g]? = some (.map ents clock)) (hh : zdD kk ents clock es) : TRep w K c (.map (some g)) (.mr kk es)
  | mp (c g kk es) (ents : Array MapEntry) (clock : Nat) (hc0 : c ≠ []) (hK : K g = c) (hg : w.heap[g]? = some (.map ents clock)) (hh : zdD kk ents clock es) : TRep w K c (.map (some g)) (.mp kk es)
  | ms (c g kk ks cs) (ents : Array MapEntry) (clock : Nat) (F : Nat -> Value) (hK : K g = []) (hg : w.heap[g]? = some (.map ents clock)) (hh : MapTs kk ents clock ks cs.length F) (h : ∀ j t, cs[j]? = some t -> TRep w K [] (F j) t) : TRep w K c (.map (some g)) (.ms kk ks cs)
  | mt (c g kk ks cs) (ents : Array MapEntry) (clock : Nat) (F : Nat -> Value) (hc0 : c ≠ []) (hK : K g = c) (hg : w.heap[g]? = some (.map ents clock)) (hh : MapTs kk ents clock ks cs.length F) (h : ∀ j t, cs[j]? = some t -> TRep w K [] (F j) t) : TRep w K c (.map (some g)) (.mt kk ks cs)
  | cl (c f) (vs : Array Value) (cs : List T) (F : Nat -> Value) (hl : vs.size = cs.length) (hF : ∀ j, j < cs.length -> vs[j]? = some (F j)) (h : ∀ j t, cs[j]? = some t -> TRep w K [] (F j) t) : TRep w K c (.func (.func f) #[] vs) (.cl f cs)
theorem z0f {w : World} {g : Nat} {o : Obj} (h : w.heap[g]? = some o) : g < w.heap.size := by
  rcases Nat.lt_or_ge g w.heap.size with h' | h'
  · exact h'
  · rw [Array.getElem?_eq_none h'] at h; cases h
theorem z0l {w w' : World} {g : Nat} (h : w'.heap[g]? = w.heap[g]?) (o : Nat) : w'.cell? ⟨g, o, none⟩ = w.cell? ⟨g, o, none⟩ := by
  simp only [World.cell?, h]
theorem z0i {w : World} {g : Nat} {arr : Array Value} {e : TypeId} {fr : Nat × Nat} (h : w.heap[g]? = some (.cells arr e fr)) (j : Nat) : w.cell? ⟨g, j, none⟩ = arr[j]? := by
  simp [World.cell?, h]
theorem TRep.move {w w' : World} {K K' : Nat -> z0a} {c : z0a} {v : Value} {t : T} (h : TRep w K c v t) : ∀ {c' : z0a},
    (∀ b s, b < w.heap.size -> c ≠ [] -> K b = c ++ s -> K' b = c' ++ s /\ w'.heap[b]? = w.heap[b]?) -> (∀ b, b < w.heap.size -> K b = [] -> K' b = [] /\ w'.heap[b]? = w.heap[b]?) -> (c = [] ↔ c' = []) ->
    w.heap.size <= w'.heap.size -> TRep w' K' c' v t := by
  induction h with
  | sc c v h => intro c' _ _ _ _; exact .sc c' v h
  | dead c v => intro c' _ _ _ _; exact .dead c' v
  | agg c vs cs F hl hF h ih =>
    intro c' h1 h2 h3 h4
    refine .agg c' vs cs F hl hF (fun j t ht => ih j t ht ?_ h2 ?_ h4)
    · intro b s hb hc hK
      by_cases hc0 : c = []
      · subst hc0; exact absurd rfl hc
      · have hc0' : c' ≠ [] := fun e => hc0 (h3.2 e)
        rw [z2m hc0] at hK
        rw [z2m hc0']
        have := h1 b (j :: s) hb hc0 (by simpa using hK)
        exact ⟨by simpa using this.1, this.2⟩
    · cases c with
      | nil => have := h3.1 rfl; subst this; simp [ext]
      | cons a c => cases c' with
        | nil => have := h3.2 rfl; cases this
        | cons a' c' => simp [ext]
  | tup c vs cs F hl hF h ih =>
    intro c' h1 h2 h3 h4
    refine .tup c' vs cs F hl hF (fun j t ht => ih j t ht ?_ h2 ?_ h4)
    · intro b s hb hc hK
      by_cases hc0 : c = []
      · subst hc0; exact absurd rfl hc
      · have hc0' : c' ≠ [] := fun e => hc0 (h3.2 e)
        rw [z2m hc0] at hK
        rw [z2m hc0']
        have := h1 b (j :: s) hb hc0 (by simpa using hK)
        exact ⟨by simpa using this.1, this.2⟩
    · cases c with
      | nil => have := h3.1 rfl; subst this; simp [ext]
      | cons a c => cases c' with
        | nil => have := h3.2 rfl; cases this
        | cons a' c' => simp [ext]
  | emp c a cap hc => intro c' _ _ _ _; exact .emp c' a cap hc
  | fro c g o n cap cs F hK hg hn hc hF h ih =>
    intro c' h1 h2 h3 h4
    obtain ⟨k1, k2⟩ := h2 g hg hK
    exact .fro c' g o n cap cs F k1 (Nat.lt_of_lt_of_le hg h4) hn hc (fun j hj => by rw [z0l k2]; exact hF j hj) (fun j t ht => ih j t ht (fun _ _ _ hc => absurd rfl hc) h2 Iff.rfl h4)
  | nil c sz => intro c' _ _ _ _; exact .nil c' sz
  | own c g n cap size cs arr e fz F hfz hc0 hK hg hs hl hz hn hc hF h ih =>
    intro c' h1 h2 h3 h4
    have hc0' : c' ≠ [] := fun e => hc0 (h3.2 e)
    obtain ⟨k1, k2⟩ := h1 g [] (z0f hg) hc0 (by simpa using hK)
    refine .own c' g n cap size cs arr e fz F hfz hc0' (by simpa using k1) (by rw [k2]; exact hg) hs hl hz hn hc hF (fun j t ht => ih j t ht ?_ h2 (by simp) h4)
    intro b s hb _ hK
    have := h1 b (j :: s) hb hc0 (by simpa using hK)
    exact ⟨by simpa using this.1, this.2⟩
  | vr c g cs arr e fz F hfz hc0 hK hg hl hF h ih =>
    intro c' h1 h2 h3 h4
    have hc0' : c' ≠ [] := fun e => hc0 (h3.2 e)
    obtain ⟨k1, k2⟩ := h1 g [] (z0f hg) hc0 (by simpa using hK)
    refine .vr c' g cs arr e fz F hfz hc0' (by simpa using k1) (by rw [k2]; exact hg) hl hF (fun j t ht => ih j t ht ?_ h2 (by simp) h4)
    intro b s hb _ hK
    have := h1 b (j :: s) hb hc0 (by simpa using hK)
    exact ⟨by simpa using this.1, this.2⟩
  | vo c g off cs h ih => intro c' h1 h2 h3 h4; exact .vo c' g off cs (ih h1 h2 h3 h4)
  | pr c g o cs F hK hg hF h ih =>
    intro c' h1 h2 h3 h4
    obtain ⟨k1, k2⟩ := h2 g hg hK
    exact .pr c' g o cs F k1 (Nat.lt_of_lt_of_le hg h4) (fun j hj => by rw [z0l k2]; exact hF j hj) (fun j t ht => ih j t ht (fun _ _ _ hc => absurd rfl hc) h2 Iff.rfl h4)
  | mr c g kk es ents clock hK hg hh =>
    intro c' h1 h2 h3 h4
    obtain ⟨k1, k2⟩ := h2 g (z0f hg) hK
    exact .mr c' g kk es ents clock k1 (by rw [k2]; exact hg) hh
  | mp c g kk es ents clock hc0 hK hg hh =>
    intro c' h1 h2 h3 h4
    obtain ⟨k1, k2⟩ := h1 g [] (z0f hg) hc0 (by simpa using hK)
    exact .mp c' g kk es ents clock (fun e => hc0 (h3.2 e)) (by simpa using k1) (by rw [k2]; exact hg) hh
  | ms c g kk ks cs ents clock F hK hg hh h ih =>
    intro c' h1 h2 h3 h4
    obtain ⟨k1, k2⟩ := h2 g (z0f hg) hK
    exact .ms c' g kk ks cs ents clock F k1 (by rw [k2]; exact hg) hh (fun j t ht => ih j t ht (fun _ _ _ hc => absurd rfl hc) h2 Iff.rfl h4)
  | mt c g kk ks cs ents clock F hc0 hK hg hh h ih =>
    intro c' h1 h2 h3 h4
    obtain ⟨k1, k2⟩ := h1 g [] (z0f hg) hc0 (by simpa using hK)
    exact .mt c' g kk ks cs ents clock F (fun e => hc0 (h3.2 e)) (by simpa using k1) (by rw [k2]; exact hg) hh (fun j t ht => ih j t ht (fun _ _ _ hc => absurd rfl hc) h2 Iff.rfl h4)
  | cl c f vs cs F hl hF h ih =>
    intro c' h1 h2 h3 h4
    exact .cl c' f vs cs F hl hF (fun j t ht => ih j t ht (fun _ _ _ hc => absurd rfl hc) h2 Iff.rfl h4)
mutual
def z0A : T -> T
  | .sc v => .sc v
  | .dead => .dead
  | .agg cs => .agg (z1L cs)
  | .tup cs => .tup (z1L cs)
  | .sl n cs => .sl n (z1L cs)
  | .os _ n cs => .sl n (z1L cs)
  | .vr cs => .pr (z1L cs)
  | .vo _ _ => .dead
  | .pr cs => .pr (z1L cs)
  | .mp kk es => .mr kk es
  | .mr kk es => .mr kk es
  | .mt kk ks cs => .ms kk ks (z1L cs)
  | .ms kk ks cs => .ms kk ks (z1L cs)
  | .cl f cs => .cl f (z1L cs)
def z1L : List T -> List T
  | [] => []
  | t :: ts => z0A t :: z1L ts
end
theorem z0Q : ∀ cs : List T, z1L cs = cs.map z0A
  | [] => rfl
  | t :: ts => by rw [z1L, List.map_cons, z0Q ts]
theorem TRep.freeze {w w' : World} {K K' : Nat -> z0a} {c : z0a} {v : Value} {t : T} (h : TRep w K c v t) :
    (∀ b s, b < w.heap.size -> c ≠ [] -> K b = c ++ s -> K' b = [] /\ w'.heap[b]? = w.heap[b]?) -> (∀ b, b < w.heap.size -> K b = [] -> K' b = [] /\ w'.heap[b]? = w.heap[b]?) ->
    w.heap.size <= w'.heap.size -> ∀ c' : z0a, TRep w' K' c' v (z0A t) := by
  induction h with
  | sc c v h => intro _ _ _ c'; rw [z0A]; exact .sc c' v h
  | dead c v => intro _ _ _ c'; rw [z0A]; exact .dead c' v
  | agg c vs cs F hl hF h ih =>
    intro h1 h2 h4 c'
    rw [z0A, z0Q]
    refine .agg c' vs _ F (by simpa using hl) (by simpa using hF) (fun j t ht => ?_)
    simp only [List.getElem?_map, Option.map_eq_some_iff] at ht
    obtain ⟨t0, ht0, rfl⟩ := ht
    refine ih j t0 ht0 ?_ h2 h4 _
    intro b s hb hc hK
    by_cases hc0 : c = []
    · subst hc0; exact absurd rfl hc
    · rw [z2m hc0] at hK
      exact h1 b (j :: s) hb hc0 (by simpa using hK)
  | tup c vs cs F hl hF h ih =>
    intro h1 h2 h4 c'
    rw [z0A, z0Q]
    refine .tup c' vs _ F (by simpa using hl) (by simpa using hF) (fun j t ht => ?_)
    simp only [List.getElem?_map, Option.map_eq_some_iff] at ht
    obtain ⟨t0, ht0, rfl⟩ := ht
    refine ih j t0 ht0 ?_ h2 h4 _
    intro b s hb hc hK
    by_cases hc0 : c = []
    · subst hc0; exact absurd rfl hc
    · rw [z2m hc0] at hK
      exact h1 b (j :: s) hb hc0 (by simpa using hK)
  | emp c a cap hc => intro _ _ _ c'; rw [z0A, z1L]; exact .emp c' a cap hc
  | fro c g o n cap cs F hK hg hn hc hF h ih =>
    intro h1 h2 h4 c'
    obtain ⟨k1, k2⟩ := h2 g hg hK
    rw [z0A, z0Q]
    refine .fro c' g o n cap _ F k1 (Nat.lt_of_lt_of_le hg h4) hn hc (fun j hj => by rw [z0l k2]; exact hF j (by simpa using hj)) (fun j t ht => ?_)
    simp only [List.getElem?_map, Option.map_eq_some_iff] at ht
    obtain ⟨t0, ht0, rfl⟩ := ht
    exact ih j t0 ht0 (fun _ _ _ hc => absurd rfl hc) h2 h4 _
  | nil c sz => intro _ _ _ c'; rw [z0A, z1L]; exact .emp c' none 0 (by decide)
  | own c g n cap size cs arr e fz F hfz hc0 hK hg hs hl hz hn hc hF h ih =>
    intro h1 h2 h4 c'
    obtain ⟨k1, k2⟩ := h1 g [] (z0f hg) hc0 (by simpa using hK)
    rw [z0A, z0Q]
    refine .fro c' g 0 n cap _ F k1 (Nat.lt_of_lt_of_le (z0f hg) h4) hn hc (fun j hj => by rw [z0l k2, z0i hg, Nat.zero_add]; exact hF j (by simpa using hj)) (fun j t ht => ?_)
    simp only [List.getElem?_map, Option.map_eq_some_iff] at ht
    obtain ⟨t0, ht0, rfl⟩ := ht
    exact ih j t0 ht0 (fun b s hb _ hK => h1 b (j :: s) hb hc0 (by simpa using hK)) h2 h4 _
  | vr c g cs arr e fz F hfz hc0 hK hg hl hF h ih =>
    intro h1 h2 h4 c'
    obtain ⟨k1, k2⟩ := h1 g [] (z0f hg) hc0 (by simpa using hK)
    rw [z0A, z0Q]
    refine .pr c' g 0 _ F k1 (Nat.lt_of_lt_of_le (z0f hg) h4) (fun j hj => by rw [z0l k2, z0i hg, Nat.zero_add]; exact hF j (by simpa using hj)) (fun j t ht => ?_)
    simp only [List.getElem?_map, Option.map_eq_some_iff] at ht
    obtain ⟨t0, ht0, rfl⟩ := ht
    exact ih j t0 ht0 (fun b s hb _ hK => h1 b (j :: s) hb hc0 (by simpa using hK)) h2 h4 _
  | vo c g off cs h ih => intro _ _ _ c'; rw [z0A]; exact .dead c' _
  | pr c g o cs F hK hg hF h ih =>
    intro h1 h2 h4 c'
    obtain ⟨k1, k2⟩ := h2 g hg hK
    rw [z0A, z0Q]
    refine .pr c' g o _ F k1 (Nat.lt_of_lt_of_le hg h4) (fun j hj => by rw [z0l k2]; exact hF j (by simpa using hj)) (fun j t ht => ?_)
    simp only [List.getElem?_map, Option.map_eq_some_iff] at ht
    obtain ⟨t0, ht0, rfl⟩ := ht
    exact ih j t0 ht0 (fun _ _ _ hc => absurd rfl hc) h2 h4 _
  | mr c g kk es ents clock hK hg hh =>
    intro h1 h2 h4 c'
    obtain ⟨k1, k2⟩ := h2 g (z0f hg) hK
    rw [z0A]; exact .mr c' g kk es ents clock k1 (by rw [k2]; exact hg) hh
  | mp c g kk es ents clock hc0 hK hg hh =>
    intro h1 h2 h4 c'
    obtain ⟨k1, k2⟩ := h1 g [] (z0f hg) hc0 (by simpa using hK)
    rw [z0A]; exact .mr c' g kk es ents clock k1 (by rw [k2]; exact hg) hh
  | ms c g kk ks cs ents clock F hK hg hh h ih =>
    intro h1 h2 h4 c'
    obtain ⟨k1, k2⟩ := h2 g (z0f hg) hK
    rw [z0A, z0Q]
    refine .ms c' g kk ks _ ents clock F k1 (by rw [k2]; exact hg) (by rw [List.length_map]; exact hh) (fun j t ht => ?_)
    simp only [List.getElem?_map, Option.map_eq_some_iff] at ht
    obtain ⟨t0, ht0, rfl⟩ := ht
    exact ih j t0 ht0 (fun _ _ _ hc => absurd rfl hc) h2 h4 _
  | mt c g kk ks cs ents clock F hc0 hK hg hh h ih =>
    intro h1 h2 h4 c'
    obtain ⟨k1, k2⟩ := h1 g [] (z0f hg) hc0 (by simpa using hK)
    rw [z0A, z0Q]
    refine .ms c' g kk ks _ ents clock F k1 (by rw [k2]; exact hg) (by rw [List.length_map]; exact hh) (fun j t ht => ?_)
    simp only [List.getElem?_map, Option.map_eq_some_iff] at ht
    obtain ⟨t0, ht0, rfl⟩ := ht
    exact ih j t0 ht0 (fun _ _ _ hc => absurd rfl hc) h2 h4 _
  | cl c f vs cs F hl hF h ih =>
    intro h1 h2 h4 c'
    rw [z0A, z0Q]
    refine .cl c' f vs _ F (by simpa using hl) (by simpa using hF) (fun j t ht => ?_)
    simp only [List.getElem?_map, Option.map_eq_some_iff] at ht
    obtain ⟨t0, ht0, rfl⟩ := ht
    exact ih j t0 ht0 (fun _ _ _ hc => absurd rfl hc) h2 h4 _
def z6s (w : World) : Value -> Nat -> Option Value
  | .agg vs, j => vs[j]?
  | .tuple vs, j => vs[j]?
  | .slice (some a) _ _, j => w.cell? ⟨a.block, j, none⟩
  | .pointer (some a), j => w.cell? ⟨a.block, j, none⟩
  | _, _ => none
def zaz : T -> Nat -> Option T
  | .agg cs, j => cs[j]?
  | .tup cs, j => cs[j]?
  | .os _ _ cs, j => cs[j]?
  | .vr cs, j => cs[j]?
  | _, _ => none
def nav (w : World) : Value -> List Nat -> Option Value
  | v, [] => some v
  | v, j :: p => match z6s w v j with | some v' => nav w v' p | none => none
def sub : T -> List Nat -> Option T
  | t, [] => some t
  | t, j :: p => match zaz t j with | some t' => sub t' p | none => none
theorem TRep.kid {w : World} {K : Nat -> z0a} {c : z0a} {v : Value} {t t' : T} {j : Nat} (h : TRep w K c v t) (hc : c ≠ []) (hk : zaz t j = some t') : ∃ v', z6s w v j = some v' /\ TRep w K (c ++ [j]) v' t' := by
  cases h with
  | sc h => cases hk
  | dead => cases hk
  | agg c vs cs F hl hF h => exact ⟨F j, hF j (by have := List.getElem?_eq_some_iff.1 hk; exact this.1), by have := h j t' hk; rwa [z2m hc] at this⟩
  | tup c vs cs F hl hF h => exact ⟨F j, hF j (by have := List.getElem?_eq_some_iff.1 hk; exact this.1), by have := h j t' hk; rwa [z2m hc] at this⟩
  | emp => cases hk
  | fro => cases hk
  | nil => simp [zaz] at hk
  | own c g n cap size cs arr e fz F hfz hc0 hK hg hs hl hz hn hc' hF h =>
    exact ⟨F j, by show w.cell? ⟨g, j, none⟩ = _; rw [z0i hg]; exact hF j (List.getElem?_eq_some_iff.1 hk).1, h j t' hk⟩
  | vr c g cs arr e fz F hfz hc0 hK hg hl hF h =>
    exact ⟨F j, by show w.cell? ⟨g, j, none⟩ = _; rw [z0i hg]; exact hF j (List.getElem?_eq_some_iff.1 hk).1, h j t' hk⟩
  | vo => cases hk
  | pr => cases hk
  | mr => cases hk
  | mp => cases hk
  | ms => cases hk
  | mt => cases hk
  | cl => cases hk
theorem TRep.sub {w : World} {K : Nat -> z0a} : ∀ {p : List Nat} {c : z0a} {v : Value} {t t' : T}, TRep w K c v t -> c ≠ [] -> sub t p = some t' -> ∃ v', nav w v p = some v' /\ TRep w K (c ++ p) v' t'
  | [], c, v, t, t', h, hc, hs => by
    simp only [Proofs.YthbchhekejljjaaGreatDoor.sub, Option.some.injEq] at hs
    subst hs
    exact ⟨v, rfl, by simpa using h⟩
  | j :: p, c, v, t, t', h, hc, hs => by
    simp only [Proofs.YthbchhekejljjaaGreatDoor.sub] at hs
    split at hs
    · rename_i k hk
      obtain ⟨v1, e1, r1⟩ := h.kid hc hk
      obtain ⟨v2, e2, r2⟩ := TRep.sub (p := p) r1 (by simp) hs
      exact ⟨v2, by simp only [nav, e1]; exact e2, by simpa using r2⟩
    · cases hs
def upd : T -> List Nat -> T -> Option T
  | _, [], x => some x
  | .agg cs, j :: p, x => match cs[j]? with | some k => (match upd k p x with | some k' => some (.agg (cs.set j k')) | none => none) | none => none
  | .tup cs, j :: p, x => match cs[j]? with | some k => (match upd k p x with | some k' => some (.tup (cs.set j k')) | none => none) | none => none
  | .os sz n cs, j :: p, x => match cs[j]? with | some k => (match upd k p x with | some k' => some (.os sz n (cs.set j k')) | none => none) | none => none
  | .vr cs, j :: p, x => match cs[j]? with | some k => (match upd k p x with | some k' => some (.vr (cs.set j k')) | none => none) | none => none
  | _, _ :: _, _ => none
end
section
structure Keep (w w' : World) (K K' : Nat -> z0a) (D : z0a -> Prop) : Prop where
  fro : ∀ b, b < w.heap.size -> K b = [] -> K' b = [] /\ w'.heap[b]? = w.heap[b]?
  own : ∀ b, b < w.heap.size -> D (K b) -> K' b = K b /\ w'.heap[b]? = w.heap[b]?
  size : w.heap.size <= w'.heap.size
theorem Keep.mono {w w' : World} {K K' : Nat -> z0a} {D D' : z0a -> Prop} (h : Keep w w' K K' D) (hd : ∀ c, D' c -> D c) : Keep w w' K K' D' :=
  ⟨h.fro, fun b hb hD => h.own b hb (hd _ hD), h.size⟩
theorem TRep.keep {w w' : World} {K K' : Nat -> z0a} {D : z0a -> Prop} {c : z0a} {v : Value} {t : T} (h : TRep w K c v t) (k : Keep w w' K K' D) (hd : ∀ s, c ≠ [] -> D (c ++ s)) : TRep w' K' c v t :=
  h.move (fun b s hb hc hK => by have := k.own b hb (by rw [hK]; exact hd s hc); rw [← hK]; exact this) k.fro Iff.rfl k.size
theorem z6E {w' : World} {K' : Nat -> z0a} {c : z0a} {cs : List T} {F : Nat -> Value} {j : Nat} {k' : T}
    (h1 : ∀ j2 t2, j2 ≠ j -> cs[j2]? = some t2 -> TRep w' K' (c ++ [j2]) (F j2) t2) (h2 : TRep w' K' (c ++ [j]) (F j) k') :
    ∀ j2 t2, (cs.set j k')[j2]? = some t2 -> TRep w' K' (c ++ [j2]) (F j2) t2 := by
  intro j2 t2 h
  by_cases e : j2 = j
  · subst e
    rw [List.getElem?_set_self'] at h
    cases hc : cs[j2]? with
    | none => rw [hc] at h; cases h
    | some x => rw [hc] at h; cases h; exact h2
  · rw [List.getElem?_set_ne (fun e' => e e'.symm)] at h
    exact h1 j2 t2 e h
theorem TRep.upd {w w' : World} {K K' : Nat -> z0a} : ∀ {p : List Nat} {c : z0a} {v vp : Value} {t t' x : T}, TRep w K c v t -> c ≠ [] -> nav w v p = some vp -> upd t p x = some t' ->
    Keep w w' K K' (fun d => ∃ s, d = c ++ s /\ ¬ p <+: s) -> TRep w' K' (c ++ p) vp x -> TRep w' K' c v t'
  | [], c, v, vp, t, t', x, h, hc, hn, hu, k, hx => by
    simp only [nav, Option.some.injEq] at hn
    simp only [Proofs.YthbchhekejljjaaGreatDoor.upd, Option.some.injEq] at hu
    subst hn hu
    simpa using hx
  | j :: p, c, v, vp, t, t', x, h, hc, hn, hu, k, hx => by
    have kj : ∀ {v0 k0 k'}, TRep w K (c ++ [j]) v0 k0 -> nav w v0 p = some vp -> Proofs.YthbchhekejljjaaGreatDoor.upd k0 p x = some k' -> TRep w' K' (c ++ [j]) v0 k' := fun {v0 k0 k'} r n u =>
      TRep.upd (p := p) r (by simp) n u (k.mono fun d ⟨s, e, hs⟩ => ⟨j :: s, by simpa using e, by
        intro hh; exact hs ((List.prefix_cons_inj j).1 hh)⟩) (by simpa using hx)
    have ko : ∀ {j2 v0 k0}, j2 ≠ j -> TRep w K (c ++ [j2]) v0 k0 -> TRep w' K' (c ++ [j2]) v0 k0 := fun {j2 v0 k0} ne r =>
      r.keep k fun s _ => ⟨j2 :: s, by simp, by
        intro hh
        rw [List.cons_prefix_cons] at hh
        exact ne hh.1.symm⟩
    simp only [nav] at hn
    split at hn
    case h_2 => cases hn
    case h_1 v1 hv1 =>
    cases h with
    | sc h => cases hu
    | dead => cases hu
    | emp => simp [Proofs.YthbchhekejljjaaGreatDoor.upd] at hu
    | fro => simp [Proofs.YthbchhekejljjaaGreatDoor.upd] at hu
    | nil => simp [Proofs.YthbchhekejljjaaGreatDoor.upd] at hu
    | mr => simp [Proofs.YthbchhekejljjaaGreatDoor.upd] at hu
    | vo => simp [Proofs.YthbchhekejljjaaGreatDoor.upd] at hu
    | pr => simp [Proofs.YthbchhekejljjaaGreatDoor.upd] at hu
    | mp => simp [Proofs.YthbchhekejljjaaGreatDoor.upd] at hu
    | ms => simp [Proofs.YthbchhekejljjaaGreatDoor.upd] at hu
    | mt => simp [Proofs.YthbchhekejljjaaGreatDoor.upd] at hu
    | cl => simp [Proofs.YthbchhekejljjaaGreatDoor.upd] at hu
    | agg c vs cs F hl hF h =>
      simp only [Proofs.YthbchhekejljjaaGreatDoor.upd] at hu
      split at hu
      case h_2 => cases hu
      case h_1 k0 hk0 =>
      split at hu
      case h_2 => cases hu
      case h_1 k' hk' =>
      cases hu
      have e1 : v1 = F j := by
        have := hF j (List.getElem?_eq_some_iff.1 hk0).1
        simp only [z6s, this, Option.some.injEq] at hv1; exact hv1.symm
      subst e1
      refine .agg c vs _ F (by simpa using hl) (by simpa using hF) ?_
      intro j2 t2 h2
      rw [z2m hc]
      exact z6E (fun j2 t2 ne ht => ko ne (by have := h j2 t2 ht; rwa [z2m hc] at this)) (kj (by have := h j k0 hk0; rwa [z2m hc] at this) hn hk') j2 t2 h2
    | tup c vs cs F hl hF h =>
      simp only [Proofs.YthbchhekejljjaaGreatDoor.upd] at hu
      split at hu
      case h_2 => cases hu
      case h_1 k0 hk0 =>
      split at hu
      case h_2 => cases hu
      case h_1 k' hk' =>
      cases hu
      have e1 : v1 = F j := by
        have := hF j (List.getElem?_eq_some_iff.1 hk0).1
        simp only [z6s, this, Option.some.injEq] at hv1; exact hv1.symm
      subst e1
      refine .tup c vs _ F (by simpa using hl) (by simpa using hF) ?_
      intro j2 t2 h2
      rw [z2m hc]
      exact z6E (fun j2 t2 ne ht => ko ne (by have := h j2 t2 ht; rwa [z2m hc] at this)) (kj (by have := h j k0 hk0; rwa [z2m hc] at this) hn hk') j2 t2 h2
    | own c g n cap size cs arr e fz F hfz hc0 hK hg hs hl hz hn' hc' hF h =>
      simp only [Proofs.YthbchhekejljjaaGreatDoor.upd] at hu
      split at hu
      case h_2 => cases hu
      case h_1 k0 hk0 =>
      split at hu
      case h_2 => cases hu
      case h_1 k' hk' =>
      cases hu
      have e1 : v1 = F j := by
        have := hF j (List.getElem?_eq_some_iff.1 hk0).1
        simp only [z6s, z0i hg, this, Option.some.injEq] at hv1; exact hv1.symm
      subst e1
      obtain ⟨q1, q2⟩ := k.own g (z0f hg) ⟨[], by simpa using hK, by simp⟩
      exact .own c g n cap size _ arr e fz F hfz hc0 (by rw [q1]; exact hK) (by rw [q2]; exact hg) hs (by simpa using hl) hz hn' hc' (by simpa using hF) (z6E (fun j2 t2 ne ht => ko ne (h j2 t2 ht)) (kj (h j k0 hk0) hn hk'))
    | vr c g cs arr e fz F hfz hc0 hK hg hl hF h =>
      simp only [Proofs.YthbchhekejljjaaGreatDoor.upd] at hu
      split at hu
      case h_2 => cases hu
      case h_1 k0 hk0 =>
      split at hu
      case h_2 => cases hu
      case h_1 k' hk' =>
      cases hu
      have e1 : v1 = F j := by
        have := hF j (List.getElem?_eq_some_iff.1 hk0).1
        simp only [z6s, z0i hg, this, Option.some.injEq] at hv1; exact hv1.symm
      subst e1
      obtain ⟨q1, q2⟩ := k.own g (z0f hg) ⟨[], by simpa using hK, by simp⟩
      exact .vr c g _ arr e fz F hfz hc0 (by rw [q1]; exact hK) (by rw [q2]; exact hg) (by simpa using hl) (by simpa using hF) (z6E (fun j2 t2 ne ht => ko ne (h j2 t2 ht)) (kj (h j k0 hk0) hn hk'))
def z2n : Value -> Option Nat
  | .slice (some a) _ _ => some a.block
  | .pointer (some a) => some a.block
  | _ => none
def z1s : T -> Option (List T)
  | .os _ _ cs => some cs
  | .vr cs => some cs
  | _ => none
def z2Y : T -> List T -> T
  | .os sz n _, cs => .os sz n cs
  | .vr _, cs => .vr cs
  | t, _ => t
theorem TRep.box {w : World} {K : Nat -> z0a} {c : z0a} {v : Value} {t : T} {cs : List T} {j : Nat} (h : TRep w K c v t) (hcs : z1s t = some cs) (hj : j < cs.length) :
    ∃ g arr e fz, ∃ F : Nat -> Value, z2n v = some g /\ c ≠ [] /\ K g = c /\ w.heap[g]? = some (.cells arr e fz) /\ (∀ i, i < arr.size -> ¬ (fz.1 <= i /\ fz.1 ≠ fz.2)) /\ cs.length <= arr.size /\ (∀ i, i < cs.length -> arr[i]? = some (F i)) /\ (∀ i t, cs[i]? = some t -> TRep w K (c ++ [i]) (F i) t) /\
      ((v = .pointer (some ⟨g, 0, none⟩)) ∨ ∃ n cap, v = .slice (some ⟨g, 0, none⟩) n cap) /\
      (∀ (w' : World) (K' : Nat -> z0a) (arr' : Array Value) (cs' : List T) (F' : Nat -> Value), arr'.size = arr.size -> cs'.length = cs.length -> K' g = c -> w'.heap[g]? = some (.cells arr' e fz) ->
        (∀ i, i < cs.length -> arr'[i]? = some (F' i)) -> (∀ i t, cs'[i]? = some t -> TRep w' K' (c ++ [i]) (F' i) t) -> TRep w' K' c v (z2Y t cs')) := by
  cases h with
  | sc h => cases hcs
  | dead => cases hcs
  | emp => simp [z1s] at hcs
  | fro => simp [z1s] at hcs
  | nil => simp only [z1s, Option.some.injEq] at hcs; subst hcs; simp at hj
  | agg => simp [z1s] at hcs
  | tup => simp [z1s] at hcs
  | mr => simp [z1s] at hcs
  | vo => simp [z1s] at hcs
  | pr => simp [z1s] at hcs
  | mp => simp [z1s] at hcs
  | ms => simp [z1s] at hcs
  | mt => simp [z1s] at hcs
  | cl => simp [z1s] at hcs
  | own c g n cap size cs0 arr e fz F hfz hc0 hK hg hs hl hz hn hc hF h =>
    simp only [z1s, Option.some.injEq] at hcs
    subst hcs
    refine ⟨g, arr, e, fz, F, rfl, hc0, hK, hg, hfz, by rw [hs, hl]; exact Nat.mul_le_mul_right _ hn, hF, h, .inr ⟨_, _, rfl⟩, fun w' K' arr' cs' F' a1 a2 a3 a4 a5 a6 => ?_⟩
    exact .own c g n cap size cs' arr' e fz F' (by rw [a1]; exact hfz) hc0 a3 a4 (by rw [a1, hs]) (by rw [a2, hl]) hz hn hc (by rw [a2]; exact a5) a6
  | vr c g cs0 arr e fz F hfz hc0 hK hg hl hF h =>
    simp only [z1s, Option.some.injEq] at hcs
    subst hcs
    refine ⟨g, arr, e, fz, F, rfl, hc0, hK, hg, hfz, by omega, hF, h, .inl rfl, fun w' K' arr' cs' F' a1 a2 a3 a4 a5 a6 => ?_⟩
    exact .vr c g cs' arr' e fz F' (by rw [a1]; exact hfz) hc0 a3 a4 (by omega) (by rw [a2]; exact a5) a6
end
section
inductive A where
  | dead
  | k (v : Value)
  | t (dep : Option Nat) (x : T)
  | h (id : Nat) (p : List Nat)
  | a (id : Nat) (p : List Nat) (off : Nat)
  | ea (dep : Option Nat) (cs : List T) (off : Nat)
  | tf (n : Nat) (cs : List T)
inductive E where
  | one (x : A)
  | ag (xs : List A)
structure Fr where
  nt : Nat
  tm : List (Nat × E)
  ob : List (Nat × T)
def z0E : List (Nat × E) -> Nat -> E
  | [], _ => .one .dead
  | (i, x) :: r, j => if i = j then x else z0E r j
def z6Y (l : List (Nat × E)) (d : Nat) (x : E) : List (Nat × E) := (d, x) :: l
def z0v : List (Nat × T) -> Nat -> Option T
  | [], _ => none
  | (i, x) :: r, j => if i = j then some x else z0v r j
def zao : List (Nat × T) -> Nat -> List (Nat × T)
  | [], _ => []
  | (i, x) :: r, j => if i = j then zao r j else (i, x) :: zao r j
def z1Z (l : List (Nat × T)) (d : Nat) (x : T) : List (Nat × T) := (d, x) :: zao l d
def zjz (f : A -> A) : E -> E
  | .one x => .one (f x)
  | .ag xs => .ag (xs.map f)
def z2k (f : A -> A) : List (Nat × E) -> List (Nat × E)
  | [] => []
  | (i, x) :: r => (i, zjz f x) :: z2k f r
theorem z8R (l : List (Nat × E)) (d : Nat) (x : E) (j : Nat) : z0E (z6Y l d x) j = if d = j then x else z0E l j := rfl
theorem z4q (l : List (Nat × T)) (d j : Nat) : z0v (zao l d) j = if d = j then none else z0v l j := by
  induction l with
  | nil => simp [zao, z0v]
  | cons a r ih =>
    obtain ⟨i, x⟩ := a
    by_cases h : i = d
    · subst h
      simp only [zao, if_true, ih]
      by_cases e : i = j <;> simp [z0v, e]
    · simp only [zao, if_neg h, z0v, ih]
      by_cases e : i = j
      · subst e; simp [Ne.symm h]
      · simp [e]
theorem z0e (l : List (Nat × T)) (d : Nat) (x : T) (j : Nat) : z0v (z1Z l d x) j = if d = j then some x else z0v l j := by
  simp only [z1Z, z0v, z4q]
  by_cases h : d = j <;> simp [h]
theorem z1F (f : A -> A) (hf : f .dead = .dead) (l : List (Nat × E)) (j : Nat) : z0E (z2k f l) j = zjz f (z0E l j) := by
  induction l with
  | nil => simp [z2k, z0E, zjz, hf]
  | cons a r ih =>
    obtain ⟨i, x⟩ := a
    simp only [z2k, z0E, ih]
    by_cases h : i = j <;> simp [h]
def z4f (own : Bool) : Value -> T
  | .slice none 0 0 => if own then .os 0 0 [] else .sl 0 []
  | v => if scB v then .sc v else .dead
def z6m (own : Bool) : Value -> T
  | .agg vs => .agg (vs.toList.map (z4f own))
  | v => z4f own v
def col (id : Nat) : z0a := [id + 2]
def frz (K : Nat -> z0a) : Option Nat -> Nat -> z0a
  | none, b => K b
  | some id, b => if (K b).head? = some (id + 2) then [] else K b
def zbm (ob : List (Nat × T)) (dep : Option Nat) : Prop := ∀ i, dep = some i -> (z0v ob i).isSome
def ARep (w : World) (K : Nat -> z0a) (R : Nat -> Value) (ob : List (Nat × T)) : A -> Value -> Prop
  | .dead, _ => True
  | .k v, u => u = v
  | .t dep x, u => TRep w (frz K dep) [] u x /\ zbm ob dep
  | .h id p, u => nav w (R id) p = some u /\ ∃ t, z0v ob id = some t /\ (sub t p).isSome
  | .a id p off, u => ∃ hv g, nav w (R id) p = some hv /\ z2n hv = some g /\ u = .pointer (some ⟨g, off, none⟩) /\ ∃ t, z0v ob id = some t /\ (sub t p).isSome
  | .tf n cs, u => (∃ p, u = .slice p n n) /\ TRep w (frz K none) [] u (.sl n cs)
  | .ea dep cs off, u => ∃ g o, ∃ F : Nat -> Value, u = .pointer (some ⟨g, o + off, none⟩) /\ frz K dep g = [] /\ g < w.heap.size /\ (∀ j, j < cs.length -> w.cell? ⟨g, o + j, none⟩ = some (F j)) /\ (∀ j t, cs[j]? = some t -> TRep w (frz K dep) [] (F j) t) /\ zbm ob dep
def ERep (w : World) (K : Nat -> z0a) (R : Nat -> Value) (ob : List (Nat × T)) : E -> Value -> Prop
  | .one x, u => ARep w K R ob x u
  | .ag xs, u => ∃ arr : Array Value, u = .agg arr /\ arr.size = xs.length /\ ∀ j x, xs[j]? = some x -> ARep w K R ob x (arr.getD j undef)
theorem ERep.map {w w' : World} {K K' : Nat -> z0a} {R R' : Nat -> Value} {ob ob' : List (Nat × T)} {e : E} {u : Value} (f : A -> A) (h : ERep w K R ob e u)
    (hf : ∀ x u, ARep w K R ob x u -> ARep w' K' R' ob' (f x) u) : ERep w' K' R' ob' (zjz f e) u := by
  cases e with
  | one x => exact hf x u h
  | ag xs =>
    obtain ⟨arr, h1, h2, h3⟩ := h
    refine ⟨arr, h1, by simpa using h2, fun j x hx => ?_⟩
    simp only [List.getElem?_map, Option.map_eq_some_iff] at hx
    obtain ⟨y, hy, rfl⟩ := hx
    exact hf y _ (h3 j y hy)
theorem ERep.mono {w w' : World} {K K' : Nat -> z0a} {R R' : Nat -> Value} {ob ob' : List (Nat × T)} {e : E} {u : Value} (h : ERep w K R ob e u)
    (hf : ∀ x u, ARep w K R ob x u -> ARep w' K' R' ob' x u) : ERep w' K' R' ob' e u := by
  cases e with
  | one x => exact hf x u h
  | ag xs =>
    obtain ⟨arr, h1, h2, h3⟩ := h
    exact ⟨arr, h1, h2, fun j x hx => hf x _ (h3 j x hx)⟩
def z3M (a : Act) (G : Nat -> Value) (i : Nat) : Value := if i < a.tmps.size then a.tmps.getD i undef else G i
structure FRep (w : World) (K : Nat -> z0a) (R : Nat -> Value) (G : Nat -> Value) (fr : Fr) (a : Act) : Prop where
  tm : ∀ i, ERep w K R fr.ob (z0E fr.tm i) (z3M a G i)
  ob : ∀ id t, z0v fr.ob id = some t -> TRep w K (col id) (R id) t
  nt : a.tmps.size = fr.nt
  df : a.defers = []
def SzK (w w' : World) : Prop := ∀ (b : Nat) (arr : Array Value) (e : TypeId) (fz : Nat × Nat), w.heap[b]? = some (.cells arr e fz) -> ∃ (arr' : Array Value) (e' : TypeId) (fz' : Nat × Nat), w'.heap[b]? = some (.cells arr' e' fz') /\ arr'.size = arr.size
theorem SzK.same {w w' : World} (h : w'.heap = w.heap) : SzK w w' := fun b arr e fz hb => ⟨arr, e, fz, by rw [h]; exact hb, rfl⟩
theorem SzK.olds {w w' : World} (h : ∀ b, b < w.heap.size -> w'.heap[b]? = w.heap[b]?) : SzK w w' := fun b arr e fz hb => ⟨arr, e, fz, (h b (z0f hb)).trans hb, rfl⟩
theorem SzK.one {w w' : World} {g : Nat} {arr arr' : Array Value} {e e' : TypeId} {fz fz' : Nat × Nat} (hg : w.heap[g]? = some (.cells arr e fz)) (hg' : w'.heap[g]? = some (.cells arr' e' fz')) (hs : arr'.size = arr.size) (h : ∀ b, b ≠ g -> w'.heap[b]? = w.heap[b]?) : SzK w w' := fun b arr0 e0 fz0 hb => by
  by_cases hbg : b = g
  · subst hbg
    rw [hg] at hb
    cases hb
    exact ⟨arr', e', fz', hg', hs⟩
  · exact ⟨arr0, e0, fz0, (h b hbg).trans hb, rfl⟩
theorem SzK.trans {w w1 w2 : World} (h : SzK w w1) (k : SzK w1 w2) : SzK w w2 := fun b arr e fz hb => by
  obtain ⟨a1, e1, f1, h1, h2⟩ := h b arr e fz hb
  obtain ⟨a2, e2, f2, h3, h4⟩ := k b a1 e1 f1 h1
  exact ⟨a2, e2, f2, h3, h4.trans h2⟩
structure Step (w : World) (K : Nat -> z0a) (w' : World) (K' : Nat -> z0a) : Prop where
  os : w'.os = w.os
  tape : w'.tape = w.tape
  output : w'.output = w.output
  size : w.heap.size <= w'.heap.size
  old : ∀ b, b < w.heap.size -> K b = [] ∨ K b = [1] -> K' b = K b /\ w'.heap[b]? = w.heap[b]?
  sz : SzK w w'
theorem Step.refl (w : World) (K : Nat -> z0a) : Step w K w K := ⟨rfl, rfl, rfl, Nat.le_refl _, fun _ _ _ => ⟨rfl, rfl⟩, .same rfl⟩
theorem Step.trans {w w1 w2 : World} {K K1 K2 : Nat -> z0a} (h : Step w K w1 K1) (k : Step w1 K1 w2 K2) : Step w K w2 K2 :=
  ⟨k.os.trans h.os, k.tape.trans h.tape, k.output.trans h.output, Nat.le_trans h.size k.size, fun b hb hc => by
    obtain ⟨a1, a2⟩ := h.old b hb hc
    obtain ⟨b1, b2⟩ := k.old b (Nat.lt_of_lt_of_le hb h.size) (by rw [a1]; exact hc)
    exact ⟨b1.trans a1, b2.trans a2⟩, h.sz.trans k.sz⟩
theorem z0q (id : Nat) : col id ≠ [] := by simp [col]
theorem z2O {w w' : World} {K : Nat -> z0a} : ∀ {q : List Nat} {c : z0a} {v : Value} {t : T}, TRep w K c v t -> c ≠ [] -> (sub t q).isSome ->
    (∀ r j s gb, q = r ++ j :: s -> K gb = c ++ r -> gb < w.heap.size -> w'.cell? ⟨gb, j, none⟩ = w.cell? ⟨gb, j, none⟩) -> nav w' v q = nav w v q
  | [], c, v, t, h, hc, hs, hw => rfl
  | j :: q, c, v, t, h, hc, hs, hw => by
    simp only [sub] at hs
    split at hs
    case h_2 => cases hs
    case h_1 k hk =>
    obtain ⟨v1, e1, r1⟩ := h.kid hc hk
    have e2 : z6s w' v j = z6s w v j := by
      cases h with
      | sc h => cases hk
      | dead => cases hk
      | agg => rfl
      | tup => rfl
      | emp => cases hk
      | fro => cases hk
      | nil => simp [zaz] at hk
      | own c g n cap size cs arr e fz F hfz hc0 hK hg => exact hw [] j q g rfl (by simpa using hK) (z0f hg)
      | vr c g cs arr e fz F hfz hc0 hK hg => exact hw [] j q g rfl (by simpa using hK) (z0f hg)
      | mr => cases hk
      | vo => cases hk
      | pr => cases hk
      | mp => cases hk
      | ms => cases hk
      | mt => cases hk
      | cl => cases hk
    simp only [nav, e2, e1]
    exact z2O r1 (by simp) hs fun r j2 s gb hq hK hb => hw (j :: r) j2 s gb (by simp [hq]) (by simpa using hK) hb
theorem ARep.keep {w w' : World} {K K' : Nat -> z0a} {R : Nat -> Value} {ob : List (Nat × T)} {x : A} {u : Value} (h : ARep w K R ob x u)
    (hob : ∀ id t, z0v ob id = some t -> TRep w K (col id) (R id) t) (k : Keep w w' K K' (fun _ => True)) : ARep w' K' R ob x u := by
  have kf : ∀ dep, Keep w w' (frz K dep) (frz K' dep) (fun _ => True) := fun dep => by
    have : ∀ b, b < w.heap.size -> frz K' dep b = frz K dep b := fun b hb => by
      cases dep with
      | none => exact (k.own b hb trivial).1
      | some id => simp only [frz, (k.own b hb trivial).1]
    exact ⟨fun b hb e => ⟨by rw [this b hb]; exact e, (k.own b hb trivial).2⟩, fun b hb _ => ⟨this b hb, (k.own b hb trivial).2⟩, k.size⟩
  cases x with
  | dead => trivial
  | k v => exact h
  | t dep x => exact ⟨TRep.keep h.1 (kf dep) (fun _ _ => trivial), h.2⟩
  | h id p =>
    obtain ⟨h1, t, h2, h3⟩ := h
    refine ⟨?_, t, h2, h3⟩
    rw [z2O (hob id t h2) (z0q id) h3 (fun r j s gb _ _ hb => z0l (k.own gb hb trivial).2 j)]; exact h1
  | a id p off =>
    obtain ⟨hv, g, h1, h4, h5, t, h2, h3⟩ := h
    refine ⟨hv, g, ?_, h4, h5, t, h2, h3⟩
    rw [z2O (hob id t h2) (z0q id) h3 (fun r j s gb _ _ hb => z0l (k.own gb hb trivial).2 j)]; exact h1
  | tf n cs => exact ⟨h.1, TRep.keep h.2 (kf none) (fun _ _ => trivial)⟩
  | ea dep cs off =>
    obtain ⟨g, o, F, h1, h2, h3, h4, h5, h6⟩ := h
    obtain ⟨k1, k2⟩ := (kf dep).own g h3 trivial
    exact ⟨g, o, F, h1, by rw [k1]; exact h2, Nat.lt_of_lt_of_le h3 k.size, fun j hj => by rw [z0l k2]; exact h4 j hj, fun j t ht => (h5 j t ht).keep (kf dep) (fun _ _ => trivial), h6⟩
theorem FRep.keep {w w' : World} {K K' : Nat -> z0a} {R G : Nat -> Value} {fr : Fr} {a : Act} (h : FRep w K R G fr a) (k : Keep w w' K K' (fun _ => True)) : FRep w' K' R G fr a :=
  ⟨fun i => (h.tm i).mono fun x u hx => hx.keep h.ob k, fun id t ht => (h.ob id t ht).keep k (fun _ _ => trivial), h.nt, h.df⟩
theorem z8z (a : Act) (G : Nat -> Value) (d : Nat) (v : Value) (hd : d < a.tmps.size) (i : Nat) : z3M (a.put (some d) v) G i = if d = i then v else z3M a G i := by
  simp only [z3M, Act.put, Array.size_setIfInBounds, Array.getD_eq_getD_getElem?, Array.getElem?_setIfInBounds]
  by_cases h : d = i
  · subst h; simp [hd]
  · simp [h]
theorem FRep.put {w : World} {K : Nat -> z0a} {R G : Nat -> Value} {fr : Fr} {a : Act} (h : FRep w K R G fr a) {d : Nat} {x : E} {v : Value} (hd : d < fr.nt) (hx : ERep w K R fr.ob x v) :
    FRep w K R G { fr with tm := z6Y fr.tm d x } (a.put (some d) v) := by
  refine ⟨fun i => ?_, h.ob, by simp [Act.put, h.nt], h.df⟩
  rw [z8z a G d v (by rw [h.nt]; exact hd), z8R]
  split
  · exact hx
  · exact h.tm i
theorem FRep.putG {w : World} {K : Nat -> z0a} {R G : Nat -> Value} {fr : Fr} {a : Act} (h : FRep w K R G fr a) {d : Nat} {x : E} {v : Value} (hd : fr.nt <= d) (hx : ERep w K R fr.ob x v) :
    FRep w K R (fun i => if i = d then v else G i) { fr with tm := z6Y fr.tm d x } a := by
  refine ⟨fun i => ?_, h.ob, h.nt, h.df⟩
  rw [z8R]
  split
  · rename_i e
    subst e
    rw [z3M, if_neg (by rw [h.nt]; omega), if_pos rfl]
    exact hx
  · rename_i e
    have : z3M a (fun i => if i = d then v else G i) i = z3M a G i := by
      simp only [z3M]
      split
      · rfl
      · rw [if_neg (fun e' => e e'.symm)]
    rw [this]
    exact h.tm i
theorem FRep.weaken {w : World} {K : Nat -> z0a} {R G : Nat -> Value} {fr : Fr} {a : Act} (h : FRep w K R G fr a) {tm : List (Nat × E)} (ht : ∀ i, z0E tm i = z0E fr.tm i ∨ z0E tm i = .one .dead) :
    FRep w K R G { fr with tm := tm } a := by
  refine ⟨fun i => ?_, h.ob, h.nt, h.df⟩
  rcases ht i with e | e
  · show ERep w K R fr.ob (z0E tm i) _
    rw [e]; exact h.tm i
  · show ERep w K R fr.ob (z0E tm i) _
    rw [e]; trivial
end
section
def onA : A -> Option Nat
  | .h i _ => some i
  | .a i _ _ => some i
  | .t dep _ => dep
  | .ea dep _ _ => dep
  | _ => none
def kill (d : Nat) (x : A) : A := match onA x with | some i => if i = d then .dead else x | none => x
def z3P (R : Nat -> Value) (d : Nat) (v : Value) (i : Nat) : Value := if i = d then v else R i
theorem za5 (d : Nat) : kill d .dead = .dead := rfl
def But (d : Nat) (c : z0a) : Prop := ∃ i s, c = (i + 2) :: s /\ i ≠ d
theorem z8T {w w' : World} {K K' : Nat -> z0a} {d : Nat} (k : Keep w w' K K' (But d)) {dep : Option Nat} (hd : dep ≠ some d) (b : Nat) (hb : b < w.heap.size) (h : frz K dep b = []) :
    frz K' dep b = [] /\ w'.heap[b]? = w.heap[b]? := by
  cases dep with
  | none => exact k.fro b hb h
  | some i =>
    simp only [frz] at h ⊢
    split at h
    · rename_i hh
      have hne : i ≠ d := fun e => hd (by rw [e])
      obtain ⟨s, hs⟩ : ∃ s, K b = (i + 2) :: s := by
        cases hk : K b with
        | nil => rw [hk] at hh; cases hh
        | cons a s => rw [hk] at hh; simp at hh; subst hh; exact ⟨s, rfl⟩
      obtain ⟨k1, k2⟩ := k.own b hb ⟨i, s, hs, hne⟩
      rw [k1, hs]
      exact ⟨by simp, k2⟩
    · obtain ⟨k1, k2⟩ := k.fro b hb h
      rw [k1]
      exact ⟨by simp, k2⟩
theorem TRep.fz {w w' : World} {K K' : Nat -> z0a} {v : Value} {x : T} (h : TRep w K [] v x) (hk : ∀ b, b < w.heap.size -> K b = [] -> K' b = [] /\ w'.heap[b]? = w.heap[b]?) (hs : w.heap.size <= w'.heap.size) : TRep w' K' [] v x :=
  h.move (fun b s hb hc => absurd rfl hc) hk Iff.rfl hs
theorem ARep.but {w w' : World} {K K' : Nat -> z0a} {R R' : Nat -> Value} {ob ob' : List (Nat × T)} {d : Nat} {x : A} {u : Value} (h : ARep w K R ob x u)
    (hob : ∀ id t, z0v ob id = some t -> TRep w K (col id) (R id) t) (k : Keep w w' K K' (But d)) (hR : ∀ i, i ≠ d -> R' i = R i /\ z0v ob' i = z0v ob i) (hx : onA x ≠ some d) : ARep w' K' R' ob' x u := by
  cases x with
  | dead => trivial
  | k v => exact h
  | t dep x => exact ⟨TRep.fz h.1 (fun b hb e => z8T k hx b hb e) k.size, fun i hi => by
      subst hi
      rw [(hR i (fun e => hx (by simp [onA, e]))).2]; exact h.2 i rfl⟩
  | h id p =>
    have hne : id ≠ d := fun e => hx (by simp [onA, e])
    obtain ⟨h1, t, h2, h3⟩ := h
    obtain ⟨r1, r2⟩ := hR id hne
    refine ⟨?_, t, by rw [r2]; exact h2, h3⟩
    rw [r1, z2O (hob id t h2) (z0q id) h3 (fun r j s gb _ hK hb => z0l (k.own gb hb ⟨id, r, by simpa [col] using hK, hne⟩).2 j)]; exact h1
  | a id p off =>
    have hne : id ≠ d := fun e => hx (by simp [onA, e])
    obtain ⟨hv, g, h1, h4, h5, t, h2, h3⟩ := h
    obtain ⟨r1, r2⟩ := hR id hne
    refine ⟨hv, g, ?_, h4, h5, t, by rw [r2]; exact h2, h3⟩
    rw [r1, z2O (hob id t h2) (z0q id) h3 (fun r j s gb _ hK hb => z0l (k.own gb hb ⟨id, r, by simpa [col] using hK, hne⟩).2 j)]; exact h1
  | tf n cs => exact ⟨h.1, TRep.fz h.2 (fun b hb e => z8T (dep := none) k (by simp) b hb e) k.size⟩
  | ea dep cs off =>
    obtain ⟨g, o, F, h1, h2, h3, h4, h5, h6⟩ := h
    obtain ⟨k1, k2⟩ := z8T k hx g h3 h2
    exact ⟨g, o, F, h1, k1, Nat.lt_of_lt_of_le h3 k.size, fun j hj => by rw [z0l k2]; exact h4 j hj, fun j t ht => TRep.fz (h5 j t ht) (fun b hb e => z8T k hx b hb e) k.size, fun i hi => by
      subst hi
      rw [(hR i (fun e => hx (by simp [onA, e]))).2]; exact h6 i rfl⟩
theorem ARep.kill {w w' : World} {K K' : Nat -> z0a} {R R' : Nat -> Value} {ob ob' : List (Nat × T)} {d : Nat} {x : A} {u : Value} (h : ARep w K R ob x u)
    (hob : ∀ id t, z0v ob id = some t -> TRep w K (col id) (R id) t) (k : Keep w w' K K' (But d)) (hR : ∀ i, i ≠ d -> R' i = R i /\ z0v ob' i = z0v ob i) : ARep w' K' R' ob' (Proofs.YthbchhekejljjaaGreatDoor.kill d x) u := by
  by_cases hx : onA x = some d
  · have : Proofs.YthbchhekejljjaaGreatDoor.kill d x = .dead := by simp [Proofs.YthbchhekejljjaaGreatDoor.kill, hx]
    rw [this]; trivial
  · have : Proofs.YthbchhekejljjaaGreatDoor.kill d x = x := by
      simp only [Proofs.YthbchhekejljjaaGreatDoor.kill]
      split
      · rename_i j hj
        rw [if_neg (fun e => hx (by rw [hj, e]))]
      · rfl
    rw [this]
    exact h.but hob k hR hx
theorem FRep.replace {w w' : World} {K K' : Nat -> z0a} {R G : Nat -> Value} {fr : Fr} {a : Act} (h : FRep w K R G fr a) {d : Nat} {v : Value} {t : T} (k : Keep w w' K K' (But d)) (ht : TRep w' K' (col d) v t) :
    FRep w' K' (z3P R d v) G { fr with tm := z2k (kill d) fr.tm, ob := z1Z fr.ob d t } a := by
  have hR : ∀ i, i ≠ d -> z3P R d v i = R i /\ z0v (z1Z fr.ob d t) i = z0v fr.ob i := fun i hi => ⟨by simp [z3P, hi], by rw [z0e, if_neg (fun e => hi e.symm)]⟩
  refine ⟨fun i => ?_, fun id t' ht' => ?_, h.nt, h.df⟩
  · show ERep w' K' (z3P R d v) (z1Z fr.ob d t) (z0E (z2k (kill d) fr.tm) i) _
    rw [z1F _ (za5 d)]
    exact (h.tm i).map _ fun x u hx => hx.kill h.ob k hR
  · rw [z0e] at ht'
    split at ht'
    · rename_i e
      subst e
      cases ht'
      simpa [z3P] using ht
    · rename_i hne
      have hne' : id ≠ d := fun e => hne e.symm
      rw [(hR id hne').1]
      exact (h.ob id t' ht').keep k fun s _ => ⟨id, s, rfl, hne'⟩
theorem FRep.drop {w : World} {K : Nat -> z0a} {R G : Nat -> Value} {fr : Fr} {a : Act} (h : FRep w K R G fr a) (d : Nat) :
    FRep w K R G { fr with tm := z2k (kill d) fr.tm, ob := zao fr.ob d } a := by
  have hR : ∀ i, i ≠ d -> R i = R i /\ z0v (zao fr.ob d) i = z0v fr.ob i := fun i hi => ⟨rfl, by rw [z4q, if_neg (fun e => hi e.symm)]⟩
  refine ⟨fun i => ?_, fun id t' ht' => ?_, h.nt, h.df⟩
  · show ERep w K R (zao fr.ob d) (z0E (z2k (kill d) fr.tm) i) _
    rw [z1F _ (za5 d)]
    exact (h.tm i).map _ fun x u hx => hx.kill h.ob ⟨fun _ _ e => ⟨e, rfl⟩, fun _ _ _ => ⟨rfl, rfl⟩, Nat.le_refl _⟩ hR
  · rw [z4q] at ht'
    split at ht'
    · cases ht'
    · exact h.ob id t' ht'
def z1m : List Nat -> List Nat -> Option (List Nat)
  | [], q => some q
  | _ :: _, [] => none
  | a :: p, b :: q => if a = b then z1m p q else none
theorem z2N : ∀ {p q s : List Nat}, z1m p q = some s ↔ q = p ++ s
  | [], q, s => by simp [z1m]
  | a :: p, [], s => by simp [z1m]
  | a :: p, b :: q, s => by
    simp only [z1m]
    by_cases h : a = b
    · subst h; simp [z2N (p := p)]
    · simp [h]; intro e; exact absurd e.symm h
theorem z1k {p q : List Nat} : z1m p q = none ↔ ¬ p <+: q := by
  constructor
  · intro h ⟨s, e⟩
    rw [z2N.2 e.symm] at h; cases h
  · intro h
    cases hs : z1m p q with
    | none => rfl
    | some s => exact absurd ⟨s, (z2N.1 hs).symm⟩ h
theorem z1Y (p s : List Nat) : z1m p (p ++ s) = some s := z2N.2 rfl
theorem z1C {w : World} : ∀ {p s : List Nat} {v vp : Value}, nav w v p = some vp -> nav w v (p ++ s) = nav w vp s
  | [], s, v, vp, h => by simp only [nav, Option.some.injEq] at h; subst h; rfl
  | j :: p, s, v, vp, h => by
    simp only [nav, List.cons_append] at h ⊢
    split at h
    · rename_i v' hv'
      exact z1C h
    · cases h
theorem z1j : ∀ {p s : List Nat} {t t' : T}, sub t p = some t' -> sub t (p ++ s) = sub t' s
  | [], s, t, t', h => by simp only [sub, Option.some.injEq] at h; subst h; rfl
  | j :: p, s, t, t', h => by
    simp only [sub, List.cons_append] at h ⊢
    split at h
    · exact z1j h
    · cases h
theorem zbZ {t t' k k' : T} {j : Nat} {p : List Nat} {x : T} (h : upd t (j :: p) x = some t') : ∃ k k', zaz t j = some k /\ upd k p x = some k' /\ ∀ i, zaz t' i = if i = j then some k' else zaz t i := by
  have hset : ∀ (cs : List T) k', (∃ k, cs[j]? = some k) -> ∀ i, (cs.set j k')[i]? = if i = j then some k' else cs[i]? := by
    intro cs k' ⟨k, hk⟩ i
    by_cases e : i = j
    · subst e
      rw [List.getElem?_set_self', hk, if_pos rfl]; rfl
    · rw [List.getElem?_set_ne (fun e' => e e'.symm), if_neg e]
  cases t with
  | sc v => cases h
  | dead => cases h
  | agg cs =>
    simp only [upd] at h
    split at h
    case h_2 => cases h
    case h_1 k hk =>
    split at h
    case h_2 => cases h
    case h_1 k' hk' =>
    cases h
    exact ⟨k, k', hk, hk', fun i => hset cs k' ⟨k, hk⟩ i⟩
  | tup cs =>
    simp only [upd] at h
    split at h
    case h_2 => cases h
    case h_1 k hk =>
    split at h
    case h_2 => cases h
    case h_1 k' hk' =>
    cases h
    exact ⟨k, k', hk, hk', fun i => hset cs k' ⟨k, hk⟩ i⟩
  | sl n cs => cases h
  | os sz n cs =>
    simp only [upd] at h
    split at h
    case h_2 => cases h
    case h_1 k hk =>
    split at h
    case h_2 => cases h
    case h_1 k' hk' =>
    cases h
    exact ⟨k, k', hk, hk', fun i => hset cs k' ⟨k, hk⟩ i⟩
  | vr cs =>
    simp only [upd] at h
    split at h
    case h_2 => cases h
    case h_1 k hk =>
    split at h
    case h_2 => cases h
    case h_1 k' hk' =>
    cases h
    exact ⟨k, k', hk, hk', fun i => hset cs k' ⟨k, hk⟩ i⟩
  | mp kk es => cases h
  | mr kk es => cases h
  | mt => cases h
  | ms => cases h
  | vo => cases h
  | pr => cases h
  | cl f cs => cases h
theorem z2g : ∀ {p s : List Nat} {t t' x : T}, upd t p x = some t' -> sub t' (p ++ s) = sub x s
  | [], s, t, t', x, h => by simp only [upd, Option.some.injEq] at h; subst h; rfl
  | j :: p, s, t, t', x, h => by
    obtain ⟨k, k', h1, h2, h3⟩ := zbZ (k := x) (k' := x) h
    simp only [sub, List.cons_append, h3, if_true]
    exact z2g h2
theorem z1a : ∀ {p q : List Nat} {t t' x : T}, upd t p x = some t' -> ¬ p <+: q -> (sub t q).isSome -> (sub t' q).isSome
  | [], q, t, t', x, h, hn, hs => absurd List.nil_prefix hn
  | j :: p, [], t, t', x, h, hn, hs => by simp [sub]
  | j :: p, i :: q, t, t', x, h, hn, hs => by
    obtain ⟨k, k', h1, h2, h3⟩ := zbZ (k := x) (k' := x) h
    simp only [sub, h3] at hs ⊢
    by_cases e : i = j
    · subst e
      simp only [if_true, h1] at hs ⊢
      exact z1a h2 (fun hp => hn ((List.prefix_cons_inj i).2 hp)) hs
    · rw [if_neg e]; exact hs
end
section
def reK (id : Nat) (p : List Nat) (d : Nat) : z0a -> z0a
  | [] => []
  | h :: q => if h = id + 2 then (match z1m p q with | some s => (d + 2) :: s | none => if d = id then [1] else h :: q) else if h = d + 2 then [1] else h :: q
def z8e (id : Nat) (p : List Nat) (d : Nat) : A -> A
  | .h i q => if i = id then (match z1m p q with | some s => .h d s | none => if d = id then .dead else .h i q) else if i = d then .dead else .h i q
  | .a i q off => if i = id then (match z1m p q with | some s => .a d s off | none => if d = id then .dead else .a i q off) else if i = d then .dead else .a i q off
  | .t (some i) x => if i = id then (if p = [] then .t (some d) x else .dead) else if i = d then .dead else .t (some i) x
  | .ea (some i) cs off => if i = id then (if p = [] then .ea (some d) cs off else .dead) else if i = d then .dead else .ea (some i) cs off
  | x => x
def z5C (fr : Fr) (id : Nat) (p : List Nat) (d : Nat) : Option Fr :=
  match z0v fr.ob id with
  | none => none
  | some root =>
    match sub root p with
    | none => none
    | some t =>
      if p = [] ∨ d = id then some { fr with tm := z2k (z8e id p d) fr.tm, ob := z1Z (zao fr.ob id) d t }
      else match upd root p .dead with
        | none => none
        | some root' => some { fr with tm := z2k (z8e id p d) fr.tm, ob := z1Z (z1Z fr.ob id root') d t }
theorem z7b {id d i : Nat} {p s : List Nat} (h1 : i ≠ id) (h2 : i ≠ d) : reK id p d ((i + 2) :: s) = (i + 2) :: s := by
  simp [reK, h1, h2]
theorem zgT {id d : Nat} {p s : List Nat} : reK id p d ((id + 2) :: (p ++ s)) = (d + 2) :: s := by
  simp [reK, z1Y]
theorem zhF {id d : Nat} {p s : List Nat} (h : ¬ p <+: s) (hd : d ≠ id) : reK id p d ((id + 2) :: s) = (id + 2) :: s := by
  simp [reK, z1k.2 h, hd]
theorem z6v {w : World} {K : Nat -> z0a} (id : Nat) (p : List Nat) (d : Nat) : Step w K w (fun b => reK id p d (K b)) :=
  ⟨rfl, rfl, rfl, Nat.le_refl _, fun b _ h => ⟨by
    show reK id p d (K b) = K b
    rcases h with h | h <;> rw [h] <;> simp [reK], rfl⟩, .same rfl⟩
theorem FRep.take {w : World} {K : Nat -> z0a} {R G : Nat -> Value} {fr fr' : Fr} {a : Act} {id d : Nat} {p : List Nat} (h : FRep w K R G fr a) (ht : z5C fr id p d = some fr') :
    ∃ vp t, nav w (R id) p = some vp /\ z0v fr'.ob d = some t /\ FRep w (fun b => reK id p d (K b)) (z3P R d vp) G fr' a := by
  unfold z5C at ht
  split at ht
  case h_1 => cases ht
  case h_2 root hroot =>
  split at ht
  case h_1 => cases ht
  case h_2 t hsub =>
  obtain ⟨vp, hnav, hrep⟩ := (h.ob id root hroot).sub (z0q id) hsub
  let K' : Nat -> z0a := fun b => reK id p d (K b)
  have hmv : TRep w K' (col d) vp t := hrep.move (fun b s hb hc hK => ⟨by
      show reK id p d (K b) = _
      rw [hK]; simpa [col] using zgT, rfl⟩) (fun b hb e => ⟨by show reK id p d (K b) = []; rw [e]; rfl, rfl⟩) (by simp [col]) (Nat.le_refl _)
  have hot : ∀ i t, i ≠ id -> i ≠ d -> z0v fr.ob i = some t -> TRep w K' (col i) (R i) t := fun i t h1 h2 ho =>
    (h.ob i t ho).move (fun b s hb hc hK => ⟨by
      show reK id p d (K b) = _
      rw [hK]; exact z7b h1 h2, rfl⟩) (fun b hb e => ⟨by show reK id p d (K b) = []; rw [e]; rfl, rfl⟩) Iff.rfl (Nat.le_refl _)
  have hfz : ∀ b, K b = [] -> K' b = [] := fun b e => by show reK id p d (K b) = []; rw [e]; rfl
  have hdep : ∀ i, i ≠ id -> i ≠ d -> ∀ b, frz K (some i) b = [] -> frz K' (some i) b = [] := fun i h1 h2 b e => by
    simp only [frz] at e ⊢
    split at e
    · rename_i hh
      obtain ⟨s, hs⟩ : ∃ s, K b = (i + 2) :: s := by
        cases hk : K b with
        | nil => rw [hk] at hh; cases hh
        | cons a s => rw [hk] at hh; simp at hh; subst hh; exact ⟨s, rfl⟩
      have : K' b = (i + 2) :: s := by show reK id p d (K b) = _; rw [hs]; exact z7b h1 h2
      rw [this]; simp
    · rw [hfz b e]; simp
  have hdepd : p = [] -> ∀ b, frz K (some id) b = [] -> frz K' (some d) b = [] := fun hp b e => by
    subst hp
    simp only [frz] at e ⊢
    split at e
    · rename_i hh
      obtain ⟨s, hs⟩ : ∃ s, K b = (id + 2) :: s := by
        cases hk : K b with
        | nil => rw [hk] at hh; cases hh
        | cons a s => rw [hk] at hh; simp at hh; subst hh; exact ⟨s, rfl⟩
      have : K' b = (d + 2) :: s := by show reK id [] d (K b) = _; rw [hs]; exact zgT (p := []) (s := s)
      rw [this]; simp
    · rw [hfz b e]; simp
  have hR : ∀ i, i ≠ d -> z3P R d vp i = R i := fun i hi => by simp [z3P, hi]
  have hRd : z3P R d vp d = vp := by simp [z3P]
  have htm : ∀ (ob' : List (Nat × T)), (∀ i, i ≠ id -> i ≠ d -> z0v ob' i = z0v fr.ob i) -> z0v ob' d = some t ->
      (∀ q, d ≠ id -> ¬ p <+: q -> (sub root q).isSome -> ∃ t', z0v ob' id = some t' /\ (sub t' q).isSome) ->
      ∀ x u, ARep w K R fr.ob x u -> ARep w K' (z3P R d vp) ob' (z8e id p d x) u := by
    intro ob' ho1 ho2 ho3 x u hx
    cases x with
    | dead => trivial
    | k v => exact hx
    | t dep x =>
      cases dep with
      | none => exact ⟨TRep.fz hx.1 (fun b _ e => ⟨hfz b e, rfl⟩) (Nat.le_refl _), fun _ e => by cases e⟩
      | some i =>
        by_cases h1 : i = id
        · subst h1
          by_cases hp : p = []
          · simp only [z8e, if_true, hp]
            subst hp
            exact ⟨TRep.fz hx.1 (fun b _ e => ⟨hdepd rfl b e, rfl⟩) (Nat.le_refl _), fun _ e => by cases e; rw [ho2]; rfl⟩
          · simp only [z8e, if_true, if_neg hp]; trivial
        · by_cases h2 : i = d
          · simp only [z8e, if_neg h1, if_pos h2]; trivial
          · simp only [z8e, if_neg h1, if_neg h2]
            exact ⟨TRep.fz hx.1 (fun b _ e => ⟨hdep i h1 h2 b e, rfl⟩) (Nat.le_refl _), fun _ e => by cases e; rw [ho1 i h1 h2]; exact hx.2 i rfl⟩
    | h i q =>
      obtain ⟨n1, t1, n2, n3⟩ := hx
      by_cases h1 : i = id
      · subst h1
        rw [hroot] at n2; cases n2
        simp only [z8e, if_true]
        cases hs : z1m p q with
        | some s =>
          have := z2N.1 hs
          subst this
          rw [z1C hnav] at n1
          rw [z1j hsub] at n3
          exact ⟨by rw [hRd]; exact n1, t, ho2, n3⟩
        | none =>
          simp only
          by_cases hd : d = i
          · rw [if_pos hd]; trivial
          · rw [if_neg hd]
            obtain ⟨t', m1, m2⟩ := ho3 q hd (z1k.1 hs) n3
            exact ⟨by rw [hR i (fun e => hd e.symm)]; exact n1, t', m1, m2⟩
      · by_cases h2 : i = d
        · simp only [z8e, if_neg h1, if_pos h2]; trivial
        · simp only [z8e, if_neg h1, if_neg h2]
          exact ⟨by rw [hR i h2]; exact n1, t1, by rw [ho1 i h1 h2]; exact n2, n3⟩
    | a i q off =>
      obtain ⟨hv, g, n1, n4, n5, t1, n2, n3⟩ := hx
      by_cases h1 : i = id
      · subst h1
        rw [hroot] at n2; cases n2
        simp only [z8e, if_true]
        cases hs : z1m p q with
        | some s =>
          have := z2N.1 hs
          subst this
          rw [z1C hnav] at n1
          rw [z1j hsub] at n3
          exact ⟨hv, g, by rw [hRd]; exact n1, n4, n5, t, ho2, n3⟩
        | none =>
          simp only
          by_cases hd : d = i
          · rw [if_pos hd]; trivial
          · rw [if_neg hd]
            obtain ⟨t', m1, m2⟩ := ho3 q hd (z1k.1 hs) n3
            exact ⟨hv, g, by rw [hR i (fun e => hd e.symm)]; exact n1, n4, n5, t', m1, m2⟩
      · by_cases h2 : i = d
        · simp only [z8e, if_neg h1, if_pos h2]; trivial
        · simp only [z8e, if_neg h1, if_neg h2]
          exact ⟨hv, g, by rw [hR i h2]; exact n1, n4, n5, t1, by rw [ho1 i h1 h2]; exact n2, n3⟩
    | tf n cs => exact ⟨hx.1, TRep.fz hx.2 (fun b _ e => ⟨hfz b e, rfl⟩) (Nat.le_refl _)⟩
    | ea dep cs off =>
      obtain ⟨g, o, F, e1, e2, e3, e4, e5, e6⟩ := hx
      have mk : ∀ dep', (∀ b, frz K dep b = [] -> frz K' dep' b = []) -> zbm ob' dep' -> ARep w K' (z3P R d vp) ob' (.ea dep' cs off) u := fun dep' hh hd =>
        ⟨g, o, F, e1, hh g e2, e3, e4, fun j t ht => TRep.fz (e5 j t ht) (fun b _ e => ⟨hh b e, rfl⟩) (Nat.le_refl _), hd⟩
      cases dep with
      | none => exact mk none hfz (fun _ e => by cases e)
      | some i =>
        by_cases h1 : i = id
        · subst h1
          by_cases hp : p = []
          · simp only [z8e, if_true, hp]
            subst hp
            exact mk (some d) (hdepd rfl) (fun _ e => by cases e; rw [ho2]; rfl)
          · simp only [z8e, if_true, if_neg hp]; trivial
        · by_cases h2 : i = d
          · simp only [z8e, if_neg h1, if_pos h2]; trivial
          · simp only [z8e, if_neg h1, if_neg h2]
            exact mk (some i) (hdep i h1 h2) (fun _ e => by cases e; rw [ho1 i h1 h2]; exact e6 i rfl)
  refine ⟨vp, t, hnav, ?_⟩
  split at ht
  · rename_i hpd
    cases ht
    refine ⟨by simp [z0e], fun i => ?_, fun i t' hi => ?_, h.nt, h.df⟩
    · show ERep w K' (z3P R d vp) _ (z0E (z2k (z8e id p d) fr.tm) i) _
      rw [z1F _ rfl]
      refine (h.tm i).map _ (htm _ (fun i h1 h2 => ?_) (by simp [z0e]) (fun q hd hn hs => ?_))
      · rw [z0e, if_neg (fun e => h2 e.symm), z4q, if_neg (fun e => h1 e.symm)]
      · rcases hpd with hp | hp
        · subst hp; exact absurd List.nil_prefix hn
        · exact absurd hp hd
    · rw [z0e] at hi
      split at hi
      · rename_i e
        subst e; cases hi
        rw [hRd]; exact hmv
      · rename_i e
        rw [z4q] at hi
        split at hi
        · cases hi
        · rename_i e2
          rw [hR i (fun e' => e e'.symm)]
          exact hot i t' (fun e' => e2 e'.symm) (fun e' => e e'.symm) hi
  · rename_i hpd
    split at ht
    case h_1 => cases ht
    case h_2 root' hupd =>
    cases ht
    have hp : p ≠ [] := fun e => hpd (.inl e)
    have hd : d ≠ id := fun e => hpd (.inr e)
    have hroot' : TRep w K' (col id) (R id) root' :=
      TRep.upd (h.ob id root hroot) (z0q id) hnav hupd ⟨fun b hb e => ⟨hfz b e, rfl⟩, fun b hb ⟨s, e, hs⟩ => ⟨by
        show reK id p d (K b) = K b
        rw [e]; exact zhF hs hd, rfl⟩, Nat.le_refl _⟩ (.dead _ _)
    refine ⟨by simp [z0e], fun i => ?_, fun i t' hi => ?_, h.nt, h.df⟩
    · show ERep w K' (z3P R d vp) _ (z0E (z2k (z8e id p d) fr.tm) i) _
      rw [z1F _ rfl]
      refine (h.tm i).map _ (htm _ (fun i h1 h2 => ?_) (by simp [z0e]) (fun q hd hn hs => ⟨root', ?_, z1a hupd hn hs⟩))
      · rw [z0e, if_neg (fun e => h2 e.symm), z0e, if_neg (fun e => h1 e.symm)]
      · rw [z0e, if_neg hd, z0e, if_pos rfl]
    · rw [z0e] at hi
      split at hi
      · rename_i e
        subst e; cases hi
        rw [hRd]; exact hmv
      · rename_i e
        rw [z0e] at hi
        split at hi
        · rename_i e2
          subst e2; cases hi
          rw [hR id (fun e' => e e'.symm)]; exact hroot'
        · rename_i e2
          rw [hR i (fun e' => e e'.symm)]
          exact hot i t' (fun e' => e2 e'.symm) (fun e' => e e'.symm) hi
def setCells (cs : List T) (off : Nat) : List T -> List T
  | [] => cs
  | x :: xs => setCells (cs.set off x) (off + 1) xs
theorem z6X (cs : List T) (off : Nat) (xs : List T) : (setCells cs off xs).length = cs.length := by
  induction xs generalizing cs off with
  | nil => rfl
  | cons x xs ih => rw [setCells, ih, List.length_set]
theorem z3U (xs : List T) : ∀ (cs : List T) (off j : Nat), off + xs.length <= cs.length -> (setCells cs off xs)[j]? = if off <= j /\ j < off + xs.length then xs[j - off]? else cs[j]? := by
  induction xs with
  | nil => intro cs off j h; simp only [setCells, List.length_nil]; rw [if_neg (by omega)]
  | cons x xs ih =>
    intro cs off j h
    simp only [List.length_cons] at h
    rw [setCells, ih _ _ _ (by simp; omega)]
    simp only [List.length_cons]
    by_cases h1 : off + 1 <= j /\ j < off + 1 + xs.length
    · rw [if_pos h1, if_pos (by omega)]
      rw [show j - off = (j - (off + 1)) + 1 by omega, List.getElem?_cons_succ]
    · rw [if_neg h1]
      by_cases h2 : j = off
      · subst h2
        rw [if_pos (by omega), List.getElem?_set_self (by omega)]; simp
      · rw [if_neg (by omega), List.getElem?_set_ne (fun e => h2 e.symm)]
def z3S (p : List Nat) (off m : Nat) (q : List Nat) : Bool := match z1m p q with | some (j :: _) => decide (off <= j) && decide (j < off + m) | _ => false
def z5J (id : Nat) (p : List Nat) (off m : Nat) : A -> A
  | .h i q => if i = id /\ z3S p off m q = true then .dead else .h i q
  | .a i q o => if i = id /\ z3S p off m q = true then .dead else .a i q o
  | .t (some i) x => if i = id then .dead else .t (some i) x
  | .ea (some i) cs o => if i = id then .dead else .ea (some i) cs o
  | x => x
theorem FRep.store {w w' : World} {K K' : Nat -> z0a} {R G : Nat -> Value} {fr : Fr} {a : Act} {id : Nat} {p : List Nat} {root root' box : T} {cs xs : List T} {off g : Nat} {arr arr' : Array Value} {e : TypeId} {fz : Nat × Nat} {vs : List Value} {hval : Value}
    (h : FRep w K R G fr a) (hroot : z0v fr.ob id = some root) (hbox : sub root p = some box) (hcs : z1s box = some cs) (hoff : off + xs.length <= cs.length) (hx0 : 0 < xs.length)
    (hupd : upd root p (z2Y box (setCells cs off xs)) = some root')
    (hnav : nav w (R id) p = some hval) (hbl : z2n hval = some g) (hg : w.heap[g]? = some (.cells arr e fz)) (hg' : w'.heap[g]? = some (.cells arr' e fz))
    (hsz : w'.heap.size = w.heap.size) (hoth : ∀ b, b ≠ g -> w'.heap[b]? = w.heap[b]?) (hlen : vs.length = xs.length)
    (harr : arr'.size = arr.size /\ ∀ j, arr'[j]? = if off <= j /\ j < off + xs.length then vs[j - off]? else arr[j]?)
    (hK0 : ∀ b, b < w.heap.size -> K b = [] -> K' b = [])
    (hK : ∀ b i s, b < w.heap.size -> K b = (i + 2) :: s -> (∃ t, z0v fr.ob i = some t) -> ¬ (i = id /\ z3S p off xs.length s = true) -> K' b = K b)
    (hnew : ∀ j x v, xs[j]? = some x -> vs[j]? = some v -> TRep w' K' (col id ++ p ++ [off + j]) v x) :
    FRep w' K' R G { fr with tm := z2k (z5J id p off xs.length) fr.tm, ob := z1Z fr.ob id root' } a := by
  have hrt := h.ob id root hroot
  obtain ⟨hv2, hnav2, hrep⟩ := hrt.sub (z0q id) hbox
  rw [hnav] at hnav2; cases hnav2
  obtain ⟨g2, arr2, e2, fz2, F, b1, b2, b3, b4, b5, b6, b7, b8, b9, b10⟩ := hrep.box hcs (show off < cs.length by omega)
  rw [hbl] at b1; cases b1
  rw [hg] at b4; cases b4
  have hKg : K g = col id ++ p := b3
  have hne : ∀ b i s, K b = (i + 2) :: s -> i ≠ id -> b ≠ g := fun b i s e1 e2 e3 => by
    subst e3; rw [hKg] at e1; simp [col] at e1; exact e2 e1.1.symm
  have hne0 : ∀ b, K b = [] -> b ≠ g := fun b e1 e3 => by subst e3; rw [hKg] at e1; simp [col] at e1
  have hfro : ∀ b, b < w.heap.size -> K b = [] -> K' b = [] /\ w'.heap[b]? = w.heap[b]? := fun b hb e1 => ⟨hK0 b hb e1, hoth b (hne0 b e1)⟩
  have hunder : ∀ j s, z3S p off xs.length (p ++ j :: s) = (decide (off <= j) && decide (j < off + xs.length)) := fun j s => by simp only [z3S, z1Y]
  have hunder0 : z3S p off xs.length p = false := by
    have : z1m p p = some [] := z2N.2 (by simp)
    simp only [z3S, this]
  have hunderN : ∀ s, ¬ p <+: s -> z3S p off xs.length s = false := fun s hs => by simp only [z3S, z1k.2 hs]
  have hway : ∀ i t q, z0v fr.ob i = some t -> (sub t q).isSome -> ¬ (i = id /\ z3S p off xs.length q = true) -> nav w' (R i) q = nav w (R i) q := fun i t q ho hs hn => by
    refine z2O (h.ob i t ho) (z0q i) hs fun r j s gb hq hKb hb => ?_
    by_cases e1 : gb = g
    · subst e1
      rw [z0i hg', z0i hg, harr.2 j, if_neg]
      intro hj
      rw [hKg] at hKb
      obtain ⟨rfl, rfl⟩ : id = i /\ p = r := by simpa [col] using hKb
      apply hn
      refine ⟨rfl, ?_⟩
      rw [hq, hunder]; simp [hj.1, hj.2]
    · exact z0l (hoth gb e1) j
  have hsub : ∀ q, (sub root q).isSome -> ¬ z3S p off xs.length q = true -> (sub root' q).isSome := fun q hs hn => by
    by_cases hp : p <+: q
    · obtain ⟨s, rfl⟩ := hp
      rw [z2g hupd]
      rw [z1j hbox] at hs
      cases s with
      | nil => simp [sub]
      | cons j s =>
        rw [hunder] at hn
        have hkid : zaz (z2Y box (setCells cs off xs)) j = zaz box j := by
          cases box with
          | sc v => cases hcs
          | dead => cases hcs
          | agg => cases hcs
          | tup => cases hcs
          | sl n cs0 => cases hcs
          | mp => cases hcs
          | mr => cases hcs
          | mt => cases hcs
          | ms => cases hcs
          | vo => cases hcs
          | pr => cases hcs
          | cl => cases hcs
          | os sz n cs0 =>
            simp only [z1s, Option.some.injEq] at hcs
            subst hcs
            simp only [z2Y, zaz]
            rw [z3U _ _ _ _ hoff, if_neg (by simpa using hn)]
          | vr cs0 =>
            simp only [z1s, Option.some.injEq] at hcs
            subst hcs
            simp only [z2Y, zaz]
            rw [z3U _ _ _ _ hoff, if_neg (by simpa using hn)]
        simp only [sub, hkid] at hs ⊢
        exact hs
    · exact z1a hupd hp hs
  have hdep : ∀ i t, z0v fr.ob i = some t -> i ≠ id -> ∀ b, b < w.heap.size -> frz K (some i) b = [] -> frz K' (some i) b = [] /\ w'.heap[b]? = w.heap[b]? := fun i t ho hi b hb e1 => by
    simp only [frz] at e1 ⊢
    split at e1
    · rename_i hh
      obtain ⟨s, hs⟩ : ∃ s, K b = (i + 2) :: s := by
        cases hk : K b with
        | nil => rw [hk] at hh; cases hh
        | cons a s => rw [hk] at hh; simp at hh; subst hh; exact ⟨s, rfl⟩
      rw [hK b i s hb hs ⟨t, ho⟩ (fun hc => hi hc.1), hs]
      exact ⟨by simp, hoth b (hne b i s hs hi)⟩
    · obtain ⟨k1, k2⟩ := hfro b hb e1
      rw [k1]; exact ⟨by simp, k2⟩
  have hobi : ∀ i, i ≠ id -> z0v (z1Z fr.ob id root') i = z0v fr.ob i := fun i hi => by rw [z0e, if_neg (fun e => hi e.symm)]
  refine ⟨fun i => ?_, fun i t ho => ?_, h.nt, h.df⟩
  · show ERep w' K' R (z1Z fr.ob id root') (z0E (z2k (z5J id p off xs.length) fr.tm) i) _
    rw [z1F _ rfl]
    refine (h.tm i).map _ fun x u hx => ?_
    cases x with
    | dead => trivial
    | k v => exact hx
    | t dep x =>
      cases dep with
      | none => exact ⟨TRep.fz hx.1 hfro (by omega), fun _ e => by cases e⟩
      | some i =>
        by_cases hi : i = id
        · simp only [z5J, if_pos hi]; trivial
        · simp only [z5J, if_neg hi]
          obtain ⟨t0, ht0⟩ := Option.isSome_iff_exists.1 (hx.2 i rfl)
          exact ⟨TRep.fz hx.1 (fun b hb e1 => hdep i t0 ht0 hi b hb e1) (by omega), fun _ e => by cases e; rw [hobi i hi, ht0]; rfl⟩
    | h i q =>
      obtain ⟨n1, t, n2, n3⟩ := hx
      by_cases hc : i = id /\ z3S p off xs.length q = true
      · simp only [z5J, if_pos hc]; trivial
      · simp only [z5J, if_neg hc]
        refine ⟨by rw [hway i t q n2 n3 hc]; exact n1, ?_⟩
        by_cases hi : i = id
        · subst hi
          rw [hroot] at n2; cases n2
          exact ⟨root', by simp [z0e], hsub q n3 (fun h => hc ⟨rfl, h⟩)⟩
        · exact ⟨t, by rw [hobi i hi]; exact n2, n3⟩
    | a i q o =>
      obtain ⟨hv, g, n1, n4, n5, t, n2, n3⟩ := hx
      by_cases hc : i = id /\ z3S p off xs.length q = true
      · simp only [z5J, if_pos hc]; trivial
      · simp only [z5J, if_neg hc]
        refine ⟨hv, g, by rw [hway i t q n2 n3 hc]; exact n1, n4, n5, ?_⟩
        by_cases hi : i = id
        · subst hi
          rw [hroot] at n2; cases n2
          exact ⟨root', by simp [z0e], hsub q n3 (fun h => hc ⟨rfl, h⟩)⟩
        · exact ⟨t, by rw [hobi i hi]; exact n2, n3⟩
    | tf n cs => exact ⟨hx.1, TRep.fz hx.2 hfro (by omega)⟩
    | ea dep cs o =>
      obtain ⟨g, o, F, e1, e2, e3, e4, e5, e6⟩ := hx
      cases dep with
      | none =>
        obtain ⟨k1, k2⟩ := hfro g e3 e2
        exact ⟨g, o, F, e1, k1, by omega, fun j hj => by rw [z0l k2]; exact e4 j hj, fun j t ht => TRep.fz (e5 j t ht) hfro (by omega), fun _ e => by cases e⟩
      | some i =>
        by_cases hi : i = id
        · simp only [z5J, if_pos hi]; trivial
        · simp only [z5J, if_neg hi]
          obtain ⟨t0, ht0⟩ := Option.isSome_iff_exists.1 (e6 i rfl)
          obtain ⟨k1, k2⟩ := hdep i t0 ht0 hi g e3 e2
          exact ⟨g, o, F, e1, k1, by omega, fun j hj => by rw [z0l k2]; exact e4 j hj, fun j t ht => TRep.fz (e5 j t ht) (fun b hb e1 => hdep i t0 ht0 hi b hb e1) (by omega), fun _ e => by cases e; rw [hobi i hi, ht0]; rfl⟩
  · rw [z0e] at ho
    split at ho
    · rename_i e1
      subst e1; cases ho
      refine TRep.upd hrt (z0q id) hnav hupd ⟨hfro, fun b hb ⟨s, e1, hs⟩ => ?_, by omega⟩ ?_
      · have hb' : b ≠ g := fun e2 => by subst e2; rw [hKg] at e1; exact hs (by rw [List.append_cancel_left e1]; exact List.prefix_rfl)
        exact ⟨hK b id s hb (by simpa [col] using e1) ⟨root, hroot⟩ (fun hc => by rw [hunderN s hs] at hc; cases hc.2), hoth b hb'⟩
      · refine b10 w' K' arr' (setCells cs off xs) (fun j => (arr'[j]?).getD undef) harr.1 (z6X _ _ _) ?_ hg' (fun i hi => ?_) (fun i t ht => ?_)
        · rw [hK g id p (z0f hg) (by simpa [col] using hKg) ⟨root, hroot⟩ (fun hc => by rw [hunder0] at hc; cases hc.2)]; exact hKg
        · have : i < arr'.size := by rw [harr.1]; omega
          rw [Array.getElem?_eq_getElem this]; rfl
        · rw [z3U _ _ _ _ hoff] at ht
          by_cases hj : off <= i /\ i < off + xs.length
          · rw [if_pos hj] at ht
            have hl : i - off < vs.length := by omega
            have := hnew (i - off) t vs[i - off] ht (List.getElem?_eq_getElem hl)
            rw [show off + (i - off) = i by omega] at this
            rw [harr.2 i, if_pos hj, List.getElem?_eq_getElem hl]
            exact this
          · rw [if_neg hj] at ht
            have hlt := (List.getElem?_eq_some_iff.1 ht).1
            have hF := b7 i hlt
            rw [harr.2 i, if_neg hj, hF]
            refine (b8 i t ht).keep (D := fun c => ∃ s, c = col id ++ p ++ i :: s) ⟨hfro, fun b hb ⟨s, e1⟩ => ?_, by omega⟩ (fun s _ => ⟨s, by simp⟩)
            have hb' : b ≠ g := fun e2 => by subst e2; rw [hKg] at e1; simp at e1
            exact ⟨hK b id (p ++ i :: s) hb (by simpa [col] using e1) ⟨root, hroot⟩ (fun hc => by rw [hunder] at hc; simp at hc; omega), hoth b hb'⟩
    · rename_i e1
      have hi : i ≠ id := fun e2 => e1 e2.symm
      refine (h.ob i t ho).keep (D := fun c => ∃ s, c = (i + 2) :: s) ⟨hfro, fun b hb ⟨s, e2⟩ => ?_, by omega⟩ (fun s _ => ⟨s, rfl⟩)
      exact ⟨hK b i s hb e2 ⟨t, ho⟩ (fun hc => hi hc.1), hoth b (hne b i s e2 hi)⟩
end
section
theorem TRep.vr_ne {w : World} {K : Nat -> z0a} {c : z0a} {v : Value} {cs : List T} (h : TRep w K c v (.vr cs)) : c ≠ [] := by
  cases h with
  | vr _ _ _ _ _ _ _ _ hc0 => exact hc0
theorem TRep.any {w : World} {K : Nat -> z0a} {c : z0a} {v : Value} {t : T} (h : TRep w K c v t) : c = [] -> ∀ c', TRep w K c' v t := by
  induction h with
  | sc c v h => intro _ c'; exact .sc c' v h
  | dead c v => intro _ c'; exact .dead c' v
  | agg c vs cs F hl hF h ih => intro hc c'; subst hc; exact .agg c' vs cs F hl hF fun j t ht => ih j t ht rfl _
  | tup c vs cs F hl hF h ih => intro hc c'; subst hc; exact .tup c' vs cs F hl hF fun j t ht => ih j t ht rfl _
  | emp c a cap hc => intro _ c'; exact .emp c' a cap hc
  | fro c g o n cap cs F hK hg hn hc hF h ih => intro _ c'; exact .fro c' g o n cap cs F hK hg hn hc hF h
  | nil c sz => intro _ c'; exact .nil c' sz
  | own c g n cap size cs arr e fz F hfz hc0 => intro hc; exact absurd hc hc0
  | vr c g cs arr e fz F hfz hc0 => intro hc; exact absurd hc hc0
  | vo c g off cs h ih => intro hc c'; subst hc; exact absurd rfl h.vr_ne
  | pr c g o cs F hK hg hF h ih => intro _ c'; exact .pr c' g o cs F hK hg hF h
  | mr c g kk es ents clock hK hg hh => intro _ c'; exact .mr c' g kk es ents clock hK hg hh
  | mp c g kk es ents clock hc0 => intro hc; exact absurd hc hc0
  | ms c g kk ks cs ents clock F hK hg hh h ih => intro _ c'; exact .ms c' g kk ks cs ents clock F hK hg hh h
  | mt c g kk ks cs ents clock F hc0 => intro hc; exact absurd hc hc0
  | cl c f vs cs F hl hF h ih => intro _ c'; exact .cl c' f vs cs F hl hF h
theorem z2u (w : World) (K : Nat -> z0a) (own : Bool) (c : z0a) (v : Value) : TRep w K c v (z4f own v) := by
  unfold z4f
  split
  · cases own
    · exact .emp c none 0 (by decide)
    · exact .nil c 0
  · split
    · rename_i h; exact .sc c v h
    · exact .dead c v
def szL : List Nat -> List T -> List T
  | _, [] => []
  | l, .os _ 0 [] :: ts => .os (l.headD 0) 0 [] :: szL l.tail ts
  | l, t :: ts => t :: szL l.tail ts
theorem zdV : ∀ (cs : List T) (l : List Nat) (j : Nat) (t : T), (szL l cs)[j]? = some t -> ∃ t0, cs[j]? = some t0 /\ (t = t0 ∨ ∃ s0 s, t0 = .os s0 0 [] /\ t = .os s 0 [])
  | [], l, j, t, h => by simp [szL] at h
  | t0 :: ts, l, 0, t, h => by
    refine ⟨t0, rfl, ?_⟩
    unfold szL at h
    split at h
    · rename_i e; cases e
    · rename_i e; cases e; simp at h; exact .inr ⟨_, _, rfl, h.symm⟩
    · rename_i e; cases e; simp at h; exact .inl h.symm
  | t0 :: ts, l, j + 1, t, h => by
    have : (szL l.tail ts)[j]? = some t := by
      unfold szL at h
      split at h
      · rename_i e; cases e
      · rename_i e; cases e; simpa using h
      · rename_i e; cases e; simpa using h
    simpa using zdV ts l.tail j t this
theorem z7X : ∀ (cs : List T) (l : List Nat), (szL l cs).length = cs.length
  | [], l => by simp [szL]
  | t0 :: ts, l => by
    have := z7X ts l.tail
    unfold szL
    split
    · rename_i e; cases e
    · rename_i e; cases e; simp [this]
    · rename_i e; cases e; simp [this]
def zTs (l : List Nat) (z : List Value) : List T := szL l (z.map (z4f true))
theorem z1X (l : List Nat) (z : List Value) : (zTs l z).length = z.length := by simp [zTs, z7X]
theorem zaC {l : List Nat} {z : List Value} {j : Nat} {t : T} (h : (zTs l z)[j]? = some t) : ∃ v, z[j]? = some v /\ ∀ (w : World) (K : Nat -> z0a) (c : z0a), TRep w K c v t := by
  obtain ⟨t0, h0, h1⟩ := zdV _ _ _ _ h
  simp only [List.getElem?_map, Option.map_eq_some_iff] at h0
  obtain ⟨v, hv, rfl⟩ := h0
  refine ⟨v, hv, fun w K c => ?_⟩
  have hr := z2u w K true c v
  rcases h1 with rfl | ⟨s0, s, e, rfl⟩
  · exact hr
  · unfold z4f at e
    split at e
    · exact .nil c s
    · split at e <;> cases e
def fzK (id : Nat) (p : List Nat) : z0a -> z0a
  | [] => []
  | h :: q => if h = id + 2 /\ (z1m p q).isSome = true then [] else h :: q
def zig (id : Nat) (p : List Nat) (t : T) : A -> A
  | .h i q => if i = id then (match z1m p q with | some s => (match sub t s with | some t' => .t none (z0A t') | none => .dead) | none => .h i q) else .h i q
  | .a i q off => if i = id then (match z1m p q with | some s => (match sub t s with | some (.vr cs) => .ea none (cs.map z0A) off | _ => .dead) | none => .a i q off) else .a i q off
  | x => x
def z1K (fr : Fr) (id : Nat) (p : List Nat) : Option Fr :=
  match z0v fr.ob id with
  | none => none
  | some root =>
    match sub root p with
    | none => none
    | some t =>
      match upd root p (z0A t) with
      | none => none
      | some root' => some { fr with tm := z2k (zig id p t) fr.tm, ob := z1Z fr.ob id root' }
theorem zeV {id i : Nat} {p s : List Nat} (h1 : i ≠ id) : fzK id p ((i + 2) :: s) = (i + 2) :: s := by
  simp [fzK, h1]
theorem zeW {id : Nat} {p s : List Nat} : fzK id p ((id + 2) :: (p ++ s)) = [] := by
  simp [fzK, z1Y]
theorem zic {id : Nat} {p s : List Nat} (h : ¬ p <+: s) : fzK id p ((id + 2) :: s) = (id + 2) :: s := by
  simp [fzK, z1k.2 h]
theorem z4r {w : World} {K : Nat -> z0a} (id : Nat) (p : List Nat) : Step w K w (fun b => fzK id p (K b)) :=
  ⟨rfl, rfl, rfl, Nat.le_refl _, fun b _ h => ⟨by
    show fzK id p (K b) = K b
    rcases h with h | h <;> rw [h] <;> simp [fzK], rfl⟩, .same rfl⟩
theorem FRep.freeze {w : World} {K : Nat -> z0a} {R G : Nat -> Value} {fr fr' : Fr} {a : Act} {id : Nat} {p : List Nat} (h : FRep w K R G fr a) (ht : z1K fr id p = some fr') :
    FRep w (fun b => fzK id p (K b)) R G fr' a /\ ∀ root t vp, z0v fr.ob id = some root -> sub root p = some t -> nav w (R id) p = some vp -> ∀ c, TRep w (fun b => fzK id p (K b)) c vp (z0A t) := by
  unfold z1K at ht
  split at ht
  case h_1 => cases ht
  case h_2 root hroot =>
  split at ht
  case h_1 => cases ht
  case h_2 t hsub =>
  split at ht
  case h_1 => cases ht
  case h_2 root' hupd =>
  cases ht
  obtain ⟨vp, hnav, hrep⟩ := (h.ob id root hroot).sub (z0q id) hsub
  let K' : Nat -> z0a := fun b => fzK id p (K b)
  have hfz : ∀ b, K b = [] -> K' b = [] := fun b e => by show fzK id p (K b) = []; rw [e]; rfl
  have hdm : ∀ s t' v', sub t s = some t' -> nav w vp s = some v' -> ∀ c, TRep w K' c v' (z0A t') := fun s t' v' e1 e2 c => by
    obtain ⟨v2, e3, r⟩ := hrep.sub (by simp [col]) e1
    rw [e2] at e3; cases e3
    refine r.freeze (fun b q hb hc hK => ⟨?_, rfl⟩) (fun b hb e => ⟨hfz b e, rfl⟩) (Nat.le_refl _) c
    show fzK id p (K b) = []
    rw [hK]
    have := zeW (id := id) (p := p) (s := s ++ q)
    simpa [col] using this
  have hd0 : ∀ c, TRep w K' c vp (z0A t) := hdm [] t vp rfl rfl
  have hot : ∀ i t, i ≠ id -> z0v fr.ob i = some t -> TRep w K' (col i) (R i) t := fun i t h1 ho =>
    (h.ob i t ho).move (fun b s hb hc hK => ⟨by
      show fzK id p (K b) = _
      rw [hK]; exact zeV h1, rfl⟩) (fun b hb e => ⟨hfz b e, rfl⟩) Iff.rfl (Nat.le_refl _)
  have hdep : ∀ i b, frz K (some i) b = [] -> frz K' (some i) b = [] := fun i b e => by
    simp only [frz] at e ⊢
    split at e
    · rename_i hh
      obtain ⟨s, hs⟩ : ∃ s, K b = (i + 2) :: s := by
        cases hk : K b with
        | nil => rw [hk] at hh; cases hh
        | cons a s => rw [hk] at hh; simp at hh; subst hh; exact ⟨s, rfl⟩
      have : K' b = fzK id p ((i + 2) :: s) := by show fzK id p (K b) = _; rw [hs]
      rw [this]
      simp only [fzK]
      split <;> split <;> simp_all
    · rw [hfz b e]; simp
  have hobi : ∀ i, i ≠ id -> z0v (z1Z fr.ob id root') i = z0v fr.ob i := fun i hi => by rw [z0e, if_neg (fun e => hi e.symm)]
  have hobs : ∀ i, (z0v fr.ob i).isSome -> (z0v (z1Z fr.ob id root') i).isSome := fun i hi => by
    rw [z0e]; split
    · rfl
    · exact hi
  refine ⟨⟨fun i => ?_, fun i t' hi => ?_, h.nt, h.df⟩, ?_⟩
  · show ERep w K' R (z1Z fr.ob id root') (z0E (z2k (zig id p t) fr.tm) i) _
    rw [z1F _ rfl]
    refine (h.tm i).map _ fun x u hx => ?_
    cases x with
    | dead => trivial
    | k v => exact hx
    | t dep x =>
      cases dep with
      | none => exact ⟨TRep.fz hx.1 (fun b _ e => ⟨hfz b e, rfl⟩) (Nat.le_refl _), fun _ e => by cases e⟩
      | some i => exact ⟨TRep.fz hx.1 (fun b _ e => ⟨hdep i b e, rfl⟩) (Nat.le_refl _), fun j e => hobs j (hx.2 j e)⟩
    | h i q =>
      obtain ⟨n1, t1, n2, n3⟩ := hx
      by_cases h1 : i = id
      · subst h1
        rw [hroot] at n2; cases n2
        simp only [zig, if_true]
        cases hs : z1m p q with
        | some s =>
          have := z2N.1 hs
          subst this
          rw [z1C hnav] at n1
          rw [z1j hsub] at n3
          obtain ⟨t', ht'⟩ := Option.isSome_iff_exists.1 n3
          simp only [ht']
          exact ⟨hdm s t' u ht' n1 [], fun _ e => by cases e⟩
        | none =>
          exact ⟨n1, root', by simp [z0e], z1a hupd (z1k.1 hs) n3⟩
      · simp only [zig, if_neg h1]
        exact ⟨n1, t1, by rw [hobi i h1]; exact n2, n3⟩
    | a i q off =>
      obtain ⟨hv, g, n1, n4, n5, t1, n2, n3⟩ := hx
      by_cases h1 : i = id
      · subst h1
        rw [hroot] at n2; cases n2
        simp only [zig, if_true]
        cases hs : z1m p q with
        | none => exact ⟨hv, g, n1, n4, n5, root', by simp [z0e], z1a hupd (z1k.1 hs) n3⟩
        | some s =>
          have := z2N.1 hs
          subst this
          rw [z1C hnav] at n1
          simp only
          split
          case h_2 => trivial
          case h_1 cs hcs =>
          obtain ⟨v2, e3, r⟩ := hrep.sub (by simp [col]) hcs
          rw [n1] at e3; cases e3
          generalize hT : T.vr cs = tt at r
          generalize hC : col i ++ p ++ s = cc at r
          cases r with
          | vr c g' cs' arr e fz F hfz2 hc0 hK hg hl hF hh =>
            injection hT with hT
            subst hT
            simp only [z2n, Option.some.injEq] at n4
            subst n4
            refine ⟨g', 0, F, by rw [Nat.zero_add]; exact n5, ?_, z0f hg, fun j hj => ?_, fun j t hj => ?_, fun _ e => by cases e⟩
            · show fzK i p (K g') = []
              rw [hK, ← hC]
              have := zeW (id := i) (p := p) (s := s)
              simpa [col] using this
            · rw [Nat.zero_add, z0i hg]
              exact hF j (by simpa using hj)
            · simp only [List.getElem?_map, Option.map_eq_some_iff] at hj
              obtain ⟨t0, ht0, rfl⟩ := hj
              refine (hh j t0 ht0).freeze (fun b q hb hc hKb => ⟨?_, rfl⟩) (fun b hb e => ⟨hfz b e, rfl⟩) (Nat.le_refl _) []
              show fzK i p (K b) = []
              rw [hKb, ← hC]
              have := zeW (id := i) (p := p) (s := s ++ [j] ++ q)
              simpa [col] using this
          | _ => cases hT
      · simp only [zig, if_neg h1]
        exact ⟨hv, g, n1, n4, n5, t1, by rw [hobi i h1]; exact n2, n3⟩
    | tf n cs => exact ⟨hx.1, TRep.fz hx.2 (fun b _ e => ⟨hfz b e, rfl⟩) (Nat.le_refl _)⟩
    | ea dep cs off =>
      obtain ⟨g, o, F, e1, e2, e3, e4, e5, e6⟩ := hx
      cases dep with
      | none => exact ⟨g, o, F, e1, hfz g e2, e3, e4, fun j t ht => TRep.fz (e5 j t ht) (fun b _ e => ⟨hfz b e, rfl⟩) (Nat.le_refl _), fun _ e => by cases e⟩
      | some i => exact ⟨g, o, F, e1, hdep i g e2, e3, e4, fun j t ht => TRep.fz (e5 j t ht) (fun b _ e => ⟨hdep i b e, rfl⟩) (Nat.le_refl _), fun j e => hobs j (e6 j e)⟩
  · rw [z0e] at hi
    split at hi
    · rename_i e
      subst e; cases hi
      exact TRep.upd (h.ob id root hroot) (z0q id) hnav hupd ⟨fun b hb e => ⟨hfz b e, rfl⟩, fun b hb ⟨s, e, hs⟩ => ⟨by
        show fzK id p (K b) = K b
        rw [e]; exact zic hs, rfl⟩, Nat.le_refl _⟩ (hd0 _)
    · rename_i e
      exact hot i t' (fun e' => e e'.symm) hi
  · intro root2 t2 vp2 e1 e2 e3 c
    rw [hroot] at e1; cases e1
    rw [hsub] at e2; cases e2
    rw [hnav] at e3; cases e3
    exact hd0 c
def z5r (id : Nat) (q : List Nat) : A -> A
  | .h i s => if i = id /\ (z1m q s).isSome = true then .dead else .h i s
  | .a i s o => if i = id /\ (z1m q s).isSome = true then .dead else .a i s o
  | x => x
theorem FRep.fill {w : World} {K K' : Nat -> z0a} {R G : Nat -> Value} {fr : Fr} {a : Act} {id : Nat} {q : List Nat} {root root' t : T} {u : Value} (h : FRep w K R G fr a)
    (hroot : z0v fr.ob id = some root) (hnav : nav w (R id) q = some u) (hupd : upd root q t = some root')
    (hK0 : ∀ b, b < w.heap.size -> K b = [] -> K' b = [])
    (hK : ∀ b i s, b < w.heap.size -> K b = (i + 2) :: s -> (z0v fr.ob i).isSome -> ¬ (i = id /\ q <+: s) -> K' b = K b)
    (hKd : ∀ b s, b < w.heap.size -> K b = (id + 2) :: (q ++ s) -> K' b = [] ∨ (K' b).head? = some (id + 2))
    (ht : TRep w K' (col id ++ q) u t) :
    FRep w K' R G { fr with tm := z2k (z5r id q) fr.tm, ob := z1Z fr.ob id root' } a := by
  have hobi : ∀ i, i ≠ id -> z0v (z1Z fr.ob id root') i = z0v fr.ob i := fun i hi => by rw [z0e, if_neg (fun e => hi e.symm)]
  have hobs : ∀ i, (z0v fr.ob i).isSome -> (z0v (z1Z fr.ob id root') i).isSome := fun i hi => by
    rw [z0e]; split
    · rfl
    · exact hi
  have hdep : ∀ i, (z0v fr.ob i).isSome -> ∀ b, b < w.heap.size -> frz K (some i) b = [] -> frz K' (some i) b = [] := fun i hi b hb e => by
    simp only [frz] at e ⊢
    split at e
    · rename_i hh
      obtain ⟨s, hs⟩ : ∃ s, K b = (i + 2) :: s := by
        cases hk : K b with
        | nil => rw [hk] at hh; cases hh
        | cons a s => rw [hk] at hh; simp at hh; subst hh; exact ⟨s, rfl⟩
      by_cases hc : i = id /\ q <+: s
      · obtain ⟨rfl, s2, rfl⟩ := hc
        rcases hKd b s2 hb hs with e1 | e1
        · rw [e1]; simp
        · simp [e1]
      · rw [hK b i s hb hs hi hc, hs]; simp
    · rw [hK0 b hb e]; simp
  have hfro : ∀ b, b < w.heap.size -> K b = [] -> K' b = [] /\ w.heap[b]? = w.heap[b]? := fun b hb e => ⟨hK0 b hb e, rfl⟩
  refine ⟨fun i => ?_, fun i t' hi => ?_, h.nt, h.df⟩
  · show ERep w K' R (z1Z fr.ob id root') (z0E (z2k (z5r id q) fr.tm) i) _
    rw [z1F _ rfl]
    refine (h.tm i).map _ fun x u hx => ?_
    cases x with
    | dead => trivial
    | k v => exact hx
    | t dep x =>
      cases dep with
      | none => exact ⟨TRep.fz hx.1 hfro (Nat.le_refl _), fun _ e => by cases e⟩
      | some i => exact ⟨TRep.fz hx.1 (fun b hb e => ⟨hdep i (hx.2 i rfl) b hb e, rfl⟩) (Nat.le_refl _), fun j e => hobs j (hx.2 j e)⟩
    | h i s =>
      obtain ⟨n1, t1, n2, n3⟩ := hx
      by_cases hc : i = id /\ (z1m q s).isSome = true
      · simp only [z5r, if_pos hc]; trivial
      · simp only [z5r, if_neg hc]
        by_cases h1 : i = id
        · subst h1
          rw [hroot] at n2; cases n2
          have hs : z1m q s = none := by
            cases hs : z1m q s with
            | none => rfl
            | some s => exact absurd ⟨rfl, by rw [hs]; rfl⟩ hc
          exact ⟨n1, root', by simp [z0e], z1a hupd (z1k.1 hs) n3⟩
        · exact ⟨n1, t1, by rw [hobi i h1]; exact n2, n3⟩
    | a i s off =>
      obtain ⟨hv, g, n1, n4, n5, t1, n2, n3⟩ := hx
      by_cases hc : i = id /\ (z1m q s).isSome = true
      · simp only [z5r, if_pos hc]; trivial
      · simp only [z5r, if_neg hc]
        by_cases h1 : i = id
        · subst h1
          rw [hroot] at n2; cases n2
          have hs : z1m q s = none := by
            cases hs : z1m q s with
            | none => rfl
            | some s => exact absurd ⟨rfl, by rw [hs]; rfl⟩ hc
          exact ⟨hv, g, n1, n4, n5, root', by simp [z0e], z1a hupd (z1k.1 hs) n3⟩
        · exact ⟨hv, g, n1, n4, n5, t1, by rw [hobi i h1]; exact n2, n3⟩
    | tf n cs => exact ⟨hx.1, TRep.fz hx.2 hfro (Nat.le_refl _)⟩
    | ea dep cs off =>
      obtain ⟨g, o, F, e1, e2, e3, e4, e5, e6⟩ := hx
      cases dep with
      | none => exact ⟨g, o, F, e1, hK0 g e3 e2, e3, e4, fun j t ht => TRep.fz (e5 j t ht) hfro (Nat.le_refl _), fun _ e => by cases e⟩
      | some i => exact ⟨g, o, F, e1, hdep i (e6 i rfl) g e3 e2, e3, e4, fun j t ht => TRep.fz (e5 j t ht) (fun b hb e => ⟨hdep i (e6 i rfl) b hb e, rfl⟩) (Nat.le_refl _), fun j e => hobs j (e6 j e)⟩
  · rw [z0e] at hi
    split at hi
    · rename_i e
      subst e; cases hi
      exact TRep.upd (h.ob id root hroot) (z0q id) hnav hupd ⟨hfro, fun b hb ⟨s, e, hs⟩ => ⟨by
        rw [hK b id s hb (by simpa [col] using e) (by rw [hroot]; rfl) (fun hc => hs hc.2)], rfl⟩, Nat.le_refl _⟩ ht
    · rename_i e
      have hne : i ≠ id := fun e' => e e'.symm
      exact (h.ob i t' hi).move (fun b s hb hc hKb => ⟨by rw [hK b i s hb (by simpa [col] using hKb) (by rw [hi]; rfl) (fun hc => hne hc.1), hKb], rfl⟩) hfro Iff.rfl (Nat.le_refl _)
def freezeKids (fr : Fr) (id : Nat) (p : List Nat) : Option Fr :=
  match z0v fr.ob id with
  | none => none
  | some root =>
    match sub root p with
    | some (.os sz n cs) => (match upd root p (.os sz n (cs.map z0A)) with
      | some root' => some { fr with tm := z2k (z5r id p) fr.tm, ob := z1Z fr.ob id root' }
      | none => none)
    | _ => none
def z4C (id : Nat) (p : List Nat) : z0a -> z0a
  | [] => []
  | h :: q => if h = id + 2 /\ (match z1m p q with | some (_ :: _) => true | _ => false) = true then [] else h :: q
theorem FRep.freezeKids {w : World} {K : Nat -> z0a} {R G : Nat -> Value} {fr fr' : Fr} {a : Act} {id : Nat} {p : List Nat} (h : FRep w K R G fr a) (ht : freezeKids fr id p = some fr') :
    ∃ K', FRep w K' R G fr' a /\ Step w K w K' := by
  unfold Proofs.YthbchhekejljjaaGreatDoor.freezeKids at ht
  split at ht
  case h_1 => cases ht
  case h_2 root hroot =>
  split at ht
  case h_2 => cases ht
  case h_1 sz n cs hsub =>
  split at ht
  case h_2 => cases ht
  case h_1 root' hupd =>
  cases ht
  obtain ⟨u, hnav, hrep⟩ := (h.ob id root hroot).sub (z0q id) hsub
  have z3S : ∀ (j : Nat) (s : List Nat), z4C id p ((id + 2) :: (p ++ j :: s)) = [] := fun j s => by
    simp [z4C, z1Y]
  have self : z4C id p ((id + 2) :: p) = (id + 2) :: p := by
    have := z1Y p []
    rw [List.append_nil] at this
    simp [z4C, this]
  have off : ∀ (i : Nat) (s : List Nat), ¬ (i = id /\ p <+: s) -> z4C id p ((i + 2) :: s) = (i + 2) :: s := fun i s hn => by
    by_cases h1 : i = id
    · have := z1k.2 (fun h2 => hn ⟨h1, h2⟩)
      simp [z4C, this]
    · simp [z4C, h1]
  refine ⟨fun b => z4C id p (K b), h.fill (u := u) (t := .os sz n (cs.map z0A)) hroot hnav hupd (fun b _ e => by simp only [e]; rfl) (fun b i s _ e _ hn => by simp only [e]; exact off i s hn) (fun b s _ e => ?_) ?_, rfl, rfl, rfl, Nat.le_refl _, fun b _ hc => ⟨?_, rfl⟩, .same rfl⟩
  · simp only [e]
    cases s with
    | nil => rw [List.append_nil, self]; exact .inr rfl
    | cons j s => exact .inl (z3S j s)
  · generalize hC : col id ++ p = cc at hrep ⊢
    cases hrep with
    | nil => exact .nil _ _
    | own _ g n cap size cs arr e fz F hfz hc0 hK hg hs hl hz hn hc hF hh =>
      refine .own cc g n cap sz _ arr e fz F hfz hc0 ?_ hg hs (by simpa using hl) hz hn hc (fun j hj => hF j (by simpa using hj)) (fun j t ht => ?_)
      · show z4C id p (K g) = cc
        rw [hK, ← hC]
        exact self
      · simp only [List.getElem?_map, Option.map_eq_some_iff] at ht
        obtain ⟨t0, ht0, rfl⟩ := ht
        refine (hh j t0 ht0).freeze (fun b q hb _ hKb => ⟨?_, rfl⟩) (fun b hb e => ⟨by simp only [e]; rfl, rfl⟩) (Nat.le_refl _) _
        simp only [hKb, ← hC]
        have := z3S j q
        simpa [col] using this
  · rcases hc with e | e <;> simp only [e] <;> simp [z4C]
end
section
def z5m : T -> Bool
  | .sc _ => true
  | .sl _ _ => true
  | .mr _ _ => true
  | .ms _ _ _ => true
  | .pr _ => true
  | .cl _ _ => true
  | _ => false
def zge (id : Nat) (p : List Nat) (j : Nat) : T -> A
  | .sc v => .t none (.sc v)
  | .sl n cs => .t none (.sl n cs)
  | .mr kk es => .t none (.mr kk es)
  | .ms kk ks cs => .t none (.ms kk ks cs)
  | .pr cs => .t none (.pr cs)
  | .cl f cs => .t none (.cl f cs)
  | .dead => .dead
  | _ => .h id (p ++ [j])
def z4X (id : Nat) (p : List Nat) (off : Nat) : List T -> List A
  | [] => []
  | s :: l => zge id p off s :: z4X id p (off + 1) l
theorem TRep.free {w : World} {K : Nat -> z0a} {c : z0a} {v : Value} {t : T} (h : TRep w K c v t) (hp : z5m t = true) : ∀ c', TRep w K c' v t := by
  cases h with
  | sc _ _ h => exact fun c' => .sc c' _ h
  | dead => cases hp
  | agg => cases hp
  | tup => cases hp
  | emp c0 a cap hc => exact fun c' => .emp c' _ _ hc
  | fro c0 g o n cap cs F hK hg hn hc hF h => exact fun c' => .fro c' g o n cap cs F hK hg hn hc hF h
  | nil => cases hp
  | own => cases hp
  | vr => cases hp
  | vo => cases hp
  | pr c0 g o cs F hK hg hF h => exact fun c' => .pr c' g o cs F hK hg hF h
  | mr c0 g kk es ents clock hK hg hh => exact fun c' => .mr c' g kk es ents clock hK hg hh
  | mp => cases hp
  | mt => cases hp
  | ms c0 g kk ks cs ents clock F hK hg hh h => exact fun c' => .ms c' g kk ks cs ents clock F hK hg hh h
  | cl c0 f vs cs F hl hF h => exact fun c' => .cl c' f vs cs F hl hF h
theorem z5s {w : World} {K : Nat -> z0a} {R : Nat -> Value} {ob : List (Nat × T)} {id : Nat} {p : List Nat} {root box s : T} {hv : Value} {j : Nat} (hroot : z0v ob id = some root) (hsub : sub root p = some box)
    (hnav : nav w (R id) p = some hv) (hr : TRep w K (col id ++ p) hv box) (hk : zaz box j = some s) : ∃ v, z6s w hv j = some v /\ ARep w K R ob (zge id p j s) v := by
  obtain ⟨v, e1, r⟩ := hr.kid (by simp [col]) hk
  refine ⟨v, e1, ?_⟩
  have hh : ARep w K R ob (.h id (p ++ [j])) v := by
    refine ⟨by rw [z1C hnav]; simp [nav, e1], root, hroot, ?_⟩
    rw [z1j hsub]; simp [sub, hk]
  unfold zge
  split
  · exact ⟨r.free rfl [], fun _ e => by cases e⟩
  · exact ⟨r.free rfl [], fun _ e => by cases e⟩
  · exact ⟨r.free rfl [], fun _ e => by cases e⟩
  · exact ⟨r.free rfl [], fun _ e => by cases e⟩
  · exact ⟨r.free rfl [], fun _ e => by cases e⟩
  · exact ⟨r.free rfl [], fun _ e => by cases e⟩
  · trivial
  · exact hh
theorem z3Z {id : Nat} {p : List Nat} : ∀ {l : List T} {off j : Nat}, (z4X id p off l)[j]? = (l[j]?).map (zge id p (off + j))
  | [], off, j => by simp [z4X]
  | s :: l, off, 0 => by simp [z4X]
  | s :: l, off, j + 1 => by
    simp only [z4X, List.getElem?_cons_succ]
    rw [z3Z]
    congr 2; omega
theorem z2C {id : Nat} {p : List Nat} : ∀ {l : List T} {off : Nat}, (z4X id p off l).length = l.length
  | [], off => rfl
  | s :: l, off => by simp [z4X, z2C]
def z5S : T -> Bool
  | .sc _ => true
  | .sl _ _ => true
  | .os _ _ _ => true
  | .mp _ _ => true
  | .mr _ _ => true
  | .mt _ _ _ => true
  | .ms _ _ _ => true
  | .pr _ => true
  | .cl _ _ => true
  | _ => false
def zi6 : Option T -> Bool
  | some (.tup _) => true
  | some (.agg _) => true
  | _ => false
def setT (fr : Fr) (id : Nat) (q : List Nat) (t : T) : Option Fr :=
  match z0v fr.ob id with
  | none => none
  | some root => match upd root q t with
    | none => none
    | some root' => some { fr with tm := z2k (z5r id q) fr.tm, ob := z1Z fr.ob id root' }
def moveT (fr : Fr) (e id : Nat) (q : List Nat) : Option Fr :=
  if e = id then none else
  match z0v fr.ob e with
  | none => none
  | some t => setT { fr with tm := z2k (kill e) fr.tm, ob := zao fr.ob e } id q t
def mvA (e id : Nat) (q : List Nat) : A -> A
  | .h i p => if i = e then .h id (q ++ p) else z5r id q (kill e (.h i p))
  | .a i p o => if i = e then .a id (q ++ p) o else z5r id q (kill e (.a i p o))
  | x => z5r id q (kill e x)
def moveR (fr : Fr) (e id : Nat) (q : List Nat) : Option Fr :=
  match moveT fr e id q with
  | none => none
  | some f => some { f with tm := z2k (mvA e id q) fr.tm }
def znu : Option T -> Bool
  | some (.os sz _ _) => decide (1 < sz)
  | _ => false
def zcW (mv : Bool) (fr : Fr) (id : Nat) (q : List Nat) (r : Nat) : Option Fr :=
  match z0E fr.tm r with
  | .one (.k v) => setT fr id q (z4f true v)
  | .one (.t none x) => setT fr id q x
  | .one (.t (some i) x) => (match z1K fr i [] with | some fr' => setT fr' id q x | none => none)
  | .one (.h e p) =>
    if p = [] then (if znu (z0v fr.ob e) = true then moveR fr e id q else moveT fr e id q)
    else if mv || zi6 (z0v fr.ob e) then (match z5C fr e p r with | some fr' => moveT fr' r id q | none => none)
    else match z0v fr.ob e with
      | none => none
      | some root => match sub root p with
        | none => none
        | some t => match z1K fr e p with | some fr' => setT fr' id q (z0A t) | none => none
  | .one (.a e [] 0) => (match z0v fr.ob e with | some (.vr _) => moveR fr e id q | _ => none)
  | _ => none
def mvK (e id : Nat) (q : List Nat) : z0a -> z0a
  | [] => []
  | h :: s => if h = e + 2 then (id + 2) :: (q ++ s) else h :: s
theorem z6x {w : World} {K : Nat -> z0a} (e id : Nat) (q : List Nat) : Step w K w (fun b => mvK e id q (K b)) :=
  ⟨rfl, rfl, rfl, Nat.le_refl _, fun b _ h => ⟨by
    show mvK e id q (K b) = K b
    rcases h with h | h <;> rw [h] <;> simp [mvK], rfl⟩, .same rfl⟩
def KMc (M : Nat -> Bool) (c c' : z0a) : Prop := (c = [] ∨ ∃ i s, c = (i + 2) :: s /\ M i = false) -> (c' = [] ∨ ∃ i s, c' = (i + 2) :: s /\ M i = false)
theorem KMc.rfl {M : Nat -> Bool} {c : z0a} : KMc M c c := fun h => h
theorem KMc.trans {M : Nat -> Bool} {c c1 c2 : z0a} (h : KMc M c c1) (k : KMc M c1 c2) : KMc M c c2 := fun x => k (h x)
theorem zhY {M : Nat -> Bool} {e id : Nat} {q : List Nat} {c : z0a} (hM : M id = false) : KMc M c (mvK e id q c) := fun h => by
  rcases h with rfl | ⟨i, s, rfl, hi⟩
  · exact .inl rfl
  · right
    by_cases hie : i + 2 = e + 2
    · exact ⟨id, q ++ s, by simp [mvK, hie], hM⟩
    · exact ⟨i, s, by simp only [mvK]; rw [if_neg hie], hi⟩
theorem zjJ {M : Nat -> Bool} {id : Nat} {p : List Nat} {c : z0a} : KMc M c (fzK id p c) := fun h => by
  rcases h with rfl | ⟨i, s, rfl, hi⟩
  · exact .inl rfl
  · by_cases hie : i + 2 = id + 2 /\ (z1m p s).isSome = true
    · left; simp only [fzK]; rw [if_pos hie]
    · exact .inr ⟨i, s, by simp only [fzK]; rw [if_neg hie], hi⟩
theorem FRep.setT {w : World} {K : Nat -> z0a} {R G : Nat -> Value} {fr fr' : Fr} {a : Act} {id : Nat} {q : List Nat} {t : T} {u : Value} (h : FRep w K R G fr a) (hnav : nav w (R id) q = some u)
    (hs : setT fr id q t = some fr') (ht : ∀ c, TRep w K c u t) : FRep w K R G fr' a := by
  unfold Proofs.YthbchhekejljjaaGreatDoor.setT at hs
  split at hs
  case h_1 => cases hs
  case h_2 root hroot =>
  split at hs
  case h_1 => cases hs
  case h_2 root' hupd =>
  cases hs
  exact h.fill hroot hnav hupd (fun b _ e => e) (fun b i s _ _ _ _ => rfl) (fun b s _ e => .inr (by rw [e]; rfl)) (ht _)
theorem FRep.moveT {w : World} {K : Nat -> z0a} {R G : Nat -> Value} {fr fr' : Fr} {a : Act} {e id : Nat} {q : List Nat} {u : Value} (h : FRep w K R G fr a) (hnav : nav w (R id) q = some u)
    (hs : moveT fr e id q = some fr') (hu : R e = u) : FRep w (fun b => mvK e id q (K b)) R G fr' a := by
  unfold Proofs.YthbchhekejljjaaGreatDoor.moveT at hs
  split at hs
  · cases hs
  rename_i hne
  split at hs
  case h_1 => cases hs
  case h_2 t ht =>
  unfold Proofs.YthbchhekejljjaaGreatDoor.setT at hs
  split at hs
  case h_1 => cases hs
  case h_2 root hroot =>
  split at hs
  case h_1 => cases hs
  case h_2 root' hupd =>
  cases hs
  have hne' : id ≠ e := fun e' => hne e'.symm
  refine (h.drop e).fill (K' := fun b => mvK e id q (K b)) hroot hnav hupd (fun b _ e0 => by show mvK e id q (K b) = []; rw [e0]; rfl) (fun b i s _ e1 e2 _ => ?_) (fun b s _ e1 => .inr ?_) ?_
  · show mvK e id q (K b) = K b
    have hie : i ≠ e := by
      intro e'
      subst e'
      simp [z4q] at e2
    rw [e1]; simp [mvK, hie]
  · show (mvK e id q (K b)).head? = _
    rw [e1]; simp [mvK, hne']
  · have := h.ob e t ht
    rw [hu] at this
    refine this.move (fun b s hb hc hKb => ⟨?_, rfl⟩) (fun b hb e0 => ⟨by show mvK e id q (K b) = []; rw [e0]; rfl, rfl⟩) (by simp [col]) (Nat.le_refl _)
    show mvK e id q (K b) = _
    rw [hKb]; simp [mvK, col]
theorem FRep.moveR {w : World} {K : Nat -> z0a} {R G : Nat -> Value} {fr fr' : Fr} {a : Act} {e id : Nat} {q : List Nat} {u : Value} (h : FRep w K R G fr a) (hnav : nav w (R id) q = some u)
    (hs : moveR fr e id q = some fr') (hu : R e = u) : FRep w (fun b => mvK e id q (K b)) R G fr' a := by
  unfold Proofs.YthbchhekejljjaaGreatDoor.moveR at hs
  split at hs
  case h_1 => cases hs
  case h_2 f hf =>
  cases hs
  have h1 := h.moveT hnav hf hu
  have hf' := hf
  unfold Proofs.YthbchhekejljjaaGreatDoor.moveT at hf
  split at hf
  · cases hf
  rename_i hne
  split at hf
  case h_1 => cases hf
  case h_2 t ht =>
  unfold Proofs.YthbchhekejljjaaGreatDoor.setT at hf
  split at hf
  case h_1 => cases hf
  case h_2 root hroot =>
  split at hf
  case h_1 => cases hf
  case h_2 root' hupd =>
  cases hf
  have hsub : sub root' q = some t := by have := z2g (s := []) hupd; simpa [sub] using this
  have hone : ∀ x v, ARep w K R fr.ob x v -> ARep w (fun b => mvK e id q (K b)) R (z1Z (zao fr.ob e) id root') (z5r id q (kill e x)) v -> ARep w (fun b => mvK e id q (K b)) R (z1Z (zao fr.ob e) id root') (mvA e id q x) v := fun x v hx hk => by
    cases x with
    | h i p =>
      simp only [mvA]
      by_cases hi : i = e
      · subst hi
        rw [if_pos rfl]
        obtain ⟨n1, t0, n2, n3⟩ := hx
        rw [ht] at n2; cases n2
        refine ⟨by rw [z1C hnav, ← hu]; exact n1, root', by simp [z0e], by rw [z1j hsub]; exact n3⟩
      · rw [if_neg hi]; exact hk
    | a i p o =>
      simp only [mvA]
      by_cases hi : i = e
      · subst hi
        rw [if_pos rfl]
        obtain ⟨hv, g, n1, n4, n5, t0, n2, n3⟩ := hx
        rw [ht] at n2; cases n2
        exact ⟨hv, g, by rw [z1C hnav, ← hu]; exact n1, n4, n5, root', by simp [z0e], by rw [z1j hsub]; exact n3⟩
      · rw [if_neg hi]; exact hk
    | dead => exact hk
    | k v => exact hk
    | t dep x => exact hk
    | ea dep cs off => exact hk
    | tf n cs => exact hk
  have hkd : kill e .dead = .dead := rfl
  refine ⟨fun i => ?_, h1.ob, h1.nt, h1.df⟩
  have h0 := h.tm i
  have h2 := h1.tm i
  show ERep w _ R (z1Z (zao fr.ob e) id root') (z0E (z2k (mvA e id q) fr.tm) i) _
  have h2' : ERep w (fun b => mvK e id q (K b)) R (z1Z (zao fr.ob e) id root') (z0E (z2k (z5r id q) (z2k (kill e) fr.tm)) i) (z3M a G i) := h2
  rw [z1F _ rfl, z1F _ rfl] at h2'
  rw [z1F _ rfl]
  generalize z0E fr.tm i = x at h0 h2'
  cases x with
  | one x => exact hone x _ h0 h2'
  | ag xs =>
    obtain ⟨arr, a1, a2, a3⟩ := h0
    obtain ⟨arr', b1, b2, b3⟩ := h2'
    rw [a1] at b1; cases b1
    refine ⟨arr, a1, by simpa using a2, fun j y hy => ?_⟩
    simp only [List.getElem?_map, Option.map_eq_some_iff] at hy
    obtain ⟨z, hz, rfl⟩ := hy
    exact hone z _ (a3 j z hz) (b3 j _ (by simp [hz]))
theorem FRep.plug {w : World} {K : Nat -> z0a} {R G : Nat -> Value} {fr fr' : Fr} {a : Act} {mv : Bool} {id : Nat} {q : List Nat} {r : Nat} (h : FRep w K R G fr a) (hnav : nav w (R id) q = some (z3M a G r)) (hr : r ≠ id)
    (hp : zcW mv fr id q r = some fr') : ∃ K' R', FRep w K' R' G fr' a /\ Step w K w K' /\ (∀ i, i ≠ r -> R' i = R i) /\ fr'.nt = fr.nt /\ ((∀ e p, z0E fr.tm r = .one (.h e p) -> p = []) -> ∀ M : Nat -> Bool, M id = false -> ∀ b, KMc M (K b) (K' b)) := by
  have hreg := h.tm r
  unfold zcW at hp
  have hnt : ∀ {fr fr' : Fr} {id q t}, Proofs.YthbchhekejljjaaGreatDoor.setT fr id q t = some fr' -> fr'.nt = fr.nt := fun {fr fr' id q t} hs => by
    unfold Proofs.YthbchhekejljjaaGreatDoor.setT at hs
    split at hs
    · cases hs
    · split at hs
      · cases hs
      · cases hs; rfl
  have hntm : ∀ {fr fr' : Fr} {e id q}, Proofs.YthbchhekejljjaaGreatDoor.moveT fr e id q = some fr' -> fr'.nt = fr.nt := fun {fr fr' e id q} hs => by
    unfold Proofs.YthbchhekejljjaaGreatDoor.moveT at hs
    split at hs
    · cases hs
    · split at hs
      · cases hs
      · have := hnt hs; exact this
  have hntR : ∀ {fr fr' : Fr} {e id q}, Proofs.YthbchhekejljjaaGreatDoor.moveR fr e id q = some fr' -> fr'.nt = fr.nt := fun {fr fr' e id q} hs => by
    unfold Proofs.YthbchhekejljjaaGreatDoor.moveR at hs
    split at hs
    · cases hs
    · rename_i f hf
      cases hs
      show f.nt = fr.nt
      exact hntm hf
  have hntf : ∀ {fr fr' : Fr} {id p}, z1K fr id p = some fr' -> fr'.nt = fr.nt := fun {fr fr' id p} hs => by
    unfold z1K at hs
    split at hs
    · cases hs
    · split at hs
      · cases hs
      · split at hs
        · cases hs
        · cases hs; rfl
  have hntt : ∀ {fr fr' : Fr} {id p d}, z5C fr id p d = some fr' -> fr'.nt = fr.nt := fun {fr fr' id p d} hs => by
    unfold z5C at hs
    split at hs
    · cases hs
    · split at hs
      · cases hs
      · split at hs
        · cases hs; rfl
        · split at hs
          · cases hs
          · cases hs; rfl
  split at hp
  · rename_i v hg
    rw [hg] at hreg
    have hreg' : z3M a G r = v := hreg
    exact ⟨K, R, h.setT hnav hp (fun c => by rw [hreg']; exact z2u w K true c v), Step.refl _ _, fun _ _ => rfl, hnt hp, fun _ _ _ _ => KMc.rfl⟩
  · rename_i x hg
    rw [hg] at hreg
    exact ⟨K, R, h.setT hnav hp (fun c => hreg.1.any rfl c), Step.refl _ _, fun _ _ => rfl, hnt hp, fun _ _ _ _ => KMc.rfl⟩
  · rename_i i x hg
    rw [hg] at hreg
    split at hp
    · rename_i fr1 hf
      obtain ⟨h1, h2⟩ := h.freeze hf
      refine ⟨_, R, h1.setT hnav hp (fun c => ?_), z4r i [], fun _ _ => rfl, (hnt hp).trans (hntf hf), fun _ _ _ _ => zjJ⟩
      refine (TRep.fz hreg.1 (fun b _ e => ⟨?_, rfl⟩) (Nat.le_refl _)).any rfl c
      show fzK i [] (K b) = []
      simp only [frz] at e
      split at e
      · rename_i hh
        cases hk : K b with
        | nil => rfl
        | cons a s => rw [hk] at hh; simp at hh; subst hh; simp [fzK, z1m]
      · rw [e]; rfl
    · cases hp
  · rename_i e p hg
    rw [hg] at hreg
    obtain ⟨n1, t0, n2, n3⟩ := hreg
    split at hp
    · rename_i hp0
      subst hp0
      simp only [nav, Option.some.injEq] at n1
      split at hp
      · exact ⟨_, R, h.moveR hnav hp n1, z6x _ _ _, fun _ _ => rfl, hntR hp, fun _ _ hM _ => zhY hM⟩
      · exact ⟨_, R, h.moveT hnav hp n1, z6x _ _ _, fun _ _ => rfl, hntm hp, fun _ _ hM _ => zhY hM⟩
    · split at hp
      · split at hp
        · rename_i fr1 hf
          obtain ⟨vp, t, m1, m2, m3⟩ := h.take hf
          rw [n1] at m1; cases m1
          have hidr : id ≠ r := fun e' => hr e'.symm
          have := m3.moveT (u := z3M a G r) (by rw [show z3P R r (z3M a G r) id = R id by simp [z3P, hidr]]; exact hnav) hp (by simp [z3P])
          exact ⟨_, _, this, (z6v e p r).trans (z6x _ _ _), fun i hi => by simp [z3P, hi], (hntm hp).trans (hntt hf), fun hno => absurd (hno e p hg) (by assumption)⟩
        · cases hp
      · split at hp
        · cases hp
        rename_i root hroot
        split at hp
        · cases hp
        rename_i t hsub
        split at hp
        · rename_i fr1 hf
          obtain ⟨h1, h2⟩ := h.freeze hf
          exact ⟨_, R, h1.setT hnav hp (fun c => h2 root t _ hroot hsub n1 c), z4r e p, fun _ _ => rfl, (hnt hp).trans (hntf hf), fun _ _ _ _ => zjJ⟩
        · cases hp
  · rename_i e hg
    rw [hg] at hreg
    split at hp
    · rename_i cs hob
      obtain ⟨hv, g, n1, n4, n5, _⟩ := hreg
      simp only [nav, Option.some.injEq] at n1
      have hr0 := h.ob e _ hob
      rw [n1] at hr0
      have hRe : R e = z3M a G r := by
        rw [n5, n1]
        cases hr0 with
        | vr c g' cs arr e' fz F hfz hc0 hK hg' hl hF hh =>
          simp only [z2n, Option.some.injEq] at n4
          rw [n4]
      exact ⟨_, R, h.moveR hnav hp hRe, z6x _ _ _, fun _ _ => rfl, hntR hp, fun _ _ hM _ => zhY hM⟩
    · cases hp
  · cases hp
def plugL (mv : Bool) (fr : Fr) (id : Nat) : List (List Nat × Nat) -> Option Fr
  | [] => some fr
  | (q, r) :: l => match zcW mv fr id q r with | some fr' => plugL mv fr' id l | none => none
def zbN (fr : Fr) (id : Nat) (q : List Nat) (r : Nat) : Option Fr :=
  match z0E fr.tm r with
  | .one (.h _ (_ :: _)) => none
  | _ => zcW false fr id q r
theorem z9U {fr fr' : Fr} {id : Nat} {q : List Nat} {r : Nat} (h : zbN fr id q r = some fr') : zcW false fr id q r = some fr' /\ ∀ e p, z0E fr.tm r = .one (.h e p) -> p = [] := by
  unfold zbN at h
  split at h
  · cases h
  · rename_i hn
    refine ⟨h, fun e p hg => ?_⟩
    cases p with
    | nil => rfl
    | cons a s => exact absurd hg (hn e a s)
def plugL' (fr : Fr) (id : Nat) : List (List Nat × Nat) -> Option Fr
  | [] => some fr
  | (q, r) :: l => match zbN fr id q r with | some fr' => plugL' fr' id l | none => none
theorem z9T {id : Nat} : ∀ {l : List (List Nat × Nat)} {fr fr' : Fr}, plugL' fr id l = some fr' -> plugL false fr id l = some fr'
  | [], fr, fr', h => h
  | (q, r) :: l, fr, fr', h => by
    simp only [plugL'] at h
    split at h
    · rename_i fr1 h1
      simp only [Proofs.YthbchhekejljjaaGreatDoor.plugL, (z9U h1).1]
      exact z9T h
    · cases h
theorem FRep.plugL {mv : Bool} {w : World} {G : Nat -> Value} {a : Act} {id : Nat} : ∀ {l : List (List Nat × Nat)} {K : Nat -> z0a} {R : Nat -> Value} {fr fr' : Fr}, FRep w K R G fr a ->
    (∀ q r, (q, r) ∈ l -> nav w (R id) q = some (z3M a G r) /\ r ≠ id) -> plugL mv fr id l = some fr' -> ∃ K' R', FRep w K' R' G fr' a /\ Step w K w K' /\ fr'.nt = fr.nt /\ (∀ i, (∀ q r, (q, r) ∈ l -> i ≠ r) -> R' i = R i) /\ (mv = false -> plugL' fr id l = some fr' -> ∀ M : Nat -> Bool, M id = false -> ∀ b, KMc M (K b) (K' b))
  | [], K, R, fr, fr', h, hl, hp => by
    cases hp
    exact ⟨K, R, h, Step.refl _ _, rfl, fun _ _ => rfl, fun _ _ _ _ _ => KMc.rfl⟩
  | (q, r) :: l, K, R, fr, fr', h, hl, hp => by
    simp only [Proofs.YthbchhekejljjaaGreatDoor.plugL] at hp
    split at hp
    · rename_i fr1 h1
      obtain ⟨m1, m2⟩ := hl q r (by simp)
      obtain ⟨K1, R1, a1, a2, a3, a4, a5⟩ := h.plug m1 m2 h1
      obtain ⟨K2, R2, b1, b2, b3, b4, b5⟩ := FRep.plugL (l := l) a1 (fun q' r' hm => by
        obtain ⟨c1, c2⟩ := hl q' r' (by simp [hm])
        exact ⟨by rw [a3 id (fun e => m2 e.symm)]; exact c1, c2⟩) hp
      exact ⟨K2, R2, b1, a2.trans b2, b3.trans a4, fun i hi => (b4 i fun q' r' hm => hi q' r' (by simp [hm])).trans (a3 i (hi q r (by simp))), fun hmv hp' M hM b => by
        subst hmv
        simp only [Proofs.YthbchhekejljjaaGreatDoor.plugL'] at hp'
        split at hp'
        · rename_i fr2 h2
          obtain ⟨c1, c2⟩ := z9U h2
          rw [h1] at c1; cases c1
          exact (a5 c2 M hM b).trans (b5 rfl hp' M hM b)
        · cases hp'⟩
    · cases hp
def putR (tm : List (Nat × E)) (base : Nat) : List A -> List (Nat × E)
  | [] => tm
  | x :: xs => putR (z6Y tm base (.one x)) (base + 1) xs
def gv (G : Nat -> Value) (base : Nat) (us : Nat -> Value) (n : Nat) (i : Nat) : Value := if base <= i /\ i < base + n then us (i - base) else G i
theorem FRep.putR {w : World} {K : Nat -> z0a} {R : Nat -> Value} {a : Act} : ∀ {xs : List A} {base : Nat} {G : Nat -> Value} {fr : Fr} {us : Nat -> Value}, FRep w K R G fr a -> fr.nt <= base -> (∀ j x, xs[j]? = some x -> ARep w K R fr.ob x (us j)) ->
    FRep w K R (gv G base us xs.length) { fr with tm := putR fr.tm base xs } a
  | [], base, G, fr, us, h, hb, hx => by
    have : gv G base us 0 = G := by
      funext i; simp only [gv]; rw [if_neg (by omega)]
    simp only [List.length_nil, this]
    exact h
  | x :: xs, base, G, fr, us, h, hb, hx => by
    have h1 := h.putG (d := base) (x := .one x) (v := us 0) hb (hx 0 x rfl)
    have h2 := FRep.putR (xs := xs) (base := base + 1) (us := fun j => us (j + 1)) h1 (by show fr.nt <= base + 1; omega) (fun j y hy => hx (j + 1) y (by simpa using hy))
    have e : gv (fun i => if i = base then us 0 else G i) (base + 1) (fun j => us (j + 1)) xs.length = gv G base us (x :: xs).length := by
      funext i
      simp only [gv, List.length_cons]
      by_cases h1 : i = base
      · subst h1
        rw [if_neg (by omega), if_pos rfl, if_pos (by omega)]; simp
      · by_cases h2 : base + 1 <= i /\ i < base + 1 + xs.length
        · rw [if_pos h2, if_pos (by omega)]; congr 1; omega
        · rw [if_neg h2, if_neg h1, if_neg (by omega)]
    rw [e] at h2
    exact h2
def z4g (fr : Fr) : A -> Bool
  | .k v => v.oneCell'
  | .t _ x => z5S x
  | .h id p => match z0v fr.ob id with | some root => (match sub root p with | some t => z5S t | none => false) | none => false
  | .ea none _ _ => true
  | .a _ _ _ => true
  | _ => false
def explode (fr : Fr) : E -> Option (List A)
  | .ag xs => some xs
  | .one (.k (.agg vs)) => some (vs.toList.map A.k)
  | .one (.t dep (.agg cs)) => some (cs.map (A.t dep))
  | .one (.h id p) => match z0v fr.ob id with
    | some root => (match sub root p with | some (.agg cs) => some (z4X id p 0 cs) | _ => none)
    | none => none
  | _ => none
def cellsE (fr : Fr) (agg : Bool) (e : E) : Option (List A) := if agg then explode fr e else match e with | .one x => some [x] | _ => none
theorem zhC {v : Value} (h : scB v = true) : v.oneCell' = true := by
  cases v <;> first | rfl | (simp [scB] at h)
theorem TRep.one {w : World} {K : Nat -> z0a} {c : z0a} {v : Value} {t : T} (h : TRep w K c v t) (hc : z5S t = true) : v.oneCell' = true := by
  cases h with
  | sc _ _ h => exact zhC h
  | dead => cases hc
  | agg => cases hc
  | tup => cases hc
  | emp => rfl
  | fro => rfl
  | nil => rfl
  | own => rfl
  | vr => cases hc
  | mr => rfl
  | vo => cases hc
  | pr => rfl
  | mp => rfl
  | mt => rfl
  | ms => rfl
  | cl => rfl
theorem FRep.one {w : World} {K : Nat -> z0a} {R G : Nat -> Value} {fr : Fr} {a : Act} (h : FRep w K R G fr a) {x : A} {u : Value} (hx : ARep w K R fr.ob x u) (hc : z4g fr x = true) : u.oneCell' = true := by
  cases x with
  | dead => cases hc
  | k v => obtain rfl : u = v := hx; exact hc
  | t dep x => exact hx.1.one hc
  | h id p =>
    obtain ⟨n1, t, n2, n3⟩ := hx
    obtain ⟨t', ht'⟩ := Option.isSome_iff_exists.1 n3
    obtain ⟨v', e1, r⟩ := (h.ob id t n2).sub (z0q id) ht'
    rw [n1] at e1; cases e1
    simp only [z4g, n2, ht'] at hc
    exact r.one hc
  | a id p off =>
    obtain ⟨hv, g, _, _, n5, _⟩ := hx
    rw [n5]; rfl
  | ea dep cs off =>
    obtain ⟨g, o, F, h1, _⟩ := hx
    rw [h1]; rfl
  | tf => cases hc
theorem FRep.explode {w : World} {K : Nat -> z0a} {R G : Nat -> Value} {fr : Fr} {a : Act} (h : FRep w K R G fr a) {e : E} {u : Value} {xs : List A} (he : ERep w K R fr.ob e u) (hx : explode fr e = some xs) :
    ∃ arr : Array Value, u = .agg arr /\ arr.size = xs.length /\ ∀ j x, xs[j]? = some x -> ARep w K R fr.ob x (arr.getD j undef) := by
  unfold Proofs.YthbchhekejljjaaGreatDoor.explode at hx
  split at hx
  · cases hx
    exact he
  · rename_i vs
    cases hx
    obtain rfl : u = .agg vs := he
    refine ⟨vs, rfl, by simp, fun j x hj => ?_⟩
    simp only [List.getElem?_map, Option.map_eq_some_iff] at hj
    obtain ⟨v, hv, rfl⟩ := hj
    show vs.getD j undef = v
    simp only [Array.getElem?_toList] at hv
    simp [Array.getD_eq_getD_getElem?, hv]
  · rename_i dep cs
    cases hx
    obtain ⟨h1, h2⟩ := he
    cases h1 with
    | agg c vs cs F hl hF h =>
      refine ⟨vs, rfl, by simpa using hl, fun j x hj => ?_⟩
      simp only [List.getElem?_map, Option.map_eq_some_iff] at hj
      obtain ⟨t, ht, rfl⟩ := hj
      have hlt := (List.getElem?_eq_some_iff.1 ht).1
      rw [Array.getD_eq_getD_getElem?, hF j hlt]
      exact ⟨h j t ht, h2⟩
  · rename_i id p
    split at hx
    · rename_i root hroot
      split at hx
      · rename_i cs hs
        cases hx
        obtain ⟨n1, t, n2, n3⟩ := he
        obtain ⟨v', e1, r⟩ := (h.ob id root hroot).sub (z0q id) hs
        rw [n1] at e1; cases e1
        have hkid := fun j s (hs' : cs[j]? = some s) => z5s (R := R) hroot hs n1 r (j := j) (s := s) hs'
        cases r with
        | agg c vs cs F hl hF hh =>
          refine ⟨vs, rfl, by rw [z2C]; exact hl, fun j x hj => ?_⟩
          rw [z3Z, Nat.zero_add] at hj
          cases hc : cs[j]? with
          | none => rw [hc] at hj; cases hj
          | some s =>
            rw [hc] at hj; cases hj
            obtain ⟨v, k1, k2⟩ := hkid j s hc
            have hlt := (List.getElem?_eq_some_iff.1 hc).1
            simp only [z6s, hF j hlt, Option.some.injEq] at k1
            rw [Array.getD_eq_getD_getElem?, hF j hlt, Option.getD_some, k1]
            exact k2
      · cases hx
    · cases hx
  · cases hx
theorem FRep.cellsE {w : World} {K : Nat -> z0a} {R G : Nat -> Value} {fr : Fr} {a : Act} (h : FRep w K R G fr a) {agg : Bool} {e : E} {u : Value} {xs : List A} (he : ERep w K R fr.ob e u) (hx : cellsE fr agg e = some xs)
    (hc : xs.all (z4g fr) = true) : u.cells.size = xs.length /\ (∀ j x, xs[j]? = some x -> ARep w K R fr.ob x (u.cells.getD j undef)) /\ (∀ v ∈ u.cells.toList, v.oneCell' = true) := by
  have key : ∀ arr : Array Value, arr.size = xs.length -> (∀ j x, xs[j]? = some x -> ARep w K R fr.ob x (arr.getD j undef)) -> ∀ v ∈ arr.toList, v.oneCell' = true := by
    intro arr h1 h2 v hv
    obtain ⟨j, hj, rfl⟩ := List.getElem_of_mem hv
    have hj' : j < arr.size := by simpa using hj
    have hjx : j < xs.length := by omega
    have := h2 j xs[j] (List.getElem?_eq_getElem hjx)
    have h3 := h.one this (List.all_eq_true.1 hc _ (List.getElem_mem hjx))
    simpa [Array.getD_eq_getD_getElem?, hj'] using h3
  unfold Proofs.YthbchhekejljjaaGreatDoor.cellsE at hx
  split at hx
  · obtain ⟨arr, e1, e2, e3⟩ := h.explode he hx
    subst e1
    exact ⟨e2, e3, key arr e2 e3⟩
  · split at hx
    · rename_i x
      cases hx
      have hone := h.one (u := u) he (by simpa using hc)
      have hcells : u.cells = #[u] := by
        cases u <;> first | rfl | (simp [Value.oneCell'] at hone)
      rw [hcells]
      refine ⟨rfl, fun j x' hj => ?_, fun v hv => ?_⟩
      · match j, hj with
        | 0, hj => simp at hj; subst hj; exact he
        | j + 1, hj => simp at hj
      · simp at hv; subst hv; exact hone
    · cases hx
end
section
def z1O : TypeDesc -> Bool
  | .struct _ => true
  | .array _ _ => true
  | _ => false
structure TyI where
  u : TypeDesc
  size : Nat
  bytes : Nat
  zero : Option (List T)
def zg6 (P : Program) : Nat -> TypeId -> List Nat
  | 0, _ => []
  | n + 1, t => match P.underlying t, P.info? t with
    | some (.slice el), _ => [match P.info? el with | some i => i.size | none => 0]
    | some (.struct fs), _ => fs.toList.flatMap fun f => zg6 P n f.type
    | some (.array len el), _ => (List.replicate len (zg6 P n el)).flatten
    | some _, some i => List.replicate i.size 0
    | _, _ => []
def z0z (P : Program) (t : TypeId) : Option TyI :=
  match P.underlying t, P.info? t with
  | some u, some i => some ⟨u, i.size, i.bytes, match i.zero with | some z => some (zTs (zg6 P 6 t) z.cells.toList) | none => none⟩
  | _, _ => none
theorem z0L {P : Program} {t : TypeId} {i : TyI} (h : z0z P t = some i) : P.underlying t = some i.u /\ ∃ j, P.info? t = some j /\ j.size = i.size /\ j.bytes = i.bytes /\ (match j.zero with | some z => some (zTs (zg6 P 6 t) z.cells.toList) | none => none) = i.zero := by
  unfold z0z at h
  split at h
  · rename_i u j h1 h2
    cases h
    exact ⟨h1, j, h2, rfl, rfl, rfl⟩
  · cases h
section
variable {P : Program}
theorem z0s {t : TypeId} {i : TyI} (h : z0z P t = some i) (w : World) : (underlying t).run P w = .ok i.u w := by
  simp [underlying, (z0L h).1]
theorem z3f {t : TypeId} {i : TyI} (h : z0z P t = some i) (w : World) : (sizeOf t).run P w = .ok i.size w := by
  obtain ⟨h1, j, h2, h3, _⟩ := z0L h
  simp [sizeOf, typeInfo, h2, h3]
theorem z7a {t : TypeId} {i : TyI} (h : z0z P t = some i) (w : World) : (isAgg t).run P w = .ok (z1O i.u) w := by
  have := z0s h w
  simp only [isAgg, Sem.run_bind, this, Result.andThen_ok]
  cases i.u <;> rfl
end
def rdV : E -> Option Value
  | .one (.t _ (.sc v)) => some v
  | .one (.k v) => if scB v then some v else none
  | _ => none
def scE (v : Value) : E := .one (.t none (.sc v))
theorem z0n {w : World} {K : Nat -> z0a} {R : Nat -> Value} {ob : List (Nat × T)} {e : E} {u v : Value} (h : ERep w K R ob e u) (hr : rdV e = some v) : u = v /\ scB v = true := by
  unfold rdV at hr
  split at hr
  · cases hr
    have h1 : TRep w _ [] u (.sc v) := h.1
    cases h1 with
    | sc _ _ h2 => exact ⟨rfl, h2⟩
  · split at hr
    · rename_i hs
      cases hr; exact ⟨h, hs⟩
    · cases hr
  · cases hr
theorem z0N {w : World} {K : Nat -> z0a} {R : Nat -> Value} {ob : List (Nat × T)} {v : Value} (h : scB v = true) : ERep w K R ob (scE v) v := ⟨.sc _ _ h, fun _ e => by cases e⟩
def z2l (op : BinOp) (k : IntKind) (a b : Int) : Option Value :=
  match op with
  | .add => some (.int k (k.wrap (a + b)))
  | .sub => some (.int k (k.wrap (a - b)))
  | .mul => some (.int k (k.wrap (a * b)))
  | .quo => if b = 0 then none else some (.int k (k.wrap (a.tdiv b)))
  | .rem => if b = 0 then none else some (.int k (a.tmod b))
  | .and => some (.int k (k.wrap (BitVec.ofInt k.bits a &&& BitVec.ofInt k.bits b).toNat))
  | .or => some (.int k (k.wrap (BitVec.ofInt k.bits a ||| BitVec.ofInt k.bits b).toNat))
  | .xor => some (.int k (k.wrap (BitVec.ofInt k.bits a ^^^ BitVec.ofInt k.bits b).toNat))
  | .andNot => some (.int k (k.wrap (BitVec.ofInt k.bits a &&& ~~~ BitVec.ofInt k.bits b).toNat))
  | .eql => some (.bool (a == b))
  | .neq => some (.bool (a != b))
  | .lss => some (.bool (decide (a < b)))
  | .leq => some (.bool (decide (a <= b)))
  | .gtr => some (.bool (decide (a > b)))
  | .geq => some (.bool (decide (a ≥ b)))
  | _ => none
def z4z (op : BinOp) (a b : ByteArray) : Option Value :=
  match op with
  | .add => if ((a.size + b.size : Nat) : Int) > IntKind.i64.max then none else some (.string (a ++ b))
  | .eql => some (.bool (a.toList == b.toList))
  | .neq => some (.bool (!(a.toList == b.toList)))
  | .lss => some (.bool (Op.bytesLess a.toList b.toList))
  | .leq => some (.bool (Op.bytesLess a.toList b.toList || a.toList == b.toList))
  | .gtr => some (.bool (!(Op.bytesLess a.toList b.toList || a.toList == b.toList)))
  | .geq => some (.bool (!(Op.bytesLess a.toList b.toList)))
  | _ => none
def ziM (op : BinOp) (u : Option TyI) : Value -> Value -> Option Value
  | .int k a, .int k' b =>
    match op with
    | .shl => if b < 0 then none else some (.int k (k.wrap (a * 2 ^ (min b.toNat k.bits))))
    | .shr => if b < 0 then none else some (.int k (a.fdiv (2 ^ (min b.toNat k.bits))))
    | _ => if k = k' then z2l op k a b else none
  | .string a, .string b => z4z op a b
  | .bool a, .bool b =>
    match u with
    | some ⟨.bool, _, _, _⟩ => (match op with | .eql => some (.bool (a == b)) | .neq => some (.bool (!(a == b))) | _ => none)
    | _ => none
  | .map none, .map none =>
    match u with
    | some ⟨.map _ _, _, _, _⟩ => (match op with | .eql => some (.bool true) | .neq => some (.bool false) | _ => none)
    | _ => none
  | _, _ => none
theorem zcq {P : Program} {op : BinOp} {xt : TypeId} {x y : Operand} {a b v : Value} (h : ziM op (z0z P xt) a b = some v) (w : World) :
    scB v = true /\ (do eqGuard op xt x y a b; binOp op xt a b : Sem Value).run P w = .ok v w := by
  unfold ziM at h
  split at h
  · rename_i k a k' b
    split at h
    · split at h
      · cases h
      · rename_i hb
        cases h
        exact ⟨rfl, by simp [eqGuard, binOp, Op.shift, hb]⟩
    · split at h
      · cases h
      · rename_i hb
        cases h
        exact ⟨rfl, by simp [eqGuard, binOp, Op.shift, hb]⟩
    · rename_i n1 n2
      split at h
      · rename_i hk
        subst hk
        unfold z2l at h
        cases op <;> simp only [] at h
        all_goals first
          | (cases h; done)
          | (cases h; exact ⟨rfl, by simp [eqGuard, binOp, Op.intArith, Op.intBits, Op.intCmp]⟩)
          | (split at h
             · cases h
             · rename_i hb
               cases h
               exact ⟨rfl, by simp [eqGuard, binOp, Op.intDiv, hb]⟩)
          | exact absurd rfl n1
          | exact absurd rfl n2
      · cases h
  · rename_i a b
    unfold z4z at h
    cases op <;> simp only [] at h
    all_goals first
      | (cases h; done)
      | (cases h; exact ⟨rfl, by simp [eqGuard, binOp, Op.stringOp]⟩)
      | (split at h
         · cases h
         · rename_i hb
           cases h
           have h9 : IntKind.i64.max = 9223372036854775807 := rfl
           rw [h9] at hb
           exact ⟨rfl, by simp [eqGuard, binOp, Op.stringOp]; omega⟩)
  · rename_i a b
    split at h
    · rename_i s1 s2 s3 hu
      have hu' := z0s hu w
      simp only [] at hu'
      have he : (Op.equal xt (.bool a) (.bool b)).run P w = .ok (a == b) w := by
        show (Op.equalIn (9999 + 1) xt (.bool a) (.bool b)).run P w = _
        rw [Op.equalIn]
        simp only [Sem.run_bind, hu', Result.andThen_ok, Sem.run_pure]
      cases op <;> simp only [] at h
      all_goals first
        | (cases h; done)
        | (cases h; exact ⟨rfl, by simp [eqGuard, binOp, he]⟩)
    · cases h
  · split at h
    · rename_i s1 s2 s3 s4 s5 hu
      have he : (Op.equal xt (.map none) (.map none)).run P w = .ok true w := by
        have hu' := z0s hu w
        simp only [] at hu'
        show (Op.equalIn (9999 + 1) xt (.map none) (.map none)).run P w = _
        rw [Op.equalIn]
        simp only [Sem.run_bind, hu', Result.andThen_ok]
        rfl
      cases op <;> simp only [] at h
      all_goals first
        | (cases h; done)
        | (cases h; exact ⟨rfl, by simp [eqGuard, binOp, he]⟩)
    · cases h
  · cases h
def unS (op : UnOp) : Value -> Option Value
  | .int k n => match op with
    | .neg => some (.int k (k.wrap (0 - n)))
    | .xor => some (.int k (k.wrap (BitVec.ofInt k.bits (if k.signed then -1 else k.max) ^^^ BitVec.ofInt k.bits n).toNat))
    | _ => none
  | .bool b => match op with | .not => some (.bool (!b)) | _ => none
  | _ => none
theorem zdQ {P : Program} {op : UnOp} {a v : Value} (h : unS op a = some v) (w : World) : scB v = true /\ (Op.unary op a).run P w = .ok v w := by
  unfold unS at h
  split at h
  · cases op <;> simp only [] at h <;> first | (cases h; done) | (cases h; exact ⟨rfl, by simp [Op.unary, Op.intArith, Op.intBits]⟩)
  · cases op <;> simp only [] at h <;> first | (cases h; done) | (cases h; exact ⟨rfl, by simp [Op.unary]⟩)
  · cases h
def zlH : Value -> Value -> Option Value
  | .int k x, .int _ y => some (.int k (if y < x then y else x))
  | _, _ => none
def zlI : Value -> Value -> Option Value
  | .int k x, .int _ y => some (.int k (if y > x then y else x))
  | _, _ => none
end
section
def zcj : Value -> E
  | .int k n => scE (.int k n)
  | .bool b => scE (.bool b)
  | .string s => scE (.string s)
  | v => .one (.k v)
theorem zdx {w : World} {K : Nat -> z0a} {R : Nat -> Value} {ob : List (Nat × T)} (v : Value) : ERep w K R ob (zcj v) v := by
  unfold zcj
  split
  · exact z0N rfl
  · exact z0N rfl
  · exact z0N rfl
  · exact (rfl : v = v)
def opE (fr : Fr) : Operand -> E
  | .tmp t => if t < fr.nt then z0E fr.tm t else .one .dead
  | .const v => zcj v
  | .func f => scE (.func (.func f) #[] #[])
  | .global _ => .one .dead
theorem FRep.opE {w : World} {K : Nat -> z0a} {R G : Nat -> Value} {fr : Fr} {a : Act} (h : FRep w K R G fr a) (x : Operand) : ERep w K R fr.ob (opE fr x) (a.eval x) := by
  cases x with
  | tmp t =>
    simp only [Proofs.YthbchhekejljjaaGreatDoor.opE, Act.eval]
    split
    · rename_i ht
      have := h.tm t
      rwa [z3M, if_pos (by rw [h.nt]; exact ht)] at this
    · trivial
  | const v => exact zdx v
  | global g => trivial
  | func f => exact z0N rfl
def ziL (dep : Option Nat) : T -> A
  | .sc v => .t none (.sc v)
  | .dead => .dead
  | c => .t dep c
theorem z9c {w : World} {K : Nat -> z0a} {R : Nat -> Value} {ob : List (Nat × T)} {dep : Option Nat} {c : T} {v : Value} (h : TRep w (frz K dep) [] v c) (hd : zbm ob dep) : ARep w K R ob (ziL dep c) v := by
  unfold ziL
  split
  · cases h with
    | sc _ _ h => exact ⟨.sc _ _ h, fun _ e => by cases e⟩
  · trivial
  · exact ⟨h, hd⟩
def noM (_ : Nat) : Bool := false
def zl2 (_ : Nat) : Bool := true
def Stay (w w' : World) (K : Nat -> z0a) (M : Nat -> Bool) : Prop := ∀ b, b < w.heap.size -> (K b = [] ∨ ∃ i s, K b = (i + 2) :: s /\ M i = false) -> w'.heap[b]? = w.heap[b]?
theorem Stay.refl (w : World) (K : Nat -> z0a) (M : Nat -> Bool) : Stay w w K M := fun _ _ _ => rfl
def z9b (dep : Option Nat) (M : Nat -> Bool) : Bool := match dep with | some i => M i | none => false
theorem Stay.dep {w w' : World} {K : Nat -> z0a} {M : Nat -> Bool} (h : Stay w w' K M) {dep : Option Nat} (hd : z9b dep M = false) {b : Nat} (hb : b < w.heap.size) (e : frz K dep b = []) : w'.heap[b]? = w.heap[b]? := by
  cases dep with
  | none => exact h b hb (.inl e)
  | some i =>
    simp only [frz] at e
    split at e
    · rename_i hh
      obtain ⟨s, hs⟩ : ∃ s, K b = (i + 2) :: s := by
        cases hk : K b with
        | nil => rw [hk] at hh; cases hh
        | cons a s => rw [hk] at hh; simp at hh; subst hh; exact ⟨s, rfl⟩
      exact h b hb (.inr ⟨i, s, hs, by simpa [z9b] using hd⟩)
    · exact h b hb (.inl e)
theorem z3k (g o j : Nat) : (⟨g, o, none⟩ : Addr).add j = ⟨g, o + j, none⟩ := by unfold Addr.add; split <;> simp_all
section
variable {P : Program}
theorem z2w {t : TypeId} {ti : TyI} (ht : z0z P t = some ti) (w : World) (g o : Nat) (vs : List Value) (hn : vs.length = if z1O ti.u then ti.size else 1) (hc : ∀ j v, vs[j]? = some v -> w.cell? ⟨g, o + j, none⟩ = some v) :
    (loadVar t ⟨g, o, none⟩).run P w = .ok (if z1O ti.u then .agg vs.toArray else vs.headD undef) w := by
  unfold loadVar
  simp only [Sem.run_bind, z7a ht, Result.andThen_ok]
  cases h : z1O ti.u with
  | true =>
    simp only [if_true, Sem.run_bind, z3f ht, Result.andThen_ok]
    rw [h] at hn
    simp only [if_true] at hn
    rw [← hn, run_loadCells_list w ⟨g, o, none⟩ vs (fun j v hv => by rw [z3k]; exact hc j v hv)]
    rfl
  | false =>
    rw [h] at hn
    simp only [Bool.false_eq_true, if_false] at hn ⊢
    match vs, hn with
    | [v], _ =>
      have := hc 0 v rfl
      simp only [Nat.add_zero] at this
      simp [load, Sem.run, this]
end
def zd7 (P : Program) (M : Nat -> Bool) (fr : Fr) (t : TypeId) (e : E) : Option E :=
  match z0z P t with
  | none => none
  | some ti =>
    match e with
    | .one (.a id p off) =>
      if M id then none else
      match z0v fr.ob id with
      | none => none
      | some root => match sub root p with
        | none => none
        | some box => match z1s box with
          | none => none
          | some cs =>
            if z1O ti.u then
              (if off + ti.size <= cs.length /\ 0 < ti.size then
                (if ((cs.drop off).take ti.size).all z5m then some (.one (.t none (.agg ((cs.drop off).take ti.size)))) else some (.ag (z4X id p off ((cs.drop off).take ti.size))))
              else none)
            else match cs[off]? with
              | some s => some (.one (zge id p off s))
              | none => none
    | .one (.ea dep cs off) =>
      if z9b dep M then none else
      if z1O ti.u then (if off + ti.size <= cs.length /\ 0 < ti.size then some (.one (.t dep (.agg ((cs.drop off).take ti.size)))) else none)
      else match cs[off]? with
        | some s => some (.one (ziL dep s))
        | none => none
    | _ => none
theorem zdz {box : T} {cs : List T} (h : z1s box = some cs) (j : Nat) : zaz box j = cs[j]? := by
  cases box with
  | sc v => cases h
  | dead => cases h
  | agg => cases h
  | tup => cases h
  | sl n cs0 => cases h
  | mp => cases h
  | mr => cases h
  | mt => cases h
  | ms => cases h
  | vo => cases h
  | pr => cases h
  | cl => cases h
  | os sz n cs0 => simp only [z1s, Option.some.injEq] at h; subst h; rfl
  | vr cs0 => simp only [z1s, Option.some.injEq] at h; subst h; rfl
theorem zbV {P : Program} {w : World} {K : Nat -> z0a} {R G : Nat -> Value} {fr : Fr} {a : Act} {M : Nat -> Bool} {t : TypeId} {e e' : E} {u : Value} (h : FRep w K R G fr a) (he : ERep w K R fr.ob e u) (hl : zd7 P M fr t e = some e') :
    ∃ v, ERep w K R fr.ob e' v /\ ∀ w', Stay w w' K M -> (Instr.loadAt t u).run P w' = .ok v w' := by
  unfold zd7 at hl
  split at hl
  case h_1 => cases hl
  case h_2 ti hti =>
  split at hl
  · rename_i id p off
    split at hl
    · cases hl
    rename_i hM
    split at hl
    case h_1 => cases hl
    case h_2 root hroot =>
    split at hl
    case h_1 => cases hl
    case h_2 box hsub =>
    split at hl
    case h_1 => cases hl
    case h_2 cs hcs =>
    obtain ⟨hv, g, n1, n4, rfl, t0, n2, n3⟩ := he
    obtain ⟨hv2, m1, hrep⟩ := (h.ob id root hroot).sub (z0q id) hsub
    rw [n1] at m1; cases m1
    have main : ∀ (n : Nat), 0 < n -> off + n <= cs.length -> ∃ vs : List Value, vs.length = n /\ (∀ w', Stay w w' K M -> ∀ (j : Nat) (v : Value), vs[j]? = some v -> w'.cell? ⟨g, off + j, none⟩ = some v) /\ (∀ (j : Nat) (v : Value), vs[j]? = some v -> ∃ s, cs[off + j]? = some s /\ ARep w K R fr.ob (zge id p (off + j) s) v /\ (z5m s = true -> ∀ c, TRep w K c v s)) := by
      intro n hn hle
      obtain ⟨g2, arr, el, fz, F, b1, b2, b3, b4, b5, b6, b7, b8, b9, b10⟩ := hrep.box hcs (show off < cs.length by omega)
      rw [n4] at b1; cases b1
      refine ⟨(List.range n).map fun j => F (off + j), by simp, fun w' hst j v hv => ?_, fun j v hv => ?_⟩
      · have hst' := hst g (z0f b4) (.inr ⟨id, p, by rw [b3]; rfl, by simpa using hM⟩)
        simp only [List.getElem?_map, Option.map_eq_some_iff] at hv
        obtain ⟨i, hi, rfl⟩ := hv
        obtain ⟨h2, h3⟩ := List.getElem?_eq_some_iff.1 hi
        simp at h2 h3; subst h3
        rw [z0l hst', z0i b4]
        exact b7 _ (by omega)
      · simp only [List.getElem?_map, Option.map_eq_some_iff] at hv
        obtain ⟨i, hi, rfl⟩ := hv
        obtain ⟨h2, h3⟩ := List.getElem?_eq_some_iff.1 hi
        simp at h2 h3; subst h3
        have hlt : off + j < cs.length := by omega
        refine ⟨cs[off + j], List.getElem?_eq_getElem hlt, ?_, fun hp => (b8 _ _ (List.getElem?_eq_getElem hlt)).free hp⟩
        obtain ⟨v, k1, k2⟩ := z5s hroot hsub n1 hrep (j := off + j) (s := cs[off + j]) (by rw [zdz hcs, List.getElem?_eq_getElem hlt])
        have : v = F (off + j) := by
          have hcell : w.cell? ⟨g, off + j, none⟩ = some (F (off + j)) := by rw [z0i b4]; exact b7 _ hlt
          rcases b9 with rfl | ⟨n, cap, rfl⟩
          · simp only [z6s, hcell, Option.some.injEq] at k1; exact k1.symm
          · simp only [z6s, hcell, Option.some.injEq] at k1; exact k1.symm
        rw [← this]; exact k2
    split at hl
    · rename_i hagg
      split at hl
      · rename_i hsz
        obtain ⟨vs, v1, v2, v3⟩ := main ti.size hsz.2 hsz.1
        refine ⟨.agg vs.toArray, ?_, fun w' hst => ?_⟩
        · have hget : ∀ j, ((cs.drop off).take ti.size)[j]? = if j < ti.size then cs[off + j]? else none := fun j => by
            rw [List.getElem?_take]; split
            · rw [List.getElem?_drop]
            · rfl
          have hlen : ((cs.drop off).take ti.size).length = ti.size := by simp; omega
          split at hl
          · rename_i hall
            cases hl
            refine ⟨.agg _ _ _ (fun j => vs.getD j undef) (by simp [v1, hlen]) (fun j hj => ?_) (fun j s hs => ?_), fun _ e => by cases e⟩
            · have : j < vs.length := by omega
              simp [List.getD, List.getElem?_eq_getElem this]
            · have hj : j < ti.size := by rw [hget] at hs; split at hs; assumption; cases hs
              rw [hget, if_pos hj] at hs
              have hjv : j < vs.length := by omega
              obtain ⟨s', q1, q2, q3⟩ := v3 j vs[j] (List.getElem?_eq_getElem hjv)
              rw [hs] at q1; cases q1
              have hp : z5m s = true := List.all_eq_true.1 hall s (List.mem_of_getElem? (by rw [hget, if_pos hj]; exact hs))
              simp only [List.getD, List.getElem?_eq_getElem hjv, Option.getD_some]
              exact q3 hp _
          · cases hl
            refine ⟨vs.toArray, rfl, by simp [v1, z2C, hlen], fun j x hx => ?_⟩
            rw [z3Z, hget] at hx
            split at hx
            · rename_i hj
              have hjv : j < vs.length := by omega
              obtain ⟨s', q1, q2, q3⟩ := v3 j vs[j] (List.getElem?_eq_getElem hjv)
              rw [q1] at hx
              cases hx
              simpa [Array.getD_eq_getD_getElem?, hjv] using q2
            · cases hx
        · have := z2w hti w' g off vs (by rw [if_pos hagg]; exact v1) (v2 w' hst)
          rw [if_pos hagg] at this
          simpa [Instr.loadAt, Instr.sureAddr] using this
      · cases hl
    · rename_i hagg
      split at hl
      · rename_i s hs
        cases hl
        obtain ⟨vs, v1, v2, v3⟩ := main 1 (by omega) (by have := (List.getElem?_eq_some_iff.1 hs).1; omega)
        match vs, v1 with
        | [v], _ =>
          obtain ⟨s', q1, q2, q3⟩ := v3 0 v rfl
          simp only [Nat.add_zero] at q1 q2
          rw [hs] at q1; cases q1
          refine ⟨v, q2, fun w' hst => ?_⟩
          have := z2w hti w' g off [v] (by rw [if_neg hagg]; rfl) (v2 w' hst)
          rw [if_neg hagg] at this
          simpa [Instr.loadAt, Instr.sureAddr] using this
      · cases hl
  · rename_i dep cs off
    split at hl
    · cases hl
    rename_i hM
    obtain ⟨g, o, F, rfl, e2, e3, e4, e5, e6⟩ := he
    have hst' : ∀ w', Stay w w' K M -> w'.heap[g]? = w.heap[g]? := fun w' hst => hst.dep (by simpa using hM) e3 e2
    split at hl
    · rename_i hagg
      split at hl
      · rename_i hsz
        cases hl
        have hget : ∀ j, ((cs.drop off).take ti.size)[j]? = if j < ti.size then cs[off + j]? else none := fun j => by
          rw [List.getElem?_take]; split
          · rw [List.getElem?_drop]
          · rfl
        have hlen : ((cs.drop off).take ti.size).length = ti.size := by simp; omega
        refine ⟨.agg ((List.range ti.size).map fun j => F (off + j)).toArray, ⟨.agg _ _ _ (fun j => F (off + j)) (by simp [hlen]) (fun j hj => ?_) (fun j s hs => ?_), e6⟩, fun w' hst => ?_⟩
        · have : j < ti.size := by omega
          simp [this]
        · rw [hget] at hs
          split at hs
          · exact e5 _ s hs
          · cases hs
        · have := z2w hti w' g (o + off) ((List.range ti.size).map fun j => F (off + j)) (by rw [if_pos hagg]; simp) (fun j v hv => by
            simp only [List.getElem?_map, Option.map_eq_some_iff] at hv
            obtain ⟨i, hi, rfl⟩ := hv
            obtain ⟨h2, h3⟩ := List.getElem?_eq_some_iff.1 hi
            simp at h2 h3; subst h3
            rw [z0l (hst' w' hst), Nat.add_assoc]
            exact e4 _ (by omega))
          rw [if_pos hagg] at this
          simpa [Instr.loadAt, Instr.sureAddr] using this
      · cases hl
    · rename_i hagg
      split at hl
      · rename_i s hs
        cases hl
        have hlt := (List.getElem?_eq_some_iff.1 hs).1
        refine ⟨F off, z9c (e5 off s hs) e6, fun w' hst => ?_⟩
        have := z2w hti w' g (o + off) [F off] (by rw [if_neg hagg]; rfl) (fun j v hv => by
          match j, hv with
          | 0, hv =>
            simp at hv; subst hv
            rw [z0l (hst' w' hst)]
            exact e4 off hlt
          | j + 1, hv => simp at hv)
        rw [if_neg hagg] at this
        simpa [Instr.loadAt, Instr.sureAddr] using this
      · cases hl
  · cases hl
end
section
def z3s (P : Program) (t : TypeId) (e : E) (f : Nat) : Option E :=
  match z0z P t with
  | some ⟨.struct fields, _, _, _⟩ => match fields[f]? with
    | none => none
    | some fd => match z0z P fd.type with
      | none => none
      | some ti => if ti.size = 0 then none else
        match e with
        | .one (.a id p off) => some (.one (.a id p (off + fd.offset)))
        | .one (.ea dep cs off) => some (.one (.ea dep cs (off + fd.offset)))
        | _ => none
  | _ => none
theorem z8X {P : Program} {w : World} {K : Nat -> z0a} {R : Nat -> Value} {ob : List (Nat × T)} {t : TypeId} {e e' : E} {u : Value} {f : Nat} (he : ERep w K R ob e u) (hl : z3s P t e f = some e') :
    ∃ v, ERep w K R ob e' v /\ ∀ w', (Instr.fieldAt t u f).run P w' = .ok v w' := by
  unfold z3s at hl
  split at hl
  case h_2 => cases hl
  case h_1 fields s1 s2 s3 ht =>
  split at hl
  case h_1 => cases hl
  case h_2 fd hfd =>
  split at hl
  case h_1 => cases hl
  case h_2 ti hti =>
  split at hl
  · cases hl
  rename_i hz
  have hrun : ∀ g o w', (Instr.fieldAt t (.pointer (some ⟨g, o, none⟩)) f).run P w' = .ok (.pointer (some ⟨g, o + fd.offset, none⟩)) w' := fun g o w' => by
    have := z0s ht w'
    simp [Instr.fieldAt, this, hfd, Instr.sureAddr, fieldPlace, z3f hti, hz, z3k]
  split at hl
  · cases hl
    obtain ⟨hv, g, n1, n4, rfl, n5⟩ := he
    exact ⟨_, ⟨hv, g, n1, n4, rfl, n5⟩, hrun _ _⟩
  · cases hl
    obtain ⟨g, o, F, rfl, e2, e3, e4, e5, e6⟩ := he
    exact ⟨_, ⟨g, o, F, by rw [Nat.add_assoc], e2, e3, e4, e5, e6⟩, hrun _ _⟩
  · cases hl
def zd0 (fr : Fr) (agg : Bool) (size off : Nat) (e : E) : Option E :=
  match e with
  | .ag xs => if agg then (if off + size <= xs.length then some (.ag ((xs.drop off).take size)) else none) else (match xs[off]? with | some x => some (.one x) | none => none)
  | .one (.k (.agg vs)) => if agg then (if off + size <= vs.size then some (.one (.k (.agg (vs.extract off (off + size))))) else none) else (match vs[off]? with | some v => some (.one (.k v)) | none => none)
  | .one (.t dep (.agg cs)) => if agg then (if off + size <= cs.length then some (.one (.t dep (.agg ((cs.drop off).take size)))) else none) else (match cs[off]? with | some c => some (.one (ziL dep c)) | none => none)
  | .one (.h id p) => match z0v fr.ob id with
    | none => none
    | some root => match sub root p with
      | some (.agg cs) => if agg then (if off + size <= cs.length then some (.ag (z4X id p off ((cs.drop off).take size))) else none) else (match cs[off]? with | some c => some (.one (zge id p off c)) | none => none)
      | _ => none
  | _ => none
theorem zbP {P : Program} {w : World} {K : Nat -> z0a} {R G : Nat -> Value} {fr : Fr} {a : Act} {t : TypeId} {ti : TyI} {off : Nat} {e e' : E} {u : Value} (h : FRep w K R G fr a) (he : ERep w K R fr.ob e u) (ht : z0z P t = some ti)
    (hl : zd0 fr (z1O ti.u) ti.size off e = some e') : ∃ cs v, u = .agg cs /\ ERep w K R fr.ob e' v /\ ∀ w', (part t cs off).run P w' = .ok v w' := by
  have hr1 : ∀ (cs : Array Value) (h : z1O ti.u = true) (w' : World), (part t cs off).run P w' = .ok (.agg (cs.extract off (off + ti.size))) w' := fun cs h w' => by
    simp [part, z7a ht, h, z3f ht]
  have hr2 : ∀ (cs : Array Value) (v : Value), z1O ti.u = false -> cs[off]? = some v -> ∀ w', (part t cs off).run P w' = .ok v w' := fun cs v h hv w' => by
    simp [part, z7a ht, h, hv]
  unfold zd0 at hl
  split at hl
  · rename_i xs
    obtain ⟨arr, rfl, e2, e3⟩ := he
    split at hl
    · rename_i hagg
      split at hl
      · rename_i hsz
        cases hl
        refine ⟨arr, _, rfl, ⟨arr.extract off (off + ti.size), rfl, by simp; omega, fun j x hx => ?_⟩, hr1 _ hagg⟩
        rw [List.getElem?_take] at hx
        split at hx
        · rename_i hj
          rw [List.getElem?_drop] at hx
          have := e3 _ x hx
          have hlt := (List.getElem?_eq_some_iff.1 hx).1
          have e1 : (arr.extract off (off + ti.size)).getD j undef = arr.getD (off + j) undef := by
            simp only [Array.getD_eq_getD_getElem?, Array.getElem?_extract]
            rw [if_pos (by omega)]
          rw [e1]; exact this
        · cases hx
      · cases hl
    · rename_i hagg
      split at hl
      · rename_i x hx
        cases hl
        have hlt := (List.getElem?_eq_some_iff.1 hx).1
        have hlt' : off < arr.size := by omega
        have := e3 off x hx
        refine ⟨arr, arr[off], rfl, ?_, hr2 _ _ (by simpa using hagg) (Array.getElem?_eq_getElem hlt')⟩
        rw [show arr.getD off undef = arr[off] by simp [Array.getD_eq_getD_getElem?, hlt']] at this
        exact this
      · cases hl
  · rename_i vs
    obtain rfl : u = .agg vs := he
    split at hl
    · rename_i hagg
      split at hl
      · cases hl
        exact ⟨vs, _, rfl, (rfl : _ = _), hr1 _ hagg⟩
      · cases hl
    · rename_i hagg
      split at hl
      · rename_i v hv
        cases hl
        exact ⟨vs, v, rfl, (rfl : _ = _), hr2 _ _ (by simpa using hagg) hv⟩
      · cases hl
  · rename_i dep cs
    obtain ⟨h1, h2⟩ := he
    cases h1 with
    | agg c vs cs F hlen hF hh =>
    split at hl
    · rename_i hagg
      split at hl
      · rename_i hsz
        cases hl
        have hln : ((cs.drop off).take ti.size).length = ti.size := by simp; omega
        refine ⟨vs, _, rfl, ⟨.agg _ (vs.extract off (off + ti.size)) _ (fun j => F (off + j)) (by simp; omega) (fun j hj => ?_) (fun j s hs => ?_), h2⟩, hr1 _ hagg⟩
        · have hj' : j < ti.size := by omega
          rw [Array.getElem?_extract, if_pos (by omega)]
          exact hF _ (by omega)
        · rw [List.getElem?_take] at hs
          split at hs
          · rw [List.getElem?_drop] at hs
            exact hh _ s hs
          · cases hs
      · cases hl
    · rename_i hagg
      split at hl
      · rename_i c hc
        cases hl
        have hlt := (List.getElem?_eq_some_iff.1 hc).1
        exact ⟨vs, F off, rfl, z9c (hh off c hc) h2, hr2 _ _ (by simpa using hagg) (hF off hlt)⟩
      · cases hl
  · rename_i id p
    split at hl
    case h_1 => cases hl
    case h_2 root hroot =>
    split at hl
    case h_2 => cases hl
    case h_1 cs hsub =>
    obtain ⟨n1, t0, n2, n3⟩ := he
    obtain ⟨v', m1, hrep⟩ := (h.ob id root hroot).sub (z0q id) hsub
    rw [n1] at m1; cases m1
    have hkid := fun j s (hs : cs[j]? = some s) => z5s (R := R) hroot hsub n1 hrep (j := j) (s := s) hs
    cases hrep with
    | agg c vs cs F hlen hF hh =>
    split at hl
    · rename_i hagg
      split at hl
      · rename_i hsz
        cases hl
        have hln : ((cs.drop off).take ti.size).length = ti.size := by simp; omega
        refine ⟨vs, _, rfl, ⟨vs.extract off (off + ti.size), rfl, by rw [z2C, hln]; simp; omega, fun j x hx => ?_⟩, hr1 _ hagg⟩
        rw [z3Z, List.getElem?_take] at hx
        split at hx
        · rename_i hj
          rw [List.getElem?_drop] at hx
          cases hc : cs[off + j]? with
          | none => rw [hc] at hx; cases hx
          | some s =>
            rw [hc] at hx; cases hx
            obtain ⟨v, k1, k2⟩ := hkid _ s hc
            have hlt := (List.getElem?_eq_some_iff.1 hc).1
            have e1 : (vs.extract off (off + ti.size)).getD j undef = v := by
              simp only [Array.getD_eq_getD_getElem?, Array.getElem?_extract]
              rw [if_pos (by omega)]
              simp only [z6s] at k1
              rw [k1]; rfl
            rw [e1]; exact k2
        · cases hx
      · cases hl
    · rename_i hagg
      split at hl
      · rename_i c hc
        cases hl
        obtain ⟨v, k1, k2⟩ := hkid _ c hc
        exact ⟨vs, v, rfl, k2, hr2 _ _ (by simpa using hagg) k1⟩
      · cases hl
  · cases hl
def zah (P : Program) (fr : Fr) (t : TypeId) (e : E) (f : Nat) : Option E :=
  match z0z P t with
  | some ⟨.struct fields, _, _, _⟩ => match fields[f]? with
    | none => none
    | some fd => match z0z P fd.type with
      | none => none
      | some ti => zd0 fr (z1O ti.u) ti.size fd.offset e
  | _ => none
theorem zf3 {P : Program} {w : World} {K : Nat -> z0a} {R G : Nat -> Value} {fr : Fr} {a : Act} {t : TypeId} {e e' : E} {u : Value} {f : Nat} (h : FRep w K R G fr a) (he : ERep w K R fr.ob e u) (hl : zah P fr t e f = some e') :
    ∃ v, ERep w K R fr.ob e' v /\ ∀ w', (Instr.field t u f).run P w' = .ok v w' := by
  unfold zah at hl
  split at hl
  case h_2 => cases hl
  case h_1 fields s1 s2 s3 ht =>
  split at hl
  case h_1 => cases hl
  case h_2 fd hfd =>
  split at hl
  case h_1 => cases hl
  case h_2 ti hti =>
  obtain ⟨cs, v, rfl, h1, h2⟩ := zbP h he hti hl
  refine ⟨v, h1, fun w' => ?_⟩
  have := z0s ht w'
  simp [Instr.field, this, hfd, asAgg, h2]
def zeg (fr : Fr) : E -> Option (Option Nat × Nat × List T)
  | .one (.t dep (.sl n cs)) => some (dep, n, cs)
  | .one (.t dep (.os _ n cs)) => some (dep, n, cs)
  | .one (.tf n cs) => some (none, n, cs)
  | .one (.h id p) => match z0v fr.ob id with
    | none => none
    | some root => match sub root p with
      | some (.os _ n cs) => some (some id, n, z1L cs)
      | some (.sl n cs) => some (none, n, cs)
      | _ => none
  | .one (.k (.slice none 0 0)) => some (none, 0, [])
  | _ => none
theorem z2B {w : World} {K : Nat -> z0a} {R G : Nat -> Value} {fr : Fr} {a : Act} {e : E} {u : Value} {dep : Option Nat} {n : Nat} {cs : List T} (h : FRep w K R G fr a) (he : ERep w K R fr.ob e u) (hr : zeg fr e = some (dep, n, cs)) :
    zbm fr.ob dep /\ ((∃ a cap, u = .slice a 0 cap /\ cap <= maxLen /\ n = 0 /\ cs = []) ∨ ∃ g o cap, ∃ F : Nat -> Value, u = .slice (some ⟨g, o, none⟩) n cap /\ n <= cap /\ cap <= maxLen /\ frz K dep g = [] /\ g < w.heap.size /\
      (∀ j, j < cs.length -> w.cell? ⟨g, o + j, none⟩ = some (F j)) /\ ∀ j t, cs[j]? = some t -> TRep w (frz K dep) [] (F j) t) := by
  have key : ∀ {K' : Nat -> z0a} {t0 : T}, TRep w K' [] u t0 -> (t0 = .sl n cs ∨ ∃ sz, t0 = .os sz n cs) -> (∃ a cap, u = .slice a 0 cap /\ cap <= maxLen /\ n = 0 /\ cs = []) ∨ ∃ g o cap, ∃ F : Nat -> Value, u = .slice (some ⟨g, o, none⟩) n cap /\ n <= cap /\ cap <= maxLen /\ K' g = [] /\ g < w.heap.size /\
      (∀ j, j < cs.length -> w.cell? ⟨g, o + j, none⟩ = some (F j)) /\ ∀ j t, cs[j]? = some t -> TRep w K' [] (F j) t := fun {K' t0} hh et => by
    cases hh with
    | sc => rcases et with et | ⟨_, et⟩ <;> cases et
    | dead => rcases et with et | ⟨_, et⟩ <;> cases et
    | agg => rcases et with et | ⟨_, et⟩ <;> cases et
    | tup => rcases et with et | ⟨_, et⟩ <;> cases et
    | emp c0 a cap hc => rcases et with et | ⟨_, et⟩ <;> cases et; exact .inl ⟨a, cap, rfl, hc, rfl, rfl⟩
    | fro c0 g o n' cap cs' F hK hg hn hc hF hh => rcases et with et | ⟨_, et⟩ <;> cases et; exact .inr ⟨g, o, cap, F, rfl, hn, hc, hK, hg, hF, hh⟩
    | nil => rcases et with et | ⟨_, et⟩ <;> cases et; exact .inl ⟨none, 0, rfl, by decide, rfl, rfl⟩
    | own _ _ _ _ _ _ _ _ _ _ _ hc0 => exact absurd rfl hc0
    | vr _ _ _ _ _ _ _ _ hc0 => exact absurd rfl hc0
    | vo => rcases et with et | ⟨_, et⟩ <;> cases et
    | pr => rcases et with et | ⟨_, et⟩ <;> cases et
    | mr => rcases et with et | ⟨_, et⟩ <;> cases et
    | mp => rcases et with et | ⟨_, et⟩ <;> cases et
    | mt => rcases et with et | ⟨_, et⟩ <;> cases et
    | ms => rcases et with et | ⟨_, et⟩ <;> cases et
    | cl => rcases et with et | ⟨_, et⟩ <;> cases et
  unfold zeg at hr
  split at hr
  · cases hr
    exact ⟨he.2, key he.1 (.inl rfl)⟩
  · cases hr
    exact ⟨he.2, key he.1 (.inr ⟨_, rfl⟩)⟩
  · cases hr
    exact ⟨fun i e => (by cases e), key he.2 (.inl rfl)⟩
  · rename_i id p
    split at hr
    case h_1 => cases hr
    case h_2 root hroot =>
    obtain ⟨n1, t0, n2, n3⟩ := he
    split at hr
    · rename_i n' cs' hsub
      cases hr
      obtain ⟨v', m1, hrep⟩ := (h.ob id root hroot).sub (z0q id) hsub
      rw [n1] at m1; cases m1
      refine ⟨fun i e => (by cases e; rw [hroot]; rfl), ?_⟩
      have := hrep.freeze (w' := w) (K' := frz K (some id)) (fun b s hb hc hK => ⟨by simp [frz, hK, col], rfl⟩) (fun b hb e => ⟨by simp [frz, e], rfl⟩) (Nat.le_refl _) []
      rw [z0A] at this
      exact key this (.inl rfl)
    · rename_i n' cs' hsub
      cases hr
      obtain ⟨v', m1, hrep⟩ := (h.ob id root hroot).sub (z0q id) hsub
      rw [n1] at m1; cases m1
      exact ⟨fun i e => (by cases e), key (hrep.free rfl []) (.inl rfl)⟩
    · cases hr
  · cases hr
    exact ⟨fun i e => (by cases e), .inl ⟨none, 0, he, by decide, rfl, rfl⟩⟩
  · cases hr
def znS : Option Value -> Option Int
  | some (.int _ i) => some i
  | _ => none
def z4p (P : Program) (fr : Fr) (t : TypeId) (e : E) (i : Int) : Option E :=
  match z0z P t with
  | some ⟨.slice el, _, _, _⟩ => match z0z P el with
    | none => none
    | some ti =>
      match e with
      | .one (.h id p) => match z0v fr.ob id with
        | none => none
        | some root => match sub root p with
          | some (.os _ n cs) => if 0 <= i /\ i < n then some (.one (.a id p (i.toNat * ti.size))) else none
          | some (.sl n cs) => if 0 <= i /\ i < n then some (.one (.ea none cs (i.toNat * ti.size))) else none
          | _ => none
      | .one (.t dep (.sl n cs)) => if 0 <= i /\ i < n then some (.one (.ea dep cs (i.toNat * ti.size))) else none
      | .one (.tf n cs) => if 0 <= i /\ i < n then some (.one (.ea none cs (i.toNat * ti.size))) else none
      | _ => none
  | some ⟨.array len el, _, _, _⟩ => match z0z P el with
    | none => none
    | some ti =>
      match e with
      | .one (.a id p off) => if 0 <= i /\ i < len then some (.one (.a id p (off + i.toNat * ti.size))) else none
      | .one (.ea dep cs off) => if 0 <= i /\ i < len then some (.one (.ea dep cs (off + i.toNat * ti.size))) else none
      | _ => none
  | _ => none
theorem z8P {P : Program} {w : World} {K : Nat -> z0a} {R G : Nat -> Value} {fr : Fr} {a : Act} {t : TypeId} {e e' : E} {u : Value} {k : IntKind} {i : Int} (h : FRep w K R G fr a) (he : ERep w K R fr.ob e u) (hl : z4p P fr t e i = some e') :
    ∃ v, ERep w K R fr.ob e' v /\ ∀ w', (Instr.indexAt t u (.int k i)).run P w' = .ok v w' := by
  unfold z4p at hl
  split at hl
  · rename_i el s1 s2 s3 ht
    split at hl
    case h_1 => cases hl
    case h_2 ti hti =>
    have hrun : ∀ g o n cap, 0 <= i /\ i < (n : Nat) -> ∀ w', (Instr.indexAt t (.slice (some ⟨g, o, none⟩) n cap) (.int k i)).run P w' = .ok (.pointer (some ⟨g, o + i.toNat * ti.size, none⟩)) w' := fun g o n cap hi w' => by
      have := z0s ht w'
      simp [Instr.indexAt, asIntOf, this, hi, z3f hti, z3k]
    have hslice : ∀ dep n cs, zeg fr e = some (dep, n, cs) -> 0 <= i /\ i < (n : Nat) -> ∃ v, ERep w K R fr.ob (.one (.ea dep cs (i.toNat * ti.size))) v /\ ∀ w', (Instr.indexAt t u (.int k i)).run P w' = .ok v w' := fun dep n cs hr hi => by
      obtain ⟨d1, d2⟩ := z2B h he hr
      rcases d2 with ⟨a, cap, rfl, hc, rfl, rfl⟩ | ⟨g, o, cap, F, rfl, hn, hc, hK, hg, hF, hh⟩
      · omega
      · exact ⟨_, ⟨g, o, F, rfl, hK, hg, hF, hh, d1⟩, hrun g o n cap hi⟩
    split at hl
    · rename_i id p
      split at hl
      case h_1 => cases hl
      case h_2 root hroot =>
      split at hl
      · rename_i n cs hsub
        split at hl
        · rename_i hi
          cases hl
          obtain ⟨n1, t0, n2, n3⟩ := he
          obtain ⟨v', m1, hrep⟩ := (h.ob id root hroot).sub (z0q id) hsub
          rw [n1] at m1; cases m1
          cases hrep with
          | nil => omega
          | own c g n cap size cs arr el2 fz F hfz hc0 hK hg hs hlen hz hn hc hF hh =>
            refine ⟨_, ⟨_, g, n1, rfl, rfl, root, hroot, by rw [hsub]; rfl⟩, ?_⟩
            intro w'
            have := hrun g 0 n cap hi w'
            simpa using this
        · cases hl
      · rename_i n cs hsub
        split at hl
        · rename_i hi
          cases hl
          exact hslice none n cs (by simp [zeg, hroot, hsub]) hi
        · cases hl
      · cases hl
    · rename_i dep n cs
      split at hl
      · rename_i hi
        cases hl
        exact hslice dep n cs rfl hi
      · cases hl
    · rename_i n cs
      split at hl
      · rename_i hi
        cases hl
        exact hslice none n cs rfl hi
      · cases hl
    · cases hl
  · rename_i len el s1 s2 s3 ht
    split at hl
    case h_1 => cases hl
    case h_2 ti hti =>
    have hrun : ∀ g o, 0 <= i /\ i < (len : Nat) -> ∀ w', (Instr.indexAt t (.pointer (some ⟨g, o, none⟩)) (.int k i)).run P w' = .ok (.pointer (some ⟨g, o + i.toNat * ti.size, none⟩)) w' := fun g o hi w' => by
      have := z0s ht w'
      simp [Instr.indexAt, asIntOf, this, hi, z3f hti, z3k, Instr.sureAddr]
    split at hl
    · split at hl
      · rename_i hi
        cases hl
        obtain ⟨hv, g, n1, n4, rfl, n5⟩ := he
        exact ⟨_, ⟨hv, g, n1, n4, rfl, n5⟩, hrun _ _ hi⟩
      · cases hl
    · split at hl
      · rename_i hi
        cases hl
        obtain ⟨g, o, F, rfl, e2, e3, e4, e5, e6⟩ := he
        exact ⟨_, ⟨g, o, F, by rw [Nat.add_assoc], e2, e3, e4, e5, e6⟩, hrun _ _ hi⟩
      · cases hl
    · cases hl
  · cases hl
end
section
def zc6 (P : Program) (fr : Fr) (t : TypeId) (e : E) (i : Int) : Option E :=
  match z0z P t with
  | some ⟨.string, _, _, _⟩ => match rdV e with
    | some (.string s) => match (if 0 <= i then s[i.toNat]? else none) with
      | some b => some (scE (.int .u8 b.toNat))
      | none => none
    | _ => none
  | some ⟨.array len el, _, _, _⟩ => match z0z P el with
    | none => none
    | some ti => if 0 <= i /\ i < len then zd0 fr (z1O ti.u) ti.size (i.toNat * ti.size) e else none
  | _ => none
theorem zeM {P : Program} {w : World} {K : Nat -> z0a} {R G : Nat -> Value} {fr : Fr} {a : Act} {t : TypeId} {e e' : E} {u : Value} {k : IntKind} {i : Int} (h : FRep w K R G fr a) (he : ERep w K R fr.ob e u) (hl : zc6 P fr t e i = some e') :
    ∃ v, ERep w K R fr.ob e' v /\ ∀ w', (Instr.index t u (.int k i)).run P w' = .ok v w' := by
  unfold zc6 at hl
  split at hl
  · rename_i s1 s2 s3 ht
    split at hl
    case h_2 => cases hl
    case h_1 s hs =>
    split at hl
    case h_2 => cases hl
    case h_1 b hb =>
    cases hl
    obtain ⟨rfl, -⟩ := z0n he hs
    refine ⟨_, z0N rfl, fun w' => ?_⟩
    have := z0s ht w'
    simp [Instr.index, asIntOf, this, hb]
  · rename_i len el s1 s2 s3 ht
    split at hl
    case h_1 => cases hl
    case h_2 ti hti =>
    split at hl
    · rename_i hi
      obtain ⟨cs, v, rfl, h1, h2⟩ := zbP h he hti hl
      refine ⟨v, h1, fun w' => ?_⟩
      have := z0s ht w'
      simp [Instr.index, asIntOf, this, hi, z3f hti, h2]
    · cases hl
  · cases hl
def zfC (x : Option E) (d : Nat) (top : Nat) : Option Nat :=
  match x with
  | none => some d
  | some e => match rdV e with
    | some (.int _ i) => if 0 <= i /\ i <= top then some i.toNat else none
    | _ => none
def zbH (P : Program) (fr : Fr) (t : TypeId) (e : E) (lo hi : Option E) : Option E :=
  match z0z P t with
  | some ⟨.string, _, _, _⟩ => match rdV e with
    | some (.string s) => match zfC hi s.size s.size with
      | none => none
      | some h => match zfC lo 0 h with
        | none => none
        | some l => some (scE (.string (s.extract l h)))
    | _ => none
  | some ⟨.slice el, _, _, _⟩ => match z0z P el with
    | none => none
    | some ti => match zeg fr e with
      | none => none
      | some (dep, n, cs) => match zfC hi n n with
        | none => none
        | some h => match zfC lo 0 h with
          | none => none
          | some l => if cs.length = n * ti.size then some (.one (.t dep (.sl (h - l) ((cs.drop (l * ti.size)).take ((h - l) * ti.size))))) else none
  | _ => none
theorem z1l {P : Program} {k : IntKind} {i : Int} {y : Nat} {code : BoundsCode} (h : 0 <= i /\ i <= (y : Nat)) (w : World) : (Instr.sliceBound (.int k i) y code).run P w = .ok i.toNat w := by
  simp [Instr.sliceBound, asIntOf, h]
def zgN (w : World) (K : Nat -> z0a) (R : Nat -> Value) (ob : List (Nat × T)) : Option E -> Option Value -> Prop
  | none, none => True
  | some e, some v => ERep w K R ob e v
  | _, _ => False
theorem z7z {w : World} {K : Nat -> z0a} {R : Nat -> Value} {ob : List (Nat × T)} {x : Option E} {v : Option Value} {d top r : Nat} (hx : zgN w K R ob x v) (h : zfC x d top = some r) :
    (v = none /\ r = d) ∨ ∃ k i, v = some (.int k i) /\ 0 <= i /\ i <= (top : Nat) /\ r = i.toNat := by
  cases x with
  | none => cases v with
    | none => simp only [zfC, Option.some.injEq] at h; exact .inl ⟨rfl, h.symm⟩
    | some v => exact hx.elim
  | some e => cases v with
    | none => exact hx.elim
    | some v =>
      simp only [zfC] at h
      split at h
      · rename_i k i hi
        split at h
        · rename_i hb
          cases h
          obtain ⟨rfl, -⟩ := z0n hx hi
          exact .inr ⟨k, i, rfl, hb.1, hb.2, rfl⟩
        · cases h
      · cases h
theorem z1u {P : Program} {w : World} {K : Nat -> z0a} {R : Nat -> Value} {ob : List (Nat × T)} {lo hi : Option E} {vlo vhi : Option Value} {isSlice : Bool} {len cap l h : Nat} (h1 : zgN w K R ob lo vlo) (h2 : zgN w K R ob hi vhi)
    (hh : zfC hi len len = some h) (hl : zfC lo 0 h = some l) (hc : len <= cap) (w' : World) : (Instr.sliceBounds isSlice len cap vlo vhi none).run P w' = .ok (l, h, cap) w' /\ l <= h /\ h <= len := by
  rcases z7z h2 hh with ⟨rfl, rfl⟩ | ⟨k, i, rfl, i0, i1, rfl⟩
  · rcases z7z h1 hl with ⟨rfl, rfl⟩ | ⟨k2, j, rfl, j0, j1, rfl⟩
    · exact ⟨by simp [Instr.sliceBounds], by omega, by omega⟩
    · refine ⟨by simp [Instr.sliceBounds, z1l (P := P) (k := k2) (i := j) ⟨j0, j1⟩], by omega, by omega⟩
  · have ic : i <= (cap : Nat) := by omega
    rcases z7z h1 hl with ⟨rfl, rfl⟩ | ⟨k2, j, rfl, j0, j1, rfl⟩
    · refine ⟨by simp [Instr.sliceBounds, z1l (P := P) (k := k) (i := i) (y := cap) ⟨i0, ic⟩], by omega, by omega⟩
    · refine ⟨by simp [Instr.sliceBounds, z1l (P := P) (k := k) (i := i) (y := cap) ⟨i0, ic⟩, z1l (P := P) (k := k2) (i := j) (y := i.toNat) ⟨j0, j1⟩], by omega, by omega⟩
theorem ze2 {P : Program} {w : World} {K : Nat -> z0a} {R G : Nat -> Value} {fr : Fr} {a : Act} {t : TypeId} {e e' : E} {u : Value} {lo hi : Option E} {vlo vhi : Option Value} (h : FRep w K R G fr a) (he : ERep w K R fr.ob e u)
    (h1 : zgN w K R fr.ob lo vlo) (h2 : zgN w K R fr.ob hi vhi) (hl : zbH P fr t e lo hi = some e') : ∃ v, ERep w K R fr.ob e' v /\ ∀ w', (Instr.sliceAt t u vlo vhi none).run P w' = .ok v w' := by
  unfold zbH at hl
  split at hl
  · rename_i s1 s2 s3 ht
    split at hl
    case h_2 => cases hl
    case h_1 s hs =>
    split at hl
    case h_1 => cases hl
    case h_2 hh hhe =>
    split at hl
    case h_1 => cases hl
    case h_2 ll hle =>
    cases hl
    obtain ⟨rfl, -⟩ := z0n he hs
    refine ⟨_, z0N rfl, fun w' => ?_⟩
    have hu := z0s ht w'
    obtain ⟨r1, r2, r3⟩ := z1u (P := P) (isSlice := false) (cap := s.size) h1 h2 hhe hle (Nat.le_refl _) w'
    simp [Instr.sliceAt, Instr.slice, hu, r1]
  · rename_i el s1 s2 s3 ht
    split at hl
    case h_1 => cases hl
    case h_2 ti hti =>
    split at hl
    case h_1 => cases hl
    case h_2 dep n cs hrd =>
    split at hl
    case h_1 => cases hl
    case h_2 hh hhe =>
    split at hl
    case h_1 => cases hl
    case h_2 ll hle =>
    split at hl
    case isFalse => cases hl
    case isTrue hlen =>
    cases hl
    obtain ⟨d1, d2⟩ := z2B h he hrd
    rcases d2 with ⟨a0, cap, rfl, hc, rfl, rfl⟩ | ⟨g, o, cap, F, rfl, hn, hc, hK, hg, hF, hrep⟩
    · obtain ⟨_, r2, r3⟩ := z1u (P := P) (isSlice := true) (cap := cap) h1 h2 hhe hle (Nat.zero_le _) default
      have r1 := fun w' => (z1u (P := P) (isSlice := true) (cap := cap) h1 h2 hhe hle (Nat.zero_le _) w').1
      obtain rfl : hh = 0 := by omega
      obtain rfl : ll = 0 := by omega
      refine ⟨_, ⟨?_, d1⟩, fun w' => (by have hu := z0s ht w'; simp [Instr.sliceAt, Instr.slice, hu, r1, z3f hti]; rfl)⟩
      simp
      exact .emp _ _ _ hc
    · obtain ⟨_, r2, r3⟩ := z1u (P := P) (isSlice := true) (cap := cap) h1 h2 hhe hle hn default
      have r1 := fun w' => (z1u (P := P) (isSlice := true) (cap := cap) h1 h2 hhe hle hn w').1
      refine ⟨.slice (if cap = ll then some ⟨g, o, none⟩ else some ⟨g, o + ll * ti.size, none⟩) (hh - ll) (cap - ll), ⟨?_, d1⟩, fun w' => ?_⟩
      · by_cases e0 : hh = ll
        · subst e0
          simp only [Nat.sub_self, Nat.zero_mul, List.take_zero]
          exact .emp _ _ _ (by omega)
        · rw [if_neg (by omega)]
          have hle2 : hh * ti.size <= n * ti.size := Nat.mul_le_mul_right _ r3
          have hlm : ll * ti.size + (hh - ll) * ti.size = hh * ti.size := by rw [← Nat.add_mul]; congr 1; omega
          refine .fro _ g _ _ _ _ (fun j => F (ll * ti.size + j)) hK hg (by omega) (by omega) (fun j hj => ?_) (fun j t hj => ?_)
          · rw [List.length_take, List.length_drop] at hj
            rw [Nat.add_assoc]
            exact hF _ (by omega)
          · rw [List.getElem?_take] at hj
            split at hj
            · rw [List.getElem?_drop] at hj
              exact hrep _ t hj
            · cases hj
      · have hu := z0s ht w'
        simp only [Instr.sliceAt, Sem.run_bind, hu, Result.andThen_ok, Instr.slice, r1, z3f hti, Sem.run_pure, Option.map_some, z3k]
  · cases hl
def z6F (fr : Fr) (e : E) (i : Nat) : Option E :=
  match e with
  | .one (.t dep (.tup cs)) => match cs[i]? with | some c => some (.one (ziL dep c)) | none => none
  | .one (.h id p) => match z0v fr.ob id with
    | none => none
    | some root => match sub root p with
      | some (.tup cs) => match cs[i]? with | some c => some (.one (zge id p i c)) | none => none
      | _ => none
  | _ => none
theorem zbg {P : Program} {w : World} {K : Nat -> z0a} {R G : Nat -> Value} {fr : Fr} {a : Act} {e e' : E} {u : Value} {i : Nat} (h : FRep w K R G fr a) (he : ERep w K R fr.ob e u) (hl : z6F fr e i = some e') :
    ∃ v, ERep w K R fr.ob e' v /\ ∀ w' : World, (Instr.extract u i).run P w' = .ok v w' := by
  unfold z6F at hl
  split at hl
  · rename_i dep cs
    split at hl
    · rename_i c hc
      cases hl
      obtain ⟨h1, h2⟩ := he
      cases h1 with
      | tup c0 vs cs F hlen hF hh =>
        have hlt := (List.getElem?_eq_some_iff.1 hc).1
        exact ⟨F i, z9c (hh i c hc) h2, fun w' => (by simp [Instr.extract, hF i hlt])⟩
    · cases hl
  · rename_i id p
    split at hl
    case h_1 => cases hl
    case h_2 root hroot =>
    split at hl
    case h_2 => cases hl
    case h_1 cs hsub =>
    split at hl
    · rename_i c hc
      cases hl
      obtain ⟨n1, t0, n2, n3⟩ := he
      obtain ⟨v', m1, hrep⟩ := (h.ob id root hroot).sub (z0q id) hsub
      rw [n1] at m1; cases m1
      obtain ⟨v, k1, k2⟩ := z5s (R := R) hroot hsub n1 hrep (j := i) (s := c) hc
      cases hrep with
      | tup c0 vs cs F hlen hF hh =>
        exact ⟨v, k2, fun w' => (by simp only [z6s] at k1; simp [Instr.extract, k1])⟩
    · cases hl
  · cases hl
def zkS (P : Program) (fr : Fr) (t : TypeId) (e : E) : Option E :=
  match z0z P t with
  | some ⟨.string, _, _, _⟩ => match rdV e with
    | some (.string s) => some (scE (.int .i64 s.size))
    | _ => none
  | some ⟨.slice _, _, _, _⟩ => match zeg fr e with
    | some (_, n, _) => some (scE (.int .i64 n))
    | none => none
  | some ⟨.array n _, _, _, _⟩ => some (scE (.int .i64 n))
  | _ => none
theorem zi3 {P : Program} {w : World} {K : Nat -> z0a} {R G : Nat -> Value} {fr : Fr} {a : Act} {t ty : TypeId} {e e' : E} {u : Value} (h : FRep w K R G fr a) (he : ERep w K R fr.ob e u) (hl : zkS P fr t e = some e') :
    ∃ v, ERep w K R fr.ob e' v /\ ∀ w', (Builtin.len_ #[t] ty #[u]).run P w' = .ok v w' := by
  unfold zkS at hl
  split at hl
  · rename_i s1 s2 s3 ht
    have hu := fun w' => z0s ht w'
    simp only [] at hu
    split at hl
    case h_2 => cases hl
    case h_1 s hs =>
    cases hl
    obtain ⟨rfl, -⟩ := z0n he hs
    exact ⟨_, z0N rfl, fun w' => (by simp [Builtin.len_, hu, goInt])⟩
  · rename_i el s1 s2 s3 ht
    have hu := fun w' => z0s ht w'
    simp only [] at hu
    split at hl
    case h_2 => cases hl
    case h_1 dep n cs hrd =>
    cases hl
    obtain ⟨d1, d2⟩ := z2B h he hrd
    rcases d2 with ⟨a0, cap, rfl, hc, rfl, rfl⟩ | ⟨g, o, cap, F, rfl, _⟩
    · exact ⟨_, z0N rfl, fun w' => (by simp [Builtin.len_, hu, goInt])⟩
    · exact ⟨_, z0N rfl, fun w' => (by simp [Builtin.len_, hu, goInt])⟩
  · rename_i n el s1 s2 s3 ht
    have hu := fun w' => z0s ht w'
    simp only [] at hu
    cases hl
    exact ⟨_, z0N rfl, fun w' => (by simp [Builtin.len_, hu, goInt])⟩
  · cases hl
theorem TRep.sc_eq {w : World} {K : Nat -> z0a} {c : z0a} {v u : Value} (h : TRep w K c v (.sc u)) : v = u := by
  generalize ht : T.sc u = t at h
  cases h <;> first | (cases ht; rfl) | cases ht
theorem TRep.sc_B {w : World} {K : Nat -> z0a} {c : z0a} {v u : Value} (h : TRep w K c v (.sc u)) : scB u = true := by
  generalize ht : T.sc u = t at h
  cases h <;> first | (cases ht; assumption) | cases ht
def z4F : List T -> Option (List UInt8)
  | [] => some []
  | .sc (.int .u8 z) :: l => match z4F l with | some bs => some (UInt8.ofNat z.toNat :: bs) | none => none
  | _ => none
def zeK : List T -> Option (List Int)
  | [] => some []
  | .sc (.int .u8 z) :: l => match zeK l with | some bs => some (z :: bs) | none => none
  | _ => none
theorem z7y : ∀ {cs : List T} {bs : List UInt8}, z4F cs = some bs -> ∃ zs : List Int, cs = zs.map (fun z => T.sc (.int .u8 z)) /\ bs = zs.map fun z => UInt8.ofNat z.toNat
  | [], bs, h => by simp only [z4F, Option.some.injEq] at h; subst h; exact ⟨[], rfl, rfl⟩
  | .sc (.int .u8 z) :: l, bs, h => by
    simp only [z4F] at h
    split at h
    · rename_i bs' hb
      cases h
      obtain ⟨zs, h1, h2⟩ := z7y hb
      exact ⟨z :: zs, by simp [h1], by simp [h2]⟩
    · cases h
  | .sc (.bool _) :: _, _, h => by cases h
  | .sc (.int .i8 _) :: _, _, h => by cases h
  | .sc (.int .i16 _) :: _, _, h => by cases h
  | .sc (.int .i32 _) :: _, _, h => by cases h
  | .sc (.int .i64 _) :: _, _, h => by cases h
  | .sc (.int .u16 _) :: _, _, h => by cases h
  | .sc (.int .u32 _) :: _, _, h => by cases h
  | .sc (.int .u64 _) :: _, _, h => by cases h
  | .sc (.float _ _) :: _, _, h => by cases h
  | .sc (.complex _ _ _) :: _, _, h => by cases h
  | .sc (.string _) :: _, _, h => by cases h
  | .sc (.pointer _) :: _, _, h => by cases h
  | .sc (.slice _ _ _) :: _, _, h => by cases h
  | .sc (.map _) :: _, _, h => by cases h
  | .sc (.chan _) :: _, _, h => by cases h
  | .sc (.func _ _ _) :: _, _, h => by cases h
  | .sc .nilFunc :: _, _, h => by cases h
  | .sc (.iface _ _) :: _, _, h => by cases h
  | .sc .nilIface :: _, _, h => by cases h
  | .sc (.agg _) :: _, _, h => by cases h
  | .sc (.tuple _) :: _, _, h => by cases h
  | .dead :: _, _, h => by cases h
  | .agg _ :: _, _, h => by cases h
  | .tup _ :: _, _, h => by cases h
  | .sl _ _ :: _, _, h => by cases h
  | .os _ _ _ :: _, _, h => by cases h
  | .vr _ :: _, _, h => by cases h
  | .vo _ _ :: _, _, h => by cases h
  | .pr _ :: _, _, h => by cases h
def zgz (P : Program) (M : Nat -> Bool) (fr : Fr) (src dst : TypeId) (e : E) : Option E :=
  match z0z P src, z0z P dst with
  | some i, some ⟨.int k, _, _, _⟩ => (match rdV e with | some (.int _ n) => some (scE (.int k (k.wrap n))) | _ => none)
  | some ⟨.slice el, _, _, _⟩, some ⟨.string, _, _, _⟩ => match z0z P el with
    | some ⟨.int .u8, _, _, _⟩ => match zeg fr e with
      | some (dep, n, cs) => if z9b dep M then none else if cs.length = n then (match z4F cs with | some bs => some (scE (.string ⟨bs.toArray⟩)) | none => none) else none
      | none => none
    | _ => none
  | some ⟨.string, _, _, _⟩, some ⟨.string, _, _, _⟩ => (match rdV e with | some (.string s) => some (scE (.string s)) | _ => none)
  | some ⟨.int _, _, _, _⟩, some ⟨.string, _, _, _⟩ => (match rdV e with | some (.int _ n) => some (scE (.string (Utf8.encode n))) | _ => none)
  | _, _ => none
theorem zds (zs : List Int) : ∀ b : ByteArray, zs.foldl (fun r n => r.push (UInt8.ofNat n.toNat)) b = ⟨b.data ++ (zs.map fun z => UInt8.ofNat z.toNat).toArray⟩ := by
  induction zs with
  | nil => intro b; simp
  | cons z zs ih =>
    intro b
    simp only [List.foldl_cons, ih]
    simp [ByteArray.push]
theorem zgy {P : Program} {w : World} {K : Nat -> z0a} {R G : Nat -> Value} {fr : Fr} {a : Act} {M : Nat -> Bool} {src dst : TypeId} {e e' : E} {u : Value} (h : FRep w K R G fr a) (he : ERep w K R fr.ob e u) (hl : zgz P M fr src dst e = some e') :
    ∃ v, ERep w K R fr.ob e' v /\ ∀ w', Stay w w' K M -> (convert src dst u).run P w' = .ok v w' := by
  unfold zgz at hl
  split at hl
  · rename_i i k s1 s2 s3 h1 h2
    have hu1 := fun w' => z0s h1 w'
    have hu2 := fun w' => z0s h2 w'
    simp only [] at hu1 hu2
    split at hl
    · rename_i k' n hn
      cases hl
      obtain ⟨rfl, -⟩ := z0n he hn
      refine ⟨_, z0N rfl, fun w' hst => ?_⟩
      simp only [convert, Sem.run_bind, hu1, hu2, Result.andThen_ok]
      cases i.u <;> simp [Conv.intToInt]
    · cases hl
  · rename_i el s1 s2 s3 s4 s5 s6 h1 h2
    have hu1 := fun w' => z0s h1 w'
    have hu2 := fun w' => z0s h2 w'
    simp only [] at hu1 hu2
    split at hl
    · rename_i s7 s8 s9 h3
      have hu3 := fun w' => z0s h3 w'
      simp only [] at hu3
      split at hl
      · rename_i dep n cs hrd
        split at hl
        · cases hl
        rename_i hM
        split at hl
        · rename_i hlen
          split at hl
          · rename_i bs hb
            cases hl
            obtain ⟨d1, d2⟩ := z2B h he hrd
            obtain ⟨zs, rfl, rfl⟩ := z7y hb
            refine ⟨_, z0N rfl, fun w' hst => ?_⟩
            rcases d2 with ⟨a0, cap, rfl, hc, rfl, h9⟩ | ⟨g, o, cap, F, rfl, hn, hc, hK, hg, hF, hrep⟩
            · have hz : zs = [] := by simpa using h9
              subst hz
              simp only [convert, Sem.run_bind, hu1, hu2, hu3, Result.andThen_ok]
              cases a0 with
              | none => simp [Conv.bytesToString]; rfl
              | some a0 =>
                have := run_bytesToString (P := P) w' a0 0 cap [] (by simp [loadCells, loadCellsFrom])
                simp at this ⊢
                exact this
            · have hst' := hst.dep (by simpa using hM) hg hK
              have hF' : ∀ j z, zs[j]? = some z -> F j = .int .u8 z := fun j z hz => by
                have := hrep j (.sc (.int .u8 z)) (by simp [hz])
                exact this.sc_eq
              have hld := run_loadCells_list (P := P) w' ⟨g, o, none⟩ (zs.map (Value.int .u8)) (fun j v hv => by
                simp only [List.getElem?_map, Option.map_eq_some_iff] at hv
                obtain ⟨z, hz, rfl⟩ := hv
                rw [z3k, z0l hst', ← hF' j z hz]
                exact hF j (by simpa using (List.getElem?_eq_some_iff.1 hz).1))
              have hlz : (zs.map (Value.int .u8)).length = n := by simpa using hlen
              rw [hlz] at hld
              have := run_bytesToString (P := P) w' ⟨g, o, none⟩ n cap zs hld
              simp only [convert, Sem.run_bind, hu1, hu2, hu3, Result.andThen_ok, this]
              rw [zds]; simp
          · cases hl
        · cases hl
      · cases hl
    · cases hl
  · rename_i s1 s2 s3 s4 s5 s6 h1 h2
    have hu1 := fun w' => z0s h1 w'
    have hu2 := fun w' => z0s h2 w'
    simp only [] at hu1 hu2
    split at hl
    · rename_i s hs
      cases hl
      obtain ⟨rfl, -⟩ := z0n he hs
      exact ⟨_, z0N rfl, fun w' _ => (by simp [convert, hu1, hu2])⟩
    · cases hl
  · rename_i k s1 s2 s3 s4 s5 s6 h1 h2
    have hu1 := fun w' => z0s h1 w'
    have hu2 := fun w' => z0s h2 w'
    simp only [] at hu1 hu2
    split at hl
    · rename_i k' n hn
      cases hl
      obtain ⟨rfl, -⟩ := z0n he hn
      exact ⟨_, z0N rfl, fun w' _ => (by simp [convert, hu1, hu2, Conv.intToString])⟩
    · cases hl
  · cases hl
end
section
def zir (P : Program) (fr : Fr) (c : Call) : Option E :=
  match c.callee, c.args.toList, c.argTypes.toList with
  | .builtin .len, [x], [t] => zkS P fr t (opE fr x)
  | .builtin .min, [x, y], _ => (match rdV (opE fr x), rdV (opE fr y) with | some a, some b => (match zlH a b with | some v => some (scE v) | none => none) | _, _ => none)
  | .builtin .max, [x, y], _ => (match rdV (opE fr x), rdV (opE fr y) with | some a, some b => (match zlI a b with | some v => some (scE v) | none => none) | _, _ => none)
  | _, _, _ => none
def zlF (fr : Fr) (e : E) : Option Bool := match e with
  | .one (.k (.slice none 0 0)) => some true
  | e => match zeg fr e with
    | some (_, n, _) => if n = 0 then none else some false
    | none => none
def zkR : T -> Option Bool
  | .sc (.map none) => some true
  | .mp _ _ => some false
  | .mr _ _ => some false
  | .mt _ _ _ => some false
  | .ms _ _ _ => some false
  | _ => none
def zlE (fr : Fr) (e : E) : Option Bool := match e with
  | .one (.k (.map none)) => some true
  | .one (.t none t) => zkR t
  | .one (.h id p) => match z0v fr.ob id with
    | none => none
    | some root => match sub root p with
      | some t => zkR t
      | none => none
  | _ => none
theorem z9Y {w : World} {K : Nat -> z0a} {c : z0a} {u : Value} {t : T} {b : Bool} (h : TRep w K c u t) (ht : zkR t = some b) : ∃ m, u = .map m /\ m.isNone = b := by
  unfold zkR at ht
  split at ht <;> cases ht <;> cases h <;> exact ⟨_, rfl, rfl⟩
theorem zeu {w : World} {K : Nat -> z0a} {R G : Nat -> Value} {fr : Fr} {a : Act} {e : E} {u : Value} {b : Bool} (h : FRep w K R G fr a) (he : ERep w K R fr.ob e u) (hb : zlE fr e = some b) : ∃ m, u = .map m /\ m.isNone = b := by
  unfold zlE at hb
  split at hb
  · cases hb
    exact ⟨none, he, rfl⟩
  · exact z9Y he.1 hb
  · rename_i id p
    split at hb
    case h_1 => cases hb
    case h_2 root hroot =>
    split at hb
    case h_2 => cases hb
    case h_1 t hsub =>
    obtain ⟨n1, t', n2, n3⟩ := he
    obtain ⟨v, e1, r⟩ := (h.ob id root hroot).sub (z0q id) hsub
    rw [n1] at e1; cases e1
    exact z9Y r hb
  · cases hb
def zbS (fr : Fr) (op : BinOp) (u : Option TyI) (x y : E) : Option Value := match y with
  | .one (.k (.map none)) => match u with
    | some ⟨.map _ _, _, _, _⟩ => (match zlE fr x with
      | some b => (match op with | .eql => some (.bool b) | .neq => some (.bool (!b)) | _ => none)
      | none => none)
    | _ => none
  | .one (.k (.slice none 0 0)) => match u with
    | some ⟨.slice _, _, _, _⟩ => (match zlF fr x with
      | some b => (match op with | .eql => some (.bool b) | .neq => some (.bool (!b)) | _ => none)
      | none => none)
    | _ => none
  | _ => none
theorem zd3 {P : Program} {w : World} {K : Nat -> z0a} {R G : Nat -> Value} {fr : Fr} {a : Act} {op : BinOp} {xt : TypeId} {ex ey : E} {ox oy : Operand} {u v r : Value} (h : FRep w K R G fr a) (hx : ERep w K R fr.ob ex u) (hy : ERep w K R fr.ob ey v) (hc : zbS fr op (z0z P xt) ex ey = some r) :
    scB r = true /\ ∀ w' : World, (do eqGuard op xt ox oy u v; binOp op xt u v : Sem Value).run P w' = .ok r w' := by
  unfold zbS at hc
  split at hc
  case h_3 => cases hc
  case h_1 =>
    split at hc
    case h_2 => cases hc
    rename_i s0 s1 s2 s3 s4 hu
    split at hc
    case h_2 => cases hc
    rename_i b hb
    have hv : v = .map none := hy
    subst hv
    obtain ⟨m, rfl, hm⟩ := zeu h hx hb
    have he : ∀ w' : World, (Op.equal xt (.map m) (.map none)).run P w' = .ok b w' := fun w' => by
      have hu' := z0s hu w'
      simp only [] at hu'
      show (Op.equalIn (9999 + 1) xt (.map m) (.map none)).run P w' = _
      rw [Op.equalIn]
      simp only [Sem.run_bind, hu', Result.andThen_ok]
      cases m <;> cases hm <;> rfl
    cases op <;> simp only [] at hc
    all_goals first
      | (cases hc; done)
      | (cases hc
         refine ⟨rfl, fun w' => ?_⟩
         simp [eqGuard, binOp, he w'])
  split at hc
  case h_2 => cases hc
  rename_i s1 s2 s3 s4 hu
  split at hc
  case h_2 => cases hc
  rename_i b hb
  have hv : v = .slice none 0 0 := hy
  subst hv
  have he : ∀ w' : World, (Op.equal xt u (.slice none 0 0)).run P w' = .ok b w' /\ ∃ p n c, u = .slice p n c := fun w' => by
    have hu' := z0s hu w'
    simp only [] at hu'
    unfold zlF at hb
    split at hb
    · cases hb
      have hux : u = .slice none 0 0 := hx
      subst hux
      refine ⟨?_, _, _, _, rfl⟩
      show (Op.equalIn (9999 + 1) xt (.slice none 0 0) (.slice none 0 0)).run P w' = _
      rw [Op.equalIn]
      simp only [Sem.run_bind, hu', Result.andThen_ok, Sem.run_pure]
      rfl
    · split at hb
      · rename_i dep n cs hr
        split at hb
        · cases hb
        · rename_i hn
          cases hb
          obtain ⟨-, h2⟩ := z2B h hx hr
          rcases h2 with ⟨_, _, _, _, e, _⟩ | ⟨g, o, cap, F, e, _⟩
          · exact absurd e hn
          · subst e
            refine ⟨?_, _, _, _, rfl⟩
            show (Op.equalIn (9999 + 1) xt (.slice (some ⟨g, o, none⟩) n cap) (.slice none 0 0)).run P w' = _
            rw [Op.equalIn]
            simp only [Sem.run_bind, hu', Result.andThen_ok, Sem.run_pure]
      · cases hb
  cases op <;> simp only [] at hc
  all_goals first
    | (cases hc; done)
    | (cases hc
       refine ⟨rfl, fun w' => ?_⟩
       obtain ⟨e1, p, n, c, e2⟩ := he w'
       subst e2
       simp [eqGuard, binOp, e1])
def z3V (P : Program) (M : Nat -> Bool) (fr : Fr) : Op -> Option E
  | .move x => some (opE fr x)
  | .assign x => some (opE fr x)
  | .pick c a b => (match rdV (opE fr c) with | some (.bool true) => some (opE fr a) | some (.bool false) => some (opE fr b) | _ => none)
  | .load t x => zd7 P M fr t (opE fr x)
  | .binOp op xt x y _ => (match rdV (opE fr x), rdV (opE fr y) with | some a, some b => (match ziM op (z0z P xt) a b with | some v => some (scE v) | none => none) | _, _ => (match zbS fr op (z0z P xt) (opE fr x) (opE fr y) with | some v => some (scE v) | none => none))
  | .unOp op _ x => (match rdV (opE fr x) with | some a => (match unS op a with | some v => some (scE v) | none => none) | none => none)
  | .convert s d x => zgz P M fr s d (opE fr x)
  | .fieldAddr t x f => z3s P t (opE fr x) f
  | .field t x f => zah P fr t (opE fr x) f
  | .indexAddr t x i => (match rdV (opE fr i) with | some (.int _ i) => z4p P fr t (opE fr x) i | _ => none)
  | .index t x i => (match rdV (opE fr i) with | some (.int _ i) => zc6 P fr t (opE fr x) i | _ => none)
  | .slice t x lo hi none => zbH P fr t (opE fr x) (lo.map (opE fr)) (hi.map (opE fr))
  | .extract x i => z6F fr (opE fr x) i
  | .nilCheck x => (match opE fr x with | .one (.a id p off) => some (.one (.a id p off)) | .one (.ea dep cs off) => some (.one (.ea dep cs off)) | .one (.t dep (.pr cs)) => some (.one (.ea dep cs 0)) | .one (.h id p) => (match z0v fr.ob id with | some root => (match sub root p with | some (.vr _) => some (.one (.a id p 0)) | _ => none) | none => none) | _ => none)
  | .call c => zir P fr c
  | _ => none
theorem z9m {w : World} {K : Nat -> z0a} {R G : Nat -> Value} {fr : Fr} {a : Act} (h : FRep w K R G fr a) (x : Option Operand) : zgN w K R fr.ob (x.map (opE fr)) (x.map a.eval) := by
  cases x with
  | none => trivial
  | some x => exact h.opE x
theorem z9S {P : Program} {w : World} {K : Nat -> z0a} {R G : Nat -> Value} {fr : Fr} {a : Act} {M : Nat -> Bool} {o : Oper} {e : E} (h : FRep w K R G fr a) (hq : z3V P M fr o.op = some e) :
    ∃ v, ERep w K R fr.ob e v /\ ∀ w', Stay w w' K M -> (execOp a.eval o).run P w' = .ok (.value v) w' := by
  have lift : ∀ {s : Sem Value} {v : Value} {w' : World}, s.run P w' = .ok v w' -> (do pure (Next.value (← s)) : Sem Next).run P w' = .ok (.value v) w' := fun {s v w'} hs => by
    simp only [Sem.run_bind, hs, Result.andThen_ok, Sem.run_pure]
  cases hop : o.op with
  | move x =>
    rw [hop] at hq; cases hq
    exact ⟨_, h.opE x, fun w' _ => (by simp [execOp, hop])⟩
  | assign x =>
    rw [hop] at hq; cases hq
    exact ⟨_, h.opE x, fun w' _ => (by simp [execOp, hop])⟩
  | pick c x y =>
    rw [hop] at hq
    simp only [z3V] at hq
    split at hq
    · rename_i hc
      cases hq
      obtain ⟨h1, -⟩ := z0n (h.opE c) hc
      exact ⟨_, h.opE x, fun w' _ => (by simp [execOp, hop, h1, asBool])⟩
    · rename_i hc
      cases hq
      obtain ⟨h1, -⟩ := z0n (h.opE c) hc
      exact ⟨_, h.opE y, fun w' _ => (by simp [execOp, hop, h1, asBool])⟩
    · cases hq
  | load t x =>
    rw [hop] at hq
    obtain ⟨v, h1, h2⟩ := zbV h (h.opE x) hq
    exact ⟨v, h1, fun w' hst => (by simp only [execOp, hop]; exact lift (h2 w' hst))⟩
  | binOp op xt x y yt =>
    rw [hop] at hq
    simp only [z3V] at hq
    split at hq
    · rename_i u v hu hv
      split at hq
      · rename_i r hr
        cases hq
        obtain ⟨h1, -⟩ := z0n (h.opE x) hu
        obtain ⟨h2, -⟩ := z0n (h.opE y) hv
        obtain ⟨h3, -⟩ := zcq (x := x) (y := y) hr default
        refine ⟨r, z0N h3, fun w' _ => ?_⟩
        obtain ⟨-, h4⟩ := zcq (x := x) (y := y) hr w'
        simp only [execOp, hop, h1, h2]
        exact lift h4
      · cases hq
    · split at hq
      · rename_i r hr
        cases hq
        obtain ⟨h3, h4⟩ := zd3 (ox := x) (oy := y) h (h.opE x) (h.opE y) hr
        refine ⟨r, z0N h3, fun w' _ => ?_⟩
        simp only [execOp, hop]
        exact lift (h4 w')
      · cases hq
  | unOp op xt x =>
    rw [hop] at hq
    simp only [z3V] at hq
    split at hq
    · rename_i u hu
      split at hq
      · rename_i r hr
        cases hq
        obtain ⟨h1, -⟩ := z0n (h.opE x) hu
        obtain ⟨h3, -⟩ := zdQ (P := P) hr default
        refine ⟨r, z0N h3, fun w' _ => ?_⟩
        obtain ⟨-, h4⟩ := zdQ (P := P) hr w'
        simp only [execOp, hop, h1]
        exact lift h4
      · cases hq
    · cases hq
  | convert s d x =>
    rw [hop] at hq
    obtain ⟨v, h1, h2⟩ := zgy h (h.opE x) hq
    exact ⟨v, h1, fun w' hst => (by simp only [execOp, hop]; exact lift (h2 w' hst))⟩
  | fieldAddr t x f =>
    rw [hop] at hq
    obtain ⟨v, h1, h2⟩ := z8X (h.opE x) hq
    exact ⟨v, h1, fun w' _ => (by simp only [execOp, hop]; exact lift (h2 w'))⟩
  | field t x f =>
    rw [hop] at hq
    obtain ⟨v, h1, h2⟩ := zf3 h (h.opE x) hq
    exact ⟨v, h1, fun w' _ => (by simp only [execOp, hop]; exact lift (h2 w'))⟩
  | indexAddr t x i =>
    rw [hop] at hq
    simp only [z3V] at hq
    split at hq
    · rename_i k i' hi
      obtain ⟨h3, -⟩ := z0n (h.opE i) hi
      obtain ⟨v, h1, h2⟩ := z8P (k := k) h (h.opE x) hq
      exact ⟨v, h1, fun w' _ => (by simp only [execOp, hop, h3]; exact lift (h2 w'))⟩
    · cases hq
  | index t x i =>
    rw [hop] at hq
    simp only [z3V] at hq
    split at hq
    · rename_i k i' hi
      obtain ⟨h3, -⟩ := z0n (h.opE i) hi
      obtain ⟨v, h1, h2⟩ := zeM (k := k) h (h.opE x) hq
      exact ⟨v, h1, fun w' _ => (by simp only [execOp, hop, h3]; exact lift (h2 w'))⟩
    · cases hq
  | slice t x lo hi mx =>
    rw [hop] at hq
    cases mx with
    | some m => cases hq
    | none =>
      obtain ⟨v, h1, h2⟩ := ze2 h (h.opE x) (z9m h lo) (z9m h hi) hq
      exact ⟨v, h1, fun w' _ => (by simp only [execOp, hop]; exact lift (h2 w'))⟩
  | extract x i =>
    rw [hop] at hq
    obtain ⟨v, h1, h2⟩ := zbg h (h.opE x) hq
    exact ⟨v, h1, fun w' _ => (by simp only [execOp, hop]; exact lift (h2 w'))⟩
  | nilCheck x =>
    rw [hop] at hq
    have hx := h.opE x
    simp only [z3V] at hq
    split at hq
    · rename_i id p off he
      cases hq
      rw [he] at hx
      refine ⟨_, hx, fun w' _ => ?_⟩
      obtain ⟨hv, g, n1, n4, n5, n6⟩ := hx
      simp [execOp, hop, n5]
    · rename_i dep cs off he
      cases hq
      rw [he] at hx
      refine ⟨_, hx, fun w' _ => ?_⟩
      obtain ⟨g, o', F, n5, n6⟩ := hx
      simp [execOp, hop, n5]
    · rename_i dep cs he
      cases hq
      rw [he] at hx
      obtain ⟨hx1, hx2⟩ := hx
      generalize hu : a.eval x = u at hx1
      cases hx1 with
      | pr _ g o' _ F hK hg hF hh =>
        refine ⟨_, ⟨g, o', F, rfl, hK, hg, hF, hh, hx2⟩, fun w' _ => ?_⟩
        simp [execOp, hop, hu]
    · rename_i id p he
      split at hq
      case h_2 => cases hq
      case h_1 root hroot =>
      split at hq
      case h_2 => cases hq
      case h_1 cs hsub =>
      cases hq
      rw [he] at hx
      obtain ⟨n1, t0, n2, n3⟩ := hx
      obtain ⟨v', m1, hrep⟩ := (h.ob id root hroot).sub (z0q id) hsub
      rw [n1] at m1; cases m1
      generalize hu : a.eval x = u at hrep n1
      cases hrep with
      | vr _ g _ arr e fz F hfz hc0 hK hg hl hF hh =>
        refine ⟨_, ⟨_, g, n1, rfl, rfl, root, hroot, by rw [hsub]; rfl⟩, fun w' _ => ?_⟩
        simp [execOp, hop, hu]
    · cases hq
  | call c =>
    rw [hop] at hq
    simp only [z3V, zir] at hq
    obtain ⟨callee, args, ats⟩ := c
    split at hq
    · rename_i x t h1 h2 h3
      simp only [] at h1 h2 h3
      subst h1
      obtain rfl : args = #[x] := by apply Array.ext'; simpa using h2
      obtain rfl : ats = #[t] := by apply Array.ext'; simpa using h3
      obtain ⟨v, e1, e2⟩ := zi3 (ty := o.type) h (h.opE x) hq
      refine ⟨v, e1, fun w' _ => ?_⟩
      simp only [execOp, hop, resolve, Sem.run_bind, Sem.run_pure, Result.andThen_ok, invoke, builtin]
      simp [e2]
    · rename_i x y h1 h2
      simp only [] at h1 h2
      subst h1
      obtain rfl : args = #[x, y] := by apply Array.ext'; simpa using h2
      split at hq
      · rename_i u v hu hv
        split at hq
        · rename_i r hr
          cases hq
          obtain ⟨e1, -⟩ := z0n (h.opE x) hu
          obtain ⟨e2, -⟩ := z0n (h.opE y) hv
          unfold zlH at hr
          split at hr
          · cases hr
            refine ⟨_, z0N rfl, fun w' _ => ?_⟩
            simp only [execOp, hop, resolve, Sem.run_bind, Sem.run_pure, Result.andThen_ok, invoke, builtin]
            simp [e1, e2, Builtin.min_, Builtin.min2]
          · cases hr
        · cases hq
      · cases hq
    · rename_i x y h1 h2
      simp only [] at h1 h2
      subst h1
      obtain rfl : args = #[x, y] := by apply Array.ext'; simpa using h2
      split at hq
      · rename_i u v hu hv
        split at hq
        · rename_i r hr
          cases hq
          obtain ⟨e1, -⟩ := z0n (h.opE x) hu
          obtain ⟨e2, -⟩ := z0n (h.opE y) hv
          unfold zlI at hr
          split at hr
          · cases hr
            refine ⟨_, z0N rfl, fun w' _ => ?_⟩
            simp only [execOp, hop, resolve, Sem.run_bind, Sem.run_pure, Result.andThen_ok, invoke, builtin]
            simp [e1, e2, Builtin.max_, Builtin.max2]
          · cases hr
        · cases hq
      · cases hq
    · cases hq
  | alloc => rw [hop] at hq; cases hq
  | box => rw [hop] at hq; cases hq
  | build => rw [hop] at hq; cases hq
  | buildSlice => rw [hop] at hq; cases hq
  | insert => rw [hop] at hq; cases hq
  | store => rw [hop] at hq; cases hq
  | ready => rw [hop] at hq; cases hq
  | waits => rw [hop] at hq; cases hq
  | sliceToArrayPointer => rw [hop] at hq; cases hq
  | makeInterface => rw [hop] at hq; cases hq
  | makeFunc => rw [hop] at hq; cases hq
  | makeMap => rw [hop] at hq; cases hq
  | makeChan => rw [hop] at hq; cases hq
  | makeSlice => rw [hop] at hq; cases hq
  | lookup => rw [hop] at hq; cases hq
  | mapUpdate => rw [hop] at hq; cases hq
  | mapEntry => rw [hop] at hq; cases hq
  | entryStore => rw [hop] at hq; cases hq
  | range => rw [hop] at hq; cases hq
  | next => rw [hop] at hq; cases hq
  | entry => rw [hop] at hq; cases hq
  | typeAssert => rw [hop] at hq; cases hq
  | go => rw [hop] at hq; cases hq
  | defer => rw [hop] at hq; cases hq
  | panic => rw [hop] at hq; cases hq
  | send => rw [hop] at hq; cases hq
  | recv => rw [hop] at hq; cases hq
  | select => rw [hop] at hq; cases hq
end
section
def z4b : A -> T
  | .k v => z4f true v
  | .t none x => if z5S x then x else .dead
  | .ea none cs 0 => .pr cs
  | _ => .dead
def z4v : A -> Bool
  | .k _ => false
  | .t none _ => false
  | .ea none _ 0 => false
  | _ => true
theorem z7l {w : World} {K : Nat -> z0a} {R : Nat -> Value} {ob : List (Nat × T)} {x : A} {u : Value} (h : ARep w K R ob x u) (c : z0a) : TRep w K c u (z4b x) := by
  unfold z4b
  split
  · obtain rfl : u = _ := h; exact z2u w K true c _
  · split
    · exact h.1.any rfl c
    · exact .dead c u
  · rename_i cs
    obtain ⟨g, o, F, h1, h2, h3, h4, h5, h6⟩ := h
    rw [h1]
    exact .pr c g o _ F h2 h3 h4 h5
  · exact .dead c u
def z3l (p : List Nat) (off base : Nat) : List A -> List (List Nat × Nat)
  | [] => []
  | x :: xs => if z4v x then (p ++ [off], base) :: z3l p (off + 1) (base + 1) xs else z3l p (off + 1) (base + 1) xs
theorem z5l {p : List Nat} : ∀ {xs : List A} {off base : Nat} {q : List Nat} {r : Nat}, (q, r) ∈ z3l p off base xs -> ∃ j, j < xs.length /\ q = p ++ [off + j] /\ r = base + j
  | [], off, base, q, r, h => by cases h
  | x :: xs, off, base, q, r, h => by
    simp only [z3l] at h
    have rest : (q, r) ∈ z3l p (off + 1) (base + 1) xs -> ∃ j, j < (x :: xs).length /\ q = p ++ [off + j] /\ r = base + j := fun h => by
      obtain ⟨j, h1, h2, h3⟩ := z5l h
      exact ⟨j + 1, by simpa using h1, by rw [h2]; congr 2; omega, by omega⟩
    split at h
    · rcases List.mem_cons.1 h with e | e
      · cases e; exact ⟨0, by simp, rfl, rfl⟩
      · exact rest e
    · exact rest h
def z6t (n : Nat) : List (Nat × E) -> List (Nat × E)
  | [] => []
  | (i, x) :: r => if i < n ∨ n + 1000 <= i then (i, x) :: z6t n r else z6t n r
theorem zdp (n : Nat) (l : List (Nat × E)) (j : Nat) : z0E (z6t n l) j = z0E l j ∨ z0E (z6t n l) j = .one .dead := by
  induction l with
  | nil => exact .inl rfl
  | cons a r ih =>
    obtain ⟨i, x⟩ := a
    simp only [z6t]
    by_cases h : i = j
    · subst h
      by_cases h2 : i < n ∨ n + 1000 <= i
      · rw [if_pos h2]; left; simp [z0E]
      · rw [if_neg h2]
        right
        have : ∀ l : List (Nat × E), z0E (z6t n l) i = .one .dead := by
          intro l
          induction l with
          | nil => rfl
          | cons b r ih =>
            obtain ⟨k, y⟩ := b
            simp only [z6t]
            split
            · simp only [z0E]
              rw [if_neg (by omega)]; exact ih
            · exact ih
        exact this r
    · split
      · simp only [z0E, if_neg h]; exact ih
      · simp only [z0E, if_neg h]; exact ih
theorem zdv (n : Nat) (l : List (Nat × E)) (i : Nat) (h1 : n <= i) (h2 : i < n + 1000) : z0E (z6t n l) i = .one .dead := by
  induction l with
  | nil => rfl
  | cons b r ih =>
    obtain ⟨k, y⟩ := b
    simp only [z6t]
    split
    · simp only [z0E]
      rw [if_neg (by omega)]; exact ih
    · exact ih
theorem FRep.reG {w : World} {K : Nat -> z0a} {R G G2 : Nat -> Value} {fr : Fr} {a : Act} (h : FRep w K R G fr a) (hG : ∀ i, fr.nt <= i -> z0E fr.tm i = .one .dead ∨ G2 i = G i) : FRep w K R G2 fr a := by
  refine ⟨fun i => ?_, h.ob, h.nt, h.df⟩
  have hi := h.tm i
  by_cases hlt : i < a.tmps.size
  · rw [z3M, if_pos hlt] at hi ⊢; exact hi
  · rcases hG i (by rw [← h.nt]; omega) with e | e
    · rw [e]; trivial
    · rw [z3M, if_neg hlt] at hi ⊢; rw [e]; exact hi
def zfB (mv : Bool) (fr : Fr) (id : Nat) (l : List (List Nat × Nat)) : Option Fr :=
  match l with
  | [] => some fr
  | l => match plugL mv fr id l with | some fr' => some { fr' with tm := z6t fr'.nt fr'.tm } | none => none
def zdu (fr : Fr) (id : Nat) (l : List (List Nat × Nat)) : Option Fr :=
  match l with
  | [] => some fr
  | l => match plugL' fr id l with | some fr' => some { fr' with tm := z6t fr'.nt fr'.tm } | none => none
theorem FRep.fin {mv : Bool} {w : World} {K : Nat -> z0a} {R G : Nat -> Value} {fr fr' : Fr} {a : Act} {id : Nat} {l : List (List Nat × Nat)} (h : FRep w K R G fr a) (hl : ∀ q r, (q, r) ∈ l -> nav w (R id) q = some (z3M a G r) /\ r ≠ id) (hf : zfB mv fr id l = some fr') :
    ∃ K' R', FRep w K' R' G fr' a /\ Step w K w K' /\ fr'.nt = fr.nt /\ (mv = false -> (zdu fr id l).isSome = true -> ∀ M : Nat -> Bool, M id = false -> ∀ b, KMc M (K b) (K' b)) := by
  unfold zfB at hf
  split at hf
  · cases hf; exact ⟨K, R, h, Step.refl _ _, rfl, fun _ _ _ _ _ => KMc.rfl⟩
  · split at hf
    · rename_i fr1 h1
      cases hf
      obtain ⟨K', R', a1, a2, a3, _, a5⟩ := h.plugL hl h1
      refine ⟨K', R', a1.weaken (zdp _ _), a2, a3, fun hmv hs M hM b => a5 hmv ?_ M hM b⟩
      subst hmv
      unfold zdu at hs
      split at hs
      · simpa [Proofs.YthbchhekejljjaaGreatDoor.plugL, plugL'] using h1
      · split at hs
        · rename_i fr2 h2
          rw [h2]
          have := z9T h2
          rw [h1] at this
          exact this.symm
        · cases hs
    · cases hf
theorem z7v {mv : Bool} {fr fr' : Fr} {id : Nat} {l : List (List Nat × Nat)} (hf : zfB mv fr id l = some fr') (hl : l ≠ []) (i : Nat) (h1 : fr'.nt <= i) (h2 : i < fr'.nt + 1000) : z0E fr'.tm i = .one .dead := by
  unfold zfB at hf
  split at hf
  · exact absurd rfl hl
  · split at hf
    · cases hf
      exact zdv _ _ _ h1 h2
    · cases hf
theorem z6w {p : List Nat} : ∀ {xs : List A} {off base : Nat}, xs.any z4v = true -> z3l p off base xs ≠ []
  | [], off, base, h => by cases h
  | x :: xs, off, base, h => by
    simp only [z3l]
    split
    · simp
    · rename_i hx
      refine z6w ?_
      simpa [hx] using h
structure NewB (w w1 : World) (o : Obj) : Prop where
  os : w1.os = w.os
  tape : w1.tape = w.tape
  output : w1.output = w.output
  heap : w1.heap = w.heap.push o
theorem NewB.size {w w1 : World} {o : Obj} (h : NewB w w1 o) : w1.heap.size = w.heap.size + 1 := by rw [h.heap]; simp
theorem NewB.old {w w1 : World} {o : Obj} (h : NewB w w1 o) {b : Nat} (hb : b < w.heap.size) : w1.heap[b]? = w.heap[b]? := by
  rw [h.heap, Array.getElem?_push, if_neg (by omega)]
theorem NewB.new {w w1 : World} {o : Obj} (h : NewB w w1 o) : w1.heap[w.heap.size]? = some o := by
  rw [h.heap, Array.getElem?_push, if_pos rfl]
theorem NewB.alloc (w : World) (o : Obj) : NewB w { w with heap := w.heap.push o } o := ⟨rfl, rfl, rfl, rfl⟩
theorem NewB.step {w w1 : World} {K : Nat -> z0a} {o : Obj} {c : z0a} (h : NewB w w1 o) : Step w K w1 (fun b => if b = w.heap.size then c else K b) :=
  ⟨h.os, h.tape, h.output, by rw [h.size]; omega, fun b hb _ => ⟨by
    show (if b = w.heap.size then c else K b) = K b
    rw [if_neg (by omega)], h.old hb⟩, .olds fun b hb => h.old hb⟩
theorem NewB.keep {w w1 : World} {K : Nat -> z0a} {o : Obj} {c : z0a} (h : NewB w w1 o) : Keep w w1 K (fun b => if b = w.heap.size then c else K b) (fun _ => True) :=
  ⟨fun b hb e => ⟨by
    show (if b = w.heap.size then c else K b) = []
    rw [if_neg (by omega)]; exact e, h.old hb⟩, fun b hb _ => ⟨by
    show (if b = w.heap.size then c else K b) = K b
    rw [if_neg (by omega)], h.old hb⟩, by rw [h.size]; omega⟩
def zjw (mv : Bool) (fr : Fr) (d : Nat) (mk : List T -> T) (hdl : E) (xs : List A) : Option Fr :=
  if d < fr.nt /\ xs.length <= 1000 then
    zfB mv { fr with tm := z6Y (z2k (kill d) (if xs.any z4v then putR fr.tm fr.nt xs else fr.tm)) d hdl, ob := z1Z fr.ob d (mk (xs.map z4b)) } d (z3l [] 0 fr.nt xs)
  else none
def zhX (fr : Fr) (d : Nat) (mk : List T -> T) (hdl : E) (xs : List A) : Option Fr := zjw false fr d mk hdl xs
def zb5 (fr : Fr) (d : Nat) (mk : List T -> T) (hdl : E) (xs : List A) : Bool :=
  (zdu { fr with tm := z6Y (z2k (kill d) (if xs.any z4v then putR fr.tm fr.nt xs else fr.tm)) d hdl, ob := z1Z fr.ob d (mk (xs.map z4b)) } d (z3l [] 0 fr.nt xs)).isSome
theorem z5E {p : List Nat} : ∀ {xs : List A} {off base : Nat}, xs.any z4v = false -> z3l p off base xs = []
  | [], off, base, h => rfl
  | x :: xs, off, base, h => by
    simp only [List.any_cons, Bool.or_eq_false_iff] at h
    simp only [z3l, h.1, Bool.false_eq_true, if_false]
    exact z5E h.2
theorem FRep.newObjG {mv : Bool} {w : World} {K : Nat -> z0a} {R G : Nat -> Value} {fr fr' : Fr} {a : Act} {d : Nat} {mk : List T -> T} {hdl : E} {xs : List A} {arr : Array Value} {el : TypeId} {fz : Nat × Nat} {v : Value} {w1 : World} (h : FRep w K R G fr a) (hw1 : NewB w w1 (.cells arr el fz))
    (hx : ∀ j x, xs[j]? = some x -> ARep w K R fr.ob x (arr.getD j undef)) (hlen : xs.length <= arr.size)
    (hv : v = .pointer (some ⟨w.heap.size, 0, none⟩) ∨ ∃ n cap, v = .slice (some ⟨w.heap.size, 0, none⟩) n cap)
    (hmk : ∀ (w' : World) (K' : Nat -> z0a) (cs : List T) (F : Nat -> Value), cs.length = xs.length -> K' w.heap.size = col d -> w'.heap[w.heap.size]? = some (.cells arr el fz) -> (∀ j, j < cs.length -> arr[j]? = some (F j)) ->
      (∀ j t, cs[j]? = some t -> TRep w' K' (col d ++ [j]) (F j) t) -> TRep w' K' (col d) v (mk cs))
    (hh : (hdl = .one (.h d []) ∨ (hdl = .one (.a d [] 0)))) (hva : hdl = .one (.a d [] 0) -> v = .pointer (some ⟨w.heap.size, 0, none⟩))
    (hf : zjw mv fr d mk hdl xs = some fr') : ∃ K' R', FRep w1 K' R' G fr' (a.put (some d) v) /\ Step w K w1 K' /\ (mv = false -> zb5 fr d mk hdl xs = true -> ∀ M : Nat -> Bool, M d = false -> ∀ b, b < w.heap.size -> KMc M (K b) (K' b)) := by
  unfold zjw at hf
  split at hf
  case isFalse => cases hf
  case isTrue hd1 =>
  obtain ⟨hd, hx1000⟩ := hd1
  let K1 : Nat -> z0a := fun b => if b = w.heap.size then col d else K b
  have hk : Keep w w1 K K1 (fun _ => True) := hw1.keep
  have hst : Step w K w1 K1 := hw1.step
  have hnew : w1.heap[w.heap.size]? = some (.cells arr el fz) := hw1.new
  have key : ∀ (G1 : Nat -> Value) (tm1 : List (Nat × E)), FRep w K R G1 { fr with tm := tm1 } a -> (∀ j, j < xs.length -> xs.any z4v = true -> G1 (fr.nt + j) = arr.getD j undef) ->
      ∀ fr', zfB mv { fr with tm := z6Y (z2k (kill d) tm1) d hdl, ob := z1Z fr.ob d (mk (xs.map z4b)) } d (z3l [] 0 fr.nt xs) = some fr' ->
      ∃ K' R', FRep w1 K' R' G1 fr' (a.put (some d) v) /\ Step w K w1 K' /\ fr'.nt = fr.nt /\ (mv = false -> (zdu { fr with tm := z6Y (z2k (kill d) tm1) d hdl, ob := z1Z fr.ob d (mk (xs.map z4b)) } d (z3l [] 0 fr.nt xs)).isSome = true -> ∀ M : Nat -> Bool, M d = false -> ∀ b, b < w.heap.size -> KMc M (K b) (K' b)) := by
    intro G1 tm1 h1 hG fr' hf
    have h2 := h1.keep hk
    have hx2 : ∀ j x, xs[j]? = some x -> ARep w1 K1 R fr.ob x (arr.getD j undef) := fun j x hj => (hx j x hj).keep h.ob hk
    have ht : TRep w1 K1 (col d) v (mk (xs.map z4b)) := by
      refine hmk w1 K1 _ (fun j => arr.getD j undef) (by simp) (by simp [K1]) hnew (fun j hj => ?_) (fun j t hj => ?_)
      · have : j < arr.size := by simp at hj; omega
        simp [Array.getD_eq_getD_getElem?, this]
      · simp only [List.getElem?_map, Option.map_eq_some_iff] at hj
        obtain ⟨x, hx', rfl⟩ := hj
        exact z7l (hx2 j x hx') _
    have h3 := h2.replace (d := d) (v := v) (t := mk (xs.map z4b)) ⟨fun b hb e => ⟨e, rfl⟩, fun b hb _ => ⟨rfl, rfl⟩, Nat.le_refl _⟩ ht
    have hobd : z0v (z1Z fr.ob d (mk (xs.map z4b))) d = some (mk (xs.map z4b)) := by simp [z0e]
    have hRd : z3P R d v d = v := by simp [z3P]
    have h4 := h3.put (d := d) (x := hdl) (v := v) hd (by
      rcases hh with e | e
      · subst e
        exact ⟨by rw [hRd]; rfl, _, hobd, rfl⟩
      · have hv' := hva e
        subst e
        exact ⟨v, w.heap.size, by rw [hRd]; rfl, by rw [hv']; rfl, hv', _, hobd, rfl⟩)
    obtain ⟨K2, R2, e1, e2, e3, e4⟩ := h4.fin (l := z3l [] 0 fr.nt xs) (fun q r hm => by
      obtain ⟨j, j1, rfl, rfl⟩ := z5l hm
      have hany : xs.any z4v = true := by
        cases hb : xs.any z4v with
        | true => rfl
        | false => rw [z5E hb] at hm; cases hm
      refine ⟨?_, by omega⟩
      have hja : j < arr.size := by omega
      have hcell : w1.cell? ⟨w.heap.size, j, none⟩ = some arr[j] := by rw [z0i hnew]; simp [hja]
      rw [z8z a G1 d v (by rw [h.nt]; exact hd), if_neg (by omega), hRd]
      have hreg : z3M a G1 (fr.nt + j) = arr[j] := by
        rw [z3M, if_neg (by rw [h.nt]; omega), hG j j1 hany]
        simp [Array.getD_eq_getD_getElem?, hja]
      rw [hreg]
      simp only [List.nil_append, Nat.zero_add, nav]
      rcases hv with e | ⟨n, cap, e⟩ <;> rw [e] <;> simp [z6s, hcell]) hf
    exact ⟨K2, R2, e1, hst.trans e2, e3, fun hmv hs M hM b hb => by
      have := e4 hmv hs M hM b
      have hK : K1 b = K b := by simp only [K1]; rw [if_neg (by omega)]
      rw [hK] at this; exact this⟩
  by_cases hany : xs.any z4v = true
  · rw [if_pos hany] at hf
    obtain ⟨K2, R2, e1, e2, e3, e4⟩ := key (gv G fr.nt (fun j => arr.getD j undef) xs.length) _ (h.putR (Nat.le_refl _) hx) (fun j hj _ => by simp only [gv]; rw [if_pos (by omega)]; congr 1; omega) fr' hf
    refine ⟨K2, R2, e1.reG fun i hi => ?_, e2, fun hmv hs => e4 hmv (by unfold zb5 at hs; rw [if_pos hany] at hs; exact hs)⟩
    by_cases hlt : i < fr'.nt + 1000
    · exact .inl (z7v hf (z6w hany) i hi hlt)
    · right; simp only [gv]; rw [if_neg (by omega)]
  · rw [if_neg hany] at hf
    obtain ⟨K2, R2, e1, e2, e3, e4⟩ := key G fr.tm h (fun j hj e => absurd e hany) fr' hf
    exact ⟨K2, R2, e1, e2, fun hmv hs => e4 hmv (by unfold zb5 at hs; rw [if_neg hany] at hs; exact hs)⟩
theorem FRep.newObjM {w : World} {K : Nat -> z0a} {R G : Nat -> Value} {fr fr' : Fr} {a : Act} {d : Nat} {mk : List T -> T} {hdl : E} {xs : List A} {arr : Array Value} {el : TypeId} {fz : Nat × Nat} {v : Value} {w1 : World} (h : FRep w K R G fr a) (hw1 : NewB w w1 (.cells arr el fz))
    (hx : ∀ j x, xs[j]? = some x -> ARep w K R fr.ob x (arr.getD j undef)) (hlen : xs.length <= arr.size)
    (hv : v = .pointer (some ⟨w.heap.size, 0, none⟩) ∨ ∃ n cap, v = .slice (some ⟨w.heap.size, 0, none⟩) n cap)
    (hmk : ∀ (w' : World) (K' : Nat -> z0a) (cs : List T) (F : Nat -> Value), cs.length = xs.length -> K' w.heap.size = col d -> w'.heap[w.heap.size]? = some (.cells arr el fz) -> (∀ j, j < cs.length -> arr[j]? = some (F j)) ->
      (∀ j t, cs[j]? = some t -> TRep w' K' (col d ++ [j]) (F j) t) -> TRep w' K' (col d) v (mk cs))
    (hh : (hdl = .one (.h d []) ∨ (hdl = .one (.a d [] 0)))) (hva : hdl = .one (.a d [] 0) -> v = .pointer (some ⟨w.heap.size, 0, none⟩))
    (hf : zhX fr d mk hdl xs = some fr') : ∃ K' R', FRep w1 K' R' G fr' (a.put (some d) v) /\ Step w K w1 K' /\ (zb5 fr d mk hdl xs = true -> ∀ M : Nat -> Bool, M d = false -> ∀ b, b < w.heap.size -> KMc M (K b) (K' b)) := by
  obtain ⟨K', R', h1, h2, h3⟩ := h.newObjG hw1 hx hlen hv hmk hh hva hf
  exact ⟨K', R', h1, h2, h3 rfl⟩
theorem FRep.newObj {w : World} {K : Nat -> z0a} {R G : Nat -> Value} {fr fr' : Fr} {a : Act} {d : Nat} {mk : List T -> T} {hdl : E} {xs : List A} {arr : Array Value} {el : TypeId} {fz : Nat × Nat} {v : Value} {w1 : World} (h : FRep w K R G fr a) (hw1 : NewB w w1 (.cells arr el fz))
    (hx : ∀ j x, xs[j]? = some x -> ARep w K R fr.ob x (arr.getD j undef)) (hlen : xs.length <= arr.size)
    (hv : v = .pointer (some ⟨w.heap.size, 0, none⟩) ∨ ∃ n cap, v = .slice (some ⟨w.heap.size, 0, none⟩) n cap)
    (hmk : ∀ (w' : World) (K' : Nat -> z0a) (cs : List T) (F : Nat -> Value), cs.length = xs.length -> K' w.heap.size = col d -> w'.heap[w.heap.size]? = some (.cells arr el fz) -> (∀ j, j < cs.length -> arr[j]? = some (F j)) ->
      (∀ j t, cs[j]? = some t -> TRep w' K' (col d ++ [j]) (F j) t) -> TRep w' K' (col d) v (mk cs))
    (hh : (hdl = .one (.h d []) ∨ (hdl = .one (.a d [] 0)))) (hva : hdl = .one (.a d [] 0) -> v = .pointer (some ⟨w.heap.size, 0, none⟩))
    (hf : zhX fr d mk hdl xs = some fr') : ∃ K' R', FRep w1 K' R' G fr' (a.put (some d) v) /\ Step w K w1 K' := by
  obtain ⟨K', R', h1, h2, _⟩ := h.newObjM hw1 hx hlen hv hmk hh hva hf
  exact ⟨K', R', h1, h2⟩
end
section
theorem z1x (arr : Array Value) (j : Nat) (hj : j < arr.size) : arr[j]? = some (arr.getD j undef) := by
  simp [Array.getD_eq_getD_getElem?, hj]
def zcw (P : Program) (fr : Fr) (t : TypeId) (d : Nat) : Option Fr :=
  match z0z P t with
  | some ⟨_, _, _, some zs⟩ => zhX fr d (fun _ => .vr zs) (.one (.a d [] 0)) []
  | _ => none
theorem zfu {P : Program} {w : World} {K : Nat -> z0a} {R G : Nat -> Value} {fr fr' : Fr} {a : Act} {t : TypeId} {d : Nat} (h : FRep w K R G fr a) (hf : zcw P fr t d = some fr') :
    ∃ v w', (Instr.alloc t true (.tuple #[])).run P w = .ok v w' /\ (∃ K' R', FRep w' K' R' G fr' (a.put (some d) v) /\ Step w K w' K') /\ ∀ b, b < w.heap.size -> w'.heap[b]? = w.heap[b]? := by
  unfold zcw at hf
  split at hf
  case h_2 => cases hf
  case h_1 u s b zs ht =>
  obtain ⟨h1, j, h2, h3, h4, h5⟩ := z0L ht
  cases hz : j.zero with
  | none => rw [hz] at h5; cases h5
  | some z =>
    rw [hz] at h5
    simp only [Option.some.injEq] at h5
    have hrun : (Instr.alloc t true (.tuple #[])).run P w = .ok (.pointer (some ⟨w.heap.size, 0, none⟩)) { w with heap := w.heap.push (.cells z.cells t) } := by
      simp [Instr.alloc, zeroValue, typeInfo, h2, hz, newVar, newRow, newObj, Sem.run]
    refine ⟨_, _, hrun, ?_, fun b hb => (NewB.alloc w _).old hb⟩
    refine h.newObj (NewB.alloc w _) (xs := []) (fun j x hx => by cases hx) (Nat.zero_le _) (.inl rfl) (fun w' K' cs F hl hK hg hF hk => ?_) (.inr rfl) (fun _ => rfl) hf
    refine .vr (col d) _ zs z.cells t (0, 0) (fun j => z.cells.getD j undef) (fun i _ => by omega) (z0q d) hK hg (by rw [← h5, z1X]; simp) (fun j hj => z1x _ _ (by rw [← h5, z1X] at hj; simpa using hj)) (fun j t' hj => ?_)
    rw [← h5] at hj
    obtain ⟨zv, hzv, hr⟩ := zaC hj
    rw [Array.getElem?_toList] at hzv
    have : z.cells.getD j undef = zv := by simp [Array.getD_eq_getD_getElem?, hzv]
    rw [this]
    exact hr _ _ _
def zl0 (P : Program) (fr : Fr) (t : TypeId) (e : E) (d : Nat) : Option Fr :=
  match z0z P t with
  | some ti => match cellsE fr (z1O ti.u) e with
    | some xs => if xs.all (z4g fr) then zhX fr d .vr (.one (.a d [] 0)) xs else none
    | none => none
  | none => none
theorem zit {P : Program} {w : World} {K : Nat -> z0a} {R G : Nat -> Value} {fr fr' : Fr} {a : Act} {t : TypeId} {d : Nat} {e : E} {u : Value} (h : FRep w K R G fr a) (he : ERep w K R fr.ob e u) (hf : zl0 P fr t e d = some fr') :
    ∃ v w', (Instr.box t u).run P w = .ok v w' /\ (∃ K' R', FRep w' K' R' G fr' (a.put (some d) v) /\ Step w K w' K') /\ ∀ b, b < w.heap.size -> w'.heap[b]? = w.heap[b]? := by
  unfold zl0 at hf
  split at hf
  case h_2 => cases hf
  case h_1 ti hti =>
  split at hf
  case h_2 => cases hf
  case h_1 xs hxs =>
  split at hf
  case isFalse => cases hf
  case isTrue hall =>
  obtain ⟨c1, c2, c3⟩ := h.cellsE he hxs hall
  have hrun : (Instr.box t u).run P w = .ok (.pointer (some ⟨w.heap.size, 0, none⟩)) { w with heap := w.heap.push (.cells u.cells t) } := by
    simp [Instr.box, newVar, newRow, newObj, Sem.run]
  refine ⟨_, _, hrun, ?_, fun b hb => (NewB.alloc w _).old hb⟩
  refine h.newObj (NewB.alloc w _) c2 (by omega) (.inl rfl) (fun w' K' cs F hl hK hg hF hk => ?_) (.inr rfl) (fun _ => rfl) hf
  exact .vr (col d) _ cs u.cells t (0, 0) F (fun i _ => by omega) (z0q d) hK hg (by omega) hF hk
def z7G {α : Type} (l : List α) (off : Nat) : List α -> List α
  | [] => l
  | x :: xs => z7G (l.set off x) (off + 1) xs
theorem z9K {α : Type} (l : List α) (off : Nat) (xs : List α) : (z7G l off xs).length = l.length := by
  induction xs generalizing l off with
  | nil => rfl
  | cons x xs ih => rw [z7G, ih, List.length_set]
theorem z9L {α : Type} (xs : List α) : ∀ (cs : List α) (off j : Nat), off + xs.length <= cs.length -> (z7G cs off xs)[j]? = if off <= j /\ j < off + xs.length then xs[j - off]? else cs[j]? := by
  induction xs with
  | nil => intro cs off j h; simp only [z7G, List.length_nil]; rw [if_neg (by omega)]
  | cons x xs ih =>
    intro cs off j h
    simp only [List.length_cons] at h
    rw [z7G, ih _ _ _ (by simp; omega)]
    simp only [List.length_cons]
    by_cases h1 : off + 1 <= j /\ j < off + 1 + xs.length
    · rw [if_pos h1, if_pos (by omega)]
      rw [show j - off = (j - (off + 1)) + 1 by omega, List.getElem?_cons_succ]
    · rw [if_neg h1]
      by_cases h2 : j = off
      · subst h2
        rw [if_pos (by omega), List.getElem?_set_self (by omega)]; simp
      · rw [if_neg (by omega), List.getElem?_set_ne (fun e => h2 e.symm)]
def zeF (x : A) : A -> A
  | .k (.slice none 0 0) => (match x with | .t none (.os s 0 []) => .t none (.os s 0 []) | _ => .k (.slice none 0 0))
  | y => y
def z4a : List A -> List A -> List A
  | _, [] => []
  | [], y :: ys => y :: ys
  | x :: xs, y :: ys => zeF x y :: z4a xs ys
theorem zgf (x y : A) : zeF x y = y ∨ (zeF x y = x /\ y = .k (.slice none 0 0) /\ ∃ s, x = .t none (.os s 0 [])) := by
  unfold zeF
  split
  · split
    · exact .inr ⟨rfl, rfl, _, rfl⟩
    · exact .inl rfl
  · exact .inl rfl
theorem z5t : ∀ (xs ys : List A), (z4a xs ys).length = ys.length
  | [], [] => rfl
  | _ :: _, [] => rfl
  | [], _ :: _ => rfl
  | _ :: xs, _ :: ys => by simp only [z4a, List.length_cons, z5t xs ys]
theorem z8i : ∀ (xs ys : List A) (j : Nat) (z : A), (z4a xs ys)[j]? = some z -> ∃ y, ys[j]? = some y /\ (z = y ∨ (z ∈ xs /\ y = .k (.slice none 0 0) /\ ∃ s, z = .t none (.os s 0 [])))
  | [], [], j, z, h => by simp [z4a] at h
  | _ :: _, [], j, z, h => by simp [z4a] at h
  | [], y :: ys, j, z, h => ⟨z, h, .inl rfl⟩
  | x :: xs, y :: ys, 0, z, h => by
    simp only [z4a, List.getElem?_cons_zero, Option.some.injEq] at h
    refine ⟨y, rfl, ?_⟩
    rcases zgf x y with e | ⟨e, e2, s, e3⟩
    · exact .inl (by rw [← h, e])
    · exact .inr ⟨by rw [← h, e]; exact List.mem_cons_self, e2, s, by rw [← h, e, e3]⟩
  | x :: xs, y :: ys, j + 1, z, h => by
    simp only [z4a, List.getElem?_cons_succ] at h ⊢
    obtain ⟨y', h1, h2⟩ := z8i xs ys j z h
    exact ⟨y', h1, h2.imp id fun ⟨a, b⟩ => ⟨List.mem_cons_of_mem _ a, b⟩⟩
theorem zgO {w : World} {K : Nat -> z0a} {R : Nat -> Value} {ob : List (Nat × T)} {s : Nat} {v : Value} (h : ARep w K R ob (.k (.slice none 0 0)) v) : ARep w K R ob (.t none (.os s 0 [])) v := by
  have e : v = .slice none 0 0 := h
  subst e
  exact ⟨.nil _ _, fun _ e => by cases e⟩
def z3b (fr : Fr) (place : Nat -> Option (Nat × Nat × Bool)) (cs : List A) : List (Nat × Operand) -> Option (List A)
  | [] => some cs
  | (i, x) :: rest => match place i with
    | none => none
    | some (off, size, agg) => match cellsE fr agg (opE fr x) with
      | none => none
      | some xs => if xs.length = size /\ off + size <= cs.length /\ xs.all (z4g fr) = true then z3b fr place (z7G cs off (z4a ((cs.drop off).take size) xs)) rest else none
theorem zad (off : Nat) : ∀ (vs : List Value) (k : Nat) (cs : Array Value), off + k + vs.length <= cs.size -> ∃ cs', (vs.zipIdx k).foldl (fun cs (c, j) => cs.setIfInBounds (off + j) c) cs = cs' /\ cs'.size = cs.size /\
    ∀ j, cs'[j]? = if off + k <= j /\ j < off + k + vs.length then vs[j - (off + k)]? else cs[j]?
  | [], k, cs, h => ⟨cs, rfl, rfl, fun j => by simp only [List.length_nil]; rw [if_neg (by omega)]⟩
  | v :: vs, k, cs, h => by
    simp only [List.length_cons] at h
    obtain ⟨cs', h1, h2, h3⟩ := zad off vs (k + 1) (cs.setIfInBounds (off + k) v) (by simp; omega)
    refine ⟨cs', by simpa [List.zipIdx_cons] using h1, by simpa using h2, fun j => ?_⟩
    rw [h3 j]
    simp only [List.length_cons]
    by_cases c1 : off + (k + 1) <= j /\ j < off + (k + 1) + vs.length
    · rw [if_pos c1, if_pos (by omega), show j - (off + k) = (j - (off + (k + 1))) + 1 by omega, List.getElem?_cons_succ]
    · rw [if_neg c1, Array.getElem?_setIfInBounds]
      by_cases c2 : off + k = j
      · subst c2
        rw [if_pos rfl, if_pos (by omega), if_pos (by omega)]; simp
      · rw [if_neg c2, if_neg (by omega)]
theorem z8W {w : World} {K : Nat -> z0a} {R G : Nat -> Value} {fr : Fr} {a : Act} (h : FRep w K R G fr a) {pl : Nat -> Option (Nat × Nat × Bool)} {place : Nat -> Option (Nat × Nat)} (hp : ∀ i, place i = (pl i).map fun x => (x.1, x.2.1)) :
    ∀ {parts : List (Nat × Operand)} {cs cs' : List A} {arr : Array Value}, cs.length = arr.size -> (∀ j x, cs[j]? = some x -> ARep w K R fr.ob x (arr.getD j undef)) -> (∀ x ∈ cs, z4g fr x = true) -> z3b fr pl cs parts = some cs' ->
      ∃ arr', Instr.fill place arr (parts.map fun (i, x) => (i, a.eval x)) = some arr' /\ cs'.length = arr'.size /\ arr'.size = arr.size /\ (∀ j x, cs'[j]? = some x -> ARep w K R fr.ob x (arr'.getD j undef)) /\ (∀ x ∈ cs', z4g fr x = true)
  | [], cs, cs', arr, hl, hr, hc, hf => by
    simp only [z3b, Option.some.injEq] at hf
    subst hf
    exact ⟨arr, rfl, hl, rfl, hr, hc⟩
  | (i, x) :: rest, cs, cs', arr, hl, hr, hc, hf => by
    simp only [z3b] at hf
    split at hf
    case h_1 => cases hf
    case h_2 off size agg hpl =>
    split at hf
    case h_1 => cases hf
    case h_2 xs hxs =>
    split at hf
    case isFalse => cases hf
    case isTrue hcond =>
    obtain ⟨hsz, hoff, hall0⟩ := hcond
    obtain ⟨c1, c20, c3⟩ := h.cellsE (h.opE x) hxs hall0
    generalize hys : z4a ((cs.drop off).take size) xs = ys at hf
    have hly : ys.length = xs.length := by rw [← hys, z5t]
    have hget : ∀ j z, ys[j]? = some z -> ∃ y, xs[j]? = some y /\ (z = y ∨ (z ∈ cs /\ y = .k (.slice none 0 0) /\ ∃ s, z = .t none (.os s 0 []))) := fun j z hz => by
      rw [← hys] at hz
      obtain ⟨y, h1, h2⟩ := z8i _ _ j z hz
      exact ⟨y, h1, h2.imp id fun ⟨a, b⟩ => ⟨List.mem_of_mem_drop (List.mem_of_mem_take a), b⟩⟩
    have c2 : ∀ j z, ys[j]? = some z -> ARep w K R fr.ob z ((a.eval x).cells.getD j undef) := fun j z hz => by
      obtain ⟨y, h1, h2⟩ := hget j z hz
      have h9 := c20 j y h1
      rcases h2 with e | ⟨_, e2, s, e3⟩
      · rw [e]; exact h9
      · rw [e2] at h9
        rw [e3]
        exact zgO h9
    have hall : ∀ z ∈ ys, z4g fr z = true := fun z hz => by
      obtain ⟨j, hj⟩ := List.getElem?_of_mem hz
      obtain ⟨y, h1, h2⟩ := hget j z hj
      rcases h2 with e | ⟨e1, _⟩
      · rw [e]; exact List.all_eq_true.1 hall0 _ (List.mem_of_getElem? h1)
      · exact hc _ e1
    rw [← hly] at c1 hsz
    clear hxs hall0 c20 hget hys hly
    obtain ⟨arr1, f1, f2, f3⟩ := zad off (a.eval x).cells.toList 0 arr (by simp; omega)
    have hplace : place i = some (off, size) := by rw [hp i, hpl]; rfl
    have hlen1 : (z7G cs off ys).length = arr1.size := by rw [z9K, f2, hl]
    obtain ⟨arr', g1, g2, g3, g4, g5⟩ := z8W h hp (parts := rest) (cs := z7G cs off ys) (arr := arr1) hlen1 (fun j y hy => by
      rw [z9L _ _ _ _ (by omega)] at hy
      have := f3 j
      simp only [Nat.add_zero, Array.length_toList, Array.getElem?_toList] at this
      by_cases hj : off <= j /\ j < off + ys.length
      · rw [if_pos hj] at hy
        rw [if_pos (by omega)] at this
        have h9 := c2 (j - off) y hy
        have e : arr1.getD j undef = (a.eval x).cells.getD (j - off) undef := by
          simp only [Array.getD_eq_getD_getElem?, this]
        rw [e]; exact h9
      · rw [if_neg hj] at hy
        rw [if_neg (by omega)] at this
        have e : arr1.getD j undef = arr.getD j undef := by
          simp only [Array.getD_eq_getD_getElem?, this]
        rw [e]; exact hr j y hy) (fun y hy => by
      obtain ⟨j, hj, rfl⟩ := List.getElem_of_mem hy
      have hg := z9L ys cs off j (by omega)
      rw [List.getElem?_eq_getElem hj] at hg
      by_cases hc2 : off <= j /\ j < off + ys.length
      · rw [if_pos hc2] at hg
        exact hall _ (List.mem_of_getElem? hg.symm)
      · rw [if_neg hc2] at hg
        exact hc _ (List.mem_of_getElem? hg.symm)) hf
    refine ⟨arr', ?_, g2, by omega, g4, g5⟩
    simp only [List.map_cons, Instr.fill, hplace]
    rw [if_neg (by
      simp only [Bool.or_eq_true, decide_eq_true_eq, bne_iff_ne, ne_eq, not_or]
      omega)]
    have : (a.eval x).cells.zipIdx.foldl (fun cs (x : Value × Nat) => cs.setIfInBounds (off + x.2) x.1) arr = arr1 := by
      rw [← f1, ← Array.foldl_toList, Array.toList_zipIdx]
    rw [this]; exact g1
end
section
def z4u : Nat -> List T -> List T
  | 0, _ => []
  | n + 1, zs => zs ++ z4u n zs
theorem z2z : ∀ (n : Nat) (zs : List T), (z4u n zs).length = n * zs.length
  | 0, zs => by simp [z4u]
  | n + 1, zs => by simp [z4u, z2z n, Nat.succ_mul]; omega
theorem z9p : ∀ (n : Nat) (zs : List T) (j : Nat), j < n * zs.length -> (z4u n zs)[j]? = zs[j % zs.length]?
  | 0, zs, j, h => by simp at h
  | n + 1, zs, j, h => by
    have hz : 0 < zs.length := by
      rcases Nat.eq_zero_or_pos zs.length with e | e
      · rw [e] at h; simp at h
      · exact e
    simp only [z4u]
    by_cases hj : j < zs.length
    · rw [List.getElem?_append_left hj, Nat.mod_eq_of_lt hj]
    · rw [List.getElem?_append_right (by omega), z9p n zs (j - zs.length) (by rw [Nat.succ_mul] at h; omega)]
      congr 1
      rw [Nat.mod_eq_sub_mod (by omega : zs.length <= j)]
def z1W (z : Array Value) (n : Nat) : Array Value := (Array.range n).map (z[· % z.size]!)
theorem zcA (z : Array Value) (n j : Nat) (hj : j < n) (hz : 0 < z.size) : (z1W z n)[j]? = z[j % z.size]? := by
  have h2 : j % z.size < z.size := Nat.mod_lt _ hz
  simp [z1W, hj, h2, Array.getElem?_eq_getElem]
theorem z2V (z : Array Value) (n : Nat) : (z1W z n).size = n := by simp [z1W]
theorem z7L {w : World} {K : Nat -> z0a} {z : Array Value} {zs : List T} {sl : List Nat} (hz : zTs sl z.toList = zs) {n m : Nat} {j : Nat} {t : T} (hn : n * zs.length <= m) (ht : (z4u n zs)[j]? = some t) (c : z0a) :
    TRep w K c ((z1W z m).getD j undef) t := by
  have hlz : zs.length = z.size := by rw [← hz, z1X]; simp
  have hj : j < n * zs.length := by
    have := (List.getElem?_eq_some_iff.1 ht).1
    rwa [z2z] at this
  have hpos : 0 < zs.length := by
    rcases Nat.eq_zero_or_pos zs.length with e | e
    · rw [e] at hj; simp at hj
    · exact e
  rw [z9p n zs j hj, ← hz] at ht
  obtain ⟨v, hv, hr⟩ := zaC ht
  rw [z1X, Array.getElem?_toList] at hv
  have : (z1W z m).getD j undef = v := by
    rw [Array.getD_eq_getD_getElem?, zcA z m j (by omega) (by omega)]
    simp only [Array.length_toList] at hv
    rw [hv]; rfl
  rw [this]
  exact hr _ _ _
def z3e (P : Program) (mv : Bool) (fr : Fr) (t : TypeId) (n : Nat) (parts : List (Nat × Operand)) (d : Nat) : Option Fr :=
  match z0z P t with
  | some ⟨.slice el, _, _, _⟩ => match z0z P el with
    | some ⟨u, size, _, some zs⟩ =>
      if zs.length = size /\ 0 < size /\ zs.all z5S = true /\ n * size <= 16777216 then
        match z3b fr (fun i => some (i * size, size, z1O u)) ((z4u n zs).map (A.t none)) parts with
        | some xs => zjw mv fr d (fun cs => .os size n cs) (.one (.h d [])) xs
        | none => none
      else none
    | _ => none
  | _ => none
def z1V (P : Program) (fr : Fr) (t : TypeId) (n : Nat) (parts : List (Nat × Operand)) (d : Nat) : Option Fr := z3e P false fr t n parts d
theorem zdG {n : Nat} {zs : List T} {t : T} (h : t ∈ z4u n zs) : t ∈ zs := by
  induction n with
  | zero => cases h
  | succ n ih =>
    simp only [z4u, List.mem_append] at h
    rcases h with h | h
    · exact h
    · exact ih h
theorem zjy {X : (Nat -> z0a) -> (Nat -> Value) -> Prop} {Z Y : (Nat -> z0a) -> Prop} {c1 c2 : Bool} (h : ∃ K' R', X K' R' /\ Z K' /\ (c1 = true -> Y K')) (hc : c2 = true -> c1 = true) : ∃ K' R', X K' R' /\ Z K' /\ (c2 = true -> Y K') := by
  obtain ⟨K', R', a, b, c⟩ := h
  exact ⟨K', R', a, b, fun e => c (hc e)⟩
def z2b (P : Program) (fr : Fr) (t : TypeId) (n : Nat) (parts : List (Nat × Operand)) (d : Nat) : Bool :=
  match z0z P t with
  | some ⟨.slice el, _, _, _⟩ => match z0z P el with
    | some ⟨u, size, _, some zs⟩ => (match z3b fr (fun i => some (i * size, size, z1O u)) ((z4u n zs).map (A.t none)) parts with
        | some xs => zb5 fr d (fun cs => .os size n cs) (.one (.h d [])) xs
        | none => false)
    | _ => false
  | _ => false
theorem z4j {P : Program} {mv : Bool} {w : World} {K : Nat -> z0a} {R G : Nat -> Value} {fr fr' : Fr} {a : Act} {t : TypeId} {n d : Nat} {parts : List (Nat × Operand)} (h : FRep w K R G fr a) (hf : z3e P mv fr t n parts d = some fr') :
    ∃ v w', (∃ p, v = .slice p n n) /\ (Instr.buildSlice t n (parts.map fun (i, x) => (i, a.eval x)).toArray).run P w = .ok v w' /\ (∃ K' R', FRep w' K' R' G fr' (a.put (some d) v) /\ Step w K w' K' /\ (mv = false -> z2b P fr t n parts d = true -> ∀ M : Nat -> Bool, M d = false -> ∀ b, b < w.heap.size -> KMc M (K b) (K' b))) /\ ∀ b, b < w.heap.size -> w'.heap[b]? = w.heap[b]? := by
  unfold z3e at hf
  split at hf
  case h_2 => cases hf
  case h_1 el s1 s2 s3 ht =>
  split at hf
  case h_2 => cases hf
  case h_1 u size s4 zs hti =>
  split at hf
  case isFalse => cases hf
  case isTrue hcond =>
  obtain ⟨k1, k2, k3, k4⟩ := hcond
  split at hf
  case h_2 => cases hf
  case h_1 xs hxs =>
  have hu := z0s ht w
  have hsz := z3f hti w
  simp only [] at hu hsz
  obtain ⟨h1, j, h2, h3, h4, h5⟩ := z0L hti
  simp only [] at h3 h5
  cases hz : j.zero with
  | none => rw [hz] at h5; cases h5
  | some z =>
    rw [hz] at h5
    simp only [Option.some.injEq] at h5
    have hlz : zs.length = z.cells.size := by rw [← h5, z1X]; simp
    obtain ⟨arr', g1, g2, g3, g4, g5⟩ := z8W h (pl := fun i => some (i * size, size, z1O u)) (place := fun i => some (i * size, size)) (fun i => rfl) (parts := parts) (cs := (z4u n zs).map (A.t none)) (arr := z1W z.cells (n * size))
      (by simp [z2z, z2V, k1]) (fun j x hx => by
        simp only [List.getElem?_map, Option.map_eq_some_iff] at hx
        obtain ⟨t, ht, rfl⟩ := hx
        exact ⟨z7L h5 (by rw [k1]; exact Nat.le_refl _) ht _, fun _ e => by cases e⟩) (fun x hx => by
        obtain ⟨t, ht, rfl⟩ := List.mem_map.1 hx
        exact List.all_eq_true.1 k3 t (zdG ht)) hxs
    have hzero : (z1W (if n * size = 0 then #[] else z.cells) (n * size)) = z1W z.cells (n * size) := by
      split
      · rename_i e; rw [e]; simp [z1W]
      · rfl
    have hrun : (Instr.buildSlice t n (parts.map fun (i, x) => (i, a.eval x)).toArray).run P w = .ok (.slice (some ⟨w.heap.size, 0, none⟩) n n) { w with heap := w.heap.push (.cells arr' el) } := by
      unfold Instr.buildSlice
      simp only [Sem.run_bind, hu, Result.andThen_ok, hsz]
      rw [if_neg (by omega)]
      by_cases e : n * size = 0
      · rw [if_pos e]
        simp only [Sem.run_bind, Sem.run_pure, Result.andThen_ok]
        have : (Array.range (n * size)).map (fun x => (#[] : Array Value)[x % (#[] : Array Value).size]!) = z1W z.cells (n * size) := by rw [e]; simp [z1W]
        rw [this, g1]
        simp [newRow, newObj, Sem.run]
      · rw [if_neg e]
        have : (zeroValue el).run P w = .ok z w := by simp [zeroValue, typeInfo, h2, hz]
        simp only [Sem.run_bind, this, Sem.run_pure, Result.andThen_ok]
        have : (Array.range (n * size)).map (fun x => z.cells[x % z.cells.size]!) = z1W z.cells (n * size) := rfl
        rw [this, g1]
        simp [newRow, newObj, Sem.run]
    refine ⟨_, _, ⟨_, rfl⟩, hrun, ?_, fun b hb => (NewB.alloc w _).old hb⟩
    have hn2 : n <= 16777216 := Nat.le_trans (Nat.le_mul_of_pos_right n k2) k4
    obtain ⟨K', R', z1, z2, z3⟩ := (h.newObjG (NewB.alloc w _) g4 (by omega) (.inr ⟨n, n, rfl⟩) (fun w' K' cs F hl hK hg hF hk => .own (col d) _ n n size cs arr' el (0, 0) F (fun i _ => by omega) (z0q d) hK hg (by rw [g3, z2V]) (by rw [hl, g2, g3, z2V]) k2 (Nat.le_refl _) (by unfold maxLen; omega) hF hk) (.inl rfl) (fun e => by cases e) hf)
    exact ⟨K', R', z1, z2, fun hmv hs => z3 hmv (by unfold z2b at hs; rw [ht] at hs; simp only [hti, hxs] at hs; exact hs)⟩
theorem z4h {P : Program} {w : World} {K : Nat -> z0a} {R G : Nat -> Value} {fr fr' : Fr} {a : Act} {t : TypeId} {n d : Nat} {parts : List (Nat × Operand)} (h : FRep w K R G fr a) (hf : z1V P fr t n parts d = some fr') :
    ∃ v w', (∃ p, v = .slice p n n) /\ (Instr.buildSlice t n (parts.map fun (i, x) => (i, a.eval x)).toArray).run P w = .ok v w' /\ (∃ K' R', FRep w' K' R' G fr' (a.put (some d) v) /\ Step w K w' K' /\ (z2b P fr t n parts d = true -> ∀ M : Nat -> Bool, M d = false -> ∀ b, b < w.heap.size -> KMc M (K b) (K' b))) /\ ∀ b, b < w.heap.size -> w'.heap[b]? = w.heap[b]? := by
  obtain ⟨v, w', h1, h2, ⟨K', R', h3, h4, h5⟩, h6⟩ := z4j h hf
  exact ⟨v, w', h1, h2, ⟨K', R', h3, h4, h5 rfl⟩, h6⟩
theorem z4i {P : Program} {w : World} {K : Nat -> z0a} {R G : Nat -> Value} {fr fr' : Fr} {a : Act} {t : TypeId} {n d : Nat} {parts : List (Nat × Operand)} (h : FRep w K R G fr a) (hf : z1V P fr t n parts d = some fr') :
    ∃ v w', (Instr.buildSlice t n (parts.map fun (i, x) => (i, a.eval x)).toArray).run P w = .ok v w' /\ (∃ K' R', FRep w' K' R' G fr' (a.put (some d) v) /\ Step w K w' K' /\ (z2b P fr t n parts d = true -> ∀ M : Nat -> Bool, M d = false -> ∀ b, b < w.heap.size -> KMc M (K b) (K' b))) /\ ∀ b, b < w.heap.size -> w'.heap[b]? = w.heap[b]? := by
  obtain ⟨v, w', _, h1, h2⟩ := z4h h hf
  exact ⟨v, w', h1, h2⟩
theorem z7J {P : Program} {w : World} {K : Nat -> z0a} {R G : Nat -> Value} {fr fr' : Fr} {a : Act} {t : TypeId} {n d : Nat} {parts : List (Nat × Operand)} (h : FRep w K R G fr a) (hf : z1V P fr t n parts d = some fr') :
    ∃ v w', (Instr.buildSlice t n (parts.map fun (i, x) => (i, a.eval x)).toArray).run P w = .ok v w' /\ (∃ K' R', FRep w' K' R' G fr' (a.put (some d) v) /\ Step w K w' K') /\ ∀ b, b < w.heap.size -> w'.heap[b]? = w.heap[b]? := by
  obtain ⟨v, w', h1, ⟨K', R', h2, h3, _⟩, h4⟩ := z4i h hf
  exact ⟨v, w', h1, ⟨K', R', h2, h3⟩, h4⟩
def z2T (P : Program) (fr : Fr) (t : TypeId) (l c : Int) (d : Nat) : Option Fr :=
  match z0z P t with
  | some ⟨.slice el, _, _, _⟩ => match z0z P el with
    | some ⟨u, size, bytes, some zs⟩ =>
      if zs.length = size /\ 0 < size /\ 0 <= l /\ l <= c /\ c <= 140737488355328 /\ bytes * c <= 140737488355328 then
        zhX fr d (fun _ => .os size l.toNat (z4u l.toNat zs)) (.one (.h d [])) []
      else none
    | _ => none
  | _ => none
theorem z4A {P : Program} {w : World} {K : Nat -> z0a} {R G : Nat -> Value} {fr fr' : Fr} {a : Act} {t : TypeId} {l c : Int} {k k' : IntKind} {d : Nat} (h : FRep w K R G fr a) (hf : z2T P fr t l c d = some fr') :
    ∃ v w', (Instr.makeSlice t (.int k l) (.int k' c)).run P w = .ok v w' /\ (∃ K' R', FRep w' K' R' G fr' (a.put (some d) v) /\ Step w K w' K' /\ (true = true -> ∀ M : Nat -> Bool, M d = false -> ∀ b, b < w.heap.size -> KMc M (K b) (K' b))) /\ ∀ b, b < w.heap.size -> w'.heap[b]? = w.heap[b]? := by
  unfold z2T at hf
  split at hf
  case h_2 => cases hf
  case h_1 el s1 s2 s3 ht =>
  split at hf
  case h_2 => cases hf
  case h_1 u size bytes zs hti =>
  split at hf
  case isFalse => cases hf
  case isTrue hcond =>
  obtain ⟨k1, k2, l0, lc, c1, cb⟩ := hcond
  have hu := z0s ht w
  have hsz := z3f hti w
  simp only [] at hu hsz
  obtain ⟨h1, j, h2, h3, h4, h5⟩ := z0L hti
  simp only [] at h3 h4 h5
  cases hz : j.zero with
  | none => rw [hz] at h5; cases h5
  | some z =>
    rw [hz] at h5
    simp only [Option.some.injEq] at h5
    have hlz : zs.length = z.cells.size := by rw [← h5, z1X]; simp
    have wl : IntKind.i64.wrap l = l := IntWalk.i64_in _ (by omega)
    have wc : IntKind.i64.wrap c = c := IntWalk.i64_in _ (by omega)
    have htl : ¬ ((c < 0 || (bytes : Int) * c > 2 ^ 48) || l < 0 || l > c) = true := by
      simp only [Bool.or_eq_true, decide_eq_true_eq, not_or]; omega
    have hrun : (Instr.makeSlice t (.int k l) (.int k' c)).run P w = .ok (.slice (some ⟨w.heap.size, 0, none⟩) l.toNat c.toNat) { w with heap := w.heap.push (.cells (z1W z.cells (c.toNat * size)) el) } := by
      unfold Instr.makeSlice
      have hti2 : (typeInfo el).run P w = .ok j w := by simp [typeInfo, h2]
      simp only [Sem.run_bind, hu, Result.andThen_ok, asInt, asIntOf, Sem.run_pure, hti2, h4, wl, wc]
      rw [if_neg htl]
      simp only [Sem.run_bind, Sem.run_pure, Result.andThen_ok, hsz]
      have hroom : (askRoom (c.toNat * bytes)).run P w = .ok () w := by
        unfold askRoom
        split <;> simp [mark, Sem.run]
      simp only [hroom, hsz, Result.andThen_ok]
      by_cases e : c.toNat * size = 0
      · rw [if_pos e]
        simp only [Sem.run_bind, Sem.run_pure, Result.andThen_ok]
        have : (Array.range (c.toNat * size)).map (fun x => (#[] : Array Value)[x % (#[] : Array Value).size]!) = z1W z.cells (c.toNat * size) := by rw [e]; simp [z1W]
        rw [this]
        simp [newRow, newObj, Sem.run]
      · rw [if_neg e]
        have : (zeroValue el).run P w = .ok z w := by simp [zeroValue, typeInfo, h2, hz]
        simp only [Sem.run_bind, this, Sem.run_pure, Result.andThen_ok]
        have : (Array.range (c.toNat * size)).map (fun x => z.cells[x % z.cells.size]!) = z1W z.cells (c.toNat * size) := rfl
        rw [this]
        simp [newRow, newObj, Sem.run]
    refine ⟨_, _, hrun, ?_, fun b hb => (NewB.alloc w _).old hb⟩
    have hlc : l.toNat <= c.toNat := by omega
    have hmul : l.toNat * size <= c.toNat * size := Nat.mul_le_mul_right _ hlc
    refine zjy (h.newObjM (NewB.alloc w _) (xs := []) (fun j x hx => by cases hx) (Nat.zero_le _) (.inr ⟨_, _, rfl⟩) (fun w' K' cs F hl hK hg hF hk => ?_) (.inl rfl) (fun e => by cases e) hf) (fun _ => by simp [zb5, z3l, zdu])
    refine .own (col d) _ l.toNat c.toNat size _ (z1W z.cells (c.toNat * size)) el (0, 0) (fun j => (z1W z.cells (c.toNat * size)).getD j undef) (fun i _ => by omega) (z0q d) hK hg (z2V _ _) (by rw [z2z, k1]) k2 hlc (by unfold maxLen; omega)
      (fun j hj => z1x _ _ (by rw [z2V]; rw [z2z, k1] at hj; omega)) (fun j t hj => ?_)
    exact z7L h5 (by rw [k1]; exact hmul) hj _
theorem z8I {P : Program} {w : World} {K : Nat -> z0a} {R G : Nat -> Value} {fr fr' : Fr} {a : Act} {t : TypeId} {l c : Int} {k k' : IntKind} {d : Nat} (h : FRep w K R G fr a) (hf : z2T P fr t l c d = some fr') :
    ∃ v w', (Instr.makeSlice t (.int k l) (.int k' c)).run P w = .ok v w' /\ (∃ K' R', FRep w' K' R' G fr' (a.put (some d) v) /\ Step w K w' K') /\ ∀ b, b < w.heap.size -> w'.heap[b]? = w.heap[b]? := by
  obtain ⟨v, w', h1, ⟨K', R', h2, h3, _⟩, h4⟩ := z4A (k := k) (k' := k') h hf
  exact ⟨v, w', h1, ⟨K', R', h2, h3⟩, h4⟩
end
section
structure Wrote (w w' : World) (g : Nat) (arr arr' : Array Value) (el : TypeId) (fz : Nat × Nat) (off : Nat) (vs : List Value) : Prop where
  os : w'.os = w.os
  tape : w'.tape = w.tape
  output : w'.output = w.output
  size : w'.heap.size = w.heap.size
  new : w'.heap[g]? = some (.cells arr' el fz)
  oth : ∀ b, b ≠ g -> w'.heap[b]? = w.heap[b]?
  len : arr'.size = arr.size
  cells : ∀ j, arr'[j]? = if off <= j /\ j < off + vs.length then vs[j - off]? else arr[j]?
theorem z3C {w : World} {g : Nat} {f : Obj -> Obj} (b : Nat) : (w.heap.modify g f)[b]? = if g = b then (w.heap[b]?).map f else w.heap[b]? := by
  rw [Array.getElem?_modify]
theorem zcP {P : Program} {w : World} {g o : Nat} {arr : Array Value} {el : TypeId} {fz : Nat × Nat} {v : Value} (hg : w.heap[g]? = some (.cells arr el fz)) (ho : o < arr.size) (hfz : ∀ i, i < arr.size -> ¬ (fz.1 <= i /\ fz.1 ≠ fz.2)) (h1 : v.oneCell' = true) :
    ∃ w', (store ⟨g, o, none⟩ v).run P w = .ok () w' /\ Wrote w w' g arr (arr.setIfInBounds o v) el fz o [v] := by
  have hc : w.cell? ⟨g, o, none⟩ = some arr[o] := by simp [World.cell?, hg, ho]
  have hf : w.frozen? ⟨g, o, none⟩ = false := by
    obtain ⟨lo, hi⟩ := fz
    have h0 := hfz o ho
    simp only at h0
    have h1 : ¬ (lo <= o /\ o < hi) := by omega
    simp only [World.frozen?, hg]
    simpa using h1
  have hrun : (store ⟨g, o, none⟩ v).run P w = .ok () (w.setCell ⟨g, o, none⟩ v) := by
    cases v <;> first | (cases h1; done) | simp [store, Sem.run, hc, hf]
  refine ⟨_, hrun, rfl, rfl, rfl, by simp [World.setCell], ?_, fun b hb => ?_, by simp, fun j => ?_⟩
  · simp only [World.setCell, z3C, if_true, hg, Option.map_some]; rfl
  · simp only [World.setCell, z3C]; rw [if_neg (fun e => hb e.symm)]
  · rw [Array.getElem?_setIfInBounds]
    by_cases e : o = j
    · subst e; simp [ho]
    · rw [if_neg e, if_neg (by simp only [List.length_cons, List.length_nil]; omega)]
theorem z2h {P : Program} {g o : Nat} {el : TypeId} {fz : Nat × Nat} : ∀ (vs : List Value) (i : Nat) (arr : Array Value) (w : World), w.heap[g]? = some (.cells arr el fz) -> o + i + vs.length <= arr.size ->
    (∀ i, i < arr.size -> ¬ (fz.1 <= i /\ fz.1 ≠ fz.2)) -> (∀ v ∈ vs, v.oneCell' = true) -> ∃ w' arr', (storeCells ⟨g, o, none⟩ vs i).run P w = .ok () w' /\ Wrote w w' g arr arr' el fz (o + i) vs
  | [], i, arr, w, hg, hl, hfz, h1 => ⟨w, arr, rfl, rfl, rfl, rfl, rfl, hg, fun _ _ => rfl, rfl, fun j => by rw [if_neg (by simp only [List.length_nil]; omega)]⟩
  | v :: vs, i, arr, w, hg, hl, hfz, h1 => by
    simp only [List.length_cons] at hl
    obtain ⟨w1, r1, k1⟩ := zcP (P := P) (o := o + i) (v := v) hg (by omega) hfz (h1 v (by simp))
    obtain ⟨w2, arr2, r2, k2⟩ := z2h (P := P) (o := o) vs (i + 1) (arr.setIfInBounds (o + i) v) w1 k1.new (by simp; omega) (by simpa using hfz) (fun u hu => h1 u (by simp [hu]))
    refine ⟨w2, arr2, ?_, k2.os.trans k1.os, k2.tape.trans k1.tape, k2.output.trans k1.output, k2.size.trans k1.size, k2.new, fun b hb => (k2.oth b hb).trans (k1.oth b hb), by rw [k2.len]; simp, fun j => ?_⟩
    · simp only [storeCells, Sem.run_bind, z3k, r1, Result.andThen_ok]; exact r2
    · rw [k2.cells j, k1.cells j]
      simp only [List.length_cons, List.length_nil]
      by_cases e1 : o + (i + 1) <= j /\ j < o + (i + 1) + vs.length
      · rw [if_pos e1, if_pos (by omega), show j - (o + i) = (j - (o + (i + 1))) + 1 by omega, List.getElem?_cons_succ]
      · rw [if_neg e1]
        by_cases e2 : j = o + i
        · subst e2; rw [if_pos (by omega), if_pos (by omega)]; simp
        · rw [if_neg (by omega), if_neg (by omega)]
def z7Y (P : Program) (mv : Bool) (fr : Fr) (t : TypeId) (ad e : E) : Option Fr :=
  match z0z P t with
  | none => none
  | some ti => match ad with
    | .one (.a id p off) => match cellsE fr (z1O ti.u) e with
      | none => none
      | some xs =>
        if xs.all (z4g fr) = true /\ xs.length = ti.size /\ 0 < ti.size /\ id < fr.nt /\ xs.length <= 1000 then
          match z0v fr.ob id with
          | none => none
          | some root => match sub root p with
            | none => none
            | some box => match z1s box with
              | none => none
              | some cs =>
                if off + ti.size <= cs.length then
                  match upd root p (z2Y box (setCells cs off (xs.map z4b))) with
                  | none => none
                  | some root' => zfB mv { fr with tm := z2k (z5J id p off xs.length) (if xs.any z4v then putR fr.tm fr.nt xs else fr.tm), ob := z1Z fr.ob id root' } id (z3l p off fr.nt xs)
                else none
        else none
    | _ => none
def zdY (P : Program) (fr : Fr) (t : TypeId) (ad e : E) : Option Fr := z7Y P false fr t ad e
theorem z5D {P : Program} {mv : Bool} {w : World} {K : Nat -> z0a} {R G : Nat -> Value} {fr fr' : Fr} {a : Act} {t : TypeId} {ad e : E} {u av : Value} (h : FRep w K R G fr a) (had : ERep w K R fr.ob ad av) (he : ERep w K R fr.ob e u) (hf : z7Y P mv fr t ad e = some fr') :
    ∃ w', (Instr.storeAt t av u).run P w = .ok () w' /\ (∃ K' R', FRep w' K' R' G fr' a /\ Step w K w' K') /\ (∃ id p off, ad = .one (.a id p off) /\ ∀ b, b < w.heap.size -> (¬ ∃ s, K b = (id + 2) :: s) -> w'.heap[b]? = w.heap[b]?) := by
  unfold z7Y at hf
  split at hf
  case h_1 => cases hf
  case h_2 ti hti =>
  split at hf
  case h_2 => cases hf
  case h_1 id p off =>
  split at hf
  case h_1 => cases hf
  case h_2 xs hxs =>
  split at hf
  case isFalse => cases hf
  case isTrue hcond =>
  obtain ⟨hall, hlen, hpos, hid, hx1000⟩ := hcond
  split at hf
  case h_1 => cases hf
  case h_2 root hroot =>
  split at hf
  case h_1 => cases hf
  case h_2 box hsub =>
  split at hf
  case h_1 => cases hf
  case h_2 cs hcs =>
  split at hf
  case isFalse => cases hf
  case isTrue hoff =>
  split at hf
  case h_1 => cases hf
  case h_2 root' hupd =>
  obtain ⟨c1, c2, c3⟩ := h.cellsE he hxs hall
  obtain ⟨hv, g, n1, n4, rfl, t0, n2, n3⟩ := had
  obtain ⟨hv2, m1, hrep⟩ := (h.ob id root hroot).sub (z0q id) hsub
  rw [n1] at m1; cases m1
  obtain ⟨g2, arr, el, fz, F, b1, b2, b3, b4, b5, b6, b7, b8, b9, b10⟩ := hrep.box hcs (show off < cs.length by omega)
  rw [n4] at b1; cases b1
  have hul : u.cells.toList.length = xs.length := by simpa using c1
  obtain ⟨w', arr', r1, k1⟩ := z2h (P := P) (o := off) u.cells.toList 0 arr w b4 (by omega) b5 c3
  have hrun : (Instr.storeAt t (.pointer (some ⟨g, off, none⟩)) u).run P w = .ok () w' := by
    simp only [Instr.storeAt, Instr.sureAddr, Sem.run_bind, Sem.run_pure, Result.andThen_ok, storeVar, z3f hti]
    rw [if_neg (by omega)]
    exact r1
  simp only [Nat.add_zero] at k1
  have hne : ∀ b, (¬ ∃ s, K b = (id + 2) :: s) -> b ≠ g := fun b hb e => by
    subst e
    exact hb ⟨p, by rw [b3]; rfl⟩
  have hstep : Step w K w' K := ⟨k1.os, k1.tape, k1.output, by rw [k1.size]; exact Nat.le_refl _, fun b hb hc => ⟨rfl, k1.oth b (hne b (by
    rintro ⟨s, hs⟩
    rcases hc with hc | hc <;> rw [hs] at hc <;> simp at hc))⟩, .one b4 k1.new k1.len k1.oth⟩
  refine ⟨w', hrun, ?_, id, p, off, rfl, fun b hb hc => k1.oth b (hne b hc)⟩
  have key : ∀ (G1 : Nat -> Value) (tm1 : List (Nat × E)), FRep w K R G1 { fr with tm := tm1 } a -> (∀ j, j < xs.length -> xs.any z4v = true -> G1 (fr.nt + j) = u.cells.getD j undef) ->
      ∀ fr', zfB mv { fr with tm := z2k (z5J id p off xs.length) tm1, ob := z1Z fr.ob id root' } id (z3l p off fr.nt xs) = some fr' -> ∃ K' R', FRep w' K' R' G1 fr' a /\ Step w K w' K' /\ fr'.nt = fr.nt := by
    intro G1 tm1 h1 hG fr' hf
    have hl2 : (xs.map z4b).length = xs.length := by simp
    have h2 := h1.store (w' := w') (K' := K) (xs := xs.map z4b) (vs := u.cells.toList) hroot hsub hcs (by rw [hl2]; omega) (by rw [hl2]; omega) hupd n1 n4 b4 k1.new k1.size k1.oth (by rw [hl2]; exact hul)
      ⟨k1.len, fun j => by rw [hl2, ← hul]; exact k1.cells j⟩ (fun _ _ e => e) (fun _ _ _ _ _ _ _ => rfl) (fun j x v hx hv => by
        simp only [List.getElem?_map, Option.map_eq_some_iff] at hx
        obtain ⟨y, hy, rfl⟩ := hx
        have hr := c2 j y hy
        have hvv : u.cells.getD j undef = v := by
          rw [Array.getElem?_toList] at hv
          simp [Array.getD_eq_getD_getElem?, hv]
        rw [hvv] at hr
        have hk : Keep w w' K K (fun c => ∃ i s, c = (i + 2) :: s /\ i ≠ id) := ⟨fun b hb e => ⟨e, k1.oth b (hne b (by rintro ⟨s, hs⟩; rw [hs] at e; cases e))⟩, fun b hb ⟨i, s, e, hi⟩ => ⟨rfl, k1.oth b (hne b (by
          rintro ⟨s', hs⟩; rw [hs] at e; simp at e; exact hi e.1.symm))⟩, by rw [k1.size]; exact Nat.le_refl _⟩
        have h0 := z7l hr []
        exact (TRep.fz h0 hk.fro hk.size).any rfl _)
    rw [hl2] at h2
    obtain ⟨K2, R2, e1, e2, e3, _⟩ := h2.fin (l := z3l p off fr.nt xs) (fun q r hm => by
      obtain ⟨j, j1, rfl, rfl⟩ := z5l hm
      have hany : xs.any z4v = true := by
        cases hb : xs.any z4v with
        | true => rfl
        | false => rw [z5E hb] at hm; cases hm
      refine ⟨?_, by omega⟩
      have hju : j < u.cells.size := by omega
      have hreg : z3M a G1 (fr.nt + j) = u.cells[j] := by
        rw [z3M, if_neg (by rw [h.nt]; omega), hG j j1 hany]
        simp [Array.getD_eq_getD_getElem?, hju]
      rw [hreg]
      have hcell : w'.cell? ⟨g, off + j, none⟩ = some u.cells[j] := by
        rw [z0i k1.new, k1.cells, if_pos (by omega), show off + j - off = j by omega, Array.getElem?_toList, Array.getElem?_eq_getElem hju]
      have hnav' : nav w' (R id) p = some hv := by
        rw [z2O (h.ob id root hroot) (z0q id) (by rw [hsub]; rfl) (fun r j2 s gb hq hKb hb => ?_)]
        · exact n1
        · refine z0l (k1.oth gb ?_) j2
          intro e
          subst e
          rw [b3] at hKb
          have := List.append_cancel_left hKb
          rw [hq] at this
          have := congrArg List.length this
          simp at this
      rw [z1C hnav']
      simp only [nav]
      rcases b9 with e | ⟨n, cap, e⟩ <;> rw [e] <;> simp [z6s, hcell]) hf
    exact ⟨K2, R2, e1, hstep.trans e2, e3⟩
  by_cases hany : xs.any z4v = true
  · rw [if_pos hany] at hf
    obtain ⟨K2, R2, e1, e2, e3⟩ := key (gv G fr.nt (fun j => u.cells.getD j undef) xs.length) _ (h.putR (Nat.le_refl _) c2) (fun j hj _ => by simp only [gv]; rw [if_pos (by omega)]; congr 1; omega) fr' hf
    refine ⟨K2, R2, e1.reG fun i hi => ?_, e2⟩
    by_cases hlt : i < fr'.nt + 1000
    · exact .inl (z7v hf (z6w hany) i hi hlt)
    · right; simp only [gv]; rw [if_neg (by omega)]
  · rw [if_neg hany] at hf
    obtain ⟨K2, R2, e1, e2, e3⟩ := key G fr.tm h (fun j hj e => absurd e hany) fr' hf
    exact ⟨K2, R2, e1, e2⟩
theorem zdX {P : Program} {w : World} {K : Nat -> z0a} {R G : Nat -> Value} {fr fr' : Fr} {a : Act} {t : TypeId} {ad e : E} {u av : Value} (h : FRep w K R G fr a) (had : ERep w K R fr.ob ad av) (he : ERep w K R fr.ob e u) (hf : zdY P fr t ad e = some fr') :
    ∃ w', (Instr.storeAt t av u).run P w = .ok () w' /\ (∃ K' R', FRep w' K' R' G fr' a /\ Step w K w' K') /\ (∃ id p off, ad = .one (.a id p off) /\ ∀ b, b < w.heap.size -> (¬ ∃ s, K b = (id + 2) :: s) -> w'.heap[b]? = w.heap[b]?) := z5D h had he hf
def z2M (P : Program) (fr : Fr) (t : TypeId) (parts : List (Nat × Operand)) : Option E :=
  match z0z P t with
  | some ⟨.struct fields, _, _, some zs⟩ =>
    if zs.all z5S = true /\ (fields.toList.all fun f => (z0z P f.type).isSome) = true then
      match z3b fr (fun i => match fields[i]? with | some f => (match z0z P f.type with | some ti => some (f.offset, ti.size, z1O ti.u) | none => none) | none => none) (zs.map (A.t none)) parts with
      | some xs => some (.ag xs)
      | none => none
    else none
  | some ⟨.array _ el, _, _, some zs⟩ => match z0z P el with
    | some ti => if zs.all z5S = true then
        (match z3b fr (fun i => some (i * ti.size, ti.size, z1O ti.u)) (zs.map (A.t none)) parts with
        | some xs => some (.ag xs)
        | none => none)
      else none
    | none => none
  | _ => none
theorem z8d {P : Program} {w : World} : ∀ (l : List Field), (l.all fun f => (z0z P f.type).isSome) = true -> (l.mapM (fun f => do pure (f.offset, ← sizeOf f.type) : Field -> Sem (Nat × Nat))).run P w =
    .ok (l.map fun f => (f.offset, match z0z P f.type with | some ti => ti.size | none => 0)) w
  | [], h => by simp
  | f :: l, h => by
    simp only [List.all_cons, Bool.and_eq_true] at h
    obtain ⟨ti, hti⟩ := Option.isSome_iff_exists.1 h.1
    have ih := z8d (P := P) (w := w) l h.2
    rw [List.mapM_cons]
    simp only [Sem.run_bind, z3f hti, Result.andThen_ok, Sem.run_pure, ih, List.map_cons, hti]
theorem zfm {P : Program} {w : World} {K : Nat -> z0a} {R G : Nat -> Value} {fr : Fr} {a : Act} {t : TypeId} {parts : List (Nat × Operand)} {e : E} (h : FRep w K R G fr a) (hf : z2M P fr t parts = some e) :
    ∃ v, ERep w K R fr.ob e v /\ ∀ w', (Instr.build t (parts.map fun (i, x) => (i, a.eval x)).toArray).run P w' = .ok v w' := by
  have fin : ∀ {zs : List T} {z : Value} {sl : List Nat} {pl place xs}, zTs sl z.cells.toList = zs -> zs.all z5S = true -> (∀ i, place i = (pl i).map fun (x : Nat × Nat × Bool) => (x.1, x.2.1)) -> z3b fr pl (zs.map (A.t none)) parts = some xs ->
      ∃ arr', Instr.fill place z.cells (parts.map fun (i, x) => (i, a.eval x)) = some arr' /\ ERep w K R fr.ob (.ag xs) (.agg arr') := fun {zs z sl pl place xs} hz hc hp hx => by
    obtain ⟨arr', g1, g2, g3, g4, g5⟩ := z8W h (pl := pl) (place := place) hp (parts := parts) (cs := zs.map (A.t none)) (arr := z.cells) (by rw [← hz]; simp [z1X]) (fun j x hx => by
      simp only [List.getElem?_map, Option.map_eq_some_iff] at hx
      obtain ⟨t, ht, rfl⟩ := hx
      rw [← hz] at ht
      obtain ⟨v, hv, hr⟩ := zaC ht
      rw [Array.getElem?_toList] at hv
      have : z.cells.getD j undef = v := by simp [Array.getD_eq_getD_getElem?, hv]
      rw [this]
      exact ⟨hr _ _ _, fun _ e => by cases e⟩) (fun x hx => by
      obtain ⟨t, ht, rfl⟩ := List.mem_map.1 hx
      exact List.all_eq_true.1 hc t ht) hx
    exact ⟨arr', g1, arr', rfl, g2.symm, g4⟩
  unfold z2M at hf
  split at hf
  · rename_i fields s1 s2 zs ht
    split at hf
    case isFalse => cases hf
    case isTrue hcond =>
    split at hf
    case h_2 => cases hf
    case h_1 xs hxs =>
    cases hf
    obtain ⟨h1, j, h2, h3, h4, h5⟩ := z0L ht
    simp only [] at h5
    cases hz : j.zero with
    | none => rw [hz] at h5; cases h5
    | some z =>
      rw [hz] at h5
      simp only [Option.some.injEq] at h5
      have hu := fun w' => z0s ht w'
      simp only [] at hu
      have hzr : ∀ w', (zeroValue t).run P w' = .ok z w' := fun w' => by simp [zeroValue, typeInfo, h2, hz]
      obtain ⟨arr', g1, g2⟩ := fin (place := ((fields.toList.map fun f => (f.offset, match z0z P f.type with | some ti => ti.size | none => 0)).toArray[·]?)) h5 hcond.1 (fun i => by
        simp only [List.getElem?_toArray, List.getElem?_map, Array.getElem?_toList]
        cases hfi : fields[i]? with
        | none => rfl
        | some f =>
          have hm : f ∈ fields.toList := List.mem_of_getElem? (by rw [Array.getElem?_toList]; exact hfi)
          obtain ⟨ti, hti⟩ := Option.isSome_iff_exists.1 (List.all_eq_true.1 hcond.2 f hm)
          simp [hti]) hxs
      refine ⟨_, g2, fun w' => ?_⟩
      have hpl : (fields.mapM (fun f => do pure (f.offset, ← sizeOf f.type) : Field -> Sem (Nat × Nat))).run P w' = .ok (fields.toList.map fun f => (f.offset, match z0z P f.type with | some ti => ti.size | none => 0)).toArray w' := by
        have := z8d (P := P) (w := w') fields.toList hcond.2
        rw [Array.mapM_eq_mapM_toList]
        simp only [map_eq_pure_bind, Sem.run_bind, this, Result.andThen_ok, Sem.run_pure]
      unfold Instr.build
      simp only [Sem.run_bind, hzr, hu, Result.andThen_ok]
      simp only [Sem.run_bind, hpl, Result.andThen_ok, g1, Sem.run_pure]
  · rename_i len el s1 s2 zs ht
    split at hf
    case h_2 => cases hf
    case h_1 ti hti =>
    split at hf
    case isFalse => cases hf
    case isTrue hcond =>
    split at hf
    case h_2 => cases hf
    case h_1 xs hxs =>
    cases hf
    obtain ⟨h1, j, h2, h3, h4, h5⟩ := z0L ht
    simp only [] at h5
    cases hz : j.zero with
    | none => rw [hz] at h5; cases h5
    | some z =>
      rw [hz] at h5
      simp only [Option.some.injEq] at h5
      have hu := fun w' => z0s ht w'
      simp only [] at hu
      have hzr : ∀ w', (zeroValue t).run P w' = .ok z w' := fun w' => by simp [zeroValue, typeInfo, h2, hz]
      obtain ⟨arr', g1, g2⟩ := fin (place := fun i => some (i * ti.size, ti.size)) h5 hcond (fun i => rfl) hxs
      refine ⟨_, g2, fun w' => ?_⟩
      unfold Instr.build
      simp only [Sem.run_bind, hzr, hu, Result.andThen_ok, z3f hti, g1, Sem.run_pure]
  · cases hf
end
section
theorem z7c {w : World} {K : Nat -> z0a} {c : z0a} {v : Value} {sz n : Nat} {cs : List T} (h : TRep w K c v (.os sz n cs)) :
    (v = .slice none 0 0 /\ n = 0 /\ cs = []) ∨ ∃ g cap arr e fz, ∃ F : Nat -> Value, v = .slice (some ⟨g, 0, none⟩) n cap /\ c ≠ [] /\ K g = c /\ w.heap[g]? = some (.cells arr e fz) /\ arr.size = cap * sz /\ cs.length = n * sz /\ 0 < sz /\ n <= cap /\ cap <= maxLen /\
      (∀ i, i < arr.size -> ¬ (fz.1 <= i /\ fz.1 ≠ fz.2)) /\ (∀ j, j < cs.length -> arr[j]? = some (F j)) /\ ∀ j t, cs[j]? = some t -> TRep w K (c ++ [j]) (F j) t := by
  cases h with
  | nil => exact .inl ⟨rfl, rfl, rfl⟩
  | own c g n cap size cs arr e fz F hfz hc0 hK hg hs hl hz hn hc hF hh => exact .inr ⟨g, cap, arr, e, fz, F, rfl, hc0, hK, hg, hs, hl, hz, hn, hc, hfz, hF, hh⟩
theorem z5d {P : Program} {w : World} {K : Nat -> z0a} {d : Nat} {v : Value} {sz n m : Nat} {cs news : List T} {st xt el ty : TypeId} {ti tx : TyI} {xval : Value} {us : List Value} {s1 s2 : Nat} {s3 : Option (List T)} {zs : List T} (hsz : sz = 0 ∨ sz = ti.size)
    (hst : z0z P st = some ⟨.slice el, s1, s2, s3⟩) (hti : z0z P el = some ti) (hzs : ti.zero = some zs) (hzl : zs.length = ti.size) (hpos : 0 < ti.size) (hxt : z0z P xt = some tx) (hnx : ∀ k, tx.u ≠ .int k)
    (hv : TRep w K (col d) v (.os sz n cs) ∨ (0 < m /\ 0 < n /\ (∃ p, v = .slice p n n) /\ TRep w K [] v (.sl n cs) /\ cs.length = n * ti.size))
    (hlen : ∀ w'', (Builtin.lenOf xval).run P w'' = .ok m w'') (hfc : ∀ w'' : World, w''.heap = w.heap -> (Builtin.firstCells ti.size m xval).run P w'' = .ok us.toArray w'') (hul : us.length = m * ti.size) (hnl : news.length = us.length)
    (h1 : ∀ u ∈ us, u.oneCell' = true) (hnew : ∀ (j : Nat) (t : T) (u : Value), news[j]? = some t -> us[j]? = some u -> TRep w K [] u t)
    (hb : (n + m) * ti.bytes <= 140737488355328) (hnm : n + m <= 4611686018427387904) :
    ∃ v' w', (Builtin.append_ #[st, xt] ty #[v, xval]).run P w = .ok v' w' /\ TRep w' (fun b => if b = w.heap.size then col d else K b) (col d) v' (.os ti.size (n + m) (cs ++ news)) /\
      Keep w w' K (fun b => if b = w.heap.size then col d else K b) (But d) /\ Step w K w' (fun b => if b = w.heap.size then col d else K b) /\
      (cs.length = n * ti.size) /\ (∀ g, z2n v' = some g -> (w'.heap[g]?).isSome) /\ (∀ j u, us[j]? = some u -> z6s w' v' (n * ti.size + j) = some u) := by
  have hu := z0s hst w
  have hux := z0s hxt w
  simp only [] at hu
  obtain ⟨q1, ji, q2, q3, q4, q5⟩ := z0L hti
  rw [hzs] at q5
  cases hz : ji.zero with
  | none => rw [hz] at q5; cases q5
  | some z =>
  rw [hz] at q5
  simp only [Option.some.injEq] at q5
  have hzsz : z.cells.size = ti.size := by rw [← hzl, ← q5, z1X]; simp
  have htyi : ∀ w'', (typeInfo el).run P w'' = .ok ji w'' := fun w'' => by simp [typeInfo, q2]
  have hzv : ∀ w'', (zeroValue el).run P w'' = .ok z w'' := fun w'' => by simp [zeroValue, typeInfo, q2, hz]
  have hszr : ∀ w'', (sizeOf el).run P w'' = .ok ti.size w'' := fun w'' => z3f hti w''
  have hxm : (match tx.u with | .int _ => true | _ => false) = false := by
    cases hh : tx.u <;> first | rfl | exact absurd hh (hnx _)
  let K' : Nat -> z0a := fun b => if b = w.heap.size then col d else K b
  have hK' : ∀ b, b < w.heap.size -> K' b = K b := fun b hb => by show (if b = w.heap.size then col d else K b) = K b; rw [if_neg (by omega)]
  have hK0 : K' w.heap.size = col d := by simp [K']
  have h48 : Builtin.nextslicecap (n + m) (n + m) * 0 = 0 := by omega
  have hmx : (n : Nat) + m <= maxLen := by unfold maxLen; omega
  have grow : ∀ (b0 : Option Addr) (cap : Nat) (olds : List Value) (F : Nat -> Value), v = .slice b0 n cap -> cap < n + m -> olds.length = n * ti.size -> (∀ w'' : World, w''.heap = w.heap -> (Builtin.firstCells ti.size n v).run P w'' = .ok olds.toArray w'') ->
      cs.length = n * ti.size -> (∀ j, j < cs.length -> olds[j]? = some (F j)) -> (∀ j t, cs[j]? = some t -> TRep w K (col d ++ [j]) (F j) t) ->
      ∃ v' w', (Builtin.append_ #[st, xt] ty #[v, xval]).run P w = .ok v' w' /\ TRep w' K' (col d) v' (.os ti.size (n + m) (cs ++ news)) /\ Keep w w' K K' (But d) /\ Step w K w' K' /\ (cs.length = n * ti.size) /\ (∀ g, z2n v' = some g -> (w'.heap[g]?).isSome) /\ (∀ j u, us[j]? = some u -> z6s w' v' (n * ti.size + j) = some u) := by
    intro b0 cap olds F hve hcap hol hofc hcl hoF hoR
    subst hve
    have hfit : ¬ Builtin.nextslicecap (n + m) cap * ti.bytes > 2 ^ 48 := by
      have := growslice_fits hcap hb; omega
    let nc := grownCap w (n + m) cap el
    have hnc : n + m <= nc := grownCap_ge w (n + m) cap el
    have hncm : nc <= maxLen := grownCap_le_maxLen w (n + m) cap el hmx
    let arr : Array Value := olds.toArray ++ us.toArray ++ Builtin.zeroCells z.cells (nc - (n + m))
    have hzc : (Builtin.zeroCells z.cells (nc - (n + m))).size = (nc - (n + m)) * ti.size := by simp [Builtin.zeroCells, hzsz]
    have harr : arr.size = nc * ti.size := by
      simp only [arr, Array.size_append, List.size_toArray, hzc, hol, hul]
      rw [← Nat.add_mul, ← Nat.add_mul]; congr 1; omega
    have hrun : (Builtin.append_ #[st, xt] ty #[.slice b0 n cap, xval]).run P w = .ok (.slice (some ⟨w.heap.size, 0, none⟩) (n + m) nc) { w with drawn := w.drawn + 1, heap := w.heap.push (.cells arr el) } := by
      unfold Builtin.append_
      simp only [List.getElem?_toArray, List.getElem?_cons_zero, List.getElem?_cons_succ, Sem.run_bind, hu, Result.andThen_ok, hszr, hux, Sem.run_pure, hxm, Bool.false_eq_true, if_false, hlen, Bool.not_false, if_true]
      rw [if_neg (by omega)]
      simp only [Sem.run_bind, htyi, Result.andThen_ok, q4]
      rw [if_neg (by
        intro hc
        have : IntKind.i64.max = 9223372036854775807 := rfl
        rw [this] at hc
        omega)]
      simp only [Sem.run_bind, Sem.run_pure, Result.andThen_ok, htyi, q4]
      rw [if_neg hfit]
      have hch : (choose (.appendCap (n + m) cap el)).run P w = .ok nc { w with drawn := w.drawn + 1 } := by
        simp [choose, Sem.run, Question.forced, nc, grownCap]
      have hroom : ∀ x w'', (askRoom x).run P w'' = .ok () w'' := fun x w'' => by
        unfold askRoom
        split <;> simp [mark, Sem.run]
      simp only [Sem.run_bind, Sem.run_pure, Result.andThen_ok, hch, htyi, hroom, hofc { w with drawn := w.drawn + 1 } rfl, hfc { w with drawn := w.drawn + 1 } rfl, hzv]
      simp [newRow, newObj, Sem.run, arr]
      refine ⟨?_, rfl, rfl⟩
      show w.heap.push _ = _
      rw [← List.append_toArray, Array.append_assoc]
    have hnew' : ({ w with drawn := w.drawn + 1, heap := w.heap.push (.cells arr el) } : World).heap[w.heap.size]? = some (.cells arr el (0, 0)) := by
      show (w.heap.push _)[w.heap.size]? = _
      rw [Array.getElem?_push, if_pos rfl]
    have hold' : ∀ b, b < w.heap.size -> ({ w with drawn := w.drawn + 1, heap := w.heap.push (.cells arr el) } : World).heap[b]? = w.heap[b]? := fun b hb => by
      show (w.heap.push _)[b]? = _
      rw [Array.getElem?_push, if_neg (by omega)]
    have hk : Keep w { w with drawn := w.drawn + 1, heap := w.heap.push (.cells arr el) } K K' (fun _ => True) := ⟨fun b hb e => ⟨(hK' b hb).trans e, hold' b hb⟩, fun b hb _ => ⟨hK' b hb, hold' b hb⟩, by simp⟩
    have hget1 : ∀ j, j < olds.length -> arr[j]? = olds[j]? := fun j hj => by
      simp only [arr, Array.getElem?_append, List.size_toArray, Array.size_append]
      rw [if_pos (by omega), if_pos hj]; simp
    have hget2 : ∀ j, j < us.length -> arr[n * ti.size + j]? = us[j]? := fun j hj => by
      simp only [arr, Array.getElem?_append, List.size_toArray, Array.size_append]
      rw [if_pos (by omega), if_neg (by omega), show n * ti.size + j - olds.length = j by omega]; simp
    refine ⟨_, _, hrun, ?_, hk.mono fun _ _ => trivial, ⟨rfl, rfl, rfl, by simp, fun b hb _ => ⟨hK' b hb, hold' b hb⟩, .olds hold'⟩, hcl, fun g hg => by cases hg; rw [hnew']; rfl, fun j u hj => ?_⟩
    · refine .own (col d) _ (n + m) nc ti.size _ arr el (0, 0) (fun j => arr.getD j undef) (fun i _ => by omega) (z0q d) hK0 hnew' harr (by rw [List.length_append, hcl, hnl, hul, Nat.add_mul]) hpos hnc hncm (fun j hj => z1x _ _ ?_) (fun j t ht => ?_)
      · rw [List.length_append, hcl, hnl, hul, ← Nat.add_mul] at hj
        rw [harr]
        exact Nat.lt_of_lt_of_le hj (Nat.mul_le_mul_right _ hnc)
      · by_cases hj : j < cs.length
        · rw [List.getElem?_append_left hj] at ht
          have e1 : arr.getD j undef = F j := by
            rw [Array.getD_eq_getD_getElem?, hget1 j (by omega), hoF j hj]; rfl
          rw [e1]
          exact (hoR j t ht).keep hk fun _ _ => trivial
        · rw [List.getElem?_append_right (by omega)] at ht
          have hlt : j - cs.length < news.length := (List.getElem?_eq_some_iff.1 ht).1
          have hlt' : j - cs.length < us.length := by omega
          have e1 : arr.getD j undef = us[j - cs.length] := by
            have e2 := hget2 (j - cs.length) (by omega)
            rw [show n * ti.size + (j - cs.length) = j by omega] at e2
            rw [Array.getD_eq_getD_getElem?, e2, List.getElem?_eq_getElem hlt']; rfl
          rw [e1]
          exact (TRep.fz (hnew _ t _ ht (List.getElem?_eq_getElem hlt')) hk.fro hk.size).any rfl _
    · have hlt := (List.getElem?_eq_some_iff.1 hj).1
      simp only [z6s]
      rw [z0i hnew', hget2 j hlt]; exact hj
  rcases hv with hv | ⟨hm0, hn0, ⟨p, rfl⟩, hv, hcl⟩
  rotate_left
  · generalize hvv : Value.slice p n n = vv at hv
    generalize htt : T.sl n cs = tt at hv
    cases hv with
    | emp c a cap hc =>
      cases htt
      omega
    | fro c g o n' cap cs' F hK hg hn hc hF hh =>
      cases htt; cases hvv
      refine grow _ n ((List.range (n * ti.size)).map F) F rfl (by omega) (by simp) (fun w'' hw'' => ?_) hcl (fun j hj => ?_) (fun j t ht => (hh j t ht).any rfl _)
      · have := run_loadCells_list (P := P) w'' ⟨g, o, none⟩ ((List.range (n * ti.size)).map F) (fun j v hv => by
          simp only [List.getElem?_map, Option.map_eq_some_iff] at hv
          obtain ⟨i, hi, rfl⟩ := hv
          obtain ⟨h2, h3⟩ := List.getElem?_eq_some_iff.1 hi
          simp at h2 h3; subst h3
          rw [z3k, z0l (show w''.heap[g]? = w.heap[g]? by rw [hw''])]
          exact hF _ (by omega))
        simpa [Builtin.firstCells] using this
      · have hj' : j < n * ti.size := by omega
        simp [hj']
    | _ => cases htt
  rcases z7c hv with ⟨rfl, rfl, rfl⟩ | ⟨g, cap, arr, e, fz, F, rfl, hc0, hKg, hg, hs, hl, hz', hn, hc, hfz, hF, hh⟩
  ·
    by_cases hm : m = 0
    · subst hm
      have hus : us = [] := List.eq_nil_of_length_eq_zero (by rw [hul]; simp)
      subst hus
      have hnews : news = [] := List.eq_nil_of_length_eq_zero (by simpa using hnl)
      subst hnews
      have hrun : (Builtin.append_ #[st, xt] ty #[.slice none 0 0, xval]).run P w = .ok (.slice none 0 0) w := by
        unfold Builtin.append_
        simp only [List.getElem?_toArray, List.getElem?_cons_zero, List.getElem?_cons_succ, Sem.run_bind, hu, Result.andThen_ok, hszr, hux, Sem.run_pure, hxm, Bool.false_eq_true, if_false, hlen, Bool.not_false, if_true]
        rw [if_pos (by omega)]
        simp only [Sem.run_bind, hfc w rfl, Result.andThen_ok, Sem.run_pure]
      exact ⟨_, w, hrun, .nil _ _, ⟨fun b hb e => ⟨(hK' b hb).trans e, rfl⟩, fun b hb _ => ⟨hK' b hb, rfl⟩, Nat.le_refl _⟩, ⟨rfl, rfl, rfl, Nat.le_refl _, fun b hb _ => ⟨hK' b hb, rfl⟩, .same rfl⟩, by simp, fun g hg => (by cases hg), fun j u hj => (by cases hj)⟩
    · exact grow none 0 [] (fun _ => undef) rfl (by omega) (by simp) (fun w'' _ => by simp [Builtin.firstCells]) (by simp) (fun j hj => by simp at hj) (fun j t ht => by cases ht)
  · obtain rfl : sz = ti.size := by omega
    by_cases hroom : n + m <= cap
    ·
      have hle : (n + m) * ti.size <= cap * ti.size := Nat.mul_le_mul_right _ hroom
      obtain ⟨w', arr', r1, k1⟩ := z2h (P := P) (g := g) (o := n * ti.size) us 0 arr w hg (by rw [hs, hul, Nat.add_zero, ← Nat.add_mul]; exact hle) hfz h1
      have hrun : (Builtin.append_ #[st, xt] ty #[.slice (some ⟨g, 0, none⟩) n cap, xval]).run P w = .ok (.slice (some ⟨g, 0, none⟩) (n + m) cap) w' := by
        unfold Builtin.append_
        simp only [List.getElem?_toArray, List.getElem?_cons_zero, List.getElem?_cons_succ, Sem.run_bind, hu, Result.andThen_ok, hszr, hux, Sem.run_pure, hxm, Bool.false_eq_true, if_false, hlen, Bool.not_false, if_true]
        rw [if_pos hroom]
        simp only [Sem.run_bind, hfc w rfl, Result.andThen_ok, z3k, Nat.zero_add]
        rw [r1]
        simp
      simp only [Nat.add_zero] at k1
      have hne : ∀ b, K b ≠ col d -> b ≠ g := fun b hb e => by subst e; exact hb hKg
      have hsz' : w'.heap.size = w.heap.size := k1.size
      have hkk : Keep w w' K K' (fun c => c ≠ col d) := ⟨fun b hb e => ⟨(hK' b hb).trans e, k1.oth b (hne b (by rw [e]; simp [col]))⟩, fun b hb hc => ⟨hK' b hb, k1.oth b (hne b hc)⟩, by omega⟩
      refine ⟨_, w', hrun, ?_, hkk.mono fun c ⟨i, s, e, hi⟩ => (by rw [e]; intro e2; simp [col] at e2; exact hi e2.1), ⟨k1.os, k1.tape, k1.output, by omega, fun b hb hc => ⟨hK' b hb, k1.oth b (hne b (by rcases hc with e | e <;> rw [e] <;> simp [col]))⟩, .one hg k1.new k1.len k1.oth⟩, hl,
        fun g' hg' => by cases hg'; rw [k1.new]; rfl, fun j u hj => ?_⟩
      · refine .own (col d) g (n + m) cap ti.size _ arr' e fz (fun j => arr'.getD j undef) (by rw [k1.len]; exact hfz) (z0q d) ((hK' g (z0f hg)).trans hKg) k1.new (by rw [k1.len, hs]) (by rw [List.length_append, hl, hnl, hul, Nat.add_mul]) hz' hroom hc (fun j hj => z1x _ _ ?_) (fun j t ht => ?_)
        · rw [List.length_append, hl, hnl, hul, ← Nat.add_mul] at hj
          rw [k1.len, hs]; omega
        · by_cases hj : j < cs.length
          · rw [List.getElem?_append_left hj] at ht
            have e1 : arr'.getD j undef = F j := by
              rw [Array.getD_eq_getD_getElem?, k1.cells j, if_neg (by omega), hF j hj]; rfl
            rw [e1]
            exact (hh j t ht).keep hkk fun s _ => by simp [col]
          · rw [List.getElem?_append_right (by omega)] at ht
            have hlt : j - cs.length < news.length := (List.getElem?_eq_some_iff.1 ht).1
            have hlt' : j - cs.length < us.length := by omega
            have e1 : arr'.getD j undef = us[j - cs.length] := by
              rw [Array.getD_eq_getD_getElem?, k1.cells j, if_pos (by omega), show j - n * ti.size = j - cs.length by omega, List.getElem?_eq_getElem hlt']; rfl
            rw [e1]
            exact (TRep.fz (hnew _ t _ ht (List.getElem?_eq_getElem hlt')) hkk.fro hkk.size).any rfl _
      · have hlt := (List.getElem?_eq_some_iff.1 hj).1
        simp only [z6s]
        rw [z0i k1.new, k1.cells, if_pos (by omega), show n * ti.size + j - n * ti.size = j by omega]; exact hj
    ·
      refine grow (some ⟨g, 0, none⟩) cap ((List.range (n * ti.size)).map fun j => arr.getD j undef) F rfl (by omega) (by simp) (fun w'' hw'' => ?_) hl (fun j hj => ?_) hh
      · have hle : n * ti.size <= cap * ti.size := Nat.mul_le_mul_right _ hn
        have := run_loadCells_list (P := P) w'' ⟨g, 0, none⟩ ((List.range (n * ti.size)).map fun j => arr.getD j undef) (fun j v hv => by
          simp only [List.getElem?_map, Option.map_eq_some_iff] at hv
          obtain ⟨i, hi, rfl⟩ := hv
          obtain ⟨h2, h3⟩ := List.getElem?_eq_some_iff.1 hi
          simp at h2 h3; subst h3
          rw [z3k, Nat.zero_add, z0i (w := w'') (by rw [hw'']; exact hg)]
          exact z1x _ _ (by rw [hs]; omega))
        simpa [Builtin.firstCells] using this
      · rw [hl] at hj
        have hj2 : j < arr.size := by
          rw [hs]; exact Nat.lt_of_lt_of_le hj (Nat.mul_le_mul_right _ hn)
        have := hF j (by omega)
        simp [hj, Array.getD_eq_getD_getElem?, this]
end
end Go.Proofs.YthbchhekejljjaaGreatDoor

/- Proved here: a part of the proof of the law at hand, in one text: no condition. -/
import Derived.Test.YtodliknibbafeaaGreatMEL3
set_option linter.unusedVariables false
set_option linter.unusedSimpArgs false
namespace Go.Proofs.YtodliknibbafeaaGreat
section
open Go
noncomputable section
set_option maxRecDepth 100000
set_option maxHeartbeats 6000000
abbrev z2T (a0 : List Int) (a1 : List Int) : Int -> Option (Int ⊕ Bool)
  | w10 =>
  if w10 < (a0.length : Int) then
    (atI a0 w10).bind fun v13 =>
    (atI a1 w10).bind fun v14 =>
    if v13 = v14 then
      z0y (IntKind.i64.wrap (w10 + 1))
    else
      z0k <|
      some false
  else
    z0k <|
    some true
instance {a0 : List Int} {a1 : List Int} : Hd (z2T a0 a1) := ⟨fun w10 => ([(13, xI w10)], [])⟩
def z2Y (a0 : List Int) (a1 : List Int) : Option (Bool) :=
  if (a0.length : Int) = (a1.length : Int) then
    z0z (z2T a0 a1) LFm 0
  else
    some false
instance ref03_Same_ok {a0 : List Int} {a1 : List Int} : Ok (z2Y a0 a1) (fun r => L 17 [.sl a0.length (a0.map fun x0 => .sc (.int .i64 x0)), .sl a1.length (a1.map fun x0 => .sc (.int .i64 x0))] = some (.sc (.bool r), [.dead, .dead])) := ⟨fun r h => by have h := z5x h; unfold z2Y at h; exact z7A znc zov zpB⟩
abbrev z1l (w225 : List (List Int)) (v276 : List Int) (w293 : Int) : Int × List (List Int) × (List (ByteArray × Bool)) -> Option ((Int × List (List Int) × (List (ByteArray × Bool))) ⊕ ((Int × List (List Int) × (List (ByteArray × Bool))) ⊕ ((Int × List (List Int) × (List (ByteArray × Bool)) × List (List Int)) ⊕ (List (List Int) × Int))))
  | (w315, w316, w317) =>
  if w315 < ((w225.length : Int) + 1) then
    (atI (w225 ++ [v276]) w315).bind fun v322 =>
    (atI w316 w293).bind fun v323 =>
    (z1S v323 v322).bind fun v324 =>
    (z2B v324).bind fun v325 =>
    if ((zaH v325 w317).getD false) = true then
      z0y (IntKind.i64.wrap (w315 + 1), w316, w317)
    else
      chk (z1c 24 (w316.length + 1)) <|
      z0y (IntKind.i64.wrap (w315 + 1), w316 ++ [v324], z9s v325 true w317)
  else
    z0k <|
    if 2000 < (w316.length : Int) then
      z0k <|
      z0k <|
      some ([], 3)
    else
      z0y (IntKind.i64.wrap (w293 + 1), w316, w317)
instance {w225 : List (List Int)} {v276 : List Int} {w293 : Int} : Hd (z1l w225 v276 w293) := ⟨fun (w315, w316, w317) => ([(57, xI w315)], [(6, .os 1 w316.length (w316.map fun x0 => .sl x0.length (x0.map fun x1 => .sc (.int .i64 x1)))), (7, .mp none (w317.map fun x0 => (.string x0.1, .bool x0.2)))])⟩
abbrev z1m (w222 : Int) (w225 : List (List Int)) (v276 : List Int) : Int × List (List Int) × (List (ByteArray × Bool)) -> Option ((Int × List (List Int) × (List (ByteArray × Bool))) ⊕ ((Int × List (List Int) × (List (ByteArray × Bool)) × List (List Int)) ⊕ (List (List Int) × Int)))
  | (w293, w294, w295) =>
  if w293 < (w294.length : Int) then
    z0z (z1l w225 v276 w293) LFm (0, w294, w295)
  else
    z0k <|
    z0y (IntKind.i64.wrap (w222 + 1), w294, w295, w225 ++ [v276])
instance {w222 : Int} {w225 : List (List Int)} {v276 : List Int} : Hd (z1m w222 w225 v276) := ⟨fun (w293, w294, w295) => ([(11, xI w293)], [(6, .os 1 w294.length (w294.map fun x0 => .sl x0.length (x0.map fun x1 => .sc (.int .i64 x1)))), (7, .mp none (w295.map fun x0 => (.string x0.1, .bool x0.2)))])⟩
abbrev z1A (a0 : List (List Int)) : Int × List (List Int) × (List (ByteArray × Bool)) × List (List Int) -> Option ((Int × List (List Int) × (List (ByteArray × Bool)) × List (List Int)) ⊕ (List (List Int) × Int))
  | (w222, w223, w224, w225) =>
  if w222 < (a0.length : Int) then
    (atI a0 w222).bind fun v276 =>
    (z2B v276).bind fun v277 =>
    if ((zaH v277 w224).getD false) = true then
      z0y (IntKind.i64.wrap (w222 + 1), w223, w224, w225)
    else
      chk (z1c 24 (w225.length + 1)) <|
      z0z (z1m w222 w225 v276) LFm (0, w223, w224)
  else
    z0k <|
    (zeD w223).bind fun v326 =>
    some (v326, 0)
instance {a0 : List (List Int)} : Hd (z1A a0) := ⟨fun (w222, w223, w224, w225) => ([(37, xI w222)], [(6, .os 1 w223.length (w223.map fun x0 => .sl x0.length (x0.map fun x1 => .sc (.int .i64 x1)))), (7, .mp none (w224.map fun x0 => (.string x0.1, .bool x0.2))), (8, .os 1 w225.length (w225.map fun x0 => .sl x0.length (x0.map fun x1 => .sc (.int .i64 x1))))])⟩
def z1o (a0 : List (List Int)) : Option (List (List Int) × Int) :=
  if (a0.length : Int) = 0 then
    some ([], 1)
  else
    (atI a0 0).bind fun v164 =>
    (z1k a0 (v164.length : Int)).bind fun v165 =>
    if v165 = true then
      (z1W (v164.length : Int)).bind fun v166 =>
      (z2B v166).bind fun v167 =>
      z0z (z1A a0) LFm (0, [v166], z9s v167 true ([] : List (ByteArray × Bool)), [])
    else
      some ([], 4)
instance group_Generate_ok {a0 : List (List Int)} : Ok (z1o a0) (fun r => L 22 [.sl a0.length (a0.map fun x0 => .sl x0.length (x0.map fun x1 => .sc (.int .i64 x1)))] = some (.tup [.sl r.1.length (r.1.map fun x0 => .sl x0.length (x0.map fun x1 => .sc (.int .i64 x1))), .sc (.int .i64 r.2)], [.dead])) := ⟨fun r h => by have h := z5x h; unfold z1o at h; exact zhL zna zot zpz⟩
abbrev z1r (a0 : Hol) : Int × List Int -> Option ((Int × List Int) ⊕ (List (List Int) × Int))
  | (w8, w9) =>
  if w8 < (a0.tiles.length : Int) then
    (atI w9 w8).bind fun v11 =>
    z0y (IntKind.i64.wrap (w8 + 1), (w9.set w8.toNat w8))
  else
    z0k <|
    if (a0.perms.length : Int) = 0 then
      some ([w9], 0)
    else
      (z1o a0.perms).bind fun v12 =>
      some (v12.1, v12.2)
instance {a0 : Hol} : Hd (z1r a0) := ⟨fun (w8, w9) => ([(27, xI w8)], [(5, .os 1 w9.length (w9.map fun x0 => .sc (.int .i64 x0)))])⟩
def z0Y (a0 : Hol) : Option (List (List Int) × Int) :=
  if (a0.tiles.length : Int) < 1 then
    some ([], 4)
  else
    if 32 < (a0.tiles.length : Int) then
      some ([], 4)
    else
      (z0R a0.perms (a0.tiles.length : Int)).bind fun v7 =>
      if v7 = true then
        chk (z1v 8 (a0.tiles.length : Int)) <|
        z0z (z1r a0) LFm (0, List.replicate (a0.tiles.length : Int).toNat (0 : Int))
      else
        some ([], 4)
instance holonomy_Elements_ok {a0 : Hol} : Ok (z0Y a0) (fun r => L 9 [.agg [.sc (.int .i64 a0.set), .sl a0.tiles.length (a0.tiles.map fun x0 => .sc (.int .i64 x0)), .sl a0.words.length (a0.words.map fun x0 => .sc (.string x0)), .sl a0.perms.length (a0.perms.map fun x0 => .sl x0.length (x0.map fun x1 => .sc (.int .i64 x1)))]] = some (.tup [.sl r.1.length (r.1.map fun x0 => .sl x0.length (x0.map fun x1 => .sc (.int .i64 x1))), .sc (.int .i64 r.2)], [.dead])) := ⟨fun r h => by have h := z5x h; unfold z0Y at h; exact zhL zoG fn9 bd9⟩
end
end
section
open Go Go.RowKit Go.Sort
set_option maxRecDepth 100000
set_option maxHeartbeats 4000000
theorem z3V : ∀ x y : List Int, z2p y x = -z2p x y
  | [], [] => by simp [z2p]
  | [], _ :: _ => by simp [z2p]
  | _ :: _, [] => by simp [z2p]
  | a :: x, b :: y => by
    have ih := z3V x y
    simp only [z2p]
    by_cases h1 : a < b
    · have h2 : ¬ b < a := by omega
      simp only [if_neg h2, if_pos h1]; omega
    · by_cases h2 : b < a
      · simp only [if_pos h2, if_neg h1]
      · simp only [if_neg h2, if_neg h1]; exact ih
theorem z3d : ∀ x y z : List Int, z2p x y <= 0 -> z2p y z <= 0 -> z2p x z <= 0 /\ (z2p x z = 0 -> z2p x y = 0 /\ z2p y z = 0)
  | [], [], z, _, h2 => ⟨h2, fun e => ⟨by simp [z2p], e⟩⟩
  | [], b :: y, [], _, h2 => by simp [z2p] at h2
  | [], b :: y, c :: z, _, _ => by simp [z2p]
  | a :: x, [], _, h1, _ => by simp [z2p] at h1
  | a :: x, b :: y, [], _, h2 => by simp [z2p] at h2
  | a :: x, b :: y, c :: z, h1, h2 => by
    have ih := z3d x y z
    simp only [z2p] at h1 h2 ⊢
    by_cases h3 : a < b
    · by_cases h4 : b < c
      · rw [if_pos (show a < c by omega)]; exact ⟨by omega, fun e => by omega⟩
      · rw [if_neg h4] at h2
        by_cases h5 : c < b
        · rw [if_pos h5] at h2; omega
        · rw [if_pos (show a < c by omega)]; exact ⟨by omega, fun e => by omega⟩
    · rw [if_neg h3] at h1
      by_cases h4 : b < a
      · rw [if_pos h4] at h1; omega
      · rw [if_neg h4] at h1
        have hab : a = b := by omega
        subst hab
        by_cases h5 : a < c
        · simp only [if_pos h5]; exact ⟨by omega, fun e => by omega⟩
        · simp only [if_neg h5] at h2
          by_cases h6 : c < a
          · simp only [if_pos h6] at h2; omega
          · simp only [if_neg h6] at h2
            simp only [if_neg h5, if_neg h6, if_neg h3, if_neg h4]
            exact ih h1 h2
theorem z8V (x : List Int) : ∀ l : List (List Int), (zjC x l).Perm (x :: l)
  | [] => .refl _
  | y :: l => by
    unfold zjC
    split
    · exact .refl _
    · exact ((z8V x l).cons y).trans (.swap x y l)
theorem z5e : ∀ l : List (List Int), (z5O l).Perm l
  | [] => .refl _
  | x :: l => (z8V x (z5O l)).trans ((z5e l).cons x)
abbrev ziM (l : List (List Int)) : Prop := l.Pairwise fun a b => z2p a b <= 0
theorem z8U (x : List Int) : ∀ l : List (List Int), ziM l -> ziM (zjC x l)
  | [], _ => by simp [zjC]
  | y :: l, h => by
    unfold zjC
    rw [ziM, List.pairwise_cons] at h
    split
    · rename_i hxy
      refine List.pairwise_cons.2 ⟨fun z hz => ?_, List.pairwise_cons.2 h⟩
      rcases List.mem_cons.1 hz with rfl | hz
      · exact hxy
      · exact (z3d _ _ _ hxy (h.1 z hz)).1
    · rename_i hxy
      refine List.pairwise_cons.2 ⟨fun z hz => ?_, z8U x l h.2⟩
      rcases List.mem_cons.1 ((z8V x l).mem_iff.1 hz) with rfl | hz
      · rw [z3V]; omega
      · exact h.1 z hz
theorem z4v : ∀ l : List (List Int), ziM (z5O l)
  | [] => by simp [z5O]
  | x :: l => z8U x _ (z4v l)
theorem zdN {l r : List (List Int)} (h : l.Perm r) (h1 : ziM l) (h2 : ziM r) : l = r := by
  refine List.Perm.eq_of_pairwise (le := fun a b => z2p a b <= 0) (fun a b _ _ h3 h4 => ?_) h1 h2 h
  rw [z3V] at h4
  exact (z3p a b).1 (by omega)
def zfG (B : Nat) (K : Nat -> z0a) (b : Nat) : z0a := if B <= b then [0] else K b
def rwN (n j : Nat) : Nat := if j < n then j else 0
def cfR (rows : List (List Int)) (i j : Nat) : Int := z2p (rows.getD (rwN rows.length i) []) (rows.getD (rwN rows.length j) [])
theorem znI (rows : List (List Int)) : SWO (ltOf (cfR rows)) where
  irrefl x := by
    unfold ltOf cfR
    rw [(z3p _ _).2 rfl]; simp
  trans x y z h1 h2 := by
    unfold ltOf cfR at *
    simp only [decide_eq_true_eq] at *
    obtain ⟨a, b⟩ := z3d _ _ _ (Int.le_of_lt h1) (Int.le_of_lt h2)
    rcases Int.lt_or_eq_of_le a with h | h
    · exact h
    · have := (b h).1; omega
  ntrans x y z h1 h2 := by
    unfold ltOf cfR at *
    simp only [decide_eq_false_iff_not] at *
    rw [z3V] at h1 h2 ⊢
    have := (z3d _ _ _ (show z2p (rows.getD (rwN rows.length z) []) (rows.getD (rwN rows.length y) []) <= 0 by omega) (show z2p (rows.getD (rwN rows.length y) []) (rows.getD (rwN rows.length x) []) <= 0 by omega)).1
    omega
theorem zcO {rows : List (List Int)} {d' : Array Nat} (hp : PermIn 0 (List.range rows.length).toArray.size (List.range rows.length).toArray d') (hs : SortedIn (ltOf (cfR rows)) 0 (List.range rows.length).toArray.size d') : d'.size = rows.length /\ (∀ x ∈ d'.toList, x < rows.length) /\ d'.toList.map (fun j => rows.getD j []) = z5O rows := by
  obtain ⟨h1, _, h3⟩ := hp
  have hsz : d'.size = rows.length := by simpa using h1
  have hp2 : d'.toList.Perm (List.range rows.length) := by
    have : (d'.extract 0 (List.range rows.length).toArray.size).toList = d'.toList := by
      rw [← h1]; simp
    rw [this] at h3
    simp at h3
    exact h3
  have hlt : ∀ x ∈ d'.toList, x < rows.length := fun x hx => List.mem_range.1 (hp2.mem_iff.1 hx)
  have e1 : (List.range rows.length).map (fun j => rows.getD j []) = rows := by
    refine List.ext_getElem (by simp) fun i h1 h2 => ?_
    simp [List.getD, h2]
  refine ⟨hsz, hlt, zdN ?_ ?_ (z4v rows)⟩
  · have := hp2.map (fun j => rows.getD j [])
    rw [e1] at this
    exact this.trans (z5e rows).symm
  · rw [ziM, List.pairwise_iff_getElem]
    intro i j hi hj hij
    simp only [List.length_map, Array.length_toList] at hi hj
    have := hs i j (by omega) hij (by simp; omega)
    rw [getElem!_pos d' i hi, getElem!_pos d' j hj] at this
    unfold ltOf cfR rwN at this
    simp only [decide_eq_false_iff_not] at this
    have l1 := hlt d'[i] (by simp)
    have l2 := hlt d'[j] (by simp)
    rw [if_pos l1, if_pos l2, z3V] at this
    simp only [List.getElem_map, Array.getElem_toList]
    omega
theorem z6A {α : Type} [Inhabited α] {enc : α -> Value} {w : World} {g n : Nat} {os : Array Obj} {cur : Array Value} {e : TypeId} {fr : Nat × Nat} (d : Array α) (hb : w.heap[g]? = some (.cells cur e fr)) : (sortWorld enc w g 0 n d os).heap[g]? = some (.cells (putCells enc 0 d cur) e fr) := by
  unfold sortWorld
  rw [heap_grow_old _ _ (by rw [size_putRow]; exact z0s hb)]
  simp [putRow, mapBlock, Sort.ahead, Array.getElem?_modify, hb, onCells]
theorem z3l {α : Type} [Inhabited α] {enc : α -> Value} {w : World} {g n : Nat} {os : Array Obj} (d : Array α) {b : Nat} (hb : b < w.heap.size) (hne : b ≠ g) : (sortWorld enc w g 0 n d os).heap[b]? = w.heap[b]? := by
  unfold sortWorld
  rw [heap_grow_old _ _ (by rw [size_putRow]; exact hb)]
  simp [putRow, mapBlock, Sort.ahead, Array.getElem?_modify, Ne.symm hne]
theorem z4w {α : Type} [Inhabited α] {enc : α -> Value} {w : World} {g n : Nat} {os : Array Obj} (d : Array α) : w.heap.size <= (sortWorld enc w g 0 n d os).heap.size := by
  unfold sortWorld
  rw [size_grow, size_putRow]
  show w.heap.size <= w.heap.size + _
  omega
theorem zaq {w w' : World} {K K' : Nat -> z0a} {c c' : z0a} {v : Value} {x : List Int} (h : TRep w K c v (zcD x)) (hk : ∀ b, b < w.heap.size -> K b = [] -> K' b = [] /\ w'.heap[b]? = w.heap[b]?) (hs : w.heap.size <= w'.heap.size) : TRep w' K' c' v (zcD x) /\ IntsAt w' v x := by
  unfold zcD at *
  generalize hT : T.sl x.length (x.map fun z => T.sc (.int .i64 z)) = t at h
  cases h with
  | emp c a cap hc =>
    injection hT with e1 e2
    have : x = [] := List.eq_nil_of_length_eq_zero e1
    subst this
    exact ⟨.emp c' a cap hc, a, cap, rfl, by simp, hc, fun j hj => by simp at hj⟩
  | fro c g o n cap cs F hK hg hn hc hF hh =>
    injection hT with e1 e2
    subst e1 e2
    obtain ⟨k1, k2⟩ := hk g hg hK
    have hcell : ∀ j, j < x.length -> w'.cell? ⟨g, o + j, none⟩ = some (F j) := fun j hj => by
      rw [z0m k2]; exact hF j (by simpa using hj)
    have hv : ∀ j (hj : j < x.length), F j = .int .i64 (x.getD j 0) := fun j hj => by
      have := hh j (.sc (.int .i64 x[j])) (by simp [hj])
      rw [this.sc_eq, List.getD, List.getElem?_eq_getElem hj, Option.getD_some]
    refine ⟨.fro c' g o _ cap _ F k1 (by omega) hn hc (fun j hj => hcell j (by simpa using hj)) (fun j t ht => ?_), some ⟨g, o, none⟩, cap, rfl, hn, hc, fun j hj => ⟨g, o, rfl, by rw [hcell j hj, hv j hj]⟩⟩
    have := hh j t ht
    simp only [List.getElem?_map, Option.map_eq_some_iff] at ht
    obtain ⟨z, hz, rfl⟩ := ht
    rw [this.sc_eq]
    exact .sc _ _ rfl
  | _ => cases hT
theorem zii {w : World} {K : Nat -> z0a} {c : z0a} {v : Value} {x : List Int} (h : TRep w K c v (zcD x)) : v.oneCell' = true := by
  unfold zcD at h
  generalize hT : T.sl x.length (x.map fun z => T.sc (.int .i64 z)) = t at h
  cases h with
  | emp => rfl
  | fro => rfl
  | _ => cases hT
theorem zcG {I : World -> (Nat -> z0a) -> Prop} {args : List T} {r : T} {outs : List T} (h : zhS 42 args = some (r, outs)) : CallOk Tryz.prog I 41 args r outs := by
  unfold zhS at h
  split at h
  case h_2 => cases h
  rename_i n cs f fs gs
  split at h
  case isFalse => cases h
  rename_i hfg
  obtain ⟨rfl, hfs, hgs⟩ := hfg
  simp only [Array.isEmpty_iff] at hfs hgs
  subst hfs hgs
  split at h
  case h_2 => cases h
  rename_i xs hxs
  split at h
  case isFalse => cases h
  rename_i hn
  subst hn
  unfold zeD at h
  split at h
  case isFalse => cases h
  rename_i hc
  obtain ⟨hne, hlen⟩ := hc
  obtain ⟨rfl, rfl⟩ : T.tup [] = r /\ [T.os 1 (z5O xs).length ((z5O xs).map zcD), .dead] = outs := by simpa using h
  have hcs := zbJ hxs
  subst hcs
  clear h hxs
  refine ⟨fun vals w => ?_, fun w K vals hs ha hI => ?_⟩
  · have hb : ∃ c, Tryz.f41.body = some c := ⟨_, rfl⟩
    obtain ⟨c, hb⟩ := hb
    have hname : Tryz.f41.name ≠ "runtime.NumGoroutine" := by decide
    simp [callFunc, program, Sem.run, Tryz.func41, hname, hb]
  · obtain ⟨v, u, rfl⟩ : ∃ v u, vals = #[v, u] := by
      obtain ⟨l⟩ := vals
      match l, hs with
      | [v, u], _ => exact ⟨v, u, rfl⟩
    have hv : TRep w K (col 0) v (.os 1 xs.length (xs.map zcD)) := ha 0 _ rfl
    have hu : TRep w K [] u (.sc (.func (.func 42) #[] #[])) := ha 1 _ rfl
    rw [hu.sc_eq]
    clear hu ha
    have hl0 : 0 < xs.length := List.length_pos_iff.2 hne
    generalize hT : T.os 1 xs.length (xs.map zcD) = t at hv
    cases hv with
    | nil => injection hT with _ e _; omega
    | own c g n cap size cs arr e fz F hfz hc0 hK hg hsz hl hz hn hcap hF hh =>
      injection hT with e1 e2 e3
      subst e1 e2 e3
      have hrow : ∀ j, j < xs.length -> TRep w K (col 0 ++ [j]) (F j) (zcD (xs.getD j [])) := fun j hj => by
        have := hh j (zcD xs[j]) (by simp [hj])
        rwa [List.getD, List.getElem?_eq_getElem hj, Option.getD_some]
      have hcell : ∀ j, j < xs.length -> arr[j]? = some (F j) := fun j hj => hF j (by simpa using hj)
      let enc : Nat -> Value := fun j => F (rwN xs.length j)
      have hdg : ∀ j, j < xs.length -> (List.range xs.length).toArray[j]! = j := fun j hj => by
        rw [getElem!_pos _ j (by simpa using hj)]; simp
      have hH : Holds enc w g 0 (List.range xs.length).toArray := fun j hj => by
        have hj' : j < xs.length := by simpa using hj
        constructor
        · rw [Nat.zero_add, z1p hg, hcell j hj', hdg j hj']
          show some (F j) = some (F (rwN xs.length j))
          rw [rwN, if_pos hj']
        · unfold World.frozen?
          rw [Nat.zero_add]
          simp only [hg]
          have := hfz j (by omega)
          obtain ⟨lo, hi⟩ := fz
          simp only at this ⊢
          simp only [Bool.and_eq_false_iff, decide_eq_false_iff_not]
          omega
      have eg : ∀ args w, (callFunc 42 args).run Tryz.prog w = .ok (.enter 42 args) w := enters_of Tryz.func42 (by kernel_rfl) rfl
      have hlay : ∀ (d : Array Nat) (m : Nat) (os : Array Obj) (b : Nat), b < w.heap.size -> K b = [] -> K b = [] /\ (sortWorld enc w g 0 m d os).heap[b]? = w.heap[b]? := fun d m os b hb hk => ⟨hk, z3l d hb (by rintro rfl; rw [hK] at hk; simp [col] at hk)⟩
      have hrw : ∀ j, rwN xs.length j < xs.length := fun j => by unfold rwN; split <;> omega
      have hcmp : CmpLays1 Tryz.prog 42 #[] enc (cfR xs) g 0 (List.range xs.length).toArray.size w := fun m os dk _ x y => by
        refine (zan (enc x) (enc y) _ _ _ (zaq (c' := []) (hrow _ (hrw x)) (hlay dk m os) (z4w dk)).2 (zaq (c' := []) (hrow _ (hrw y)) (hlay dk m os) (z4w dk)).2).mono ?_
        rintro e' w' ⟨he, hw⟩
        exact ⟨he, 0, #[], by rw [← hw, grow_empty]; rfl⟩
      have hcon := Tryz.slices_SortFunc_f41 enc (fun j => zii (hrow _ (hrw j))) (cfR xs) (znI xs) 42 #[] g 0 cap (List.range xs.length).toArray w eg hcmp hH (z0s hg) (by simpa using hlen)
      have hsize : (List.range xs.length).toArray.size = xs.length := by simp
      rw [hsize] at hcon
      refine hcon.mono fun e' w' ⟨he, d', m, os, hp, hso, hw⟩ => ?_
      subst hw
      obtain ⟨hd, hdl, hsort⟩ := zcO (by rw [hsize]; exact hp) (by rw [hsize]; exact hso)
      have hys : (z5O xs).length = xs.length := (z5e xs).length_eq
      refine ⟨.tuple #[], zfG w.heap.size K, he, ?_, fun i t hi hio => ?_, rfl, rfl, rfl, z4w d', fun b hb hcb => ⟨by unfold zfG; rw [if_neg (by omega)], z3l d' hb ?_⟩, ?_⟩
      · exact .tup _ #[] [] (fun _ => undef) rfl (fun j hj => by simp at hj) (fun j t ht => by simp at ht)
      · match i, hi with
        | 0, hi =>
          refine ⟨_, rfl, ?_⟩
          show TRep _ _ (col 0) (.slice (some ⟨g, 0, none⟩) xs.length cap) _
          rw [← hys]
          refine .own (col 0) g _ cap 1 _ (putCells enc 0 d' arr) e fz (fun j => F (d'.toList.getD j 0)) (fun i hi => hfz i (by simpa [putCells] using hi)) (by simp [col]) (by unfold zfG; rw [if_neg (by have := z0s hg; omega)]; exact hK) (z6A d' hg) (by simpa [putCells] using hsz) (by simp) (by omega) (by omega) hcap (fun j hj => ?_) (fun j t ht => ?_)
          · have hj' : j < xs.length := by simpa [hys] using hj
            have hja : j < arr.size := (Array.getElem?_eq_some_iff.1 (hcell j hj')).1
            have hjd : j < d'.size := by omega
            have hjl := hdl d'[j] (by simp)
            simp only [putCells, Array.getElem?_mapIdx, hcell j hj', Option.map_some]
            rw [if_pos (by omega), Nat.sub_zero, getElem!_pos d' j hjd]
            show some (F (rwN xs.length d'[j])) = some (F (d'.toList.getD j 0))
            rw [rwN, if_pos hjl]
            simp [List.getD, hjd]
          · simp only [List.getElem?_map, Option.map_eq_some_iff] at ht
            obtain ⟨x, hx', rfl⟩ := ht
            have hjs : j < (z5O xs).length := (List.getElem?_eq_some_iff.1 hx').1
            have hjd : j < d'.toList.length := by rw [Array.length_toList]; omega
            have hjl := hdl d'.toList[j] (List.getElem_mem hjd)
            have ex : x = xs.getD d'.toList[j] [] := by
              have h1 : (d'.toList.map fun j => xs.getD j [])[j]? = some x := by rw [hsort]; exact hx'
              rw [List.getElem?_map, List.getElem?_eq_getElem hjd, Option.map_some] at h1
              exact (Option.some.inj h1).symm
            have e2 : d'.toList.getD j 0 = d'.toList[j] := by rw [List.getD, List.getElem?_eq_getElem hjd, Option.getD_some]
            rw [e2, ex]
            exact (zaq (hrow _ hjl) (fun b hb hk => ⟨by unfold zfG; rw [if_neg (by omega)]; exact hk, (hlay d' m os b hb hk).2⟩) (z4w d')).1
        | 1, hi => cases hi; cases hio
      · rintro rfl
        rw [hK] at hcb
        simp [col] at hcb
      · intro b arr0 e0 fz0 hb0
        by_cases hbg : b = g
        · subst hbg
          rw [hg] at hb0
          cases hb0
          exact ⟨_, _, _, z6A d' hg, by simp [putCells]⟩
        · exact ⟨_, _, _, (z3l d' (z0s hb0) hbg).trans hb0, rfl⟩
    | _ => cases hT
theorem zb0 {I : World -> (Nat -> z0a) -> Prop} {args : List T} {r : T} {outs : List T} (h : zdo args = some (r, outs)) : CallOk Tryz.prog I 117 args r outs := by
  unfold zdo at h
  split at h
  case h_2 => cases h
  rename_i n cs
  split at h
  case h_2 => cases h
  rename_i xs hxs
  split at h
  case isFalse => cases h
  rename_i hn
  subst hn
  unfold z9C at h
  split at h
  case isFalse => cases h
  rename_i hc
  obtain ⟨hne, hlen⟩ := hc
  have hcs := z4K hxs
  subst hcs
  clear hxs
  have hys : (xs.mergeSort fun x y => decide (x <= y)).length = xs.length := List.length_mergeSort xs
  simp only [Option.map_some, Option.some.injEq, Prod.mk.injEq] at h
  generalize hgen : (xs.mergeSort fun x y => decide (x <= y)) = ys at h hys
  obtain ⟨rfl, rfl⟩ := h
  refine ⟨fun vals w => ?_, fun w K vals hs ha hI => ?_⟩
  · have hb : ∃ c, Tryz.f117.body = some c := ⟨_, rfl⟩
    obtain ⟨c, hb⟩ := hb
    have hname : Tryz.f117.name ≠ "runtime.NumGoroutine" := by decide
    simp [callFunc, program, Sem.run, Tryz.func117, hname, hb]
  · obtain ⟨v, rfl⟩ : ∃ v, vals = #[v] := by
      obtain ⟨l⟩ := vals
      match l, hs with
      | [v], _ => exact ⟨v, rfl⟩
    have hv : TRep w K (col 0) v (.os 1 xs.length (xs.map fun x => .sc (.int .i64 x))) := ha 0 _ rfl
    clear ha
    have hl0 : 0 < xs.length := List.length_pos_iff.2 hne
    generalize hT : T.os 1 xs.length (xs.map fun x => T.sc (.int .i64 x)) = t at hv
    cases hv with
    | nil => injection hT with _ e _; omega
    | own c g n cap size cs arr e fz F hfz hc0 hK hg hsz hl hz hn hcap hF hh =>
      injection hT with e1 e2 e3
      subst e1 e2 e3
      have hcell : ∀ j (hj : j < xs.length), arr[j]? = some (.int .i64 xs[j]) := fun j hj => by
        rw [hF j (by simpa using hj)]
        have := hh j (.sc (.int .i64 xs[j])) (by simp [hj])
        rw [this.sc_eq]
      have hH : Holds (Value.int .i64) w g 0 xs.toArray := fun j hj => by
        have hj' : j < xs.length := by simpa using hj
        constructor
        · rw [Nat.zero_add, z1p hg, hcell j hj', getElem!_pos _ j hj]; simp
        · unfold World.frozen?
          rw [Nat.zero_add]
          simp only [hg]
          have := hfz j (by omega)
          obtain ⟨lo, hi⟩ := fz
          simp only at this ⊢
          simp only [Bool.and_eq_false_iff, decide_eq_false_iff_not]
          omega
      have hcon := Tryz.slices_Sort_int g 0 cap xs w hH (z0s hg) hlen
      refine hcon.mono fun e' w' ⟨he, m, os, hw⟩ => ?_
      rw [hgen] at hw
      have hw' : w' = sortWorld (Value.int .i64) w g 0 m ys.toArray os := hw
      clear hw
      subst hw'
      refine ⟨.tuple #[], zfG w.heap.size K, he, ?_, fun i t hi hio => ?_, rfl, rfl, rfl, z4w _, fun b hb hcb => ⟨by unfold zfG; rw [if_neg (by omega)], z3l _ hb ?_⟩, ?_⟩
      · exact .tup _ #[] [] (fun _ => undef) rfl (fun j hj => by simp at hj) (fun j t ht => by simp at ht)
      · match i, hi with
        | 0, hi =>
          refine ⟨_, rfl, ?_⟩
          show TRep _ _ (col 0) (.slice (some ⟨g, 0, none⟩) xs.length cap) _
          rw [← hys]
          refine .own (col 0) g _ cap 1 _ (putCells (Value.int .i64) 0 ys.toArray arr) e fz (fun j => .int .i64 (ys.getD j 0)) (fun i hi => hfz i (by simpa [putCells] using hi)) (by simp [col]) (by unfold zfG; rw [if_neg (by have := z0s hg; omega)]; exact hK) (z6A _ hg) (by simpa [putCells] using hsz) (by simp) (by omega) (by omega) hcap (fun j hj => ?_) (fun j t ht => ?_)
          · have hj' : j < xs.length := by simpa [hys] using hj
            have hjd : j < ys.toArray.size := by simp; omega
            simp only [putCells, Array.getElem?_mapIdx, hcell j hj', Option.map_some]
            rw [if_pos (by omega), Nat.sub_zero, getElem!_pos _ j hjd]
            have hjy : j < ys.length := by omega
            simp [List.getD, hjy]
          · simp only [List.getElem?_map, Option.map_eq_some_iff] at ht
            obtain ⟨x, hx', rfl⟩ := ht
            simp only [List.getD, hx']
            exact .sc _ _ rfl
      · rintro rfl
        rw [hK] at hcb
        simp [col] at hcb
      · intro b arr0 e0 fz0 hb0
        by_cases hbg : b = g
        · subst hbg
          rw [hg] at hb0
          cases hb0
          exact ⟨_, _, _, z6A _ hg, by simp [putCells]⟩
        · exact ⟨_, _, _, (z3l _ (z0s hb0) hbg).trans hb0, rfl⟩
    | _ => cases hT
theorem zjS {w w' : World} {K : Nat -> z0a} (h : Below w.heap.size w w') : Step w K w' (zfG w.heap.size K) :=
  ⟨h.os, h.tape, h.output, h.size, fun b hb _ => ⟨by unfold zfG; rw [if_neg (by omega)], h.block b hb⟩, .olds fun b hb => h.block b hb⟩
theorem zkU {w : World} {K : Nat -> z0a} {B : Nat} {e : TypeId} {v : Value} {n : Nat} {xs : List Int} (hn : xs.length = n) (h : w.ownsRow B e 1 v n (xs.map (Value.int .i64))) : TRep w (zfG B K) [0] v (.os 1 xs.length (xs.map fun x => .sc (.int .i64 x))) := by
  obtain ⟨h1, h2⟩ := h
  subst hn
  rcases h2 with ⟨rfl, h0⟩ | ⟨g, cap, cur, rfl, hb, hg, hc1, hc2, hs, ht⟩
  · have : xs = [] := List.eq_nil_of_length_eq_zero h0
    subst this
    exact .nil _ _
  · refine .own [0] g xs.length cap 1 _ cur e (0, 0) (fun j => .int .i64 (xs.getD j 0)) (fun i _ => by simp) (by simp) (by unfold zfG; rw [if_pos hb]) hg hs (by simp) (by omega) hc1 hc2 (fun j hj => ?_) (fun j t ht => ?_)
    · have hj' : j < xs.length := by simpa using hj
      have h3 : (cur.toList.take (xs.length * 1))[j]? = (xs.map (Value.int .i64))[j]? := by rw [ht]
      rw [List.getElem?_take_of_lt (by omega), List.getElem?_map, List.getElem?_eq_getElem hj'] at h3
      simp only [Option.map_some, Array.getElem?_toList] at h3
      rw [h3, List.getD, List.getElem?_eq_getElem hj']
      rfl
    · simp only [List.getElem?_map, Option.map_eq_some_iff] at ht
      obtain ⟨x, hx, rfl⟩ := ht
      simp only [List.getD, hx]
      exact .sc _ _ rfl
theorem zb1 {I : World -> (Nat -> z0a) -> Prop} {args : List T} {r : T} {outs : List T} (h : zdp args = some (r, outs)) : CallOk Tryz.prog I 116 args r outs := by
  unfold zdp at h
  split at h
  case h_2 => cases h
  rename_i n cs
  split at h
  case h_2 => cases h
  rename_i xs hxs
  split at h
  case isFalse => cases h
  rename_i hn
  subst hn
  unfold z9D at h
  split at h
  case isFalse => cases h
  rename_i hb
  have hcs := z4K hxs
  subst hcs
  clear hxs
  simp only [Option.map_some, Option.some.injEq, Prod.mk.injEq] at h
  obtain ⟨rfl, rfl⟩ := h
  refine ⟨fun vals w => ?_, fun w K vals hs ha hI => ?_⟩
  · have hb : ∃ c, Tryz.f116.body = some c := ⟨_, rfl⟩
    obtain ⟨c, hb⟩ := hb
    have hname : Tryz.f116.name ≠ "runtime.NumGoroutine" := by decide
    simp [callFunc, program, Sem.run, Tryz.func116, hname, hb]
  · obtain ⟨v, rfl⟩ : ∃ v, vals = #[v] := by
      obtain ⟨l⟩ := vals
      match l, hs with
      | [v], _ => exact ⟨v, rfl⟩
    have hv : TRep w K [] v (.sl xs.length (xs.map fun x => .sc (.int .i64 x))) := ha 0 _ rfl
    have fin : ∀ e w', (∃ v', e = Ending.returned v' /\ w'.ownsRow w.heap.size 3 1 v' xs.length (xs.map (Value.int .i64)) /\ Below w.heap.size w w') -> ∃ v' K', e = Ending.returned v' /\ TRep w' K' [0] v' (.os 1 xs.length (xs.map fun x => .sc (.int .i64 x))) /\ (∀ i t, [T.sl xs.length (xs.map fun x => T.sc (.int .i64 x))][i]? = some t -> z3a t = true -> ∃ t', [T.dead][i]? = some t' /\ TRep w' K' (col i) (#[v].getD i undef) t') /\ Step w K w' K' := by
      rintro e w' ⟨v', he, ho, hbl⟩
      refine ⟨v', zfG w.heap.size K, he, zkU rfl ho, fun i t hi hio => ?_, zjS hbl⟩
      match i, hi with
      | 0, hi => cases hi; cases hio
    generalize hT : T.sl xs.length (xs.map fun x => T.sc (.int .i64 x)) = t at hv
    cases hv with
    | emp c a cap hcap =>
      have : xs = [] := by
        have : xs.length = 0 := by injection hT
        exact List.eq_nil_of_length_eq_zero this
      subst this
      cases a with
      | none => exact (Tryz.slices_Clone_int_nil 0 cap w).mono fun e w' ⟨he, hw⟩ => fin e w' ⟨_, he, ⟨by simp, .inl ⟨rfl, rfl⟩⟩, hw ▸ Below.refl _ _⟩
      | some a => exact (Tryz.slices_Clone_int_zero a cap w).mono fun e w' ⟨v', he, ho, _, hb⟩ => fin e w' ⟨v', he, ho, hb⟩
    | fro c g o n cap cs F hK hg hn hcap hF hh =>
      injection hT with e1 e2
      subst e1
      subst e2
      refine (Tryz.slices_Clone_int g o xs.length cap xs w (Nat.le_refl _) hb (fun j hj => ?_)).mono fun e w' ⟨v', he, ho, _, hbl⟩ => fin e w' ⟨v', he, ?_, hbl⟩
      · have h1 := hF j (by simpa using hj)
        rw [h1]
        have h2 := hh j (.sc (.int .i64 (xs.getD j 0))) (by simp [List.getD, hj])
        rw [h2.sc_eq]
      · rw [List.take_of_length_le (Nat.le_refl _)] at ho
        exact ho
    | _ => cases hT
end
section
open Go
set_option maxRecDepth 100000
theorem z3m {l : List (List Nat)} {i : Nat} (h : i < l.length) : l.getD i [] ∈ l := by
  rw [List.getD, List.getElem?_eq_getElem h, Option.getD_some]; exact List.getElem_mem h
def z2d (f g : List Nat) : List Nat := f.map fun y => g.getD y 0
structure PermL (L : Nat) (p : List Nat) : Prop where
  len : p.length = L
  nd : p.Nodup
  lt : ∀ x ∈ p, x < L
theorem z9P (L : Nat) : PermL L (List.range L) := ⟨by simp, List.nodup_range, fun x hx => List.mem_range.1 hx⟩
theorem zaR (f g : List Nat) : (z2d f g).length = f.length := by simp [z2d]
theorem zhu {L : Nat} {f g : List Nat} (hf : PermL L f) (hg : PermL L g) : PermL L (z2d f g) := by
  refine ⟨by rw [zaR, hf.len], z8L hf.nd fun x hx y hy e => ?_, fun x hx => ?_⟩
  · exact zjG hg.nd (by have := hf.lt x hx; have := hg.len; omega) (by have := hf.lt y hy; have := hg.len; omega) e
  · obtain ⟨y, hy, rfl⟩ := List.mem_map.1 hx
    exact hg.lt _ (z5k (by have := hf.lt y hy; have := hg.len; omega))
theorem zep {L : Nat} {g : List Nat} (hg : PermL L g) : z2d (List.range L) g = g := by
  refine List.ext_getElem (by rw [zaR, List.length_range, hg.len]) fun i h1 h2 => ?_
  simp [z2d, List.getD, h2]
theorem zfy {L : Nat} {f g h : List Nat} (hf : PermL L f) (hg : PermL L g) : z2d (z2d f g) h = z2d f (z2d g h) := by
  unfold z2d
  rw [List.map_map]
  refine List.map_congr_left fun y hy => ?_
  have : y < g.length := by have := hf.lt y hy; have := hg.len; omega
  simp [List.getD, this]
inductive RchG (L : Nat) (P : List (List Nat)) : List Nat -> Prop
  | one : RchG L P (List.range L)
  | step (e g) (h : RchG L P e) (hg : g ∈ P) : RchG L P (z2d e g)
theorem z1t {L : Nat} {P : List (List Nat)} (hP : ∀ g ∈ P, PermL L g) {e : List Nat} (h : RchG L P e) : PermL L e := by
  induction h with
  | one => exact z9P L
  | step e g _ hg ih => exact zhu ih (hP g hg)
theorem zgJ {L : Nat} {P : List (List Nat)} (hP : ∀ g ∈ P, PermL L g) {g : List Nat} (hg : g ∈ P) : RchG L P g := by
  have := RchG.step _ g (.one (L := L) (P := P)) hg
  rwa [zep (hP g hg)] at this
theorem z2z {L : Nat} {P Q : List (List Nat)} (h : ∀ g ∈ Q, g ∈ P) {e : List Nat} (he : RchG L Q e) : RchG L P e := by
  induction he with
  | one => exact .one
  | step e g _ hg ih => exact .step _ _ ih (h g hg)
theorem zhv {L : Nat} {e : List Nat} (h : PermL L e) : z2d e (List.range L) = e := by
  refine List.ext_getElem (zaR _ _) fun i h1 h2 => ?_
  have := h.lt e[i] (List.getElem_mem h2)
  simp [z2d, List.getD, this]
theorem zfm {L : Nat} {U E : List (List Nat)} (hU : ∀ g ∈ U, PermL L g) (hE : ∀ e ∈ E, PermL L e) (hc : ∀ e ∈ E, ∀ g ∈ U, z2d e g ∈ E) {x g : List Nat} (hx : x ∈ E) (hg : RchG L U g) : z2d x g ∈ E := by
  induction hg with
  | one => rw [zhv (hE x hx)]; exact hx
  | step g' u hg' hu ih =>
    rw [← zfy (hE x hx) (z1t hU hg')]
    exact hc _ ih u hu
theorem zfw {f g : List Nat} (hl : f.length <= 1000) (h : ∀ x ∈ f, x < g.length) : z1S (toI f) (toI g) = some (toI (z2d f g)) := by
  have e0 : toI (z2d f g) = (List.range f.length).map fun k => ((g.getD (f.getD k 0) 0 : Nat) : Int) := by
    refine List.ext_getElem (by simp [toI, z2d]) fun i h1 h2 => ?_
    have hi : i < f.length := by simpa [toI, z2d] using h1
    simp [toI, z2d, List.getD, hi]
  unfold z1S
  rw [z0r, z0B _ (by unfold z1v; omega), Int.toNat_natCast, e0]
  refine z1G (s := ((0 : Int), List.replicate f.length (0 : Int))) f.length (fun k => ((k : Int), zax f.length (fun k => ((g.getD (f.getD k 0) 0 : Nat) : Int)) (fun _ => 0) k)) (by rw [zcY]; congr 1; exact (List.ext_getElem (by simp) fun i h1 h2 => by simp)) (by simp only [LFm]; omega) (fun k hk => ?_) ?_
  · have hx := h _ (z5k hk)
    simp only [z2h]
    rw [if_pos (by rw [z0r]; omega), z9K hk, Option.bind_some, z9K hx, Option.bind_some, z8N hk, Option.bind_some, z1J (by omega), Int.toNat_natCast, z5R (f := fun k => ((g.getD (f.getD k 0) 0 : Nat) : Int)) hk]
  · simp only [z2h]
    rw [if_neg (by rw [z0r]; omega), zf2]
theorem zaF {p : List Nat} (hl : p.length <= 1000) (hp : ∀ x ∈ p, x < 256) : z2B (toI p) = some (z1U (toI p)) := by
  unfold z2B
  rw [z0r, z0B _ (by unfold z1v; omega), Int.toNat_natCast]
  have e0 : toI p = (List.range p.length).map fun k => ((p.getD k 0 : Nat) : Int) := by
    refine List.ext_getElem (by simp [toI]) fun i h1 h2 => ?_
    have hi : i < p.length := by simpa [toI] using h1
    simp [toI, List.getD, hi]
  refine z1G (s := ((0 : Int), List.replicate p.length (0 : Int))) p.length (fun k => ((k : Int), zax p.length (fun k => ((p.getD k 0 : Nat) : Int)) (fun _ => 0) k)) (by rw [zcY]; congr 1; exact (List.ext_getElem (by simp) fun i h1 h2 => by simp)) (by simp only [LFm]; omega) (fun k hk => ?_) ?_
  · have hx := hp _ (z5k hk)
    have hw : IntKind.u8.wrap ((p.getD k 0 : Nat) : Int) = ((p.getD k 0 : Nat) : Int) := by rw [IntKind.wrap_u8]; omega
    simp only [z2V]
    rw [if_pos (by rw [z0r]; omega), z9K hk, Option.bind_some, z8N hk, Option.bind_some, z1J (by omega), Int.toNat_natCast, hw, z5R (f := fun k => ((p.getD k 0 : Nat) : Int)) hk]
  · simp only [z2V]
    rw [if_neg (by rw [z0r]; omega), zf2, ← e0]
theorem zhb : ∀ {p q : List Nat}, (∀ x ∈ p, x < 256) -> (∀ x ∈ q, x < 256) -> z1U (toI p) = z1U (toI q) -> p = q := by
  have key : ∀ {p q : List Nat}, (∀ x ∈ p, x < 256) -> (∀ x ∈ q, x < 256) -> (toI p).map (fun z : Int => UInt8.ofNat z.toNat) = (toI q).map (fun z : Int => UInt8.ofNat z.toNat) -> p = q := by
    intro p
    induction p with
    | nil =>
      intro q _ _ h
      cases q with
      | nil => rfl
      | cons b q => simp [toI] at h
    | cons a p ih =>
      intro q hp hq h
      cases q with
      | nil => simp [toI] at h
      | cons b q =>
        simp only [toI, List.map_cons, List.cons.injEq] at h
        have ha := hp a (List.mem_cons_self ..)
        have hb := hq b (List.mem_cons_self ..)
        have g1 := congrArg UInt8.toNat h.1
        simp only [Int.toNat_natCast, UInt8.toNat_ofNat'] at g1
        have : a = b := by omega
        subst this
        rw [ih (fun k hk => hp k (List.mem_cons_of_mem _ hk)) (fun k hk => hq k (List.mem_cons_of_mem _ hk)) h.2]
  intro p q hp hq h
  refine key hp hq ?_
  have := congrArg ByteArray.data h
  simpa [z1U] using this
theorem ziv {L : Nat} (h1 : 1 <= L) (h2 : L <= 32) : z1W (L : Int) = some (toI (List.range L)) := by
  unfold z1W
  rw [if_neg (by omega), if_neg (by omega), z0B _ (by unfold z1v; omega), Int.toNat_natCast]
  have e0 : toI (List.range L) = (List.range L).map fun k : Nat => (k : Int) := rfl
  refine z1G (s := ((0 : Int), List.replicate L (0 : Int))) L (fun k => ((k : Int), zax L (fun k => (k : Int)) (fun _ => 0) k)) (by rw [zcY]; congr 1; exact (List.ext_getElem (by simp) fun i h1 h2 => by simp)) (by simp only [LFm]; omega) (fun k hk => ?_) ?_
  · simp only [z1K]
    rw [if_pos (by omega), z8N hk, Option.bind_some, z1J (by omega), Int.toNat_natCast, z5R (f := fun k => (k : Int)) hk]
  · simp only [z1K]
    rw [if_neg (by omega), zf2, e0]
theorem zb3 {L : Nat} {p : List Nat} (h : PermL L p) (h1 : 1 <= L) (h2 : L <= 32) : z2x (toI p) = some true := by
  have hl := h.len
  unfold z2x
  rw [z0r, if_neg (by omega), if_neg (by omega)]
  refine z1G (s := (0 : Int)) p.length (fun k => (k : Int)) rfl (by simp only [LFm]; omega) (fun k hk => ?_) ?_
  · have := h.lt _ (z5k hk)
    simp only [z2F]
    rw [z0r, if_pos (by omega), z9K hk, Option.bind_some, if_neg (by omega), if_neg (by omega), z1J (by omega)]
  · simp only [z2F]
    rw [z0r, if_neg (by omega)]
theorem zfx {l : List Int} (h : l.Nodup) (hl : l.length <= 1000) : z0A l = some l := by
  unfold z0A
  by_cases h0 : (l.length : Int) < 2
  · rw [if_pos h0]
  · rw [if_neg h0]
    refine z1G (s := (1 : Int)) (l.length - 1) (fun k => ((k + 1 : Nat) : Int)) rfl (by simp only [LFm]; omega) (fun k hk => ?_) ?_
    · have w : IntKind.i64.wrap (((k + 1 : Nat) : Int) - 1) = (k : Int) := by rw [z7B (by omega) (by omega)]; omega
      simp only [z0C]
      rw [if_pos (by omega), z0p (show k + 1 < l.length by omega), Option.bind_some, w, z0p (show k < l.length by omega), Option.bind_some, if_neg, z1J (by omega)]
      intro e
      have := (List.getElem_inj h).1 e
      omega
    · simp only [z0C]
      rw [if_neg (by omega)]
theorem zf6 {L : Nat} {p : List Nat} (h : PermL L p) (h1 : 1 <= L) (h2 : L <= 32) : z0Z (toI p) = some true := by
  have hl := h.len
  have hne : toI p ≠ [] := fun e => by have := congrArg List.length e; rw [z0r, List.length_nil] at this; omega
  have hnd : ((toI p).mergeSort fun x y => decide (x <= y)).Nodup := (List.mergeSort_perm _ _).nodup_iff.2 (List.Pairwise.map _ (fun a b (hab : a ≠ b) => by intro e; exact hab (by omega)) h.nd)
  have hlen : ((toI p).mergeSort fun x y => decide (x <= y)).length = p.length := by rw [List.length_mergeSort, z0r]
  unfold z0Z
  rw [zb3 h h1 h2, Option.bind_some, if_pos rfl]
  unfold z4T z3Y
  rw [zb3 h h1 h2, Option.bind_some, if_pos rfl]
  unfold z9D z9C
  rw [z0r, if_pos (by omega), Option.bind_some, if_pos ⟨hne, by rw [z0r]; omega⟩, Option.bind_some, zfx hnd (by omega), Option.bind_some, Option.bind_some, hlen, Option.bind_some]
  simp
theorem zgN {L : Nat} {P : List (List Nat)} (hP : ∀ g ∈ P, PermL L g) (h1 : 1 <= L) (h2 : L <= 32) (hl : P.length <= 100000) : z1k (P.map toI) (L : Int) = some true := by
  unfold z1k
  refine z1G (s := (0 : Int)) P.length (fun k => (k : Int)) rfl (by simp only [LFm]; omega) (fun k hk => ?_) ?_
  · have hk' := hP _ (List.getElem_mem hk)
    have hat : atI (P.map toI) (k : Int) = some (toI P[k]) := by rw [z0p (by simpa using hk)]; simp
    simp only [z1j]
    rw [if_pos (by rw [List.length_map]; omega), hat, Option.bind_some, z0r, if_pos (by rw [hk'.len]), zf6 hk' h1 h2, Option.bind_some, if_pos rfl, z1J (by omega)]
  · simp only [z1j]
    rw [if_neg (by rw [List.length_map]; omega)]
def z5p : List (List Nat) -> List (ByteArray × Bool) := List.foldl (fun mp q => z9s (z1U (toI q)) true mp) []
theorem zeU (Q : List (List Nat)) (p : List Nat) : z5p (Q ++ [p]) = z9s (z1U (toI p)) true (z5p Q) := by
  unfold z5p; rw [List.foldl_append]; rfl
theorem zbG {p : List Nat} (hb : ∀ k ∈ p, k < 256) {Q : List (List Nat)} (hQ : ∀ q ∈ Q, ∀ k ∈ q, k < 256) : ((zaH (z1U (toI p)) (z5p Q)).getD false) = true ↔ p ∈ Q := by
  have key : ∀ (Q : List (List Nat)) (mp : List (ByteArray × Bool)), (∀ q ∈ Q, ∀ k ∈ q, k < 256) -> (((zaH (z1U (toI p)) (Q.foldl (fun mp q => z9s (z1U (toI q)) true mp) mp)).getD false) = true ↔ (p ∈ Q ∨ ((zaH (z1U (toI p)) mp).getD false) = true)) := by
    intro Q
    induction Q with
    | nil => intro mp _; simp
    | cons q Q ih =>
      intro mp hQ
      rw [List.foldl_cons, ih _ (fun x hx => hQ x (List.mem_cons_of_mem _ hx)), zck, List.mem_cons]
      have hq := hQ q (List.mem_cons_self ..)
      by_cases e : q = p
      · subst e
        rw [if_pos rfl]; simp
      · have : ¬ z1U (toI q) = z1U (toI p) := fun h => e (zhb hq hb h)
        rw [if_neg this]
        constructor
        · rintro (h | h)
          · exact .inl (.inr h)
          · exact .inr h
        · rintro ((h | h) | h)
          · exact absurd h.symm e
          · exact .inl h
          · exact .inr h
  have := key Q [] hQ
  rw [show z5p Q = Q.foldl (fun mp q => z9s (z1U (toI q)) true mp) [] from rfl, this]
  simp [zaH]
structure GInv (L : Nat) (P E : List (List Nat)) : Prop where
  nd : E.Nodup
  rc : ∀ e ∈ E, RchG L P e
  on : List.range L ∈ E
section
variable {L : Nat} {P : List (List Nat)} (hP : ∀ g ∈ P, PermL L g) (h1 : 1 <= L) (h2 : L <= 32) (hB : ∀ l : List (List Nat), l.Nodup -> (∀ e ∈ l, RchG L P e) -> l.length <= 2000)
include hP h1 h2 hB
theorem z6m {e : List Nat} (h : RchG L P e) : ∀ k ∈ e, k < 256 := fun k hk => by
  have _u := h1
  have _v := hB
  have := (z1t hP h).lt k hk; omega
theorem zku {E U : List (List Nat)} {f : List Nat} (hE : GInv L (U ++ [f]) E) (hU : ∀ g ∈ U ++ [f], g ∈ P) (hUl : U.length <= 100000) {i : Nat} (hi : i < E.length) :
    ∃ X, GInv L (U ++ [f]) (E ++ X) /\ (∀ g ∈ U ++ [f], z2d (E.getD i []) g ∈ E ++ X) /\ z0z (z1l (U.map toI) (toI f) (i : Int)) LFm (0, E.map toI, z5p E) = z0y (((i + 1 : Nat) : Int), (E ++ X).map toI, z5p (E ++ X)) := by
  refine Exists.elim (z1g (b := z1l (U.map toI) (toI f) (i : Int)) (fun z => ∃ (k : Nat) (X : List (List Nat)), k <= U.length + 1 /\ z = ((k : Int), (E ++ X).map toI, z5p (E ++ X)) /\ GInv L (U ++ [f]) (E ++ X) /\ ∀ j, j < k -> z2d (E.getD i []) ((U ++ [f]).getD j []) ∈ E ++ X) (fun z => U.length + 1 - z.1.toNat)
    (fun r => ∃ X, r = .inl (((i + 1 : Nat) : Int), (E ++ X).map toI, z5p (E ++ X)) /\ GInv L (U ++ [f]) (E ++ X) /\ ∀ j, j < U.length + 1 -> z2d (E.getD i []) ((U ++ [f]).getD j []) ∈ E ++ X) ?_ LFm (0, E.map toI, z5p E) ⟨0, [], by omega, by simp, by rw [List.append_nil]; exact hE, fun j hj => by omega⟩ (by simp only [LFm]; omega)) fun r h => ?_
  · rintro z ⟨k, X, hk, rfl, hX, hc⟩
    have hrp : ∀ e ∈ E ++ X, RchG L P e := fun e he => z2z hU (hX.rc e he)
    have hsz := hB _ hX.nd hrp
    rw [List.length_append] at hsz
    have hlen : ((E ++ X).map toI).length = E.length + X.length := by rw [List.length_map, List.length_append]
    simp only [z1l]
    rw [List.length_map]
    by_cases hk1 : k < U.length + 1
    · left
      have hg : (U ++ [f]).getD k [] ∈ U ++ [f] := z3m (by rw [List.length_append, List.length_singleton]; exact hk1)
      have hgp := hP _ (hU _ hg)
      have hat1 : atI (U.map toI ++ [toI f]) (k : Int) = some (toI ((U ++ [f]).getD k [])) := by
        have e : U.map toI ++ [toI f] = (U ++ [f]).map toI := by simp
        rw [e, z0p (by simp; omega)]
        simp only [List.getElem_map]
        rw [List.getD, List.getElem?_eq_getElem (by simp; omega), Option.getD_some]
      have hei : E.getD i [] ∈ E ++ X := List.mem_append.2 (.inl (z3m hi))
      have hep := z1t hP (hrp _ hei)
      have hat2 : atI ((E ++ X).map toI) (i : Int) = some (toI (E.getD i [])) := by
        rw [z0p (by simp; omega)]
        simp only [List.getElem_map]
        rw [List.getElem_append_left hi, List.getD, List.getElem?_eq_getElem hi, Option.getD_some]
      have hcu : RchG L (U ++ [f]) (z2d (E.getD i []) ((U ++ [f]).getD k [])) := .step _ _ (hX.rc _ hei) hg
      have hcr := z2z hU hcu
      have hcp := z1t hP hcr
      have hc256 := z6m hP h1 h2 hB hcr
      have hcomp : z1S (toI (E.getD i [])) (toI ((U ++ [f]).getD k [])) = some (toI (z2d (E.getD i []) ((U ++ [f]).getD k []))) := zfw (by rw [hep.len]; omega) (fun x hx => by have := hep.lt x hx; rw [hgp.len]; exact this)
      rw [if_pos (by omega), hat1, Option.bind_some, hat2, Option.bind_some, hcomp, Option.bind_some, zaF (by rw [hcp.len]; omega) hc256, Option.bind_some]
      have hsg := zbG hc256 (Q := E ++ X) (fun q hq => z6m hP h1 h2 hB (hrp q hq))
      generalize hcE : z2d (E.getD i []) ((U ++ [f]).getD k []) = c at *
      by_cases hin : c ∈ E ++ X
      · rw [if_pos (hsg.2 hin), z1J (by omega)]
        refine ⟨_, rfl, ⟨k + 1, X, by omega, rfl, hX, fun j hj => ?_⟩, by simp only; omega⟩
        by_cases e : j = k
        · subst e; rw [hcE]; exact hin
        · exact hc j (by omega)
      · have hX' : GInv L (U ++ [f]) (E ++ (X ++ [c])) := by
          rw [← List.append_assoc]
          refine ⟨List.nodup_append.2 ⟨hX.nd, by simp, fun a ha b hb => ?_⟩, fun e he => ?_, List.mem_append.2 (.inl hX.on)⟩
          · obtain rfl := List.mem_singleton.1 hb
            rintro rfl; exact hin ha
          · rcases List.mem_append.1 he with he | he
            · exact hX.rc e he
            · obtain rfl := List.mem_singleton.1 he; exact hcu
        rw [if_neg (fun e => hin (hsg.1 e)), z0B _ (by unfold z1c; rw [hlen]; omega), z1J (by omega)]
        refine ⟨_, rfl, ⟨k + 1, X ++ [c], by omega, ?_, hX', fun j hj => ?_⟩, by simp only; omega⟩
        · rw [← List.append_assoc, zeU, List.map_append (f := toI) (l₁ := E ++ X)]; rfl
        · rw [← List.append_assoc]
          by_cases e : j = k
          · subst e; exact List.mem_append.2 (.inr (by rw [hcE]; simp))
          · exact List.mem_append.2 (.inl (hc j (by omega)))
    · right
      have hk2 : k = U.length + 1 := by omega
      rw [if_neg (by omega), if_neg (by rw [hlen]; omega), z1J (by omega)]
      exact ⟨_, rfl, X, rfl, hX, fun j hj => hc j (by omega)⟩
  · obtain ⟨h3, X, rfl, hX, hc⟩ := h
    refine ⟨X, hX, fun g hg => ?_, h3⟩
    obtain ⟨j, hj, rfl⟩ := List.getElem_of_mem hg
    have := hc j (by simpa using hj)
    have e : (U ++ [f]).getD j [] = (U ++ [f])[j] := by rw [List.getD, List.getElem?_eq_getElem hj, Option.getD_some]
    rwa [e] at this
theorem zkY {E U : List (List Nat)} {f : List Nat} {w : Nat} (hw : w < 100000) (hE : GInv L (U ++ [f]) E) (hU : ∀ g ∈ U ++ [f], g ∈ P) (hUl : U.length <= 100000) :
    ∃ X, GInv L (U ++ [f]) (E ++ X) /\ (∀ e ∈ E ++ X, ∀ g ∈ U ++ [f], z2d e g ∈ E ++ X) /\ z0z (z1m (w : Int) (U.map toI) (toI f)) LFm (0, E.map toI, z5p E) = z0y (((w + 1 : Nat) : Int), (E ++ X).map toI, z5p (E ++ X), (U ++ [f]).map toI) := by
  refine Exists.elim (z1g (b := z1m (w : Int) (U.map toI) (toI f)) (fun z => ∃ (i : Nat) (X : List (List Nat)), i <= (E ++ X).length /\ z = ((i : Int), (E ++ X).map toI, z5p (E ++ X)) /\ GInv L (U ++ [f]) (E ++ X) /\ ∀ j, j < i -> ∀ g ∈ U ++ [f], z2d ((E ++ X).getD j []) g ∈ E ++ X) (fun z => 2001 - z.1.toNat)
    (fun r => ∃ X, r = .inl (((w + 1 : Nat) : Int), (E ++ X).map toI, z5p (E ++ X), (U ++ [f]).map toI) /\ GInv L (U ++ [f]) (E ++ X) /\ ∀ j, j < (E ++ X).length -> ∀ g ∈ U ++ [f], z2d ((E ++ X).getD j []) g ∈ E ++ X) ?_ LFm (0, E.map toI, z5p E) ⟨0, [], by simp, by simp, by rw [List.append_nil]; exact hE, fun j hj => by omega⟩ (by simp only [LFm]; omega)) fun r h => ?_
  · rintro z ⟨i, X, hi, rfl, hX, hc⟩
    have hsz := hB _ hX.nd (fun e he => z2z hU (hX.rc e he))
    simp only [z1m]
    rw [List.length_map]
    by_cases hi1 : i < (E ++ X).length
    · left
      obtain ⟨Y, y1, y2, y3⟩ := zku hP h1 h2 hB hX hU hUl hi1
      rw [if_pos (by omega), y3]
      have e : E ++ X ++ Y = E ++ (X ++ Y) := List.append_assoc ..
      rw [e] at y1 y2
      have hsz2 := hB _ y1.nd (fun e he => z2z hU (y1.rc e he))
      refine ⟨_, rfl, ⟨i + 1, X ++ Y, by rw [← e, List.length_append]; omega, by rw [e], y1, fun j hj g hg => ?_⟩, by simp only; omega⟩
      by_cases ej : j = i
      · subst ej
        have := y2 g hg
        rwa [show (E ++ (X ++ Y)).getD j [] = (E ++ X).getD j [] by rw [← e, List.getD, List.getD, List.getElem?_append_left hi1]]
      · have := hc j (by omega) g hg
        rw [show (E ++ (X ++ Y)).getD j [] = (E ++ X).getD j [] by rw [← e, List.getD, List.getD, List.getElem?_append_left (by omega)], ← e]
        exact List.mem_append.2 (.inl this)
    · right
      have hi2 : i = (E ++ X).length := by omega
      rw [if_neg (by omega), z1J (by omega)]
      refine ⟨_, rfl, X, by simp, hX, fun j hj => hc j (by omega)⟩
  · obtain ⟨h3, X, rfl, hX, hc⟩ := h
    refine ⟨X, hX, fun e he g hg => ?_, h3⟩
    obtain ⟨j, hj, rfl⟩ := List.getElem_of_mem he
    have := hc j hj g hg
    have e : (E ++ X).getD j [] = (E ++ X)[j] := by rw [List.getD, List.getElem?_eq_getElem hj, Option.getD_some]
    rwa [e] at this
theorem zjH (hne : P ≠ []) (hl : P.length <= 10000) : ∃ E : List (List Nat), z1o (P.map toI) = some (E.map toI, 0) /\ ziM (E.map toI) /\ E.Nodup /\ ∀ e, e ∈ E ↔ RchG L P e := by
  have hpos := List.length_pos_iff.2 hne
  have hP0 := hP _ (List.getElem_mem hpos)
  have hat0 : atI (P.map toI) 0 = some (toI P[0]) := by
    have := z0p (xs := P.map toI) (k := 0) (by simpa using hpos)
    simpa using this
  have h256 : ∀ k ∈ List.range L, k < 256 := fun k hk => by have := List.mem_range.1 hk; omega
  unfold z1o
  rw [if_neg (by rw [List.length_map]; omega), hat0, Option.bind_some, z0r, hP0.len, zgN hP h1 h2 (by omega), Option.bind_some, if_pos rfl, ziv h1 h2, Option.bind_some, zaF (by simp; omega) h256, Option.bind_some]
  refine Exists.elim (z1g (b := z1A (P.map toI)) (fun z => ∃ (k : Nat) (E U : List (List Nat)), k <= P.length /\ z = ((k : Int), E.map toI, z5p E, U.map toI) /\ GInv L U E /\ U.length <= k /\ (∀ g ∈ U, g ∈ P) /\ (∀ e ∈ E, ∀ g ∈ U, z2d e g ∈ E) /\ ∀ j, j < k -> P.getD j [] ∈ E) (fun z => P.length + 1 - z.1.toNat)
    (fun r => ∃ E : List (List Nat), r = (E.map toI, 0) /\ ziM (E.map toI) /\ E.Nodup /\ ∀ e, e ∈ E ↔ RchG L P e) ?_ LFm (0, [toI (List.range L)], z9s (z1U (toI (List.range L))) true ([] : List (ByteArray × Bool)), []) ⟨0, [List.range L], [], by omega, rfl, ⟨by simp, fun e he => by obtain rfl := List.mem_singleton.1 he; exact .one, by simp⟩, by simp, by simp, by simp, fun j hj => by omega⟩ (by simp only [LFm]; omega)) fun r h => ?_
  · rintro z ⟨k, E, U, hk, rfl, hE, hUl, hU, hcl, hin⟩
    have hrp : ∀ e ∈ E, RchG L P e := fun e he => z2z hU (hE.rc e he)
    have hsz := hB _ hE.nd hrp
    simp only [z1A]
    rw [List.length_map]
    by_cases hk1 : k < P.length
    · left
      have hg := z3m hk1
      have hgp := hP _ hg
      have hat1 : atI (P.map toI) (k : Int) = some (toI (P.getD k [])) := by
        rw [z0p (by simpa using hk1)]
        simp [List.getD, hk1]
      have hg256 := z6m hP h1 h2 hB (zgJ hP hg)
      have hsg := zbG hg256 (Q := E) (fun q hq => z6m hP h1 h2 hB (hrp q hq))
      rw [if_pos (by omega), hat1, Option.bind_some, zaF (by rw [hgp.len]; omega) hg256, Option.bind_some]
      by_cases hm : P.getD k [] ∈ E
      · rw [if_pos (hsg.2 hm), z1J (by omega)]
        refine ⟨_, rfl, ⟨k + 1, E, U, by omega, rfl, hE, by omega, hU, hcl, fun j hj => ?_⟩, by simp only; omega⟩
        by_cases e : j = k
        · rw [e]; exact hm
        · exact hin j (by omega)
      · rw [if_neg (fun e => hm (hsg.1 e)), z0B _ (by unfold z1c; rw [List.length_map]; omega)]
        have hUf : ∀ g ∈ U ++ [P.getD k []], g ∈ P := fun g h => by
          rcases List.mem_append.1 h with h | h
          · exact hU g h
          · rw [List.mem_singleton.1 h]; exact hg
        have hE2 : GInv L (U ++ [P.getD k []]) E := ⟨hE.nd, fun e he => z2z (fun g hg => List.mem_append.2 (.inl hg)) (hE.rc e he), hE.on⟩
        obtain ⟨X, x1, x2, x3⟩ := zkY hP h1 h2 hB (w := k) (by omega) hE2 hUf (by omega)
        rw [x3]
        refine ⟨_, rfl, ⟨k + 1, E ++ X, U ++ [P.getD k []], by omega, rfl, x1, by simp; omega, hUf, x2, fun j hj => ?_⟩, by simp only; omega⟩
        · by_cases e : j = k
          · rw [e]
            have := x2 _ x1.on (P.getD k []) (by simp)
            rwa [zep hgp] at this
          · exact List.mem_append.2 (.inl (hin j (by omega)))
    · right
      have hk2 : k = P.length := by omega
      rw [if_neg (by omega)]
      have hne2 : E.map toI ≠ [] := fun e => by
        have := hE.on
        rw [List.map_eq_nil_iff] at e
        rw [e] at this; simp at this
      unfold zeD
      rw [if_pos ⟨hne2, by rw [List.length_map]; omega⟩, Option.bind_some]
      have hp := z5e (E.map toI)
      have hback : ∀ e : List Nat, (toI e).map Int.toNat = e := fun e => by
        unfold toI; rw [List.map_map]
        have : (Int.toNat ∘ fun x : Nat => (x : Int)) = id := by funext x; simp
        rw [this, List.map_id]
      have hp2 : ((z5O (E.map toI)).map fun x => x.map Int.toNat).Perm E := by
        have := hp.map fun x => x.map Int.toNat
        rw [List.map_map] at this
        have e : ((fun x : List Int => x.map Int.toNat) ∘ toI) = id := by funext x; exact hback x
        rwa [e, List.map_id] at this
      have hPU : ∀ g ∈ U, PermL L g := fun g hg => hP g (hU g hg)
      have heq : ((z5O (E.map toI)).map fun x => x.map Int.toNat).map toI = z5O (E.map toI) := by
        rw [List.map_map]
        refine (List.map_congr_left fun x hx => ?_).trans (List.map_id' _)
        obtain ⟨e, he, rfl⟩ := List.mem_map.1 (hp.mem_iff.1 hx)
        show toI ((toI e).map Int.toNat) = toI e
        rw [hback]
      refine ⟨_, rfl, (z5O (E.map toI)).map fun x => x.map Int.toNat, by rw [heq], by rw [heq]; exact z4v _, hp2.nodup_iff.2 hE.nd, fun e => ?_⟩
      · rw [hp2.mem_iff]
        refine ⟨hrp e, fun h => ?_⟩
        induction h with
        | one => exact hE.on
        | step e g _ hg ih =>
          obtain ⟨j, hj, rfl⟩ := List.getElem_of_mem hg
          have hm := hin j (by omega)
          rw [List.getD, List.getElem?_eq_getElem hj, Option.getD_some] at hm
          exact zfm hPU (fun x hx => z1t hP (hrp x hx)) hcl ih (hE.rc _ hm)
  · obtain ⟨h3, E, rfl, e0, e1, e2⟩ := h
    exact ⟨E, h3, e0, e1, e2⟩
end
end
section
theorem zlo (a b : Nat) : (a + 1 + b = a + (b + 1)) = True := by simp only [eq_iff_iff, iff_true]; omega
end
section
open Go
noncomputable section
set_option maxRecDepth 100000
set_option maxHeartbeats 6000000
attribute [local simp] zlo
abbrev z1O (a0 : List (List Int)) : Int -> Option (Int ⊕ Int)
  | w14 =>
  if w14 < (a0.length : Int) then
    (atI a0 w14).bind fun v18 =>
    (z0I v18).bind fun v19 =>
    if v19 = true then
      (atI a0 0).bind fun v20 =>
      if (v18.length : Int) = (v20.length : Int) then
        z0y (IntKind.i64.wrap (w14 + 1))
      else
        z0k <|
        some 4
    else
      z0k <|
      some 4
  else
    z0k <|
    some 0
instance {a0 : List (List Int)} : Hd (z1O a0) := ⟨fun w14 => ([(10, xI w14)], [])⟩
def z1Y (a0 : List (List Int)) : Option (Int) :=
  if (a0.length : Int) = 0 then
    some 1
  else
    z0z (z1O a0) LFm 0
instance ref16_MayPerms_ok {a0 : List (List Int)} : Ok (z1Y a0) (fun r => L 45 [.sl a0.length (a0.map fun x0 => .sl x0.length (x0.map fun x1 => .sc (.int .i64 x1)))] = some (.sc (.int .i64 r), [.dead])) := ⟨fun r h => by have h := z5x h; unfold z1Y at h; exact z7A zn1 zoj zpp⟩
abbrev z1Q (a0 : Int) : Int × List Int -> Option ((Int × List Int) ⊕ List Int)
  | (w5, w6) =>
  if w5 < a0 then
    (atI w6 w5).bind fun v8 =>
    z0y (IntKind.i64.wrap (w5 + 1), (w6.set w5.toNat w5))
  else
    z0k <|
    some w6
instance {a0 : Int} : Hd (z1Q a0) := ⟨fun (w5, w6) => ([(9, xI w5)], [(3, .os 1 w6.length (w6.map fun x0 => .sc (.int .i64 x0)))])⟩
def z2b (a0 : Int) : Option (List Int) :=
  chk (z1v 8 a0) <|
  z0z (z1Q a0) LFm (0, List.replicate a0.toNat (0 : Int))
instance ref03_Discrete_ok {a0 : Int} : Ok (z2b a0) (fun r => L 46 [.sc (.int .i64 a0)] = some (.os 1 r.length (r.map fun x0 => .sc (.int .i64 x0)), [.dead])) := ⟨fun r h => by have h := z5x h; unfold z2b at h; exact z7A zn0 zoi zpo⟩
abbrev z2f (a0 : List Int) (a1 : List Int) : Int × List Int -> Option ((Int × List Int) ⊕ List Int)
  | (w13, w14) =>
  if w13 < (a0.length : Int) then
    (atI a0 w13).bind fun v18 =>
    (atI a1 v18).bind fun v19 =>
    (atI w14 w13).bind fun v20 =>
    z0y (IntKind.i64.wrap (w13 + 1), (w14.set w13.toNat v19))
  else
    z0k <|
    some w14
instance {a0 : List Int} {a1 : List Int} : Hd (z2f a0 a1) := ⟨fun (w13, w14) => ([(13, xI w13)], [(5, .os 1 w14.length (w14.map fun x0 => .sc (.int .i64 x0)))])⟩
def z1h (a0 : List Int) (a1 : List Int) : Option (List Int) :=
  chk (z1v 8 (a0.length : Int)) <|
  z0z (z2f a0 a1) LFm (0, List.replicate (a0.length : Int).toNat (0 : Int))
instance ref11_Compose_ok {a0 : List Int} {a1 : List Int} : Ok (z1h a0 a1) (fun r => L 47 [.sl a0.length (a0.map fun x0 => .sc (.int .i64 x0)), .sl a1.length (a1.map fun x0 => .sc (.int .i64 x0))] = some (.os 1 r.length (r.map fun x0 => .sc (.int .i64 x0)), [.dead, .dead])) := ⟨fun r h => by have h := z5x h; unfold z1h at h; exact z7A zmZ zoh zpn⟩
abbrev z2U (a0 : List Int) (a1 : List Int) : Int -> Option (Int ⊕ Bool)
  | w18 =>
  if w18 < (a0.length : Int) then
    if w18 < (a1.length : Int) then
      (atI a0 w18).bind fun v23 =>
      (atI a1 w18).bind fun v24 =>
      if v23 = v24 then
        z0y (IntKind.i64.wrap (w18 + 1))
      else
        z0k <|
        some (decide (v23 < v24))
    else
      z0k <|
      some (decide (a0.length < a1.length))
  else
    z0k <|
    some (decide (a0.length < a1.length))
instance {a0 : List Int} {a1 : List Int} : Hd (z2U a0 a1) := ⟨fun w18 => ([(5, xI w18)], [])⟩
def z3M (a0 : List Int) (a1 : List Int) : Option (Bool) :=
  z0z (z2U a0 a1) LFm 0
instance ref03_Less_ok {a0 : List Int} {a1 : List Int} : Ok (z3M a0 a1) (fun r => L 72 [.sl a0.length (a0.map fun x0 => .sc (.int .i64 x0)), .sl a1.length (a1.map fun x0 => .sc (.int .i64 x0))] = some (.sc (.bool r), [.dead, .dead])) := ⟨fun r h => by have h := z5x h; unfold z3M at h; exact z7A zmT zob zph⟩
abbrev z1y (a0 : List (List Int)) (a1 : List Int) : Int -> Option (Int ⊕ List (List Int))
  | w16 =>
  if 0 < w16 then
    (atI a0 (IntKind.i64.wrap (w16 - 1))).bind fun v19 =>
    (z3M a1 v19).bind fun v20 =>
    if v20 = true then
      z0y (IntKind.i64.wrap (w16 - 1))
    else
      z0k <|
      (z2Y v19 a1).bind fun v22 =>
      if v22 = true then
        some a0
      else
        (z1F a0 0 w16).bind fun v23 =>
        (z1F a0 w16 (a0.length : Int)).bind fun v24 =>
        chk (z1c 24 (v23.length)) <|
        chk (z1c 24 (v23.length + 1)) <|
        chk (z1c 24 (v23.length + 1 + v24.length)) <|
        some ((v23 ++ [a1]) ++ v24)
  else
    z0k <|
    (z1F a0 0 w16).bind fun v25 =>
    (z1F a0 w16 (a0.length : Int)).bind fun v26 =>
    chk (z1c 24 (v25.length)) <|
    chk (z1c 24 (v25.length + 1)) <|
    chk (z1c 24 (v25.length + 1 + v26.length)) <|
    some ((v25 ++ [a1]) ++ v26)
instance {a0 : List (List Int)} {a1 : List Int} : Hd (z1y a0 a1) := ⟨fun w16 => ([(5, xI w16)], [])⟩
def z0Q (a0 : List (List Int)) (a1 : List Int) : Option (List (List Int)) :=
  z0z (z1y a0 a1) LFm (a0.length : Int)
instance ref03_InsertRow_ok {a0 : List (List Int)} {a1 : List Int} : Ok (z0Q a0 a1) (fun r => L 48 [.sl a0.length (a0.map fun x0 => .sl x0.length (x0.map fun x1 => .sc (.int .i64 x1))), .sl a1.length (a1.map fun x0 => .sc (.int .i64 x0))] = some (.sl r.length (r.map fun x0 => .sl x0.length (x0.map fun x1 => .sc (.int .i64 x1))), [.dead, .dead])) := ⟨fun r h => by have h := z5x h; unfold z0Q at h; exact zhL zmY zog zpm⟩
end
end
section
open Go
theorem z7g {a : List Int} {k : Nat} (h : k < a.length) : a.getD k 0 = a[k] := by rw [List.getD, List.getElem?_eq_getElem h, Option.getD_some]
theorem zjz {a b : List Int} (ha : a.length <= 100000) : z3M a b = some (decide (z2p a b < 0)) := by
  unfold z3M
  refine Exists.elim (z1g (b := z2U a b) (fun z => ∃ k : Nat, z = (k : Int) /\ k <= a.length /\ k <= b.length /\ ∀ i, i < k -> a.getD i 0 = b.getD i 0) (fun z => a.length + 1 - z.toNat) (fun r => r = decide (z2p a b < 0)) ?_ LFm 0 ⟨0, rfl, by omega, by omega, fun i hi => by omega⟩ (by simp only [LFm]; omega)) fun r h => by rw [h.1, h.2]
  rintro z ⟨k, rfl, h1, h2, he⟩
  simp only [z2U]
  have fin : (a.length <= k ∨ b.length <= k) -> z2p a b = if a.length < b.length then -1 else if b.length < a.length then 1 else 0 := fun hc => z8d a b fun i i1 i2 => he i (by omega)
  by_cases c1 : k < a.length
  · rw [if_pos (by omega)]
    by_cases c2 : k < b.length
    · rw [if_pos (by omega), z0p c1, Option.bind_some, z0p c2, Option.bind_some]
      by_cases e : a[k] = b[k]
      · left
        rw [if_pos e, z1J (by omega)]
        refine ⟨_, rfl, ⟨k + 1, rfl, by omega, by omega, fun i hi => ?_⟩, by omega⟩
        by_cases hik : i = k
        · subst hik; rw [z7g c1, z7g c2, e]
        · exact he i (by omega)
      · right
        rw [if_neg e]
        refine ⟨_, rfl, ?_⟩
        rw [z9f a b k c1 c2 he (by rw [z7g c1, z7g c2]; exact e), z7g c1, z7g c2]
        by_cases hl : a[k] < b[k]
        · rw [if_pos hl, decide_eq_true hl]; rfl
        · rw [if_neg hl, decide_eq_false hl]; rfl
    · right
      rw [if_neg (by omega)]
      refine ⟨_, rfl, ?_⟩
      rw [fin (by omega), if_neg (by omega), if_pos (by omega), decide_eq_false (by omega)]; rfl
  · right
    rw [if_neg (by omega)]
    refine ⟨_, rfl, ?_⟩
    rw [fin (by omega)]
    by_cases hl : a.length < b.length
    · rw [if_pos hl, decide_eq_true hl]; rfl
    · rw [if_neg hl, if_neg (by omega), decide_eq_false hl]; rfl
theorem zdP {a b : List Int} (ha : a.length <= 100000) : z2Y a b = some (decide (a = b)) := by
  unfold z2Y
  by_cases hl : (a.length : Int) = (b.length : Int)
  · rw [if_pos hl]
    have hl' : a.length = b.length := by omega
    rw [z8P (s := (0 : Int)) a.length (fun k => (k : Int)) (fun k => !decide (a.getD k 0 = b.getD k 0)) (fun _ => some false) (x := some true) rfl (by simp only [LFm]; omega) ?_ ?_]
    · rw [zaL]
      simp only [Bool.not_not]
      have : ((List.range a.length).all fun k => decide (a.getD k 0 = b.getD k 0)) = decide (a = b) := by
        rw [Bool.eq_iff_iff, decide_eq_true_eq, List.all_eq_true]
        constructor
        · intro h
          refine List.ext_getElem hl' fun i h1 h2 => ?_
          have := h i (List.mem_range.2 h1)
          rw [decide_eq_true_eq, List.getD, List.getD, List.getElem?_eq_getElem h1, List.getElem?_eq_getElem h2, Option.getD_some, Option.getD_some] at this
          exact this
        · rintro rfl k _; simp
      rw [this]
      cases decide (a = b) <;> rfl
    · intro k hk
      simp only [z2T]
      have g1 : a[k] = a.getD k 0 := by rw [List.getD, List.getElem?_eq_getElem hk, Option.getD_some]
      have g2 : b[k] = b.getD k 0 := by rw [List.getD, List.getElem?_eq_getElem (show k < b.length by omega), Option.getD_some]
      rw [if_pos (by omega), z0p hk, Option.bind_some, z0p (show k < b.length by omega), Option.bind_some, g1, g2, z1J (by omega)]
      by_cases h : a.getD k 0 = b.getD k 0
      · rw [if_pos h, decide_eq_true h, if_neg (by simp)]
      · rw [if_neg h, decide_eq_false h, if_pos (by simp)]
    · simp only [z2T]
      rw [if_neg (by omega)]
  · rw [if_neg hl]
    have : ¬ a = b := fun e => hl (by rw [e])
    rw [decide_eq_false this]
theorem zh7 {E : List (List Int)} {x : List Int} (hs : E.Pairwise fun a b => z2p a b < 0) (hx : x.length <= 100000) (hE : ∀ e ∈ E, e.length <= 100000) (hl : E.length <= 100000) :
    ∃ F, z0Q E x = some F /\ (F.Pairwise fun a b => z2p a b < 0) /\ (∀ e, e ∈ F ↔ e ∈ E ∨ e = x) /\ F.length = (if x ∈ E then E.length else E.length + 1) := by
  have build : ∀ k : Nat, k <= E.length -> (∀ j (hj : j < E.length), j < k -> z2p E[j] x < 0) -> (∀ j (hj : j < E.length), k <= j -> z2p x E[j] < 0) -> (((z1F E 0 (k : Int)).bind fun v23 => (z1F E (k : Int) (E.length : Int)).bind fun v24 => chk (z1c 24 (v23.length)) <| chk (z1c 24 (v23.length + 1)) <| chk (z1c 24 (v23.length + 1 + v24.length)) <| some ((v23 ++ [x]) ++ v24)) = some ((E.take k ++ [x]) ++ E.drop k)) /\
      ((E.take k ++ [x] ++ E.drop k).Pairwise fun a b => z2p a b < 0) /\ (∀ e, e ∈ E.take k ++ [x] ++ E.drop k ↔ e ∈ E ∨ e = x) /\ (E.take k ++ [x] ++ E.drop k).length = (if x ∈ E then E.length else E.length + 1) := fun k hk hlo hhi => by
    have hmem : ∀ e, e ∈ E ↔ e ∈ E.take k ∨ e ∈ E.drop k := fun e => by rw [← List.mem_append, List.take_append_drop]
    have hlt : ∀ e ∈ E.take k, z2p e x < 0 := fun e he => by
      obtain ⟨j, hj, rfl⟩ := List.getElem_of_mem he
      rw [List.length_take] at hj
      rw [List.getElem_take]; exact hlo j (by omega) (by omega)
    have hgt : ∀ e ∈ E.drop k, z2p x e < 0 := fun e he => by
      obtain ⟨j, hj, rfl⟩ := List.getElem_of_mem he
      rw [List.length_drop] at hj
      rw [List.getElem_drop]; exact hhi (k + j) (by omega) (by omega)
    have hxx : z2p x x = 0 := (z3p x x).2 rfl
    have hn : x ∉ E := fun h => by
      rcases (hmem x).1 h with h | h
      · have := hlt x h; omega
      · have := hgt x h; omega
    refine ⟨?_, ?_, fun e => ?_, ?_⟩
    · rw [z8G hk, Option.bind_some, z8H hk, Option.bind_some]
      have e1 : (E.take k).length = k := by rw [List.length_take]; omega
      have e2 : (E.drop k).length = E.length - k := List.length_drop ..
      rw [z0B _ (by unfold z1c; omega), z0B _ (by unfold z1c; omega), z0B _ (by unfold z1c; omega)]
    · rw [List.pairwise_append, List.pairwise_append]
      refine ⟨⟨hs.sublist (List.take_sublist _ _), by simp, fun a ha b hb => ?_⟩, hs.sublist (List.drop_sublist _ _), fun a ha b hb => ?_⟩
      · obtain rfl := List.mem_singleton.1 hb; exact hlt a ha
      · rcases List.mem_append.1 ha with ha | ha
        · have h1 := hlt a ha
          have h2 := hgt b hb
          have h3 := z3d a x b (by omega) (by omega)
          rcases Int.lt_or_eq_of_le h3.1 with h4 | h4
          · exact h4
          · have := (h3.2 h4).1; omega
        · obtain rfl := List.mem_singleton.1 ha; exact hgt b hb
    · rw [List.mem_append, List.mem_append, List.mem_singleton, hmem]
      constructor
      · rintro ((h | h) | h)
        · exact .inl (.inl h)
        · exact .inr h
        · exact .inl (.inr h)
      · rintro ((h | h) | h)
        · exact .inl (.inl h)
        · exact .inr h
        · exact .inl (.inr h)
    · rw [if_neg hn]
      simp only [List.length_append, List.length_take, List.length_drop, List.length_singleton]; omega
  unfold z0Q
  refine Exists.elim (z1g (b := z1y E x) (fun z => ∃ k : Nat, z = (k : Int) /\ k <= E.length /\ ∀ j (hj : j < E.length), k <= j -> z2p x E[j] < 0) (fun z => z.toNat)
    (fun F => (F.Pairwise fun a b => z2p a b < 0) /\ (∀ e, e ∈ F ↔ e ∈ E ∨ e = x) /\ F.length = (if x ∈ E then E.length else E.length + 1)) ?_ LFm (E.length : Int) ⟨E.length, rfl, Nat.le_refl _, fun j hj h => by omega⟩ (by simp only [LFm]; omega)) fun F h => ⟨F, h.1, h.2⟩
  rintro z ⟨k, rfl, hk, hhi⟩
  simp only [z1y]
  by_cases k0 : k = 0
  · subst k0
    right
    rw [if_neg (by omega)]
    obtain ⟨b1, b2⟩ := build 0 (by omega) (fun j hj h => by omega) hhi
    exact ⟨_, by unfold z0k; rw [b1]; rfl, b2⟩
  · have hk1 : k - 1 < E.length := by omega
    have ew : IntKind.i64.wrap ((k : Int) - 1) = ((k - 1 : Nat) : Int) := by rw [z7B (by omega) (by omega)]; omega
    rw [if_pos (by omega), ew, z0p hk1, Option.bind_some, zjz hx, Option.bind_some]
    by_cases hc : z2p x E[k - 1] < 0
    · left
      rw [if_pos (decide_eq_true hc)]
      refine ⟨_, rfl, ⟨k - 1, rfl, by omega, fun j hj h => ?_⟩, by omega⟩
      by_cases e : j = k - 1
      · subst e; exact hc
      · exact hhi j hj (by omega)
    · right
      rw [if_neg (by simpa using hc)]
      have hlk := hE _ (List.getElem_mem hk1)
      rw [zdP hlk, Option.bind_some]
      by_cases he : E[k - 1] = x
      · rw [if_pos (decide_eq_true he)]
        have hm : x ∈ E := he ▸ List.getElem_mem hk1
        exact ⟨E, rfl, hs, fun e => ⟨fun h => .inl h, fun h => h.elim id fun h => h ▸ hm⟩, by rw [if_pos hm]⟩
      · rw [if_neg (by simpa using he)]
        have hlt : z2p E[k - 1] x < 0 := by
          have h1 := z3V x E[k - 1]
          have h2 : z2p x E[k - 1] ≠ 0 := fun h => he ((z3p _ _).1 h).symm
          omega
        have hlo : ∀ j (hj : j < E.length), j < k -> z2p E[j] x < 0 := fun j hj h => by
          by_cases e : j = k - 1
          · subst e; exact hlt
          · have h1 : z2p E[j] E[k - 1] < 0 := List.pairwise_iff_getElem.1 hs j (k - 1) hj hk1 (by omega)
            have h3 := z3d _ _ _ (Int.le_of_lt h1) (Int.le_of_lt hlt)
            rcases Int.lt_or_eq_of_le h3.1 with h4 | h4
            · exact h4
            · have := (h3.2 h4).1; omega
        obtain ⟨b1, b2⟩ := build k hk hlo hhi
        exact ⟨_, by unfold z0k; rw [b1]; rfl, b2⟩
end
section
open Go
set_option maxRecDepth 100000
def z5r (N : Nat) (X : List Int) : List Bool := (List.range N).map fun x : Nat => decide ((x : Int) ∈ X)
theorem zay {N : Nat} {X : List Int} : (z5r N X).length = N := by simp [z5r]
theorem zj6 {N : Nat} : z5r N [] = List.replicate N false := by
  unfold z5r; exact List.ext_getElem (by simp) fun i h1 h2 => by simp
theorem zd0 {N v : Nat} {X : List Int} (h : v < N) : atI (z5r N X) (v : Int) = some (decide ((v : Int) ∈ X)) := by
  rw [z0p (by rw [zay]; exact h)]; simp [z5r]
theorem zdW {N v : Nat} {X : List Int} (h : v < N) : (z5r N X).set v true = z5r N (X ++ [(v : Int)]) := by
  refine List.ext_getElem (by simp [z5r]) fun i h1 h2 => ?_
  rw [List.getElem_set]
  simp only [z5r, List.getElem_map, List.getElem_range, List.mem_append, List.mem_singleton]
  by_cases e : v = i
  · subst e; simp
  · rw [if_neg e]
    exact decide_eq_decide.2 ⟨fun h => .inl h, fun h => h.elim id fun h => absurd h (by omega)⟩
theorem zdX {N : Nat} {v : Int} {X : List Int} (h : ¬ (0 <= v /\ v < N)) : z5r N (X ++ [v]) = z5r N X := by
  refine List.map_congr_left fun x hx => ?_
  have := List.mem_range.1 hx
  refine decide_eq_decide.2 ?_
  rw [List.mem_append, List.mem_singleton]
  exact ⟨fun h' => h'.elim id fun h' => absurd h' (by omega), .inl⟩
theorem zdL {l : List Int} {k : Nat} (h : k < l.length) : l.take (k + 1) = l.take k ++ [l[k]] := by rw [List.take_succ_eq_append_getElem h]
theorem z7c {l : List Int} : l.Nodup ↔ ∀ k (h : k < l.length), l[k] ∉ l.take k := by
  rw [List.nodup_iff_pairwise_ne, List.pairwise_iff_getElem]
  constructor
  · intro h k hk hm
    obtain ⟨i, hi, e⟩ := List.getElem_of_mem hm
    rw [List.length_take] at hi
    rw [List.getElem_take] at e
    exact h i k (by omega) hk (by omega) e
  · intro h i j hi hj hij e
    refine h j hj ?_
    have : i < (l.take j).length := by rw [List.length_take]; omega
    have h2 := List.getElem_mem this
    rw [List.getElem_take, e] at h2
    exact h2
def z3q (N : Nat) (p : List Int) : Bool := decide (p.length = N) && (p.all (fun x => decide (0 <= x /\ x < (N : Int))) && decide p.Nodup)
theorem z4i {N : Nat} {p : List Int} : z3q N p = true ↔ p.length = N /\ (∀ x ∈ p, 0 <= x /\ x < (N : Int)) /\ p.Nodup := by
  simp [z3q]
def zk9 (N : Nat) (p : List Int) (k : Nat) : Bool := !decide (0 <= p.getD k 0 /\ p.getD k 0 < (N : Int)) || decide (p.getD k 0 ∈ p.take k)
theorem zjW {N : Nat} {p : List Int} (hl : p.length = N) : ((List.range N).all fun k => !zk9 N p k) = z3q N p := by
  rw [Bool.eq_iff_iff, z4i, List.all_eq_true]
  have hg : ∀ k (h : k < p.length), p.getD k 0 = p[k] := fun k h => by rw [List.getD, List.getElem?_eq_getElem h, Option.getD_some]
  constructor
  · intro h
    refine ⟨hl, fun x hx => ?_, z7c.2 fun k hk => ?_⟩
    · obtain ⟨k, hk, rfl⟩ := List.getElem_of_mem hx
      have := h k (List.mem_range.2 (by omega))
      simp only [zk9, hg k hk] at this
      simp at this
      exact this.1
    · have := h k (List.mem_range.2 (by omega))
      simp only [zk9, hg k hk] at this
      simp at this
      exact this.2
  · rintro ⟨_, h1, h2⟩ k hk
    have hk := List.mem_range.1 hk
    have a := h1 _ (List.getElem_mem (show k < p.length by omega))
    have b := z7c.1 h2 k (by omega)
    simp only [zk9, hg k (by omega)]
    simp [a, b]
theorem zin {Q : List (List Int)} {N : Nat} (hN : N <= 1000) (hQ : Q.length < 4611686018427387904) : z0R Q (N : Int) = some (Q.all (z3q N)) := by
  unfold z0R
  rw [z8Q (b := z0x Q (N : Int)) (l := Q) [] (z3q N) (A := some false) (B := some true) hQ ?_ ?_]
  · cases Q.all (z3q N) <;> rfl
  · intro k hk
    have hg : Q.getD k [] = Q[k] := by rw [List.getD, List.getElem?_eq_getElem hk, Option.getD_some]
    simp only [z0x]
    rw [if_pos (by omega), z0p hk, Option.bind_some, hg]
    generalize Q[k] = p
    by_cases hl : p.length = N
    · rw [if_pos (by omega), z0B _ (by unfold z1v; omega), Int.toNat_natCast, ← zjW hl,
        z8P (s := ((0 : Int), List.replicate N false)) N (fun t => ((t : Int), z5r N (p.take t))) (zk9 N p) (fun _ => z0k (some false)) (x := z0y ((k + 1 : Nat) : Int)) (by rw [List.take_zero, zj6]; rfl) (by simp only [LFm]; omega) ?_ ?_]
      · rw [zaL]
      · intro t ht
        have ht' : t < p.length := by omega
        have hgt : p.getD t 0 = p[t] := by rw [List.getD, List.getElem?_eq_getElem ht', Option.getD_some]
        simp only [z0U, zk9, hgt]
        rw [if_pos (by omega), z0p ht', Option.bind_some, zdL ht']
        generalize p[t] = v
        by_cases c1 : v < 0
        · rw [if_pos c1, if_pos (by simp; omega)]
        · rw [if_neg c1]
          by_cases c2 : (N : Int) <= v
          · rw [if_pos c2, if_pos (by simp; omega)]
          · obtain ⟨u, rfl⟩ := Int.eq_ofNat_of_zero_le (show 0 <= v by omega)
            rw [if_neg c2, zd0 (by omega), Option.bind_some]
            by_cases c3 : (u : Int) ∈ p.take t
            · rw [if_pos (by simpa using c3), if_pos (by simp [c3])]
            · rw [if_neg (by simpa using c3), if_neg (by simp [c3]; omega), z1J (by omega), Int.toNat_natCast, zdW (by omega)]
      · simp only [z0U]
        rw [if_neg (by omega), z1J (by omega)]
    · have : z3q N p = false := by unfold z3q; rw [decide_eq_false hl]; rfl
      rw [if_neg (by omega), this, if_neg (by simp)]
  · simp only [z0x]
    rw [if_neg (by omega)]
theorem zkZ {p : List Int} {N : Nat} (hN : N <= 1000) (hp : p.length <= 1000) : z4y p (N : Int) = some (z5r N p) := by
  unfold z4y
  rw [z0B _ (by unfold z1v; omega), Int.toNat_natCast]
  refine z1G (s := ((0 : Int), List.replicate N false)) p.length (fun t => ((t : Int), z5r N (p.take t))) (by rw [List.take_zero, zj6]; rfl) (by simp only [LFm]; omega) (fun t ht => ?_) ?_
  · simp only [z3t]
    rw [if_pos (by omega), z0p ht, Option.bind_some, zdL ht, z1J (by omega)]
    generalize p[t] = v
    by_cases c1 : 0 <= v
    · rw [if_pos c1]
      by_cases c2 : v < (N : Int)
      · obtain ⟨u, rfl⟩ := Int.eq_ofNat_of_zero_le c1
        rw [if_pos c2, zd0 (by omega), Option.bind_some, Int.toNat_natCast, zdW (by omega)]
      · rw [if_neg c2, zdX (fun h => c2 h.2)]
    · rw [if_neg c1, zdX (fun h => c1 h.1)]
  · simp only [z3t]
    rw [if_neg (by omega), List.take_length]
def zfH (p : List Int) (N : Nat) : List Nat := (List.range N).filter fun x : Nat => decide ((x : Int) ∈ p)
theorem zfE {p : List Int} {N : Nat} (hN : N <= 1000) : z2r (z5r N p) = some (toI (zfH p N)) := by
  have hml : ∀ k, (zfH p k).length <= k := fun k => Nat.le_trans (List.length_filter_le _ _) (by rw [List.length_range]; omega)
  unfold z2r
  refine z1G (s := ((0 : Int), ([] : List Int))) N (fun t => ((t : Int), toI (zfH p t))) rfl (by simp only [LFm]; omega) (fun t ht => ?_) ?_
  · have hl := hml t
    have hs : zfH p (t + 1) = zfH p t ++ if decide ((t : Int) ∈ p) = true then [t] else [] := by
      unfold zfH; rw [List.range_succ, List.filter_append, List.filter_cons, List.filter_nil]
    simp only [z2g]
    rw [zay, if_pos (by omega), zd0 ht, Option.bind_some, z1J (by omega), hs]
    by_cases h : decide ((t : Int) ∈ p) = true
    · rw [if_pos h, if_pos h, z0B _ (by unfold z1c; rw [z0r]; omega), zi8]
    · rw [if_neg h, if_neg h, List.append_nil]
  · simp only [z2g]
    rw [zay, if_neg (by omega)]
theorem zgW {p : List Int} {N : Nat} (hr : ∀ x ∈ p, 0 <= x /\ x < (N : Int)) : (zfH p N).length = p.length ↔ p.Nodup := by
  have hnd : (toI (zfH p N)).Nodup := by
    unfold toI zfH
    refine List.Pairwise.map _ (fun a b (h : a ≠ b) => ?_) (List.Pairwise.filter _ List.nodup_range)
    intro e; exact h (by omega)
  have hin : ∀ x, x ∈ toI (zfH p N) ↔ x ∈ p := fun x => by
    unfold toI zfH
    rw [List.mem_map]
    constructor
    · rintro ⟨a, ha, rfl⟩
      simpa using (List.mem_filter.1 ha).2
    · intro hx
      have := hr x hx
      refine ⟨x.toNat, List.mem_filter.2 ⟨List.mem_range.2 (by omega), ?_⟩, by omega⟩
      have e : ((x.toNat : Nat) : Int) = x := by omega
      rw [e]; simpa using hx
  have h1 := z8T hnd (r := p) fun x hx => (hin x).1 hx
  rw [z0r] at h1
  constructor
  · intro he
    rw [z7c]
    intro k hk hm
    have h2 := z8T hnd (r := p.eraseIdx k) fun x hx => by
      have hx := (hin x).1 hx
      rw [List.mem_eraseIdx_iff_getElem]
      by_cases e : x = p[k]
      · obtain ⟨i, hi, e2⟩ := List.getElem_of_mem hm
        rw [List.length_take] at hi
        rw [List.getElem_take] at e2
        exact ⟨i, by omega, by omega, by rw [e2, e]⟩
      · obtain ⟨i, hi, e2⟩ := List.getElem_of_mem hx
        exact ⟨i, hi, fun h => e (by subst h; exact e2.symm), e2⟩
    rw [z0r, List.length_eraseIdx, if_pos hk] at h2
    omega
  · intro hp
    have h2 := z8T hp (r := toI (zfH p N)) fun x hx => (hin x).2 hx
    rw [z0r] at h2
    omega
theorem zcj {p : List Int} (h1 : 1 <= p.length) (h2 : p.length <= 32) : z0I p = some (z3q p.length p) := by
  have hv : z3i p = some (p.all fun x => decide (0 <= x /\ x < (p.length : Int))) := by
    unfold z3i
    rw [if_neg (by omega), if_neg (by omega), z8Q (b := z1Z p) (l := p) 0 (fun x => decide (0 <= x /\ x < (p.length : Int))) (A := some false) (B := some true) (by omega) ?_ ?_]
    · cases (p.all fun x => decide (0 <= x /\ x < (p.length : Int))) <;> rfl
    · intro k hk
      have hg : p.getD k 0 = p[k] := by rw [List.getD, List.getElem?_eq_getElem hk, Option.getD_some]
      simp only [z1Z]
      rw [if_pos (by omega), z0p hk, Option.bind_some, hg]
      generalize p[k] = v
      by_cases c1 : v < 0
      · rw [if_pos c1, if_neg (by simp; omega)]
      · rw [if_neg c1]
        by_cases c2 : (p.length : Int) <= v
        · rw [if_pos c2, if_neg (by simp; omega)]
        · rw [if_neg c2, if_pos (by simp; omega), z1J (by omega)]
    · simp only [z1Z]
      rw [if_neg (by omega)]
  unfold z0I
  rw [hv, Option.bind_some]
  cases ha : (p.all fun x => decide (0 <= x /\ x < (p.length : Int))) with
  | false => rw [if_neg (by simp)]; unfold z3q; rw [ha]; simp
  | true =>
    have hr : ∀ x ∈ p, 0 <= x /\ x < (p.length : Int) := by simpa using ha
    unfold z4h
    rw [if_pos rfl, zkZ (by omega) (by omega), Option.bind_some, zfE (by omega), Option.bind_some, Option.bind_some]
    congr 1
    unfold z3q
    rw [ha, z0r, Bool.eq_iff_iff]
    have := zgW hr
    simp only [decide_eq_true_eq, Bool.true_and, Bool.and_eq_true, true_and]
    rw [← this]; omega
end
section
open Go
noncomputable section
set_option maxRecDepth 100000
set_option maxHeartbeats 6000000
abbrev GIn := Int ⊕ (List (List Int) × Int × List (List Int))
abbrev zl0 := Unit ⊕ (Unit ⊕ (List (List Int) × Int × List (List Int)))
abbrev z6B (a0 : List (List Int)) (d : List Int) : GIn -> Option (GIn ⊕ (zl0 ⊕ (List (List Int) × Int)))
  | .inl w91 =>
    if w91 < (a0.length : Int) then
      (atI a0 w91).bind fun v97 =>
      (z1h d v97).bind fun v99 =>
      (z0Q [d] v99).bind fun v100 =>
      if (1 : Int) < (v100.length : Int) then z0y (.inr (v100, IntKind.i64.wrap (w91 + 1), [d, v99]))
      else z0y (.inl (IntKind.i64.wrap (w91 + 1)))
    else z0k <| z0y (.inr (.inl ()))
  | .inr (w90, w91, w92) =>
    if w91 < (a0.length : Int) then
      (atI a0 w91).bind fun v97 =>
      (atI w92 0).bind fun v98 =>
      (z1h v98 v97).bind fun v99 =>
      (z0Q w90 v99).bind fun v100 =>
      if w90.length < v100.length then
        chk (z1c 24 (w92.length + 1)) <|
        if 2000 < ((w92.length : Int) + 1) then z0k <| z0k <| some ([], 3)
        else z0y (.inr (v100, IntKind.i64.wrap (w91 + 1), w92 ++ [v99]))
      else
        if 2000 < (w92.length : Int) then z0k <| z0k <| some ([], 3)
        else z0y (.inr (w90, IntKind.i64.wrap (w91 + 1), w92))
    else z0k <| z0y (.inr (.inr (w90, 1, w92)))
abbrev z9W (a0 : List (List Int)) (w69 : Int) : List (List Int) × Int × List (List Int) -> Option ((List (List Int) × Int × List (List Int)) ⊕ (zl0 ⊕ (List (List Int) × Int)))
  | (w90, w91, w92) =>
    if w91 < (a0.length : Int) then
      (atI a0 w91).bind fun v97 =>
      (atI w92 w69).bind fun v98 =>
      (z1h v98 v97).bind fun v99 =>
      (z0Q w90 v99).bind fun v100 =>
      if w90.length < v100.length then
        chk (z1c 24 (w92.length + 1)) <|
        if 2000 < ((w92.length : Int) + 1) then z0k <| z0k <| some ([], 3)
        else z0y ((v100, IntKind.i64.wrap (w91 + 1), w92 ++ [v99]))
      else
        if 2000 < (w92.length : Int) then z0k <| z0k <| some ([], 3)
        else z0y ((w90, IntKind.i64.wrap (w91 + 1), w92))
    else z0k <| z0y (.inr (.inr (w90, IntKind.i64.wrap (w69 + 1), w92)))
abbrev z6C (a0 : List (List Int)) (d : List Int) : zl0 -> Option (zl0 ⊕ (List (List Int) × Int))
  | .inl _ => z0z (z6B a0 d) LFm (.inl 0)
  | .inr (.inl _) => z0k <| some ([d], 0)
  | .inr (.inr (w68, w69, w70)) =>
    if w69 < (w70.length : Int) then z0z (z9W a0 w69) LFm (w68, 0, w70)
    else z0k <| some (w68, 0)
def z0J (a0 : List (List Int)) : Option (List (List Int) × Int) :=
  (z1Y a0).bind fun v51 =>
  if v51 = 0 then
    (atI a0 0).bind fun v52 =>
    (z2b (v52.length : Int)).bind fun v53 =>
    z0z (z6C a0 v53) LFm (.inl ())
  else
    some ([], v51)
@[simp] def zl5 (a0 : List (List Int)) (d : List Int) : zl0 -> Fr
  | .inl _ => ⟨60, [(0, .one (.t none (.sl a0.length (a0.map fun x0 => .sl x0.length (x0.map fun x1 => .sc (.int .i64 x1)))))), (5, .one (.tf 1 [.sl d.length (d.map fun x1 => .sc (.int .i64 x1))])), (6, .one (.t none (.sl 1 [.sl d.length (d.map fun x1 => .sc (.int .i64 x1))]))), (7, xI 0)], []⟩
  | .inr (.inl _) => ⟨60, [(0, .one (.t none (.sl a0.length (a0.map fun x0 => .sl x0.length (x0.map fun x1 => .sc (.int .i64 x1)))))), (5, .one (.tf 1 [.sl d.length (d.map fun x1 => .sc (.int .i64 x1))])), (6, .one (.t none (.sl 1 [.sl d.length (d.map fun x1 => .sc (.int .i64 x1))]))), (7, xI 1)], []⟩
  | .inr (.inr (s, i, l)) => ⟨60, [(0, .one (.t none (.sl a0.length (a0.map fun x0 => .sl x0.length (x0.map fun x1 => .sc (.int .i64 x1)))))), (5, .one (.h 5 [])), (6, .one (.t none (.sl s.length (s.map fun x0 => .sl x0.length (x0.map fun x1 => .sc (.int .i64 x1)))))), (7, xI i)], [(5, .os 1 l.length (l.map fun x0 => .sl x0.length (x0.map fun x1 => .sc (.int .i64 x1))))]⟩
@[simp] def inB (a0 : List (List Int)) (i : Int) : List (List Int) × Int × List (List Int) -> Fr
  | (s, j, l) => ⟨60, [(0, .one (.t none (.sl a0.length (a0.map fun x0 => .sl x0.length (x0.map fun x1 => .sc (.int .i64 x1)))))), (5, .one (.h 5 [])), (6, .one (.t none (.sl s.length (s.map fun x0 => .sl x0.length (x0.map fun x1 => .sc (.int .i64 x1)))))), (7, xI i), (30, .one (.t none (.sl a0.length (a0.map fun x0 => .sl x0.length (x0.map fun x1 => .sc (.int .i64 x1)))))), (31, xI (a0.length : Int)), (32, xI j)], [(5, .os 1 l.length (l.map fun x0 => .sl x0.length (x0.map fun x1 => .sc (.int .i64 x1))))]⟩
@[simp] def inA (a0 : List (List Int)) (d : List Int) : GIn -> Fr
  | .inl j => ⟨60, [(0, .one (.t none (.sl a0.length (a0.map fun x0 => .sl x0.length (x0.map fun x1 => .sc (.int .i64 x1)))))), (5, .one (.tf 1 [.sl d.length (d.map fun x1 => .sc (.int .i64 x1))])), (6, .one (.t none (.sl 1 [.sl d.length (d.map fun x1 => .sc (.int .i64 x1))]))), (7, xI 0), (30, .one (.t none (.sl a0.length (a0.map fun x0 => .sl x0.length (x0.map fun x1 => .sc (.int .i64 x1)))))), (31, xI (a0.length : Int)), (32, xI j)], []⟩
  | .inr s => inB a0 0 s
instance {a0 : List (List Int)} {d : List Int} : Head (z6C a0 d) := ⟨zl5 a0 d⟩
instance {a0 : List (List Int)} {d : List Int} : Head (z6B a0 d) := ⟨inA a0 d⟩
instance {a0 : List (List Int)} {i : Int} : Head (z9W a0 i) := ⟨inB a0 i⟩
set_option maxHeartbeats 0
instance ref16_Generate_ok {a0 : List (List Int)} : Ok (z0J a0) (fun r => L 24 [.sl a0.length (a0.map fun x0 => .sl x0.length (x0.map fun x1 => .sc (.int .i64 x1)))] = some (.tup [.sl r.1.length (r.1.map fun x0 => .sl x0.length (x0.map fun x1 => .sc (.int .i64 x1))), .sc (.int .i64 r.2)], [.dead])) := ⟨fun r h => by
  have h := z5x h
  unfold z0J at h
  refine ziN zn8 zor (zap zpx ⟨of_decide_eq_true rfl, of_decide_eq_true rfl⟩ rfl ?_)
  simp only [z3S, z3y, z3o, z5z, z3a]
  repeat' (first
    | with_reducible refine z0o ?_
    | with_reducible refine z2O ?_
    | with_reducible refine z4u ?_
    | with_reducible refine z2i ?_
    | ((with_reducible refine zcy ?_); first | refine z0V rfl ?_ | refine z1I rfl ?_)
    | with_reducible refine z3A ?_
    | (revert h; with_reducible refine ziX fun h => ?_)
    | (revert h; with_reducible refine ziY fun h => ?_)
    | ((with_reducible refine ziZ h ?_); simp [*, z6H, z6W, z7q, Hd.H]; done)
    | (revert h; first
      | with_reducible refine z7u
      | with_reducible refine z7w fun _ _ h => ?_
      | with_reducible refine zav fun _ _ h => ?_
      | with_reducible refine zbU fun _ _ _ h => ?_
      | with_reducible refine zio fun _ _ _ _ h => ?_
      | with_reducible refine zbS fun _ _ _ _ h => ?_
      | with_reducible refine z7t fun _ _ _ _ h => ?_
      | with_reducible refine zc0 fun _ h => ?_
      | with_reducible refine z9u (by assumption) (by assumption) fun h => ?_
      | with_reducible refine z7v (by assumption) fun h => ?_
      | with_reducible refine zj2 (by assumption) fun h => ?_
      | with_reducible refine z4E (by assumption) fun h => ?_
      | with_reducible refine zc2 fun _ _ _ _ _ _ k k1 k2 h => ?_
      | with_reducible refine zc1 fun _ _ _ _ k k1 h => ?_
      | with_reducible refine zc3 fun _ _ _ _ k k1 h => ?_
      | with_reducible refine p_0 fun _ _ _ _ _ h => ?_
      | with_reducible refine zbV fun _ _ _ _ _ h => ?_
      | with_reducible refine zbT fun _ _ _ _ _ h => ?_
      | with_reducible refine zj1 fun _ _ _ _ _ _ h => ?_
      | with_reducible refine z7y fun _ _ _ _ _ h => ?_
      | ((with_reducible refine z3w fun _ _ _ _ _ _ _ k k2 h => ?_); try simp at k; try simp only [Int.reduceToNat, Int.toNat_natCast, Nat.sub_zero] at k2)
      | ((with_reducible refine z3v fun _ _ _ _ _ _ _ k k2 h => ?_); try simp at k; try simp only [Int.reduceToNat, Int.toNat_natCast, Nat.sub_zero] at k2)
      | ((with_reducible refine z3u fun _ _ _ _ _ _ _ k h => ?_); try simp only [Int.reduceToNat, Int.toNat_natCast] at k)
      | ((with_reducible refine z4F (fun _ k h => ?_) fun _ k h => ?_) <;> (try simp at k))
      | ((with_reducible refine z7x fun _ _ k h => ?_); try simp at k))
    | ((with_reducible refine zb2 ?_); first
      | refine zq rfl ?_
      | refine zb rfl ?_
      | refine z4B rfl ?_
      | refine z4m rfl ?_
      | refine z4D rfl ?_
      | refine z4n rfl ?_
      | refine zat rfl ?_
      | refine zr rfl rfl rfl (by simp [*]; with_reducible rfl) ?_
      | refine z3C rfl rfl rfl rfl ?_
      | refine z6n rfl rfl rfl rfl ?_
      | refine z7F rfl (by first | (simp [*]; done) | fail) ?_
      | refine z7G rfl (by first | (simp [*]; done) | fail) ?_
      | refine zbO rfl rfl (by simp [*]; rfl) ?_
      | (refine z4C rfl rfl h (by simp [*]; rfl) (by first | (simp [*, z6H, z6W, z7q, Hd.H]; done) | fail) ?_; clear h; (repeat' refine z2m fun _ => ?_); intro _ _ h; simp only [z6H, z6W, z7q, Hd.H, Nat.reduceEqDiff, if_true, if_false]))
    | ((with_reducible refine zcs ?_); first
      | (refine z1x rfl rfl fun Q' hQ => ?_; simp [*]; refine hQ.out _ ?_; clear hQ; clear Q')
      | (refine z1i rfl rfl fun Q1 Q2 h1 h2 => ?_; simp [*, z2J]; (first | refine h1.out ?_ | refine h2.out ?_); clear h1 h2; clear Q1 Q2; intro Q' hQ; simp [*]; refine hQ.out _ ?_; clear hQ; clear Q')
      | (refine z1n rfl fun Q' hQ => ?_; simp [*]; refine hQ.out _ ?_; clear hQ; clear Q'))
    | ((with_reducible refine zct ?_); first
      | refine tpN rfl ?_
      | refine tpA rfl ?_
      | refine tpO rfl rfl rfl (by simp [*, z0d, z0e]; rfl) ?_
      | refine tpT rfl rfl rfl (by first | (simp [*]; done) | fail) (by simp [*, z0d, z0e]; rfl) ?_
      | refine tpF rfl rfl rfl (by first | (simp [*]; done) | fail) (by simp [*]; rfl) ?_)
    | ((with_reducible refine zbA ?_); refine z6i rfl (by simp [*]; rfl) ?_)
    | ((with_reducible refine And.intro ?_ ?_); rotate_left)
    | ((with_reducible refine ziV ?_); simp [*, z4g]; done)
    | (revert h; first
      | with_reducible refine zbX (fun _ h => ?_) fun _ h => ?_
      | with_reducible refine zbY (fun _ h => ?_) fun _ h => ?_
      | with_reducible refine zbZ (fun _ _ h => ?_) fun _ _ h => ?_
      | with_reducible refine zbW (fun _ _ _ h => ?_) fun _ _ h => ?_
      | with_reducible refine zj0 (fun _ h => ?_) fun _ h => ?_
      | ((with_reducible refine z7s fun h => ?_); cases h; simp [*]; done)))
  refine zcT rfl rfl h (by simp [*, Head.H]) ?_
  clear h
  rintro (_ | _ | ⟨s, i, l⟩) o h
  · simp only [z6C] at h; simp only [Head.H, zl5]
    repeat' (first
      | with_reducible refine z0o ?_
      | with_reducible refine z2O ?_
      | with_reducible refine z4u ?_
      | with_reducible refine z2i ?_
      | ((with_reducible refine zcy ?_); first | refine z0V rfl ?_ | refine z1I rfl ?_)
      | with_reducible refine z3A ?_
      | (revert h; with_reducible refine ziX fun h => ?_)
      | (revert h; with_reducible refine ziY fun h => ?_)
      | ((with_reducible refine ziZ h ?_); simp [*, z6H, z6W, z7q, Hd.H]; done)
      | (revert h; first
        | with_reducible refine z7u
        | with_reducible refine z7w fun _ _ h => ?_
        | with_reducible refine zav fun _ _ h => ?_
        | with_reducible refine zbU fun _ _ _ h => ?_
        | with_reducible refine zio fun _ _ _ _ h => ?_
        | with_reducible refine zbS fun _ _ _ _ h => ?_
        | with_reducible refine z7t fun _ _ _ _ h => ?_
        | with_reducible refine zc0 fun _ h => ?_
        | with_reducible refine z9u (by assumption) (by assumption) fun h => ?_
        | with_reducible refine z7v (by assumption) fun h => ?_
        | with_reducible refine zj2 (by assumption) fun h => ?_
        | with_reducible refine z4E (by assumption) fun h => ?_
        | with_reducible refine zc2 fun _ _ _ _ _ _ k k1 k2 h => ?_
        | with_reducible refine zc1 fun _ _ _ _ k k1 h => ?_
        | with_reducible refine zc3 fun _ _ _ _ k k1 h => ?_
        | with_reducible refine p_0 fun _ _ _ _ _ h => ?_
        | with_reducible refine zbV fun _ _ _ _ _ h => ?_
        | with_reducible refine zbT fun _ _ _ _ _ h => ?_
        | with_reducible refine zj1 fun _ _ _ _ _ _ h => ?_
        | with_reducible refine z7y fun _ _ _ _ _ h => ?_
        | ((with_reducible refine z3w fun _ _ _ _ _ _ _ k k2 h => ?_); try simp at k; try simp only [Int.reduceToNat, Int.toNat_natCast, Nat.sub_zero] at k2)
        | ((with_reducible refine z3v fun _ _ _ _ _ _ _ k k2 h => ?_); try simp at k; try simp only [Int.reduceToNat, Int.toNat_natCast, Nat.sub_zero] at k2)
        | ((with_reducible refine z3u fun _ _ _ _ _ _ _ k h => ?_); try simp only [Int.reduceToNat, Int.toNat_natCast] at k)
        | ((with_reducible refine z4F (fun _ k h => ?_) fun _ k h => ?_) <;> (try simp at k))
        | ((with_reducible refine z7x fun _ _ k h => ?_); try simp at k))
      | ((with_reducible refine zb2 ?_); first
        | refine zq rfl ?_
        | refine zb rfl ?_
        | refine z4B rfl ?_
        | refine z4m rfl ?_
        | refine z4D rfl ?_
        | refine z4n rfl ?_
        | refine zat rfl ?_
        | refine zr rfl rfl rfl (by simp [*]; with_reducible rfl) ?_
        | refine z3C rfl rfl rfl rfl ?_
        | refine z6n rfl rfl rfl rfl ?_
        | refine z7F rfl (by first | (simp [*]; done) | fail) ?_
        | refine z7G rfl (by first | (simp [*]; done) | fail) ?_
        | refine zbO rfl rfl (by simp [*]; rfl) ?_
        | (refine z4C rfl rfl h (by simp [*]; rfl) (by first | (simp [*, z6H, z6W, z7q, Hd.H]; done) | fail) ?_; clear h; (repeat' refine z2m fun _ => ?_); intro _ _ h; simp only [z6H, z6W, z7q, Hd.H, Nat.reduceEqDiff, if_true, if_false]))
      | ((with_reducible refine zcs ?_); first
        | (refine z1x rfl rfl fun Q' hQ => ?_; simp [*]; refine hQ.out _ ?_; clear hQ; clear Q')
        | (refine z1i rfl rfl fun Q1 Q2 h1 h2 => ?_; simp [*, z2J]; (first | refine h1.out ?_ | refine h2.out ?_); clear h1 h2; clear Q1 Q2; intro Q' hQ; simp [*]; refine hQ.out _ ?_; clear hQ; clear Q')
        | (refine z1n rfl fun Q' hQ => ?_; simp [*]; refine hQ.out _ ?_; clear hQ; clear Q'))
      | ((with_reducible refine zct ?_); first
        | refine tpN rfl ?_
        | refine tpA rfl ?_
        | refine tpO rfl rfl rfl (by simp [*, z0d, z0e]; rfl) ?_
        | refine tpT rfl rfl rfl (by first | (simp [*]; done) | fail) (by simp [*, z0d, z0e]; rfl) ?_
        | refine tpF rfl rfl rfl (by first | (simp [*]; done) | fail) (by simp [*]; rfl) ?_)
      | ((with_reducible refine zbA ?_); refine z6i rfl (by simp [*]; rfl) ?_)
      | ((with_reducible refine And.intro ?_ ?_); rotate_left)
      | ((with_reducible refine ziV ?_); simp [*, z4g]; done)
      | (revert h; first
        | with_reducible refine zbX (fun _ h => ?_) fun _ h => ?_
        | with_reducible refine zbY (fun _ h => ?_) fun _ h => ?_
        | with_reducible refine zbZ (fun _ _ h => ?_) fun _ _ h => ?_
        | with_reducible refine zbW (fun _ _ _ h => ?_) fun _ _ h => ?_
        | with_reducible refine zj0 (fun _ h => ?_) fun _ h => ?_
        | ((with_reducible refine z7s fun h => ?_); cases h; simp [*]; done)))
    refine zcT rfl rfl h (by simp [*, Head.H]) ?_
    clear h
    rintro (j | ⟨s, j, l⟩) o2 h
    · simp only [z6B] at h; simp only [Head.H, inA]
      repeat' (first
        | with_reducible refine z0o ?_
        | with_reducible refine z2O ?_
        | with_reducible refine z4u ?_
        | with_reducible refine z2i ?_
        | ((with_reducible refine zcy ?_); first | refine z0V rfl ?_ | refine z1I rfl ?_)
        | with_reducible refine z3A ?_
        | (revert h; with_reducible refine ziX fun h => ?_)
        | (revert h; with_reducible refine ziY fun h => ?_)
        | ((with_reducible refine ziZ h ?_); simp [*, z6H, z6W, z7q, Hd.H]; done)
        | (revert h; first
          | with_reducible refine z7u
          | with_reducible refine z7w fun _ _ h => ?_
          | with_reducible refine zav fun _ _ h => ?_
          | with_reducible refine zbU fun _ _ _ h => ?_
          | with_reducible refine zio fun _ _ _ _ h => ?_
          | with_reducible refine zbS fun _ _ _ _ h => ?_
          | with_reducible refine z7t fun _ _ _ _ h => ?_
          | with_reducible refine zc0 fun _ h => ?_
          | with_reducible refine z9u (by assumption) (by assumption) fun h => ?_
          | with_reducible refine z7v (by assumption) fun h => ?_
          | with_reducible refine zj2 (by assumption) fun h => ?_
          | with_reducible refine z4E (by assumption) fun h => ?_
          | with_reducible refine zc2 fun _ _ _ _ _ _ k k1 k2 h => ?_
          | with_reducible refine zc1 fun _ _ _ _ k k1 h => ?_
          | with_reducible refine zc3 fun _ _ _ _ k k1 h => ?_
          | with_reducible refine p_0 fun _ _ _ _ _ h => ?_
          | with_reducible refine zbV fun _ _ _ _ _ h => ?_
          | with_reducible refine zbT fun _ _ _ _ _ h => ?_
          | with_reducible refine zj1 fun _ _ _ _ _ _ h => ?_
          | with_reducible refine z7y fun _ _ _ _ _ h => ?_
          | ((with_reducible refine z3w fun _ _ _ _ _ _ _ k k2 h => ?_); try simp at k; try simp only [Int.reduceToNat, Int.toNat_natCast, Nat.sub_zero] at k2)
          | ((with_reducible refine z3v fun _ _ _ _ _ _ _ k k2 h => ?_); try simp at k; try simp only [Int.reduceToNat, Int.toNat_natCast, Nat.sub_zero] at k2)
          | ((with_reducible refine z3u fun _ _ _ _ _ _ _ k h => ?_); try simp only [Int.reduceToNat, Int.toNat_natCast] at k)
          | ((with_reducible refine z4F (fun _ k h => ?_) fun _ k h => ?_) <;> (try simp at k))
          | ((with_reducible refine z7x fun _ _ k h => ?_); try simp at k))
        | ((with_reducible refine zb2 ?_); first
          | refine zq rfl ?_
          | refine zb rfl ?_
          | refine z4B rfl ?_
          | refine z4m rfl ?_
          | refine z4D rfl ?_
          | refine z4n rfl ?_
          | refine zat rfl ?_
          | refine zr rfl rfl rfl (by simp [*]; with_reducible rfl) ?_
          | refine z3C rfl rfl rfl rfl ?_
          | refine z6n rfl rfl rfl rfl ?_
          | refine z7F rfl (by first | (simp [*]; done) | fail) ?_
          | refine z7G rfl (by first | (simp [*]; done) | fail) ?_
          | refine zbO rfl rfl (by simp [*]; rfl) ?_
          | (refine z4C rfl rfl h (by simp [*]; rfl) (by first | (simp [*, z6H, z6W, z7q, Hd.H]; done) | fail) ?_; clear h; (repeat' refine z2m fun _ => ?_); intro _ _ h; simp only [z6H, z6W, z7q, Hd.H, Nat.reduceEqDiff, if_true, if_false]))
        | ((with_reducible refine zcs ?_); first
          | (refine z1x rfl rfl fun Q' hQ => ?_; simp [*]; refine hQ.out _ ?_; clear hQ; clear Q')
          | (refine z1i rfl rfl fun Q1 Q2 h1 h2 => ?_; simp [*, z2J]; (first | refine h1.out ?_ | refine h2.out ?_); clear h1 h2; clear Q1 Q2; intro Q' hQ; simp [*]; refine hQ.out _ ?_; clear hQ; clear Q')
          | (refine z1n rfl fun Q' hQ => ?_; simp [*]; refine hQ.out _ ?_; clear hQ; clear Q'))
        | ((with_reducible refine zct ?_); first
          | refine tpN rfl ?_
          | refine tpA rfl ?_
          | refine tpO rfl rfl rfl (by simp [*, z0d, z0e]; rfl) ?_
          | refine tpT rfl rfl rfl (by first | (simp [*]; done) | fail) (by simp [*, z0d, z0e]; rfl) ?_
          | refine tpF rfl rfl rfl (by first | (simp [*]; done) | fail) (by simp [*]; rfl) ?_)
        | ((with_reducible refine zbA ?_); refine z6i rfl (by simp [*]; rfl) ?_)
        | ((with_reducible refine And.intro ?_ ?_); rotate_left)
        | ((with_reducible refine ziV ?_); simp [*, z4g]; done)
        | (revert h; first
          | with_reducible refine zbX (fun _ h => ?_) fun _ h => ?_
          | with_reducible refine zbY (fun _ h => ?_) fun _ h => ?_
          | with_reducible refine zbZ (fun _ _ h => ?_) fun _ _ h => ?_
          | with_reducible refine zbW (fun _ _ _ h => ?_) fun _ _ h => ?_
          | with_reducible refine zj0 (fun _ h => ?_) fun _ h => ?_
          | ((with_reducible refine z7s fun h => ?_); cases h; simp [*]; done)))
    · simp only [z6B] at h; simp only [Head.H, inA, inB]
      repeat' (first
        | with_reducible refine z0o ?_
        | with_reducible refine z2O ?_
        | with_reducible refine z4u ?_
        | with_reducible refine z2i ?_
        | ((with_reducible refine zcy ?_); first | refine z0V rfl ?_ | refine z1I rfl ?_)
        | with_reducible refine z3A ?_
        | (revert h; with_reducible refine ziX fun h => ?_)
        | (revert h; with_reducible refine ziY fun h => ?_)
        | ((with_reducible refine ziZ h ?_); simp [*, z6H, z6W, z7q, Hd.H]; done)
        | (revert h; first
          | with_reducible refine z7u
          | with_reducible refine z7w fun _ _ h => ?_
          | with_reducible refine zav fun _ _ h => ?_
          | with_reducible refine zbU fun _ _ _ h => ?_
          | with_reducible refine zio fun _ _ _ _ h => ?_
          | with_reducible refine zbS fun _ _ _ _ h => ?_
          | with_reducible refine z7t fun _ _ _ _ h => ?_
          | with_reducible refine zc0 fun _ h => ?_
          | with_reducible refine z9u (by assumption) (by assumption) fun h => ?_
          | with_reducible refine z7v (by assumption) fun h => ?_
          | with_reducible refine zj2 (by assumption) fun h => ?_
          | with_reducible refine z4E (by assumption) fun h => ?_
          | with_reducible refine zc2 fun _ _ _ _ _ _ k k1 k2 h => ?_
          | with_reducible refine zc1 fun _ _ _ _ k k1 h => ?_
          | with_reducible refine zc3 fun _ _ _ _ k k1 h => ?_
          | with_reducible refine p_0 fun _ _ _ _ _ h => ?_
          | with_reducible refine zbV fun _ _ _ _ _ h => ?_
          | with_reducible refine zbT fun _ _ _ _ _ h => ?_
          | with_reducible refine zj1 fun _ _ _ _ _ _ h => ?_
          | with_reducible refine z7y fun _ _ _ _ _ h => ?_
          | ((with_reducible refine z3w fun _ _ _ _ _ _ _ k k2 h => ?_); try simp at k; try simp only [Int.reduceToNat, Int.toNat_natCast, Nat.sub_zero] at k2)
          | ((with_reducible refine z3v fun _ _ _ _ _ _ _ k k2 h => ?_); try simp at k; try simp only [Int.reduceToNat, Int.toNat_natCast, Nat.sub_zero] at k2)
          | ((with_reducible refine z3u fun _ _ _ _ _ _ _ k h => ?_); try simp only [Int.reduceToNat, Int.toNat_natCast] at k)
          | ((with_reducible refine z4F (fun _ k h => ?_) fun _ k h => ?_) <;> (try simp at k))
          | ((with_reducible refine z7x fun _ _ k h => ?_); try simp at k))
        | ((with_reducible refine zb2 ?_); first
          | refine zq rfl ?_
          | refine zb rfl ?_
          | refine z4B rfl ?_
          | refine z4m rfl ?_
          | refine z4D rfl ?_
          | refine z4n rfl ?_
          | refine zat rfl ?_
          | refine zr rfl rfl rfl (by simp [*]; with_reducible rfl) ?_
          | refine z3C rfl rfl rfl rfl ?_
          | refine z6n rfl rfl rfl rfl ?_
          | refine z7F rfl (by first | (simp [*]; done) | fail) ?_
          | refine z7G rfl (by first | (simp [*]; done) | fail) ?_
          | refine zbO rfl rfl (by simp [*]; rfl) ?_
          | (refine z4C rfl rfl h (by simp [*]; rfl) (by first | (simp [*, z6H, z6W, z7q, Hd.H]; done) | fail) ?_; clear h; (repeat' refine z2m fun _ => ?_); intro _ _ h; simp only [z6H, z6W, z7q, Hd.H, Nat.reduceEqDiff, if_true, if_false]))
        | ((with_reducible refine zcs ?_); first
          | (refine z1x rfl rfl fun Q' hQ => ?_; simp [*]; refine hQ.out _ ?_; clear hQ; clear Q')
          | (refine z1i rfl rfl fun Q1 Q2 h1 h2 => ?_; simp [*, z2J]; (first | refine h1.out ?_ | refine h2.out ?_); clear h1 h2; clear Q1 Q2; intro Q' hQ; simp [*]; refine hQ.out _ ?_; clear hQ; clear Q')
          | (refine z1n rfl fun Q' hQ => ?_; simp [*]; refine hQ.out _ ?_; clear hQ; clear Q'))
        | ((with_reducible refine zct ?_); first
          | refine tpN rfl ?_
          | refine tpA rfl ?_
          | refine tpO rfl rfl rfl (by simp [*, z0d, z0e]; rfl) ?_
          | refine tpT rfl rfl rfl (by first | (simp [*]; done) | fail) (by simp [*, z0d, z0e]; rfl) ?_
          | refine tpF rfl rfl rfl (by first | (simp [*]; done) | fail) (by simp [*]; rfl) ?_)
        | ((with_reducible refine zbA ?_); refine z6i rfl (by simp [*]; rfl) ?_)
        | ((with_reducible refine And.intro ?_ ?_); rotate_left)
        | ((with_reducible refine ziV ?_); simp [*, z4g]; done)
        | (revert h; first
          | with_reducible refine zbX (fun _ h => ?_) fun _ h => ?_
          | with_reducible refine zbY (fun _ h => ?_) fun _ h => ?_
          | with_reducible refine zbZ (fun _ _ h => ?_) fun _ _ h => ?_
          | with_reducible refine zbW (fun _ _ _ h => ?_) fun _ _ h => ?_
          | with_reducible refine zj0 (fun _ h => ?_) fun _ h => ?_
          | ((with_reducible refine z7s fun h => ?_); cases h; simp [*]; done)))
  · simp only [z6C] at h; simp only [Head.H, zl5]
    repeat' (first
      | with_reducible refine z0o ?_
      | with_reducible refine z2O ?_
      | with_reducible refine z4u ?_
      | with_reducible refine z2i ?_
      | ((with_reducible refine zcy ?_); first | refine z0V rfl ?_ | refine z1I rfl ?_)
      | with_reducible refine z3A ?_
      | (revert h; with_reducible refine ziX fun h => ?_)
      | (revert h; with_reducible refine ziY fun h => ?_)
      | ((with_reducible refine ziZ h ?_); simp [*, z6H, z6W, z7q, Hd.H]; done)
      | (revert h; first
        | with_reducible refine z7u
        | with_reducible refine z7w fun _ _ h => ?_
        | with_reducible refine zav fun _ _ h => ?_
        | with_reducible refine zbU fun _ _ _ h => ?_
        | with_reducible refine zio fun _ _ _ _ h => ?_
        | with_reducible refine zbS fun _ _ _ _ h => ?_
        | with_reducible refine z7t fun _ _ _ _ h => ?_
        | with_reducible refine zc0 fun _ h => ?_
        | with_reducible refine z9u (by assumption) (by assumption) fun h => ?_
        | with_reducible refine z7v (by assumption) fun h => ?_
        | with_reducible refine zj2 (by assumption) fun h => ?_
        | with_reducible refine z4E (by assumption) fun h => ?_
        | with_reducible refine zc2 fun _ _ _ _ _ _ k k1 k2 h => ?_
        | with_reducible refine zc1 fun _ _ _ _ k k1 h => ?_
        | with_reducible refine zc3 fun _ _ _ _ k k1 h => ?_
        | with_reducible refine p_0 fun _ _ _ _ _ h => ?_
        | with_reducible refine zbV fun _ _ _ _ _ h => ?_
        | with_reducible refine zbT fun _ _ _ _ _ h => ?_
        | with_reducible refine zj1 fun _ _ _ _ _ _ h => ?_
        | with_reducible refine z7y fun _ _ _ _ _ h => ?_
        | ((with_reducible refine z3w fun _ _ _ _ _ _ _ k k2 h => ?_); try simp at k; try simp only [Int.reduceToNat, Int.toNat_natCast, Nat.sub_zero] at k2)
        | ((with_reducible refine z3v fun _ _ _ _ _ _ _ k k2 h => ?_); try simp at k; try simp only [Int.reduceToNat, Int.toNat_natCast, Nat.sub_zero] at k2)
        | ((with_reducible refine z3u fun _ _ _ _ _ _ _ k h => ?_); try simp only [Int.reduceToNat, Int.toNat_natCast] at k)
        | ((with_reducible refine z4F (fun _ k h => ?_) fun _ k h => ?_) <;> (try simp at k))
        | ((with_reducible refine z7x fun _ _ k h => ?_); try simp at k))
      | ((with_reducible refine zb2 ?_); first
        | refine zq rfl ?_
        | refine zb rfl ?_
        | refine z4B rfl ?_
        | refine z4m rfl ?_
        | refine z4D rfl ?_
        | refine z4n rfl ?_
        | refine zat rfl ?_
        | refine zr rfl rfl rfl (by simp [*]; with_reducible rfl) ?_
        | refine z3C rfl rfl rfl rfl ?_
        | refine z6n rfl rfl rfl rfl ?_
        | refine z7F rfl (by first | (simp [*]; done) | fail) ?_
        | refine z7G rfl (by first | (simp [*]; done) | fail) ?_
        | refine zbO rfl rfl (by simp [*]; rfl) ?_
        | (refine z4C rfl rfl h (by simp [*]; rfl) (by first | (simp [*, z6H, z6W, z7q, Hd.H]; done) | fail) ?_; clear h; (repeat' refine z2m fun _ => ?_); intro _ _ h; simp only [z6H, z6W, z7q, Hd.H, Nat.reduceEqDiff, if_true, if_false]))
      | ((with_reducible refine zcs ?_); first
        | (refine z1x rfl rfl fun Q' hQ => ?_; simp [*]; refine hQ.out _ ?_; clear hQ; clear Q')
        | (refine z1i rfl rfl fun Q1 Q2 h1 h2 => ?_; simp [*, z2J]; (first | refine h1.out ?_ | refine h2.out ?_); clear h1 h2; clear Q1 Q2; intro Q' hQ; simp [*]; refine hQ.out _ ?_; clear hQ; clear Q')
        | (refine z1n rfl fun Q' hQ => ?_; simp [*]; refine hQ.out _ ?_; clear hQ; clear Q'))
      | ((with_reducible refine zct ?_); first
        | refine tpN rfl ?_
        | refine tpA rfl ?_
        | refine tpO rfl rfl rfl (by simp [*, z0d, z0e]; rfl) ?_
        | refine tpT rfl rfl rfl (by first | (simp [*]; done) | fail) (by simp [*, z0d, z0e]; rfl) ?_
        | refine tpF rfl rfl rfl (by first | (simp [*]; done) | fail) (by simp [*]; rfl) ?_)
      | ((with_reducible refine zbA ?_); refine z6i rfl (by simp [*]; rfl) ?_)
      | ((with_reducible refine And.intro ?_ ?_); rotate_left)
      | ((with_reducible refine ziV ?_); simp [*, z4g]; done)
      | (revert h; first
        | with_reducible refine zbX (fun _ h => ?_) fun _ h => ?_
        | with_reducible refine zbY (fun _ h => ?_) fun _ h => ?_
        | with_reducible refine zbZ (fun _ _ h => ?_) fun _ _ h => ?_
        | with_reducible refine zbW (fun _ _ _ h => ?_) fun _ _ h => ?_
        | with_reducible refine zj0 (fun _ h => ?_) fun _ h => ?_
        | ((with_reducible refine z7s fun h => ?_); cases h; simp [*]; done)))
  · simp only [z6C] at h; simp only [Head.H, zl5]
    repeat' (first
      | with_reducible refine z0o ?_
      | with_reducible refine z2O ?_
      | with_reducible refine z4u ?_
      | with_reducible refine z2i ?_
      | ((with_reducible refine zcy ?_); first | refine z0V rfl ?_ | refine z1I rfl ?_)
      | with_reducible refine z3A ?_
      | (revert h; with_reducible refine ziX fun h => ?_)
      | (revert h; with_reducible refine ziY fun h => ?_)
      | ((with_reducible refine ziZ h ?_); simp [*, z6H, z6W, z7q, Hd.H]; done)
      | (revert h; first
        | with_reducible refine z7u
        | with_reducible refine z7w fun _ _ h => ?_
        | with_reducible refine zav fun _ _ h => ?_
        | with_reducible refine zbU fun _ _ _ h => ?_
        | with_reducible refine zio fun _ _ _ _ h => ?_
        | with_reducible refine zbS fun _ _ _ _ h => ?_
        | with_reducible refine z7t fun _ _ _ _ h => ?_
        | with_reducible refine zc0 fun _ h => ?_
        | with_reducible refine z9u (by assumption) (by assumption) fun h => ?_
        | with_reducible refine z7v (by assumption) fun h => ?_
        | with_reducible refine zj2 (by assumption) fun h => ?_
        | with_reducible refine z4E (by assumption) fun h => ?_
        | with_reducible refine zc2 fun _ _ _ _ _ _ k k1 k2 h => ?_
        | with_reducible refine zc1 fun _ _ _ _ k k1 h => ?_
        | with_reducible refine zc3 fun _ _ _ _ k k1 h => ?_
        | with_reducible refine p_0 fun _ _ _ _ _ h => ?_
        | with_reducible refine zbV fun _ _ _ _ _ h => ?_
        | with_reducible refine zbT fun _ _ _ _ _ h => ?_
        | with_reducible refine zj1 fun _ _ _ _ _ _ h => ?_
        | with_reducible refine z7y fun _ _ _ _ _ h => ?_
        | ((with_reducible refine z3w fun _ _ _ _ _ _ _ k k2 h => ?_); try simp at k; try simp only [Int.reduceToNat, Int.toNat_natCast, Nat.sub_zero] at k2)
        | ((with_reducible refine z3v fun _ _ _ _ _ _ _ k k2 h => ?_); try simp at k; try simp only [Int.reduceToNat, Int.toNat_natCast, Nat.sub_zero] at k2)
        | ((with_reducible refine z3u fun _ _ _ _ _ _ _ k h => ?_); try simp only [Int.reduceToNat, Int.toNat_natCast] at k)
        | ((with_reducible refine z4F (fun _ k h => ?_) fun _ k h => ?_) <;> (try simp at k))
        | ((with_reducible refine z7x fun _ _ k h => ?_); try simp at k))
      | ((with_reducible refine zb2 ?_); first
        | refine zq rfl ?_
        | refine zb rfl ?_
        | refine z4B rfl ?_
        | refine z4m rfl ?_
        | refine z4D rfl ?_
        | refine z4n rfl ?_
        | refine zat rfl ?_
        | refine zr rfl rfl rfl (by simp [*]; with_reducible rfl) ?_
        | refine z3C rfl rfl rfl rfl ?_
        | refine z6n rfl rfl rfl rfl ?_
        | refine z7F rfl (by first | (simp [*]; done) | fail) ?_
        | refine z7G rfl (by first | (simp [*]; done) | fail) ?_
        | refine zbO rfl rfl (by simp [*]; rfl) ?_
        | (refine z4C rfl rfl h (by simp [*]; rfl) (by first | (simp [*, z6H, z6W, z7q, Hd.H]; done) | fail) ?_; clear h; (repeat' refine z2m fun _ => ?_); intro _ _ h; simp only [z6H, z6W, z7q, Hd.H, Nat.reduceEqDiff, if_true, if_false]))
      | ((with_reducible refine zcs ?_); first
        | (refine z1x rfl rfl fun Q' hQ => ?_; simp [*]; refine hQ.out _ ?_; clear hQ; clear Q')
        | (refine z1i rfl rfl fun Q1 Q2 h1 h2 => ?_; simp [*, z2J]; (first | refine h1.out ?_ | refine h2.out ?_); clear h1 h2; clear Q1 Q2; intro Q' hQ; simp [*]; refine hQ.out _ ?_; clear hQ; clear Q')
        | (refine z1n rfl fun Q' hQ => ?_; simp [*]; refine hQ.out _ ?_; clear hQ; clear Q'))
      | ((with_reducible refine zct ?_); first
        | refine tpN rfl ?_
        | refine tpA rfl ?_
        | refine tpO rfl rfl rfl (by simp [*, z0d, z0e]; rfl) ?_
        | refine tpT rfl rfl rfl (by first | (simp [*]; done) | fail) (by simp [*, z0d, z0e]; rfl) ?_
        | refine tpF rfl rfl rfl (by first | (simp [*]; done) | fail) (by simp [*]; rfl) ?_)
      | ((with_reducible refine zbA ?_); refine z6i rfl (by simp [*]; rfl) ?_)
      | ((with_reducible refine And.intro ?_ ?_); rotate_left)
      | ((with_reducible refine ziV ?_); simp [*, z4g]; done)
      | (revert h; first
        | with_reducible refine zbX (fun _ h => ?_) fun _ h => ?_
        | with_reducible refine zbY (fun _ h => ?_) fun _ h => ?_
        | with_reducible refine zbZ (fun _ _ h => ?_) fun _ _ h => ?_
        | with_reducible refine zbW (fun _ _ _ h => ?_) fun _ _ h => ?_
        | with_reducible refine zj0 (fun _ h => ?_) fun _ h => ?_
        | ((with_reducible refine z7s fun h => ?_); cases h; simp [*]; done)))
    refine zcT rfl rfl h (by simp [*, Head.H]) ?_
    clear h
    rintro ⟨s, j, l⟩ o2 h
    simp only [z9W] at h; simp only [Head.H, inB]
    repeat' (first
      | with_reducible refine z0o ?_
      | with_reducible refine z2O ?_
      | with_reducible refine z4u ?_
      | with_reducible refine z2i ?_
      | ((with_reducible refine zcy ?_); first | refine z0V rfl ?_ | refine z1I rfl ?_)
      | with_reducible refine z3A ?_
      | (revert h; with_reducible refine ziX fun h => ?_)
      | (revert h; with_reducible refine ziY fun h => ?_)
      | ((with_reducible refine ziZ h ?_); simp [*, z6H, z6W, z7q, Hd.H]; done)
      | (revert h; first
        | with_reducible refine z7u
        | with_reducible refine z7w fun _ _ h => ?_
        | with_reducible refine zav fun _ _ h => ?_
        | with_reducible refine zbU fun _ _ _ h => ?_
        | with_reducible refine zio fun _ _ _ _ h => ?_
        | with_reducible refine zbS fun _ _ _ _ h => ?_
        | with_reducible refine z7t fun _ _ _ _ h => ?_
        | with_reducible refine zc0 fun _ h => ?_
        | with_reducible refine z9u (by assumption) (by assumption) fun h => ?_
        | with_reducible refine z7v (by assumption) fun h => ?_
        | with_reducible refine zj2 (by assumption) fun h => ?_
        | with_reducible refine z4E (by assumption) fun h => ?_
        | with_reducible refine zc2 fun _ _ _ _ _ _ k k1 k2 h => ?_
        | with_reducible refine zc1 fun _ _ _ _ k k1 h => ?_
        | with_reducible refine zc3 fun _ _ _ _ k k1 h => ?_
        | with_reducible refine p_0 fun _ _ _ _ _ h => ?_
        | with_reducible refine zbV fun _ _ _ _ _ h => ?_
        | with_reducible refine zbT fun _ _ _ _ _ h => ?_
        | with_reducible refine zj1 fun _ _ _ _ _ _ h => ?_
        | with_reducible refine z7y fun _ _ _ _ _ h => ?_
        | ((with_reducible refine z3w fun _ _ _ _ _ _ _ k k2 h => ?_); try simp at k; try simp only [Int.reduceToNat, Int.toNat_natCast, Nat.sub_zero] at k2)
        | ((with_reducible refine z3v fun _ _ _ _ _ _ _ k k2 h => ?_); try simp at k; try simp only [Int.reduceToNat, Int.toNat_natCast, Nat.sub_zero] at k2)
        | ((with_reducible refine z3u fun _ _ _ _ _ _ _ k h => ?_); try simp only [Int.reduceToNat, Int.toNat_natCast] at k)
        | ((with_reducible refine z4F (fun _ k h => ?_) fun _ k h => ?_) <;> (try simp at k))
        | ((with_reducible refine z7x fun _ _ k h => ?_); try simp at k))
      | ((with_reducible refine zb2 ?_); first
        | refine zq rfl ?_
        | refine zb rfl ?_
        | refine z4B rfl ?_
        | refine z4m rfl ?_
        | refine z4D rfl ?_
        | refine z4n rfl ?_
        | refine zat rfl ?_
        | refine zr rfl rfl rfl (by simp [*]; with_reducible rfl) ?_
        | refine z3C rfl rfl rfl rfl ?_
        | refine z6n rfl rfl rfl rfl ?_
        | refine z7F rfl (by first | (simp [*]; done) | fail) ?_
        | refine z7G rfl (by first | (simp [*]; done) | fail) ?_
        | refine zbO rfl rfl (by simp [*]; rfl) ?_
        | (refine z4C rfl rfl h (by simp [*]; rfl) (by first | (simp [*, z6H, z6W, z7q, Hd.H]; done) | fail) ?_; clear h; (repeat' refine z2m fun _ => ?_); intro _ _ h; simp only [z6H, z6W, z7q, Hd.H, Nat.reduceEqDiff, if_true, if_false]))
      | ((with_reducible refine zcs ?_); first
        | (refine z1x rfl rfl fun Q' hQ => ?_; simp [*]; refine hQ.out _ ?_; clear hQ; clear Q')
        | (refine z1i rfl rfl fun Q1 Q2 h1 h2 => ?_; simp [*, z2J]; (first | refine h1.out ?_ | refine h2.out ?_); clear h1 h2; clear Q1 Q2; intro Q' hQ; simp [*]; refine hQ.out _ ?_; clear hQ; clear Q')
        | (refine z1n rfl fun Q' hQ => ?_; simp [*]; refine hQ.out _ ?_; clear hQ; clear Q'))
      | ((with_reducible refine zct ?_); first
        | refine tpN rfl ?_
        | refine tpA rfl ?_
        | refine tpO rfl rfl rfl (by simp [*, z0d, z0e]; rfl) ?_
        | refine tpT rfl rfl rfl (by first | (simp [*]; done) | fail) (by simp [*, z0d, z0e]; rfl) ?_
        | refine tpF rfl rfl rfl (by first | (simp [*]; done) | fail) (by simp [*]; rfl) ?_)
      | ((with_reducible refine zbA ?_); refine z6i rfl (by simp [*]; rfl) ?_)
      | ((with_reducible refine And.intro ?_ ?_); rotate_left)
      | ((with_reducible refine ziV ?_); simp [*, z4g]; done)
      | (revert h; first
        | with_reducible refine zbX (fun _ h => ?_) fun _ h => ?_
        | with_reducible refine zbY (fun _ h => ?_) fun _ h => ?_
        | with_reducible refine zbZ (fun _ _ h => ?_) fun _ _ h => ?_
        | with_reducible refine zbW (fun _ _ _ h => ?_) fun _ _ h => ?_
        | with_reducible refine zj0 (fun _ h => ?_) fun _ h => ?_
        | ((with_reducible refine z7s fun h => ?_); cases h; simp [*]; done)))⟩
end
end
section
open Go
set_option maxRecDepth 100000
theorem zdd {n : Nat} (hn : n <= 1000) : z2b (n : Int) = some (toI (List.range n)) := by
  unfold z2b
  rw [z0B _ (by unfold z1v; omega), Int.toNat_natCast]
  have e0 : toI (List.range n) = (List.range n).map fun k : Nat => (k : Int) := rfl
  refine z1G (s := ((0 : Int), List.replicate n (0 : Int))) n (fun k => ((k : Int), zax n (fun k => (k : Int)) (fun _ => 0) k)) (by rw [zcY]; congr 1; exact (List.ext_getElem (by simp) fun i h1 h2 => by simp)) (by simp only [LFm]; omega) (fun k hk => ?_) ?_
  · simp only [z1Q]
    rw [if_pos (by omega), z8N hk, Option.bind_some, z1J (by omega), Int.toNat_natCast, z5R (f := fun k => (k : Int)) hk]
  · simp only [z1Q]
    rw [if_neg (by omega), zf2, e0]
theorem zdg {f g : List Nat} (hl : f.length <= 1000) (h : ∀ x ∈ f, x < g.length) : z1h (toI f) (toI g) = some (toI (z2d f g)) := by
  have e0 : toI (z2d f g) = (List.range f.length).map fun k => ((g.getD (f.getD k 0) 0 : Nat) : Int) := by
    refine List.ext_getElem (by simp [toI, z2d]) fun i h1 h2 => ?_
    have hi : i < f.length := by simpa [toI, z2d] using h1
    simp [toI, z2d, List.getD, hi]
  unfold z1h
  rw [z0r, z0B _ (by unfold z1v; omega), Int.toNat_natCast, e0]
  refine z1G (s := ((0 : Int), List.replicate f.length (0 : Int))) f.length (fun k => ((k : Int), zax f.length (fun k => ((g.getD (f.getD k 0) 0 : Nat) : Int)) (fun _ => 0) k)) (by rw [zcY]; congr 1; exact (List.ext_getElem (by simp) fun i h1 h2 => by simp)) (by simp only [LFm]; omega) (fun k hk => ?_) ?_
  · have hx := h _ (z5k hk)
    simp only [z2f]
    rw [if_pos (by rw [z0r]; omega), z9K hk, Option.bind_some, z9K hx, Option.bind_some, z8N hk, Option.bind_some, z1J (by omega), Int.toNat_natCast, z5R (f := fun k => ((g.getD (f.getD k 0) 0 : Nat) : Int)) hk]
  · simp only [z2f]
    rw [if_neg (by rw [z0r]; omega), zf2]
theorem zbz {p : List Nat} (h : p.Nodup) : (toI p).Nodup := List.Pairwise.map _ (fun a b (hab : a ≠ b) => by intro e; exact hab (by omega)) h
theorem zcZ {L : Nat} {P : List (List Nat)} (hP : ∀ g ∈ P, PermL L g) (h1 : 1 <= L) (h2 : L <= 32) (hne : P ≠ []) (hl : P.length <= 10000) : z1Y (P.map toI) = some 0 := by
  have hpos := List.length_pos_iff.2 hne
  have hP0 := hP _ (List.getElem_mem hpos)
  have hat0 : atI (P.map toI) 0 = some (toI P[0]) := by
    have := z0p (xs := P.map toI) (k := 0) (by simpa using hpos)
    simpa using this
  unfold z1Y
  rw [if_neg (by rw [List.length_map]; omega)]
  refine z1G (s := (0 : Int)) P.length (fun k => (k : Int)) rfl (by simp only [LFm]; omega) (fun k hk => ?_) ?_
  · have hk' := hP _ (List.getElem_mem hk)
    have hat : atI (P.map toI) (k : Int) = some (toI P[k]) := by rw [z0p (by simpa using hk)]; simp
    have hll : (toI P[k]).length = L := by rw [z0r]; exact hk'.len
    have hpb : z3q (toI P[k]).length (toI P[k]) = true := z4i.2 ⟨rfl, fun x hx => by
      obtain ⟨y, hy, rfl⟩ := List.mem_map.1 hx
      have := hk'.lt y hy
      rw [hll]; omega, zbz hk'.nd⟩
    simp only [z1O]
    rw [if_pos (by rw [List.length_map]; omega), hat, Option.bind_some, zcj (by omega) (by omega), hpb, Option.bind_some, if_pos rfl, hat0, Option.bind_some, z0r, z0r, if_pos (by rw [hk'.len, hP0.len]), z1J (by omega)]
  · simp only [z1O]
    rw [if_neg (by rw [List.length_map]; omega)]
structure GJ (L : Nat) (P l : List (List Nat)) (S : List (List Int)) : Prop where
  nd : l.Nodup
  rc : ∀ e ∈ l, RchG L P e
  on : List.range L ∈ l
  st : S.Pairwise fun a b => z2p a b < 0
  mem : ∀ z, z ∈ S ↔ ∃ e ∈ l, z = toI e
  len : S.length = l.length
section
variable {L : Nat} {P : List (List Nat)} (hP : ∀ g ∈ P, PermL L g) (h1 : 1 <= L) (h2 : L <= 32) (hB : ∀ l : List (List Nat), l.Nodup -> (∀ e ∈ l, RchG L P e) -> l.length <= 2000)
include hP h1 h2 hB
theorem zdK {p q : List Nat} (h : toI p = toI q) : p = q := by
  have _u := hP
  have _u := h1
  have _u := h2
  have _u := hB
  have := congrArg (fun l => l.map Int.toNat) h
  simp only [toI, List.map_map] at this
  have e : (Int.toNat ∘ fun x : Nat => (x : Int)) = id := by funext x; simp
  rwa [e, List.map_id, List.map_id] at this
theorem zgu {l : List (List Nat)} {S : List (List Int)} (hI : GJ L P l S) {i : Nat} (hi : i < l.length) {g : List Nat} (hg : g ∈ P) :
    z1h (toI (l.getD i [])) (toI g) = some (toI (z2d (l.getD i []) g)) /\ ∃ F, z0Q S (toI (z2d (l.getD i []) g)) = some F /\
      ((z2d (l.getD i []) g ∈ l /\ F.length = S.length) ∨ (F.length = S.length + 1 /\ GJ L P (l ++ [z2d (l.getD i []) g]) F)) := by
  have hm := z3m hi
  have hr := hI.rc _ hm
  have hp := z1t hP hr
  have hgp := hP g hg
  have hrx : RchG L P (z2d (l.getD i []) g) := .step _ _ hr hg
  have hpx := z1t hP hrx
  have h2000 := hB l hI.nd hI.rc
  refine ⟨zdg (by rw [hp.len]; omega) (fun x hx => by rw [hgp.len]; exact hp.lt x hx), ?_⟩
  obtain ⟨F, f1, f2, f3, f4⟩ := zh7 (E := S) (x := toI (z2d (l.getD i []) g)) hI.st (by rw [z0r, hpx.len]; omega) (fun e he => by
    obtain ⟨y, hy, rfl⟩ := (hI.mem e).1 he
    rw [z0r, (z1t hP (hI.rc y hy)).len]; omega) (by rw [hI.len]; omega)
  refine ⟨F, f1, ?_⟩
  have hmem : toI (z2d (l.getD i []) g) ∈ S ↔ z2d (l.getD i []) g ∈ l := by
    rw [hI.mem]
    exact ⟨fun ⟨e, he, h⟩ => by rw [zdK hP h1 h2 hB h]; exact he, fun h => ⟨_, h, rfl⟩⟩
  by_cases hx : z2d (l.getD i []) g ∈ l
  · left
    exact ⟨hx, by rw [f4, if_pos (hmem.2 hx)]⟩
  · right
    rw [if_neg (fun h => hx (hmem.1 h))] at f4
    refine ⟨f4, ⟨List.nodup_append.2 ⟨hI.nd, by simp, fun a ha b hb => by rw [List.mem_singleton.1 hb]; rintro rfl; exact hx ha⟩, fun e he => ?_, List.mem_append.2 (.inl hI.on), f2, fun z => ?_, by rw [f4, List.length_append, hI.len]; rfl⟩⟩
    · rcases List.mem_append.1 he with he | he
      · exact hI.rc e he
      · rw [List.mem_singleton.1 he]; exact hrx
    · rw [f3, hI.mem]
      constructor
      · rintro (⟨e, he, rfl⟩ | rfl)
        · exact ⟨e, List.mem_append.2 (.inl he), rfl⟩
        · exact ⟨_, List.mem_append.2 (.inr (List.mem_singleton.2 rfl)), rfl⟩
      · rintro ⟨e, he, rfl⟩
        rcases List.mem_append.1 he with he | he
        · exact .inl ⟨e, he, rfl⟩
        · rw [List.mem_singleton.1 he]; exact .inr rfl
end
end
section
open Go
set_option maxRecDepth 100000
section
variable {L : Nat} {P : List (List Nat)} (hP : ∀ g ∈ P, PermL L g) (h1 : 1 <= L) (h2 : L <= 32) (hB : ∀ l : List (List Nat), l.Nodup -> (∀ e ∈ l, RchG L P e) -> l.length <= 2000)
include hP h1 h2 hB
theorem z9n {Q : List Nat -> Prop} (h : ∀ j, j < P.length -> Q (P.getD j [])) : ∀ g ∈ P, Q g := fun g hg => by
  have _u := hP
  have _u := h1
  have _u := h2
  have _u := hB
  obtain ⟨j, hj, rfl⟩ := List.getElem_of_mem hg
  have := h j hj
  rwa [List.getD, List.getElem?_eq_getElem hj, Option.getD_some] at this
theorem zlA {l : List (List Nat)} {S : List (List Int)} (hI : GJ L P l S) {i : Nat} (hi : i < l.length) (hPl : P.length <= 10000) :
    ∃ X F, GJ L P (l ++ X) F /\ (∀ g ∈ P, z2d (l.getD i []) g ∈ l ++ X) /\ z0z (z9W (P.map toI) (i : Int)) LFm (S, 0, l.map toI) = z0y (.inr (.inr (F, ((i + 1 : Nat) : Int), (l ++ X).map toI))) := by
  refine Exists.elim (z1g (b := z9W (P.map toI) (i : Int)) (fun z => ∃ (k : Nat) (X : List (List Nat)) (F : List (List Int)), k <= P.length /\ z = (F, (k : Int), (l ++ X).map toI) /\ GJ L P (l ++ X) F /\ ∀ j, j < k -> z2d (l.getD i []) (P.getD j []) ∈ l ++ X) (fun z => P.length + 1 - z.2.1.toNat)
    (fun r => ∃ X F, r = .inl (.inr (.inr (F, ((i + 1 : Nat) : Int), (l ++ X).map toI))) /\ GJ L P (l ++ X) F /\ ∀ j, j < P.length -> z2d (l.getD i []) (P.getD j []) ∈ l ++ X) ?_ LFm (S, 0, l.map toI) ⟨0, [], S, by omega, by simp, by simpa using hI, fun j hj => by omega⟩ (by simp only [LFm]; omega)) fun r h => ?_
  · rintro z ⟨k, X, F, hk, rfl, hJ, hc⟩
    have hsz := hB _ hJ.nd hJ.rc
    have hlen := hJ.len
    have hll : (l ++ X).length = l.length + X.length := List.length_append ..
    simp only [z9W]
    by_cases hk1 : k < P.length
    · left
      have hat : atI (P.map toI) (k : Int) = some (toI (P.getD k [])) := by
        rw [z0p (by simpa using hk1)]; simp [List.getD, hk1]
      have hi2 : i < (l ++ X).length := by rw [List.length_append]; omega
      have e : (l ++ X).getD i [] = l.getD i [] := by rw [List.getD, List.getD, List.getElem?_append_left hi]
      have hat2 : atI ((l ++ X).map toI) (i : Int) = some (toI ((l ++ X).getD i [])) := by
        rw [z0p (by simpa using hi2)]; simp only [List.getElem_map, List.getD, List.getElem?_eq_getElem hi2, Option.getD_some]
      obtain ⟨c1, G, c2, c3⟩ := zgu hP h1 h2 hB hJ hi2 (z3m hk1)
      rw [if_pos (by rw [List.length_map]; omega), hat, Option.bind_some, hat2, Option.bind_some, c1, Option.bind_some, c2, Option.bind_some]
      rcases c3 with ⟨d1, d2⟩ | ⟨d1, d2⟩
      · rw [if_neg (by omega), if_neg (by rw [List.length_map]; omega), z1J (by omega)]
        refine ⟨_, rfl, ⟨k + 1, X, F, by omega, rfl, hJ, fun j hj => ?_⟩, by simp only; omega⟩
        by_cases ej : j = k
        · subst ej; rw [← e]; exact d1
        · exact hc j (by omega)
      · have hsz2 := hB _ d2.nd d2.rc
        rw [List.length_append, List.length_singleton] at hsz2
        rw [if_pos (by omega), z0B _ (by unfold z1c; rw [List.length_map]; omega), if_neg (by rw [List.length_map]; omega), z1J (by omega)]
        have e2 : l ++ (X ++ [z2d ((l ++ X).getD i []) (P.getD k [])]) = l ++ X ++ [z2d ((l ++ X).getD i []) (P.getD k [])] := (List.append_assoc ..).symm
        refine ⟨_, rfl, ⟨k + 1, X ++ [z2d ((l ++ X).getD i []) (P.getD k [])], G, by omega, by rw [e2, List.map_append (l₁ := l ++ X)]; rfl, by rw [e2]; exact d2, fun j hj => ?_⟩, by simp only; omega⟩
        rw [e2]
        by_cases ej : j = k
        · subst ej; rw [e]; exact List.mem_append.2 (.inr (List.mem_singleton.2 rfl))
        · exact List.mem_append.2 (.inl (hc j (by omega)))
    · right
      rw [if_neg (by rw [List.length_map]; omega), z1J (by omega)]
      exact ⟨_, rfl, X, F, rfl, hJ, fun j hj => hc j (by omega)⟩
  · obtain ⟨h3, X, F, rfl, hJ, hc⟩ := h
    exact ⟨X, F, hJ, z9n hP h1 h2 hB hc, h3⟩
theorem zj9 : GJ L P [List.range L] [toI (List.range L)] := by
  have _u := hP
  have _u := h1
  have _u := h2
  have _u := hB
  exact ⟨by simp, fun e he => by rw [List.mem_singleton.1 he]; exact .one, by simp, by simp, fun z => by simp, rfl⟩
theorem zlB (hPl : P.length <= 10000) :
    (z0z (z6B (P.map toI) (toI (List.range L))) LFm (.inl 0) = z0y (.inr (.inl ())) /\ ∀ g ∈ P, z2d (List.range L) g ∈ [List.range L]) ∨
      ∃ X F, z0z (z6B (P.map toI) (toI (List.range L))) LFm (.inl 0) = z0y (.inr (.inr (F, 1, ([List.range L] ++ X).map toI))) /\ GJ L P ([List.range L] ++ X) F /\ ∀ g ∈ P, z2d (List.range L) g ∈ [List.range L] ++ X := by
  refine Exists.elim (z1g (b := z6B (P.map toI) (toI (List.range L))) (fun z => (∃ k : Nat, k <= P.length /\ z = .inl (k : Int) /\ ∀ j, j < k -> z2d (List.range L) (P.getD j []) ∈ [List.range L]) ∨
      ∃ (k : Nat) (X : List (List Nat)) (F : List (List Int)), k <= P.length /\ z = .inr (F, (k : Int), ([List.range L] ++ X).map toI) /\ GJ L P ([List.range L] ++ X) F /\ ∀ j, j < k -> z2d (List.range L) (P.getD j []) ∈ [List.range L] ++ X)
    (fun z => P.length + 1 - (match z with | .inl k => k.toNat | .inr (_, k, _) => k.toNat))
    (fun r => (r = .inl (.inr (.inl ())) /\ ∀ j, j < P.length -> z2d (List.range L) (P.getD j []) ∈ [List.range L]) ∨ ∃ X F, r = .inl (.inr (.inr (F, 1, ([List.range L] ++ X).map toI))) /\ GJ L P ([List.range L] ++ X) F /\ ∀ j, j < P.length -> z2d (List.range L) (P.getD j []) ∈ [List.range L] ++ X)
    ?_ LFm (.inl 0) (.inl ⟨0, by omega, rfl, fun j hj => by omega⟩) (by simp only [LFm]; omega)) fun r h => ?_
  · rintro z (⟨k, hk, rfl, hc⟩ | ⟨k, X, F, hk, rfl, hJ, hc⟩)
    · simp only [z6B]
      by_cases hk1 : k < P.length
      · left
        have hat : atI (P.map toI) (k : Int) = some (toI (P.getD k [])) := by
          rw [z0p (by simpa using hk1)]; simp [List.getD, hk1]
        obtain ⟨c1, G, c2, c3⟩ := zgu hP h1 h2 hB (zj9 hP h1 h2 hB) (i := 0) (by simp) (z3m hk1)
        simp only [List.getD_cons_zero] at c1 c2 c3
        rw [if_pos (by rw [List.length_map]; omega), hat, Option.bind_some, c1, Option.bind_some, c2, Option.bind_some, z1J (by omega)]
        rcases c3 with ⟨d1, d2⟩ | ⟨d1, d2⟩
        · rw [if_neg (by rw [d2]; simp)]
          refine ⟨_, rfl, .inl ⟨k + 1, by omega, rfl, fun j hj => ?_⟩, by simp only; omega⟩
          by_cases ej : j = k
          · subst ej; exact d1
          · exact hc j (by omega)
        · rw [if_pos (by rw [d1]; simp)]
          refine ⟨_, rfl, .inr ⟨k + 1, [z2d (List.range L) (P.getD k [])], G, by omega, rfl, d2, fun j hj => ?_⟩, by simp only; omega⟩
          by_cases ej : j = k
          · subst ej; exact List.mem_append.2 (.inr (List.mem_singleton.2 rfl))
          · exact List.mem_append.2 (.inl (hc j (by omega)))
      · right
        rw [if_neg (by rw [List.length_map]; omega)]
        exact ⟨_, rfl, .inl ⟨rfl, fun j hj => hc j (by omega)⟩⟩
    · have hsz := hB _ hJ.nd hJ.rc
      have hlen := hJ.len
      simp only [z6B]
      by_cases hk1 : k < P.length
      · left
        have hat : atI (P.map toI) (k : Int) = some (toI (P.getD k [])) := by
          rw [z0p (by simpa using hk1)]; simp [List.getD, hk1]
        have hat2 : atI (([List.range L] ++ X).map toI) 0 = some (toI (List.range L)) := by
          have := z0p (xs := ([List.range L] ++ X).map toI) (k := 0) (by simp)
          simpa using this
        obtain ⟨c1, G, c2, c3⟩ := zgu hP h1 h2 hB hJ (i := 0) (by simp) (z3m hk1)
        have e0 : ([List.range L] ++ X).getD 0 [] = List.range L := rfl
        rw [e0] at c1 c2 c3
        rw [if_pos (by rw [List.length_map]; omega), hat, Option.bind_some, hat2, Option.bind_some, c1, Option.bind_some, c2, Option.bind_some]
        rcases c3 with ⟨d1, d2⟩ | ⟨d1, d2⟩
        · rw [if_neg (by omega), if_neg (by rw [List.length_map]; omega), z1J (by omega)]
          refine ⟨_, rfl, .inr ⟨k + 1, X, F, by omega, rfl, hJ, fun j hj => ?_⟩, by simp only; omega⟩
          by_cases ej : j = k
          · subst ej; exact d1
          · exact hc j (by omega)
        · have hsz2 := hB _ d2.nd d2.rc
          have hsz3 : ([List.range L] ++ X ++ [z2d (List.range L) (P.getD k [])]).length = ([List.range L] ++ X).length + 1 := by rw [List.length_append, List.length_singleton]
          rw [hsz3] at hsz2
          rw [if_pos (by omega), z0B _ (by unfold z1c; rw [List.length_map]; omega), if_neg (by rw [List.length_map]; omega), z1J (by omega)]
          have e2 : [List.range L] ++ (X ++ [z2d (List.range L) (P.getD k [])]) = [List.range L] ++ X ++ [z2d (List.range L) (P.getD k [])] := (List.append_assoc ..).symm
          refine ⟨_, rfl, .inr ⟨k + 1, X ++ [z2d (List.range L) (P.getD k [])], G, by omega, by rw [e2, List.map_append (l₁ := [List.range L] ++ X)]; rfl, by rw [e2]; exact d2, fun j hj => ?_⟩, by simp only; omega⟩
          rw [e2]
          by_cases ej : j = k
          · subst ej; exact List.mem_append.2 (.inr (List.mem_singleton.2 rfl))
          · exact List.mem_append.2 (.inl (hc j (by omega)))
      · right
        rw [if_neg (by rw [List.length_map]; omega)]
        exact ⟨_, rfl, .inr ⟨X, F, rfl, hJ, fun j hj => hc j (by omega)⟩⟩
  · obtain ⟨h3, h4⟩ := h
    rcases h4 with ⟨rfl, hc⟩ | ⟨X, F, rfl, hJ, hc⟩
    · exact .inl ⟨h3, z9n hP h1 h2 hB hc⟩
    · exact .inr ⟨X, F, h3, hJ, z9n hP h1 h2 hB hc⟩
end
end
section
open Go
set_option maxRecDepth 100000
section
variable {L : Nat} {P : List (List Nat)} (hP : ∀ g ∈ P, PermL L g) (h1 : 1 <= L) (h2 : L <= 32) (hB : ∀ l : List (List Nat), l.Nodup -> (∀ e ∈ l, RchG L P e) -> l.length <= 2000)
include hP h1 h2 hB
theorem zfz {l : List (List Nat)} (hon : List.range L ∈ l) (hrc : ∀ e ∈ l, RchG L P e) (hc : ∀ e ∈ l, ∀ g ∈ P, z2d e g ∈ l) : ∀ e, e ∈ l ↔ RchG L P e := fun e => by
  have _u := hP
  have _u := h1
  have _u := h2
  have _u := hB
  refine ⟨hrc e, fun h => ?_⟩
  induction h with
  | one => exact hon
  | step e g _ hg ih => exact hc e ih g hg
theorem zec (hne : P ≠ []) (hPl : P.length <= 10000) : ∃ S, z0J (P.map toI) = some (S, 0) /\ (S.Pairwise fun a b => z2p a b < 0) /\ ∀ z, z ∈ S ↔ ∃ e, RchG L P e /\ z = toI e := by
  have hpos := List.length_pos_iff.2 hne
  have hP0 := hP _ (List.getElem_mem hpos)
  have hat0 : atI (P.map toI) 0 = some (toI P[0]) := by
    have := z0p (xs := P.map toI) (k := 0) (by simpa using hpos)
    simpa using this
  unfold z0J
  rw [zcZ hP h1 h2 hne hPl, Option.bind_some, if_pos rfl, hat0, Option.bind_some, z0r, hP0.len, zdd (by omega), Option.bind_some]
  refine Exists.elim (z1g (b := z6C (P.map toI) (toI (List.range L))) (fun z => z = .inl () ∨ (z = .inr (.inl ()) /\ ∀ g ∈ P, z2d (List.range L) g ∈ [List.range L]) ∨
      ∃ (i : Nat) (l : List (List Nat)) (S : List (List Int)), z = .inr (.inr (S, (i : Int), l.map toI)) /\ GJ L P l S /\ i <= l.length /\ ∀ j, j < i -> ∀ g ∈ P, z2d (l.getD j []) g ∈ l)
    (fun z => match z with | .inl _ => 5000 | .inr (.inl _) => 1 | .inr (.inr (_, i, _)) => 4000 - i.toNat)
    (fun r => ∃ S, r = (S, 0) /\ (S.Pairwise fun a b => z2p a b < 0) /\ ∀ z, z ∈ S ↔ ∃ e, RchG L P e /\ z = toI e) ?_ LFm (.inl ()) (.inl rfl) (by simp only [LFm]; omega)) fun r h => ?_
  · have fin : ∀ (l : List (List Nat)) (S : List (List Int)), GJ L P l S -> (∀ e ∈ l, ∀ g ∈ P, z2d e g ∈ l) -> ∃ S', ((S, 0) : List (List Int) × Int) = (S', 0) /\ (S'.Pairwise fun a b => z2p a b < 0) /\ ∀ z, z ∈ S' ↔ ∃ e, RchG L P e /\ z = toI e := fun l S hJ hc =>
      ⟨S, rfl, hJ.st, fun z => by
        rw [hJ.mem]
        exact ⟨fun ⟨e, he, h⟩ => ⟨e, hJ.rc e he, h⟩, fun ⟨e, he, h⟩ => ⟨e, (zfz hP h1 h2 hB hJ.on hJ.rc hc e).2 he, h⟩⟩⟩
    rintro z (rfl | ⟨rfl, hc⟩ | ⟨i, l, S, rfl, hJ, hi, hc⟩)
    · left
      simp only [z6C]
      rcases zlB hP h1 h2 hB hPl with ⟨a1, a2⟩ | ⟨X, F, a1, a2, a3⟩
      · rw [a1]
        exact ⟨_, rfl, .inr (.inl ⟨rfl, a2⟩), by simp only; omega⟩
      · rw [a1]
        refine ⟨_, rfl, .inr (.inr ⟨1, [List.range L] ++ X, F, rfl, a2, by simp, fun j hj g hg => ?_⟩), by simp only; omega⟩
        have : j = 0 := by omega
        subst this
        exact a3 g hg
    · right
      simp only [z6C]
      exact ⟨_, rfl, fin [List.range L] _ (zj9 hP h1 h2 hB) fun e he g hg => by rw [List.mem_singleton.1 he]; exact hc g hg⟩
    · have hsz := hB _ hJ.nd hJ.rc
      simp only [z6C]
      by_cases hi1 : i < l.length
      · left
        obtain ⟨X, F, b1, b2, b3⟩ := zlA hP h1 h2 hB hJ hi1 hPl
        have hll : (l ++ X).length = l.length + X.length := List.length_append ..
        rw [if_pos (by rw [List.length_map]; omega), b3]
        refine ⟨_, rfl, .inr (.inr ⟨i + 1, l ++ X, F, rfl, b1, by omega, fun j hj g hg => ?_⟩), by simp only; omega⟩
        by_cases ej : j = i
        · subst ej
          have e : (l ++ X).getD j [] = l.getD j [] := by rw [List.getD, List.getD, List.getElem?_append_left hi1]
          rw [e]; exact b2 g hg
        · have e : (l ++ X).getD j [] = l.getD j [] := by rw [List.getD, List.getD, List.getElem?_append_left (by omega)]
          rw [e]; exact List.mem_append.2 (.inl (hc j (by omega) g hg))
      · right
        rw [if_neg (by rw [List.length_map]; omega)]
        refine ⟨_, rfl, fin l S hJ fun e he g hg => ?_⟩
        obtain ⟨j, hj, rfl⟩ := List.getElem_of_mem he
        have := hc j (by omega) g hg
        rwa [List.getD, List.getElem?_eq_getElem hj, Option.getD_some] at this
  · obtain ⟨h3, S, rfl, e1, e2⟩ := h
    exact ⟨S, h3, e1, e2⟩
theorem zix (hne : P ≠ []) (hPl : P.length <= 10000) : ∃ S, z0J (P.map toI) = some (S, 0) /\ ∀ Q : List (List Nat), Q ≠ [] -> Q.length <= 10000 -> (∀ g, g ∈ Q -> g ∈ P) -> (∀ g ∈ P, g ∈ Q ∨ g = List.range L) -> z1o (Q.map toI) = some (S, 0) := by
  obtain ⟨S, s1, s2, s3⟩ := zec hP h1 h2 hB hne hPl
  refine ⟨S, s1, fun Q q0 q1 q2 q3 => ?_⟩
  have hQ : ∀ g ∈ Q, PermL L g := fun g hg => hP g (q2 g hg)
  have heq : ∀ e, RchG L Q e ↔ RchG L P e := fun e => by
    refine ⟨fun h => z2z q2 h, fun h => ?_⟩
    induction h with
    | one => exact .one
    | step e g h hg ih =>
      rcases q3 g hg with hq | rfl
      · exact .step _ _ ih hq
      · rw [zhv (z1t hQ ih)]; exact ih
  obtain ⟨E, e1, e2, e3, e4⟩ := zjH hQ h1 h2 (fun l hl hr => hB l hl fun e he => (heq e).1 (hr e he)) q0 q1
  rw [e1]
  have hSn : S.Nodup := s2.imp fun {a b} h => by
    rintro rfl
    rw [(z3p a a).2 rfl] at h; omega
  have hEn : (E.map toI).Nodup := List.Pairwise.map _ (fun a b (hab : a ≠ b) => by intro e; exact hab (zdK hP h1 h2 hB e)) e3
  have hp : (E.map toI).Perm S := (List.perm_ext_iff_of_nodup hEn hSn).2 fun z => by
    rw [s3, List.mem_map]
    constructor
    · rintro ⟨e, he, rfl⟩
      exact ⟨e, (heq e).1 ((e4 e).1 he), rfl⟩
    · rintro ⟨e, he, rfl⟩
      exact ⟨e, (e4 e).2 ((heq e).2 he), rfl⟩
  rw [zdN hp e2 (s2.imp fun {a b} h => Int.le_of_lt h)]
end
end
section
theorem znr (a : Nat) : 1 + a = a + 1 := Nat.add_comm 1 a
end
section
open Go
noncomputable section
set_option maxRecDepth 100000
set_option maxHeartbeats 6000000
attribute [local simp] znr zlo
abbrev z0T (a0 : Hol) (w14 : List Int) : Int -> Option (Int ⊕ (List (List Int) × Int))
  | w19 =>
  if w19 < (a0.perms.length : Int) then
    (atI a0.perms w19).bind fun v22 =>
    if (v22.length : Int) = (a0.tiles.length : Int) then
      (z0I v22).bind fun v23 =>
      if v23 = true then
        z0y (IntKind.i64.wrap (w19 + 1))
      else
        z0k <|
        some ([], 4)
    else
      z0k <|
      some ([], 4)
  else
    z0k <|
    chk (z1c 24 (a0.perms.length + 1)) <|
    (z0J ([w14] ++ a0.perms)).bind fun v24 =>
    if v24.2 = 0 then
      some (v24.1, 0)
    else
      some ([], 3)
instance {a0 : Hol} {w14 : List Int} : Hd (z0T a0 w14) := ⟨fun w19 => ([(35, xI w19)], [])⟩
abbrev z1N (a0 : Hol) : Int × List Int -> Option ((Int × List Int) ⊕ (List (List Int) × Int))
  | (w13, w14) =>
  if w13 < (a0.tiles.length : Int) then
    (atI w14 w13).bind fun v16 =>
    z0y (IntKind.i64.wrap (w13 + 1), (w14.set w13.toNat w13))
  else
    z0k <|
    z0z (z0T a0 w14) LFm 0
instance {a0 : Hol} : Hd (z1N a0) := ⟨fun (w13, w14) => ([(24, xI w13)], [(5, .os 1 w14.length (w14.map fun x0 => .sc (.int .i64 x0)))])⟩
def z1w (a0 : Hol) : Option (List (List Int) × Int) :=
  if (a0.tiles.length : Int) < 1 then
    some ([], 4)
  else
    if 32 < (a0.tiles.length : Int) then
      some ([], 4)
    else
      chk (z1v 8 (a0.tiles.length : Int)) <|
      z0z (z1N a0) LFm (0, List.replicate (a0.tiles.length : Int).toNat (0 : Int))
instance ref25_Elements_ok {a0 : Hol} : Ok (z1w a0) (fun r => L 10 [.agg [.sc (.int .i64 a0.set), .sl a0.tiles.length (a0.tiles.map fun x0 => .sc (.int .i64 x0)), .sl a0.words.length (a0.words.map fun x0 => .sc (.string x0)), .sl a0.perms.length (a0.perms.map fun x0 => .sl x0.length (x0.map fun x1 => .sc (.int .i64 x1)))]] = some (.tup [.sl r.1.length (r.1.map fun x0 => .sl x0.length (x0.map fun x1 => .sc (.int .i64 x1))), .sc (.int .i64 r.2)], [.dead])) := ⟨fun r h => by have h := z5x h; unfold z1w at h; exact zhL znf zoy zpE⟩
end
end
section
def Mo (C0 C1 : z0b) : Prop := ∀ f a o, C0 f a = some o -> C1 f a = some o
section
variable {P : Program} {C0 C1 : z0b}
theorem z8e (hMo : Mo C0 C1) {wio : FuncId -> Nat -> Bool} {fr fr' : Fr} {f : FuncId} {args : List E} {dst : Option Nat} (h : z6F C0 wio fr f args dst = some fr') : Ev fun m => z6F C1 wio fr f args dst = some fr' := by
  unfold z6F at h ⊢
  split at h
  · cases h
  · rename_i ts deps io ha
    split at h
    · cases h
    · rename_i r outs hc
      refine ⟨0, fun m _ => ?_⟩
      show (match C1 f ts with | none => none | some (r, outs) => _) = _
      rw [hMo _ _ _ hc]
      exact h
theorem zgS (hMo : Mo C0 C1) {wio : FuncId -> Nat -> Bool} {fr fr' : Fr} {o : Oper} (h : opF P C0 wio fr o = some fr') : Ev fun m => opF P C1 wio fr o = some fr' := by
  unfold opF at h ⊢
  split at h
  · exact .pure fun _ => h
  · split at h
    · exact z8e hMo h
    · cases h
  · exact .pure fun _ => h
  · exact .pure fun _ => h
  · exact .pure fun _ => h
theorem zeq (hMo : Mo C0 C1) {wio : FuncId -> Nat -> Bool} {fr fr' : Fr} {o : Oper} (h : z5t P C0 wio fr o = some fr') : Ev fun m => z5t P C1 wio fr o = some fr' := by
  unfold z5t at h ⊢
  split at h
  · split at h
    · split at h
      · exact z8e hMo h
      · cases h
    · cases h
  · exact .pure fun _ => h
theorem ziQ (hMo : Mo C0 C1) {wio : FuncId -> Nat -> Bool} {M : Nat -> Bool} {fr fr' : Fr} {o : Oper} (h : wrF P C0 wio M fr o = some fr') : Ev fun m => wrF P C1 wio M fr o = some fr' := by
  unfold wrF at h ⊢
  split at h
  · split at h
    · cases h
    · split at h
      · exact z8e hMo h
      · split at h
        · rename_i hM
          simp only [hM, if_true]
          exact z8e hMo h
        · cases h
      · cases h
  · exact .pure fun _ => h
  · exact .pure fun _ => h
  · exact .pure fun _ => h
  · cases h
theorem zcR (hMo : Mo C0 C1) {wio : FuncId -> Nat -> Bool} {ops : Array Oper} : ∀ {l : List Oper} {fr fr' : Fr}, zcS P C0 wio ops l fr = some fr' -> Ev fun m => zcS P C1 wio ops l fr = some fr'
  | [], fr, fr', h => .pure fun _ => h
  | o :: rest, fr, fr', h => by
    simp only [zcS] at h ⊢
    split at h
    · cases h
    · split at h
      · rename_i fr1 h1
        exact (zgS hMo h1).both (zcR hMo h) fun m a1 a2 => by rw [a1]; exact a2
      · cases h
    · split at h
      · rename_i fr1 h1
        exact (zcR hMo h)
      · cases h
theorem z8b (hMo : Mo C0 C1) {wio : FuncId -> Nat -> Bool} {same : Bool} {M : Nat -> Bool} {ops : Array Oper} : ∀ {l : List (Nat × Oper × Nat)} {fr fr' : Fr}, z4P P C0 wio same M ops l fr = some fr' -> Ev fun m => z4P P C1 wio same M ops l fr = some fr'
  | [], fr, fr', h => .pure fun _ => h
  | (k, o, mk) :: rest, fr, fr', h => by
    simp only [z4P] at h ⊢
    split at h
    · cases h
    · split at h
      · exact z8b hMo h
      · cases h
    · split at h
      · rename_i hm
        simp only [if_pos hm]
        split at h
        · split at h
          · exact z8b hMo h
          · cases h
        · cases h
      · rename_i hm
        simp only [if_neg hm]
        split at h
        · rename_i fr1 h1
          have h2 : Ev fun m => (if mk = 2 then opF P C1 wio fr o else if same = true then z5t P C1 wio fr o else wrF P C1 wio M fr o) = some fr1 := by
            by_cases e : mk = 2
            · simp only [if_pos e] at h1 ⊢; exact zgS hMo h1
            · simp only [if_neg e] at h1 ⊢
              by_cases e2 : same = true
              · simp only [if_pos e2] at h1 ⊢; exact zeq hMo h1
              · simp only [if_neg e2] at h1 ⊢; exact ziQ hMo h1
          exact h2.both (z8b hMo h) fun m a1 a2 => by rw [a1]; exact a2
        · cases h
theorem z5m (hMo : Mo C0 C1) {wio : FuncId -> Nat -> Bool} {same : Bool} {M : Nat -> Bool} {ops : Array Oper} : ∀ {l : SchT} {fr fr' : Fr}, z2t P C0 wio same M ops l fr = some fr' -> Ev fun m => z2t P C1 wio same M ops l fr = some fr'
  | .nil, fr, fr', h => .pure fun _ => h
  | .alt x y, fr, fr', h => by
    simp only [z2t] at h ⊢
    split at h
    · rename_i f1 f2 h1 h2
      obtain ⟨rfl, hs⟩ := z7b h
      exact (z5m hMo h1).both (z5m hMo h2) fun m a1 a2 => by rw [a1, a2]; exact z7W hs
    · cases h
  | .op k mk rest, fr, fr', h => by
    simp only [z2t] at h ⊢
    split at h
    · cases h
    rename_i o ho
    try simp only [ho]
    split at h
    · cases h
    · split at h
      · exact z5m hMo h
      · cases h
    · split at h
      · rename_i hm
        simp only [if_pos hm]
        split at h
        · split at h
          · exact z5m hMo h
          · cases h
        · cases h
      · rename_i hm
        simp only [if_neg hm]
        split at h
        · rename_i fr1 h1
          have h2 : Ev fun m => (if mk = 2 then opF P C1 wio fr o else if same = true then z5t P C1 wio fr o else wrF P C1 wio M fr o) = some fr1 := by
            by_cases e : mk = 2
            · simp only [if_pos e] at h1 ⊢; exact zgS hMo h1
            · simp only [if_neg e] at h1 ⊢
              by_cases e2 : same = true
              · simp only [if_pos e2] at h1 ⊢; exact zeq hMo h1
              · simp only [if_neg e2] at h1 ⊢; exact ziQ hMo h1
          exact h2.both (z5m hMo h) fun m a1 a2 => by rw [a1]; exact a2
        · cases h
theorem zfr (hMo : Mo C0 C1) {c : Cfg} {id : Nat} {ops : Array Oper} {fr fr' : Fr} (h : z3F P C0 c id ops fr = some fr') : Ev fun m => z3F P C1 c id ops fr = some fr' := by
  unfold z3F at h ⊢
  split at h
  · exact z5m hMo h
  · split at h
    · exact z8b hMo h
    · cases h
theorem ze3 (hMo : Mo C0 C1) {B : z0b -> Fr -> Option (X × Fr)} {cn : Fr -> Fr} (hB : ∀ fr o, B C0 fr = some o -> Ev fun m => B C1 fr = some o) : ∀ {n : Nat} {fr : Fr} {o : X × Fr}, z6z (B C0) cn n fr = some o -> Ev fun m => z6z (B C1) cn n fr = some o
  | 0, fr, o, h => by cases h
  | n + 1, fr, o, h => by
    simp only [z6z] at h ⊢
    split at h
    · rename_i fr1 h1
      exact (hB _ _ h1).both (ze3 hMo hB h) fun m a1 a2 => by rw [a1]; exact a2
    · rename_i x fr1 hne h1
      refine (hB _ _ h1).imp fun m a1 => ?_
      rw [a1]
      cases x with
      | n => exact absurd rfl hne
      | x i => exact h
      | r => exact h
    · cases h
theorem zeo (hMo : Mo C0 C1) {c : Cfg} {LF : Nat} : ∀ (b : Code) {fr : Fr} {o : X × Fr}, z0S P C0 c LF b fr = some o -> Ev fun m => z0S P C1 c LF b fr = some o := by
  intro b
  induction b with
  | skip => intro fr o h; exact .pure fun _ => h
  | label l => intro fr o h; exact .pure fun _ => h
  | exit id => intro fr o h; exact .pure fun _ => h
  | ret => intro fr o h; exact .pure fun _ => h
  | goto l => intro fr o h; cases h
  | scope c ih => intro fr o h; simp only [z0S] at h ⊢; exact ih h
  | refuse s => intro fr o h; cases h
  | rangeFunc => intro fr o h; cases h
  | region id ops draw =>
    intro fr o h
    simp only [z0S] at h ⊢
    split at h
    · rename_i hd
      simp only [hd, if_true]
      split at h
      · rename_i fr1 h1
        exact (zfr hMo h1).imp fun m a1 => by rw [a1]; exact h
      · cases h
    · rename_i hd
      simp only [hd, Bool.false_eq_true, if_false]
      split at h
      · rename_i fr1 h1
        exact (zcR hMo h1).imp fun m a1 => by rw [a1]; exact h
      · cases h
  | seq a b ih1 ih2 =>
    intro fr o h
    simp only [z0S] at h ⊢
    split at h
    · rename_i fr1 h1
      exact (ih1 h1).both (ih2 h) fun m a1 a2 => by rw [a1]; exact a2
    · rename_i hne
      refine (ih1 h).imp fun m a1 => ?_
      rw [a1]
      obtain ⟨x, fr1⟩ := o
      cases x with
      | n => exact absurd h (hne _)
      | x i => rfl
      | r => rfl
  | cond c x y ih1 ih2 =>
    intro fr o h
    simp only [z0S] at h ⊢
    split at h
    · exact ih1 h
    · exact ih2 h
    · cases h
  | block id c ih =>
    intro fr o h
    simp only [z0S] at h ⊢
    split at h
    · rename_i i fr1 h1
      exact (ih h1).imp fun m a1 => by rw [a1]; exact h
    · rename_i hne
      refine (ih h).imp fun m a1 => ?_
      rw [a1]
      obtain ⟨x, fr1⟩ := o
      cases x with
      | n => rfl
      | x i => exact absurd h (hne _ _)
      | r => rfl
  | loop b ih =>
    intro fr o h
    simp only [z0S] at h ⊢
    exact ze3 hMo (B := fun C fr => z0S P C c LF b fr) (fun fr o h => ih h) h
theorem zgG (hMo : Mo C0 C1) {c : Cfg} {LF : Nat} {fn : Func} {args : List T} {o : T × List T} (h : zaY P C0 c LF fn args = some o) : Ev fun m => zaY P C1 c LF fn args = some o := by
  unfold zaY at h ⊢
  split at h
  · rename_i hc
    simp only [if_pos hc]
    split at h
    · cases h
    · rename_i b hb
      split at h
      · rename_i fr h1
        exact (zeo hMo _ h1).imp fun m a1 => by rw [a1]; exact h
      · rename_i fr h1
        exact (zeo hMo _ h1).imp fun m a1 => by rw [a1]; exact h
      · cases h
  · cases h
end
theorem ze0 {P : Program} {X : z0b} {cf : FuncId -> Option Cfg} : ∀ n, Mo (z1f P X cf n) (z1f P X cf (n + 1))
  | 0 => fun f a o h => by
    simp only [z1f] at h ⊢
    split at h
    · cases h
    · rename_i hc
      first
        | exact h
        | (rw [hc]; exact h)
  | n + 1 => fun f a o h => by
    simp only [z1f] at h
    split at h
    · rename_i c hc
      split at h
      · rename_i fn hfn
        obtain ⟨k, hk⟩ := zgG (ze0 n) h
        exact zcb hc hfn (hk k (Nat.le_refl _))
      · cases h
    · rename_i hc
      simp only [z1f, hc]
      exact h
theorem z6v {P : Program} {X : z0b} {cf : FuncId -> Option Cfg} (n : Nat) {f : FuncId} {a : List T} {o : T × List T} (h : z1f P X cf n f a = some o) : Lim P X cf f a = some o := by
  refine zh0 (d := n) fun m hm => ?_
  obtain ⟨k, rfl⟩ := Nat.exists_eq_add_of_le hm
  clear hm
  induction k with
  | zero => exact h
  | succ k ih => exact ze0 (n + k) f a o ih
def tab : List (FuncId × List T × T × List T) -> z0b
  | [] => fun _ _ => none
  | (g, b, r, os) :: l => fun f a => if (Nat.beq g f && zda b a) = true then some (r, os) else tab l f a
theorem ziS {C : z0b} : ∀ {l : List (FuncId × List T × T × List T)}, (∀ x ∈ l, C x.1 x.2.1 = some x.2.2) -> Mo (tab l) C
  | [], _ => fun f a o h => by cases h
  | (g, b, r, os) :: l, hl => fun f a o h => by
    simp only [tab] at h
    split at h
    · rename_i hc
      simp only [Bool.and_eq_true] at hc
      cases h
      have := hl _ (List.mem_cons_self ..)
      rw [← Nat.eq_of_beq_eq_true hc.1, ← z3n hc.2]
      exact this
    · exact ziS (fun x hx => hl x (List.mem_cons_of_mem _ hx)) f a o h
noncomputable def zcd (P : Program) (X : z0b) (cf : FuncId -> Option Cfg) (S : z0b) : Nat -> z0b
  | 0 => S
  | n + 1 => fun f a => match S f a with
    | some o => some o
    | none => match cf f with
      | some c => (match P.funcs[f]? with | some fn => zaY P (zcd P X cf S n) c LFm fn a | none => none)
      | none => X f a
theorem zcc {P : Program} {X : z0b} {cf : FuncId -> Option Cfg} {S : z0b} (hS : Mo S (Lim P X cf)) : ∀ n, Mo (zcd P X cf S n) (Lim P X cf)
  | 0 => hS
  | n + 1 => fun f a o h => by
    simp only [zcd] at h
    split at h
    · rename_i o' ho
      cases h
      exact hS f a o ho
    · split at h
      · rename_i c hc
        split at h
        · rename_i fn hfn
          obtain ⟨k, hk⟩ := zgG (zcc hS n) h
          exact zgZ hc hfn (hk k (Nat.le_refl _))
        · cases h
      · rename_i hc
        exact z8R hc h
theorem zjy {P : Program} {X : z0b} {cf : FuncId -> Option Cfg} (l : List (FuncId × List T × T × List T)) (n : Nat) {f : FuncId} {a : List T} {o : T × List T} (h : zcd P X cf (tab l) n f a = some o) (hl : ∀ x ∈ l, Lim P X cf x.1 x.2.1 = some x.2.2) : Lim P X cf f a = some o :=
  zcc (ziS hl) n f a o h
end
end Go.Proofs.YtodliknibbafeaaGreat

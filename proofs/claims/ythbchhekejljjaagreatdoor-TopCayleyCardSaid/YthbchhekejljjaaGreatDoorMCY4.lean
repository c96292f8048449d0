/- Proved here: a part of the proof of the law at hand, in one text: no condition. -/
import Derived.Test.YthbchhekejljjaaGreatDoorMCY3
set_option linter.unusedVariables false
set_option linter.unusedSimpArgs false
set_option linter.unusedSectionVars false
namespace Go.Proofs.YthbchhekejljjaaGreatDoor
section
open Go
set_option linter.unusedSectionVars false
set_option maxRecDepth 100000
def frB (x : Nat) (q : Eru) : FrE := ((x : Int), q.e.points, q.e.monoid, q.e.gens, q.e.elems, q.e.pre, q.e.last, q.e.right, q.e.rules, q.e.done, q.number, q.words, q.behind, q.single)
def z6W (r : Eru) (v : Int) : Eru := ⟨⟨r.e.points, r.e.monoid, r.e.gens, r.e.elems, r.e.pre, r.e.last, r.e.right, r.e.rules, r.e.done⟩, r.number, r.words, r.behind, r.single ++ [v]⟩
theorem EnI.sing {n m c : Nat} {G : List (List Int)} {mono : Bool} {r : Eru} (hI : EnI n m G mono c r) (hc : c < m) (hm : G.getD c [] ∈ r.e.elems) : EnI n m G mono (c + 1) (z6W r ((r.e.elems.idxOf (G.getD c []) : Nat) : Int)) := by
  refine ⟨hI.pts, hI.mon, hI.gens, hI.nd, hI.tr, hI.num, hI.lp, hI.ll, hI.lw, hI.lb, by simp [z6W, hI.sl], fun x hx => ?_, hI.dn, hI.dl, hI.rt, hI.nod, hI.bh, hI.wd, hI.mz⟩
  simp only [z6W]
  rw [z2G, hI.sl]
  by_cases e : x < c
  · rw [if_pos e]; exact hI.sg x e
  · obtain rfl : x = c := by omega
    simp only [Nat.lt_irrefl, if_false, if_true]
    exact ⟨hm, by trivial⟩
section
variable {n m : Nat} {G : List (List Int)} (hG : GenP n m G) (h3 : n <= 3)
include hG h3
theorem zi2 {r : Eru} (hI : EnI n m G true 0 r) (hr : r.e.right = []) (hu : r.e.rules = []) {v : Int × Eru} (hv : v.1 = 0) (hvg : v.2.e.gens = G) : ∃ r', z0C (z0O v) LFm (0, r.e.points, r.e.monoid, r.e.gens, r.e.elems, r.e.pre, r.e.last, r.e.right, r.e.rules, r.e.done, r.number, r.words, r.behind, r.single) = some (.inr (r', 0)) /\ EnI n m G true m r' /\ r'.e.right = [] /\ r'.e.rules.length <= m := by
  have hm2 := hG.m2
  refine Exists.elim (z2s (b := z0O v)
    (fun s => ∃ (x : Nat) (q : Eru), s = frB x q /\ x <= m /\ EnI n m G true x q /\ q.e.right = [] /\ q.e.rules.length <= x)
    (fun s => m - s.1.toNat)
    (fun a => ∃ r', a = .inr (r', 0) /\ EnI n m G true m r' /\ r'.e.right = [] /\ r'.e.rules.length <= m) ?_ LFm (frB 0 r) ⟨0, r, rfl, Nat.zero_le _, hI, hr, by simp [hu]⟩ (by simp only [LFm, frB]; omega)) fun a h => ?_
  · rintro _ ⟨x, q, rfl, hx, hq, hqr, hru⟩
    have hq27 := hq.le hG h3
    simp only [frB]
    simp only [z0O]
    rw [hvg, hG.len]
    by_cases hlt : x < m
    · left
      have hgx := hG.get hlt
      have hls := z8J (x := x) (by omega)
      rw [if_pos (by omega), z0h [] (by rw [hG.len]; exact hlt), Option.bind_some, z5B hgx (by omega), Option.bind_some, show Utf8.encode (IntKind.i32.wrap (IntKind.i64.wrap (97 + (x : Int)))) = ltr x from rfl, hq.num _ hgx, z2d (by omega)]
      by_cases hmem : G.getD x [] ∈ q.e.elems
      · obtain ⟨i1, i2⟩ := z6k [] hmem
        rw [if_pos hmem, if_pos (by rfl), Option.getD_some, z0h ByteArray.empty (by rw [hq.lw]; exact i1), Option.bind_some, z0F _ (by unfold z1t; omega), z0F _ (by unfold z1t; rw [hq.sl]; omega)]
        exact ⟨_, rfl, ⟨x + 1, z6W (zaT q (q.e.rules ++ [⟨_, _⟩])) _, rfl, by omega, (hq.rules _).sing hlt hmem, hqr, by simp [z6W, zaT]; omega⟩, by simp only; omega⟩
      · have hl := hgx.len
        have h33 := hG.n3
        rw [if_neg hmem, if_neg (by simp), show z3o (G.getD x []) = some (G.getD x []) by unfold z3o; rw [if_pos (by omega)], Option.bind_some, z5a, hv, zfv hG h3 hq hgx, Option.bind_some]
        simp only
        rw [z0F _ (by unfold z1t; simp only [z3n]; rw [hq.sl]; omega)]
        obtain ⟨z0, z1⟩ := hq.mz rfl
        have hA := hq.add hG h3 hgx hmem (p := 0) (b := 0) (w := ltr x) hlt (.inr ⟨0, z0, rfl, by rw [z1, zgZ hgx]⟩) (by omega) (by omega)
        have hS := hA.sing hlt (by simp [z3n])
        simp only [z3n] at hS
        rw [zc0 hmem] at hS
        exact ⟨_, rfl, ⟨x + 1, z6W (z3n q (G.getD x []) (0) (x : Int) (ltr x) (0)) (q.e.elems.length : Int), rfl, by omega, hS, hqr, by simp only [z6W, z3n]; omega⟩, by simp only; omega⟩
    · right
      obtain rfl : x = m := by omega
      rw [if_neg (by omega)]
      exact ⟨_, rfl, q, rfl, hq, hqr, hru⟩
  · obtain ⟨h1, r', rfl, h2⟩ := h
    exact ⟨r', h1, h2⟩
theorem zi1 {r : Eru} (hI : EnI n m G false 0 r) (hr : r.e.right = []) (hu : r.e.rules = []) : ∃ r', z0C (z0M G) LFm (0, r.e.points, r.e.monoid, r.e.gens, r.e.elems, r.e.pre, r.e.last, r.e.right, r.e.rules, r.e.done, r.number, r.words, r.behind, r.single) = some (.inr (r', 0)) /\ EnI n m G false m r' /\ r'.e.right = [] /\ r'.e.rules.length <= m := by
  have hm2 := hG.m2
  refine Exists.elim (z2s (b := z0M G)
    (fun s => ∃ (x : Nat) (q : Eru), s = frB x q /\ x <= m /\ EnI n m G false x q /\ q.e.right = [] /\ q.e.rules.length <= x)
    (fun s => m - s.1.toNat)
    (fun a => ∃ r', a = .inr (r', 0) /\ EnI n m G false m r' /\ r'.e.right = [] /\ r'.e.rules.length <= m) ?_ LFm (frB 0 r) ⟨0, r, rfl, Nat.zero_le _, hI, hr, by simp [hu]⟩ (by simp only [LFm, frB]; omega)) fun a h => ?_
  · rintro _ ⟨x, q, rfl, hx, hq, hqr, hru⟩
    have hq27 := hq.le hG h3
    simp only [frB]
    simp only [z0M]
    rw [hG.len]
    by_cases hlt : x < m
    · left
      have hgx := hG.get hlt
      have hls := z8J (x := x) (by omega)
      rw [if_pos (by omega), z0h [] (by rw [hG.len]; exact hlt), Option.bind_some, z5B hgx (by omega), Option.bind_some, show Utf8.encode (IntKind.i32.wrap (IntKind.i64.wrap (97 + (x : Int)))) = ltr x from rfl, hq.num _ hgx, z2d (by omega)]
      by_cases hmem : G.getD x [] ∈ q.e.elems
      · obtain ⟨i1, i2⟩ := z6k [] hmem
        rw [if_pos hmem, if_pos (by rfl), Option.getD_some, z0h ByteArray.empty (by rw [hq.lw]; exact i1), Option.bind_some, z0F _ (by unfold z1t; omega), z0F _ (by unfold z1t; rw [hq.sl]; omega)]
        exact ⟨_, rfl, ⟨x + 1, z6W (zaT q (q.e.rules ++ [⟨_, _⟩])) _, rfl, by omega, (hq.rules _).sing hlt hmem, hqr, by simp [z6W, zaT]; omega⟩, by simp only; omega⟩
      · have hl := hgx.len
        have h33 := hG.n3
        rw [if_neg hmem, if_neg (by simp), show z3o (G.getD x []) = some (G.getD x []) by unfold z3o; rw [if_pos (by omega)], Option.bind_some, z5a, zfv hG h3 hq hgx, Option.bind_some]
        simp only
        rw [z0F _ (by unfold z1t; simp only [z3n]; rw [hq.sl]; omega)]
        have hA := hq.add hG h3 hgx hmem (p := -1) (b := -1) (w := ltr x) hlt (.inl ⟨rfl, rfl⟩) (by omega) (by omega)
        have hS := hA.sing hlt (by simp [z3n])
        simp only [z3n] at hS
        rw [zc0 hmem] at hS
        exact ⟨_, rfl, ⟨x + 1, z6W (z3n q (G.getD x []) (-1) (x : Int) (ltr x) (-1)) (q.e.elems.length : Int), rfl, by omega, hS, hqr, by simp only [z6W, z3n]; omega⟩, by simp only; omega⟩
    · right
      obtain rfl : x = m := by omega
      rw [if_neg (by omega)]
      exact ⟨_, rfl, q, rfl, hq, hqr, hru⟩
  · obtain ⟨h1, r', rfl, h2⟩ := h
    exact ⟨r', h1, h2⟩
theorem zgH (mono : Bool) : ∃ r, z0Y G mono = some (.inr (r, 0)) /\ EnI n m G mono m r /\ r.e.right = [] /\ r.e.rules.length <= m := by
  have hl := hG.len
  have hm1 := hG.m1
  have hm2 := hG.m2
  have hn1 := hG.n1
  have h0 := (hG.get (x := 0) (by omega)).len
  unfold z0Y
  rw [if_neg (by omega), if_neg (by omega), show atI G 0 = some (G.getD 0 []) from z0h [] (k := 0) (by omega), Option.bind_some]
  refine Exists.elim (z2s (b := z1q G mono (G.getD 0 []))
    (fun s => ∃ x : Nat, s = ((x : Int), G.take x) /\ x <= m) (fun s => m - s.1.toNat)
    (fun a => ∃ r, a = .inr (r, 0) /\ EnI n m G mono m r /\ r.e.right = [] /\ r.e.rules.length <= m) ?_ LFm (0, []) ⟨0, by simp, Nat.zero_le _⟩ (by simp only [LFm]; omega)) fun a h => ?_
  · rintro _ ⟨x, rfl, hx⟩
    simp only [z1q]
    rw [hG.len]
    by_cases hlt : x < m
    · left
      have hgx := hG.get hlt
      have hgl := hgx.len
      have hlen : ((G.getD x []).length : Int) = ((G.getD 0 []).length : Int) := by omega
      rw [if_pos (by omega), z0h [] (by omega), Option.bind_some, if_pos hlen, z6u hgx hn1 (by omega), Option.bind_some, if_pos rfl, show z3o (G.getD x []) = some (G.getD x []) by unfold z3o; rw [if_pos (by omega)], Option.bind_some, z0F _ (by unfold z1t; rw [List.length_take]; omega), z2d (by omega)]
      refine ⟨_, rfl, ⟨x + 1, ?_, by omega⟩, by simp only; omega⟩
      rw [List.take_succ_eq_append_getElem (by omega), List.getD, List.getElem?_eq_getElem (by omega)]; rfl
    · right
      obtain rfl : x = m := by omega
      rw [if_neg (by omega), ← hl, List.take_length, h0]
      cases mono with
      | true =>
        rw [if_pos rfl, zgh hn1 (by omega), Option.bind_some]
        have hadd : z0r (⟨⟨(n : Int), true, G, [], [], [], [], [], 0⟩, ([] : List (ByteArray × Int)), [], [], []⟩ : Eru) (idR n) (-1) (-1) ByteArray.empty (-1) = some (0, z3n ⟨⟨(n : Int), true, G, [], [], [], [], [], 0⟩, [], [], [], []⟩ (idR n) (-1) (-1) ByteArray.empty (-1)) := by
          unfold z0r
          rw [z5B (zi7 n) (by omega), Option.bind_some]
          rfl
        rw [hadd, Option.bind_some]
        have hE : EnI n G.length G true 0 (z3n ⟨⟨(n : Int), true, G, [], [], [], [], [], 0⟩, [], [], [], []⟩ (idR n) (-1) (-1) ByteArray.empty (-1)) := by
          refine ⟨rfl, rfl, rfl, by simp [z3n], fun f hf => ?_, fun f hf => ?_, rfl, rfl, rfl, rfl, rfl, fun x hx => by omega, rfl, by simp [z3n], fun u hu => by simp [z3n] at hu, fun j hj => ?_, fun j hj => ?_, fun j hj => ?_, fun _ => ⟨by simp [z3n], rfl⟩⟩
          · simp [z3n] at hf; subst hf; exact zi7 n
          · show z3Q (z2I f) (z9J (z2I (idR n)) 0 []) = if f ∈ [idR n] then some ((([idR n] : List (List Int)).idxOf f : Nat) : Int) else none
            rw [zib]
            by_cases e : f = idR n
            · subst e; simp
            · rw [if_neg (fun h => e (zbB hf (zi7 n) (by omega) h.symm)), if_neg (by simpa using e)]; rfl
          · obtain rfl : j = 0 := by simp [z3n] at hj; exact hj
            exact .inl ⟨rfl, rfl, rfl⟩
          · obtain rfl : j = 0 := by simp [z3n] at hj; exact hj
            simp [z3n]
          · obtain rfl : j = 0 := by simp [z3n] at hj; exact hj
            simp [z3n]
        have hG' : GenP n G.length G := by rw [hl]; exact hG
        obtain ⟨r', e1, e2⟩ := zi2 hG' h3 hE rfl rfl (v := (0, z3n ⟨⟨(n : Int), true, G, [], [], [], [], [], 0⟩, [], [], [], []⟩ (idR n) (-1) (-1) ByteArray.empty (-1))) rfl rfl
        simp only
        exact ⟨_, by rw [e1]; rfl, r', rfl, e2⟩
      | false =>
        rw [if_neg (by simp)]
        have hG' : GenP n G.length G := by rw [hl]; exact hG
        have hE : EnI n G.length G false 0 ⟨⟨(n : Int), false, G, [], [], [], [], [], 0⟩, [], [], [], []⟩ := by
          refine ⟨rfl, rfl, rfl, by simp, fun f hf => by simp at hf, fun f hf => rfl, rfl, rfl, rfl, rfl, rfl, fun x hx => by omega, rfl, by simp, fun u hu => by simp at hu, fun j hj => by simp at hj, fun j hj => by simp at hj, fun j hj => by simp at hj, fun h => by cases h⟩
        obtain ⟨r', e1, e2⟩ := zi1 hG' h3 hE rfl rfl
        exact ⟨_, by rw [e1]; rfl, r', rfl, e2⟩
  · obtain ⟨h1, r, rfl, h2⟩ := h
    exact ⟨r, h1, h2⟩
end
end
section
open Go
noncomputable section
set_option maxRecDepth 100000
set_option maxHeartbeats 6000000
instance : IsS Rul := ⟨⟩
instance : IsS Enm := ⟨⟩
instance : IsS Eru := ⟨⟩
abbrev z3h : Unit -> Option (Unit ⊕ (Enm × Int))
  | _ =>
  none
instance : Hd (z3h) := ⟨fun _ => ([], [])⟩
abbrev z1f : Int × Bool × List (List Int) × List (List Int) × List Int × List Int × List (List Int) × List Rul × Int × (List (ByteArray × Int)) × List ByteArray × List Int × List Int -> Option ((Int × Bool × List (List Int) × List (List Int) × List Int × List Int × List (List Int) × List Rul × Int × (List (ByteArray × Int)) × List ByteArray × List Int × List Int) ⊕ (Enm × Int))
  | (w28, w29, w30, w31, w32, w33, w34, w35, w36, w37, w38, w39, w40) =>
  (z0g (⟨⟨w28, w29, w30, w31, w32, w33, w34, w35, w36⟩, w37, w38, w39, w40⟩ : Eru)).bind fun v43 =>
  if v43.1 = true then
    z0p <|
    some (v43.2.e, 0)
  else
    (z0k v43.2).bind fun v44 =>
    if v44.1 = 0 then
      z0J (v44.2.e.points, v44.2.e.monoid, v44.2.e.gens, v44.2.e.elems, v44.2.e.pre, v44.2.e.last, v44.2.e.right, v44.2.e.rules, v44.2.e.done, v44.2.number, v44.2.words, v44.2.behind, v44.2.single)
    else
      z0p <|
      some ((⟨0, false, [], [], [], [], [], [], 0⟩ : Enm), v44.1)
instance : Hd (z1f) := ⟨fun (w28, w29, w30, w31, w32, w33, w34, w35, w36, w37, w38, w39, w40) => ([], [(6, .vr [.sc (.int .i64 w28), .sc (.bool w29), .sl w30.length (w30.map fun x0 => .sl x0.length (x0.map fun x1 => .sc (.int .i64 x1))), .os 1 w31.length (w31.map fun x0 => .sl x0.length (x0.map fun x1 => .sc (.int .i64 x1))), .os 1 w32.length (w32.map fun x0 => .sc (.int .i64 x0)), .os 1 w33.length (w33.map fun x0 => .sc (.int .i64 x0)), .os 1 w34.length (w34.map fun x0 => .sl x0.length (x0.map fun x1 => .sc (.int .i64 x1))), .os 2 w35.length (w35.flatMap fun x0 => [.sc (.string x0.left), .sc (.string x0.right)]), .sc (.int .i64 w36), .mp none (w37.map fun x0 => (.string x0.1, .int .i64 x0.2)), .os 1 w38.length (w38.map fun x0 => .sc (.string x0)), .os 1 w39.length (w39.map fun x0 => .sc (.int .i64 x0)), .os 1 w40.length (w40.map fun x0 => .sc (.int .i64 x0))])])⟩
def z0Z (a0 : List (List Int)) (a1 : Bool) : Option (Enm × Int) :=
  (z0Y a0 a1).bind fun v23 =>
  match v23 with
  | (.inl v24) =>
    if v24.2 = 0 then
      z0C (z3h) LFm ()
    else
      some ((⟨0, false, [], [], [], [], [], [], 0⟩ : Enm), v24.2)
  | (.inr v25) =>
    if v25.2 = 0 then
      z0C (z1f) LFm (v25.1.e.points, v25.1.e.monoid, v25.1.e.gens, v25.1.e.elems, v25.1.e.pre, v25.1.e.last, v25.1.e.right, v25.1.e.rules, v25.1.e.done, v25.1.number, v25.1.words, v25.1.behind, v25.1.single)
    else
      some ((⟨0, false, [], [], [], [], [], [], 0⟩ : Enm), v25.2)
instance enumerate_Build_ok {a0 : List (List Int)} {a1 : Bool} : Ok (z0Z a0 a1) (fun r => L 10 [.sl a0.length (a0.map fun x0 => .sl x0.length (x0.map fun x1 => .sc (.int .i64 x1))), .sc (.bool a1)] = some (.tup [.agg [.sc (.int .i64 r.1.points), .sc (.bool r.1.monoid), .sl r.1.gens.length (r.1.gens.map fun x0 => .sl x0.length (x0.map fun x1 => .sc (.int .i64 x1))), .sl r.1.elems.length (r.1.elems.map fun x0 => .sl x0.length (x0.map fun x1 => .sc (.int .i64 x1))), .sl r.1.pre.length (r.1.pre.map fun x0 => .sc (.int .i64 x0)), .sl r.1.last.length (r.1.last.map fun x0 => .sc (.int .i64 x0)), .sl r.1.right.length (r.1.right.map fun x0 => .sl x0.length (x0.map fun x1 => .sc (.int .i64 x1))), .sl r.1.rules.length (r.1.rules.flatMap fun x0 => [.sc (.string x0.left), .sc (.string x0.right)]), .sc (.int .i64 r.1.done)], .sc (.int .i64 r.2)], [.dead, .dead])) := ⟨fun r h => by have h := z5e h; unfold z0Z at h; exact ziz znb zoo zpm⟩
end
end
section
open Go
noncomputable section
set_option maxRecDepth 100000
set_option maxHeartbeats 6000000
instance : IsS Rul := ⟨⟩
instance : IsS Enm := ⟨⟩
instance : IsS Eru := ⟨⟩
abbrev z0d (a0 : List (List Int)) (a1 : List (List Int)) : Int -> Option (Int ⊕ Bool)
  | w14 =>
  if w14 < (a0.length : Int) then
    (atI a0 w14).bind fun v18 =>
    (atI a1 w14).bind fun v19 =>
    (z0t v18 v19).bind fun v20 =>
    if v20 = true then
      z0J (IntKind.i64.wrap (w14 + 1))
    else
      z0p <|
      some false
  else
    z0p <|
    some true
instance {a0 : List (List Int)} {a1 : List (List Int)} : Hd (z0d a0 a1) := ⟨fun w14 => ([(17, xI w14)], [])⟩
def z0c (a0 : List (List Int)) (a1 : List (List Int)) : Option (Bool) :=
  if (a0.length : Int) = (a1.length : Int) then
    z0C (z0d a0 a1) LFm 0
  else
    some false
instance slices_EqualFunc_LLint_LLint_Lint_Lint_slices_Equal_Lint_int_ok {a0 : List (List Int)} {a1 : List (List Int)} : Ok (z0c a0 a1) (fun r => L 120 [.sl a0.length (a0.map fun x0 => .sl x0.length (x0.map fun x1 => .sc (.int .i64 x1))), .sl a1.length (a1.map fun x0 => .sl x0.length (x0.map fun x1 => .sc (.int .i64 x1))), .sc (.func (.func 121) #[] #[])] = some (.sc (.bool r), [.dead, .dead, .dead])) := ⟨fun r h => by have h := z5e h; unfold z0c at h; exact z5W zkC zlW znh⟩
def z1i (a0 : Eru) (a1 : Enm) : Option (Bool × Eru) :=
  if a0.e.points = a1.points then
    if a0.e.done = a1.done then
      (z0c a0.e.elems a1.elems).bind fun v6 =>
      if v6 = true then
        (z0t a0.e.pre a1.pre).bind fun v7 =>
        if v7 = true then
          (z0t a0.e.last a1.last).bind fun v8 =>
          if v8 = true then
            (z0c a0.e.right a1.right).bind fun v9 =>
            if v9 = true then
              (zl6 a0.e.rules a1.rules).bind fun v10 =>
              some (v10, a0)
            else
              some (false, a0)
          else
            some (false, a0)
        else
          some (false, a0)
      else
        some (false, a0)
    else
      some (false, a0)
  else
    some (false, a0)
instance enumerate_run_is_ok {a0 : Eru} {a1 : Enm} : Ok (z1i a0 a1) (fun r => L 88 [.vr [.sc (.int .i64 a0.e.points), .sc (.bool a0.e.monoid), .sl a0.e.gens.length (a0.e.gens.map fun x0 => .sl x0.length (x0.map fun x1 => .sc (.int .i64 x1))), .os 1 a0.e.elems.length (a0.e.elems.map fun x0 => .sl x0.length (x0.map fun x1 => .sc (.int .i64 x1))), .os 1 a0.e.pre.length (a0.e.pre.map fun x0 => .sc (.int .i64 x0)), .os 1 a0.e.last.length (a0.e.last.map fun x0 => .sc (.int .i64 x0)), .os 1 a0.e.right.length (a0.e.right.map fun x0 => .sl x0.length (x0.map fun x1 => .sc (.int .i64 x1))), .os 2 a0.e.rules.length (a0.e.rules.flatMap fun x0 => [.sc (.string x0.left), .sc (.string x0.right)]), .sc (.int .i64 a0.e.done), .mp none (a0.number.map fun x0 => (.string x0.1, .int .i64 x0.2)), .os 1 a0.words.length (a0.words.map fun x0 => .sc (.string x0)), .os 1 a0.behind.length (a0.behind.map fun x0 => .sc (.int .i64 x0)), .os 1 a0.single.length (a0.single.map fun x0 => .sc (.int .i64 x0))], .agg [.sc (.int .i64 a1.points), .sc (.bool a1.monoid), .sl a1.gens.length (a1.gens.map fun x0 => .sl x0.length (x0.map fun x1 => .sc (.int .i64 x1))), .sl a1.elems.length (a1.elems.map fun x0 => .sl x0.length (x0.map fun x1 => .sc (.int .i64 x1))), .sl a1.pre.length (a1.pre.map fun x0 => .sc (.int .i64 x0)), .sl a1.last.length (a1.last.map fun x0 => .sc (.int .i64 x0)), .sl a1.right.length (a1.right.map fun x0 => .sl x0.length (x0.map fun x1 => .sc (.int .i64 x1))), .sl a1.rules.length (a1.rules.flatMap fun x0 => [.sc (.string x0.left), .sc (.string x0.right)]), .sc (.int .i64 a1.done)]] = some (.sc (.bool r.1), [.vr [.sc (.int .i64 r.2.e.points), .sc (.bool r.2.e.monoid), .sl r.2.e.gens.length (r.2.e.gens.map fun x0 => .sl x0.length (x0.map fun x1 => .sc (.int .i64 x1))), .os 1 r.2.e.elems.length (r.2.e.elems.map fun x0 => .sl x0.length (x0.map fun x1 => .sc (.int .i64 x1))), .os 1 r.2.e.pre.length (r.2.e.pre.map fun x0 => .sc (.int .i64 x0)), .os 1 r.2.e.last.length (r.2.e.last.map fun x0 => .sc (.int .i64 x0)), .os 1 r.2.e.right.length (r.2.e.right.map fun x0 => .sl x0.length (x0.map fun x1 => .sc (.int .i64 x1))), .os 2 r.2.e.rules.length (r.2.e.rules.flatMap fun x0 => [.sc (.string x0.left), .sc (.string x0.right)]), .sc (.int .i64 r.2.e.done), .mp none (r.2.number.map fun x0 => (.string x0.1, .int .i64 x0.2)), .os 1 r.2.words.length (r.2.words.map fun x0 => .sc (.string x0)), .os 1 r.2.behind.length (r.2.behind.map fun x0 => .sc (.int .i64 x0)), .os 1 r.2.single.length (r.2.single.map fun x0 => .sc (.int .i64 x0))], .dead])) := ⟨fun r h => by have h := z5e h; unfold z1i at h; exact z5W zmN zo0 zoY⟩
abbrev z3d : Unit -> Option (Unit ⊕ ((Unit × Bool) ⊕ (Eru × Bool)))
  | _ =>
  none
instance : Hd (z3d) := ⟨fun _ => ([], [])⟩
abbrev z0V (a0 : Enm) : Int × Bool × List (List Int) × List (List Int) × List Int × List Int × List (List Int) × List Rul × Int × (List (ByteArray × Int)) × List ByteArray × List Int × List Int -> Option ((Int × Bool × List (List Int) × List (List Int) × List Int × List Int × List (List Int) × List Rul × Int × (List (ByteArray × Int)) × List ByteArray × List Int × List Int) ⊕ ((Unit × Bool) ⊕ (Eru × Bool)))
  | (w29, w30, w31, w32, w33, w34, w35, w36, w37, w38, w39, w40, w41) =>
  if w37 < a0.done then
    (z0g (⟨⟨w29, w30, w31, w32, w33, w34, w35, w36, w37⟩, w38, w39, w40, w41⟩ : Eru)).bind fun v44 =>
    if v44.1 = true then
      z0p <|
      some (.inl ((), false))
    else
      (z0k v44.2).bind fun v45 =>
      if v45.1 = 0 then
        z0J (v45.2.e.points, v45.2.e.monoid, v45.2.e.gens, v45.2.e.elems, v45.2.e.pre, v45.2.e.last, v45.2.e.right, v45.2.e.rules, v45.2.e.done, v45.2.number, v45.2.words, v45.2.behind, v45.2.single)
      else
        z0p <|
        some (.inl ((), false))
  else
    z0p <|
    (z1i (⟨⟨w29, w30, w31, w32, w33, w34, w35, w36, w37⟩, w38, w39, w40, w41⟩ : Eru) a0).bind fun v46 =>
    some (.inr (v46.2, v46.1))
instance {a0 : Enm} : Hd (z0V a0) := ⟨fun (w29, w30, w31, w32, w33, w34, w35, w36, w37, w38, w39, w40, w41) => ([], [(4, .vr [.sc (.int .i64 w29), .sc (.bool w30), .sl w31.length (w31.map fun x0 => .sl x0.length (x0.map fun x1 => .sc (.int .i64 x1))), .os 1 w32.length (w32.map fun x0 => .sl x0.length (x0.map fun x1 => .sc (.int .i64 x1))), .os 1 w33.length (w33.map fun x0 => .sc (.int .i64 x0)), .os 1 w34.length (w34.map fun x0 => .sc (.int .i64 x0)), .os 1 w35.length (w35.map fun x0 => .sl x0.length (x0.map fun x1 => .sc (.int .i64 x1))), .os 2 w36.length (w36.flatMap fun x0 => [.sc (.string x0.left), .sc (.string x0.right)]), .sc (.int .i64 w37), .mp none (w38.map fun x0 => (.string x0.1, .int .i64 x0.2)), .os 1 w39.length (w39.map fun x0 => .sc (.string x0)), .os 1 w40.length (w40.map fun x0 => .sc (.int .i64 x0)), .os 1 w41.length (w41.map fun x0 => .sc (.int .i64 x0))])])⟩
def z0u (a0 : Enm) : Option ((Unit × Bool) ⊕ (Eru × Bool)) :=
  (z0Y a0.gens a0.monoid).bind fun v24 =>
  match v24 with
  | (.inl v25) =>
    if v25.2 = 0 then
      z0C (z3d) LFm ()
    else
      some (.inl ((), false))
  | (.inr v26) =>
    if v26.2 = 0 then
      z0C (z0V a0) LFm (v26.1.e.points, v26.1.e.monoid, v26.1.e.gens, v26.1.e.elems, v26.1.e.pre, v26.1.e.last, v26.1.e.right, v26.1.e.rules, v26.1.e.done, v26.1.number, v26.1.words, v26.1.behind, v26.1.single)
    else
      some (.inl ((), false))
instance enumerate_replay_ok {a0 : Enm} : Ok (z0u a0) (fun r => L 42 [.agg [.sc (.int .i64 a0.points), .sc (.bool a0.monoid), .sl a0.gens.length (a0.gens.map fun x0 => .sl x0.length (x0.map fun x1 => .sc (.int .i64 x1))), .sl a0.elems.length (a0.elems.map fun x0 => .sl x0.length (x0.map fun x1 => .sc (.int .i64 x1))), .sl a0.pre.length (a0.pre.map fun x0 => .sc (.int .i64 x0)), .sl a0.last.length (a0.last.map fun x0 => .sc (.int .i64 x0)), .sl a0.right.length (a0.right.map fun x0 => .sl x0.length (x0.map fun x1 => .sc (.int .i64 x1))), .sl a0.rules.length (a0.rules.flatMap fun x0 => [.sc (.string x0.left), .sc (.string x0.right)]), .sc (.int .i64 a0.done)]] = some (match r with | (.inl r) => (.tup [.sc (.pointer none), .sc (.bool r.2)], [.dead]) | (.inr r) => (.tup [.vr [.sc (.int .i64 r.1.e.points), .sc (.bool r.1.e.monoid), .sl r.1.e.gens.length (r.1.e.gens.map fun x0 => .sl x0.length (x0.map fun x1 => .sc (.int .i64 x1))), .os 1 r.1.e.elems.length (r.1.e.elems.map fun x0 => .sl x0.length (x0.map fun x1 => .sc (.int .i64 x1))), .os 1 r.1.e.pre.length (r.1.e.pre.map fun x0 => .sc (.int .i64 x0)), .os 1 r.1.e.last.length (r.1.e.last.map fun x0 => .sc (.int .i64 x0)), .os 1 r.1.e.right.length (r.1.e.right.map fun x0 => .sl x0.length (x0.map fun x1 => .sc (.int .i64 x1))), .os 2 r.1.e.rules.length (r.1.e.rules.flatMap fun x0 => [.sc (.string x0.left), .sc (.string x0.right)]), .sc (.int .i64 r.1.e.done), .mp none (r.1.number.map fun x0 => (.string x0.1, .int .i64 x0.2)), .os 1 r.1.words.length (r.1.words.map fun x0 => .sc (.string x0)), .os 1 r.1.behind.length (r.1.behind.map fun x0 => .sc (.int .i64 x0)), .os 1 r.1.single.length (r.1.single.map fun x0 => .sc (.int .i64 x0))], .sc (.bool r.2)], [.dead]))) := ⟨fun r h => by have h := z5e h; unfold z0u at h; exact z5W zn1 zoe zpc⟩
end
end
section
open Go
noncomputable section
set_option maxRecDepth 100000
set_option maxHeartbeats 6000000
instance : IsS Rul := ⟨⟩
instance : IsS Enm := ⟨⟩
instance : IsS Eru := ⟨⟩
def z0I (a0 : Enm) : Option ((Unit × Bool) ⊕ (Eru × Bool)) :=
  (z0u a0).bind fun v5 =>
  match v5 with
  | (.inl v6) =>
    if v6.2 = true then
      none
    else
      some (.inl ((), false))
  | (.inr v7) =>
    if v7.2 = true then
      (z0g v7.1).bind fun v8 =>
      some (.inr (v8.2, v8.1))
    else
      some (.inr (v7.1, false))
instance enumerate_replayFinished_ok {a0 : Enm} : Ok (z0I a0) (fun r => L 43 [.agg [.sc (.int .i64 a0.points), .sc (.bool a0.monoid), .sl a0.gens.length (a0.gens.map fun x0 => .sl x0.length (x0.map fun x1 => .sc (.int .i64 x1))), .sl a0.elems.length (a0.elems.map fun x0 => .sl x0.length (x0.map fun x1 => .sc (.int .i64 x1))), .sl a0.pre.length (a0.pre.map fun x0 => .sc (.int .i64 x0)), .sl a0.last.length (a0.last.map fun x0 => .sc (.int .i64 x0)), .sl a0.right.length (a0.right.map fun x0 => .sl x0.length (x0.map fun x1 => .sc (.int .i64 x1))), .sl a0.rules.length (a0.rules.flatMap fun x0 => [.sc (.string x0.left), .sc (.string x0.right)]), .sc (.int .i64 a0.done)]] = some (match r with | (.inl r) => (.tup [.sc (.pointer none), .sc (.bool r.2)], [.dead]) | (.inr r) => (.tup [.vr [.sc (.int .i64 r.1.e.points), .sc (.bool r.1.e.monoid), .sl r.1.e.gens.length (r.1.e.gens.map fun x0 => .sl x0.length (x0.map fun x1 => .sc (.int .i64 x1))), .os 1 r.1.e.elems.length (r.1.e.elems.map fun x0 => .sl x0.length (x0.map fun x1 => .sc (.int .i64 x1))), .os 1 r.1.e.pre.length (r.1.e.pre.map fun x0 => .sc (.int .i64 x0)), .os 1 r.1.e.last.length (r.1.e.last.map fun x0 => .sc (.int .i64 x0)), .os 1 r.1.e.right.length (r.1.e.right.map fun x0 => .sl x0.length (x0.map fun x1 => .sc (.int .i64 x1))), .os 2 r.1.e.rules.length (r.1.e.rules.flatMap fun x0 => [.sc (.string x0.left), .sc (.string x0.right)]), .sc (.int .i64 r.1.e.done), .mp none (r.1.number.map fun x0 => (.string x0.1, .int .i64 x0.2)), .os 1 r.1.words.length (r.1.words.map fun x0 => .sc (.string x0)), .os 1 r.1.behind.length (r.1.behind.map fun x0 => .sc (.int .i64 x0)), .os 1 r.1.single.length (r.1.single.map fun x0 => .sc (.int .i64 x0))], .sc (.bool r.2)], [.dead]))) := ⟨fun r h => by have h := z5e h; unfold z0I at h; exact z5W zn0 zod zpb⟩
abbrev z1d (v137 : Bool × Eru) (w183 : Int) : Int × List (List Int) -> Option ((Int × List (List Int)) ⊕ ((Int × List (List Int)) ⊕ (List (List Int) × Int)))
  | (w237, w238) =>
  if w237 < (v137.2.e.elems.length : Int) then
    (atI v137.2.e.pre w237).bind fun v253 =>
    (atI v137.2.e.last w237).bind fun v254 =>
    if v254 < 0 then
      (atI w238 w183).bind fun v255 =>
      (atI v255 w237).bind fun v256 =>
      z0J (IntKind.i64.wrap (w237 + 1), (w238.set w183.toNat (v255.set w237.toNat w183)))
    else
      if v253 < 0 then
        (atI w238 w183).bind fun v257 =>
        (atI v137.2.e.right w183).bind fun v258 =>
        (atI v258 v254).bind fun v259 =>
        (atI v257 w237).bind fun v260 =>
        z0J (IntKind.i64.wrap (w237 + 1), (w238.set w183.toNat (v257.set w237.toNat v259)))
      else
        (atI w238 w183).bind fun v261 =>
        (atI v261 v253).bind fun v263 =>
        (atI v137.2.e.right v263).bind fun v264 =>
        (atI v264 v254).bind fun v265 =>
        (atI v261 w237).bind fun v266 =>
        z0J (IntKind.i64.wrap (w237 + 1), (w238.set w183.toNat (v261.set w237.toNat v265)))
  else
    z0p <|
    z0J (IntKind.i64.wrap (w183 + 1), w238)
instance {v137 : Bool × Eru} {w183 : Int} : Hd (z1d v137 w183) := ⟨fun (w237, w238) => ([(58, xI w237)], [(6, .os 1 w238.length (w238.map fun x0 => .os 1 x0.length (x0.map fun x1 => .sc (.int .i64 x1))))])⟩
abbrev z1e (v137 : Bool × Eru) : Int × List (List Int) -> Option ((Int × List (List Int)) ⊕ (List (List Int) × Int))
  | (w183, w184) =>
  if w183 < (v137.2.e.elems.length : Int) then
    chk (z1I 8 (v137.2.e.elems.length : Int)) <|
    (atI w184 w183).bind fun v226 =>
    z0C (z1d v137 w183) LFm (0, (w184.set w183.toNat (List.replicate (v137.2.e.elems.length : Int).toNat (0 : Int))))
  else
    z0p <|
    some (w184, 0)
instance {v137 : Bool × Eru} : Hd (z1e v137) := ⟨fun (w183, w184) => ([(40, xI w183)], [(6, .os 1 w184.length (w184.map fun x0 => .os 1 x0.length (x0.map fun x1 => .sc (.int .i64 x1))))])⟩
def z1v (a0 : Enm) : Option (List (List Int) × Int) :=
  (z0u a0).bind fun v134 =>
  match v134 with
  | (.inl v135) =>
    if v135.2 = true then
      none
    else
      some ([], 8)
  | (.inr v136) =>
    if v136.2 = true then
      (z0g v136.1).bind fun v137 =>
      if v137.1 = true then
        if 400 < (v137.2.e.elems.length : Int) then
          some ([], 3)
        else
          chk (z1I 24 (v137.2.e.elems.length : Int)) <|
          z0C (z1e v137) LFm (0, List.replicate (v137.2.e.elems.length : Int).toNat ([] : List Int))
      else
        some ([], 7)
    else
      some ([], 8)
instance enumerate_Table_ok {a0 : Enm} : Ok (z1v a0) (fun r => L 20 [.agg [.sc (.int .i64 a0.points), .sc (.bool a0.monoid), .sl a0.gens.length (a0.gens.map fun x0 => .sl x0.length (x0.map fun x1 => .sc (.int .i64 x1))), .sl a0.elems.length (a0.elems.map fun x0 => .sl x0.length (x0.map fun x1 => .sc (.int .i64 x1))), .sl a0.pre.length (a0.pre.map fun x0 => .sc (.int .i64 x0)), .sl a0.last.length (a0.last.map fun x0 => .sc (.int .i64 x0)), .sl a0.right.length (a0.right.map fun x0 => .sl x0.length (x0.map fun x1 => .sc (.int .i64 x1))), .sl a0.rules.length (a0.rules.flatMap fun x0 => [.sc (.string x0.left), .sc (.string x0.right)]), .sc (.int .i64 a0.done)]] = some (.tup [.sl r.1.length (r.1.map fun x0 => .sl x0.length (x0.map fun x1 => .sc (.int .i64 x1))), .sc (.int .i64 r.2)], [.dead])) := ⟨fun r h => by have h := z5e h; unfold z1v at h; exact ziz zna zon zpl⟩
abbrev z1r (v145 : Eru × Bool) (w193 : Int) : Int × List (List Int) -> Option ((Int × List (List Int)) ⊕ ((Int × List (List Int)) ⊕ List (List Int)))
  | (w253, w254) =>
  if w253 < (v145.1.single.length : Int) then
    (atI v145.1.single w253).bind fun v270 =>
    (atI v145.1.e.pre w193).bind fun v271 =>
    (atI v145.1.e.last w193).bind fun v272 =>
    if v272 < 0 then
      (atI w254 w193).bind fun v273 =>
      (atI v273 w253).bind fun v274 =>
      z0J (IntKind.i64.wrap (w253 + 1), (w254.set w193.toNat (v273.set w253.toNat v270)))
    else
      if v271 < 0 then
        (atI w254 w193).bind fun v275 =>
        (atI v145.1.e.right v270).bind fun v276 =>
        (atI v276 v272).bind fun v277 =>
        (atI v275 w253).bind fun v278 =>
        z0J (IntKind.i64.wrap (w253 + 1), (w254.set w193.toNat (v275.set w253.toNat v277)))
      else
        (atI w254 w193).bind fun v279 =>
        (atI w254 v271).bind fun v280 =>
        (atI v280 w253).bind fun v281 =>
        (atI v145.1.e.right v281).bind fun v282 =>
        (atI v282 v272).bind fun v283 =>
        (atI v279 w253).bind fun v284 =>
        z0J (IntKind.i64.wrap (w253 + 1), (w254.set w193.toNat (v279.set w253.toNat v283)))
  else
    z0p <|
    z0J (IntKind.i64.wrap (w193 + 1), w254)
instance {v145 : Eru × Bool} {w193 : Int} : Hd (z1r v145 w193) := ⟨fun (w253, w254) => ([(45, xI w253)], [(5, .os 1 w254.length (w254.map fun x0 => .os 1 x0.length (x0.map fun x1 => .sc (.int .i64 x1))))])⟩
abbrev z1H (v145 : Eru × Bool) : Int × List (List Int) -> Option ((Int × List (List Int)) ⊕ List (List Int))
  | (w193, w194) =>
  if w193 < (v145.1.e.elems.length : Int) then
    chk (z1I 8 (v145.1.e.gens.length : Int)) <|
    (atI w194 w193).bind fun v240 =>
    z0C (z1r v145 w193) LFm (0, (w194.set w193.toNat (List.replicate (v145.1.e.gens.length : Int).toNat (0 : Int))))
  else
    z0p <|
    some w194
instance {v145 : Eru × Bool} : Hd (z1H v145) := ⟨fun (w193, w194) => ([(27, xI w193)], [(5, .os 1 w194.length (w194.map fun x0 => .os 1 x0.length (x0.map fun x1 => .sc (.int .i64 x1))))])⟩
def z1P (a0 : Enm) : Option (List (List Int)) :=
  (z0I a0).bind fun v143 =>
  match v143 with
  | (.inl v144) =>
    if v144.2 = true then
      none
    else
      some []
  | (.inr v145) =>
    if v145.2 = true then
      chk (z1I 24 (v145.1.e.elems.length : Int)) <|
      z0C (z1H v145) LFm (0, List.replicate (v145.1.e.elems.length : Int).toNat ([] : List Int))
    else
      some []
instance enumerate_Left_ok {a0 : Enm} : Ok (z1P a0) (fun r => L 23 [.agg [.sc (.int .i64 a0.points), .sc (.bool a0.monoid), .sl a0.gens.length (a0.gens.map fun x0 => .sl x0.length (x0.map fun x1 => .sc (.int .i64 x1))), .sl a0.elems.length (a0.elems.map fun x0 => .sl x0.length (x0.map fun x1 => .sc (.int .i64 x1))), .sl a0.pre.length (a0.pre.map fun x0 => .sc (.int .i64 x0)), .sl a0.last.length (a0.last.map fun x0 => .sc (.int .i64 x0)), .sl a0.right.length (a0.right.map fun x0 => .sl x0.length (x0.map fun x1 => .sc (.int .i64 x1))), .sl a0.rules.length (a0.rules.flatMap fun x0 => [.sc (.string x0.left), .sc (.string x0.right)]), .sc (.int .i64 a0.done)]] = some (.sl r.length (r.map fun x0 => .sl x0.length (x0.map fun x1 => .sc (.int .i64 x1))), [.dead])) := ⟨fun r h => by have h := z5e h; unfold z1P at h; exact ziz zn9 zom zpk⟩
def z1Q (a0 : Enm) (a1 : List Int) : Option (Int) :=
  (z0u a0).bind fun v7 =>
  match v7 with
  | (.inl v8) =>
    if v8.2 = true then
      (z0S a1).bind fun v9 =>
      if v9 = true then
        none
      else
        some (-1)
    else
      some (-1)
  | (.inr v10) =>
    if v10.2 = true then
      (z0S a1).bind fun v11 =>
      if v11 = true then
        (z0D a1).bind fun v12 =>
        if ((z3Q v12 v10.1.number).isSome) = true then
          some ((z3Q v12 v10.1.number).getD 0)
        else
          some (-1)
      else
        some (-1)
    else
      some (-1)
instance enumerate_Find_ok {a0 : Enm} {a1 : List Int} : Ok (z1Q a0 a1) (fun r => L 24 [.agg [.sc (.int .i64 a0.points), .sc (.bool a0.monoid), .sl a0.gens.length (a0.gens.map fun x0 => .sl x0.length (x0.map fun x1 => .sc (.int .i64 x1))), .sl a0.elems.length (a0.elems.map fun x0 => .sl x0.length (x0.map fun x1 => .sc (.int .i64 x1))), .sl a0.pre.length (a0.pre.map fun x0 => .sc (.int .i64 x0)), .sl a0.last.length (a0.last.map fun x0 => .sc (.int .i64 x0)), .sl a0.right.length (a0.right.map fun x0 => .sl x0.length (x0.map fun x1 => .sc (.int .i64 x1))), .sl a0.rules.length (a0.rules.flatMap fun x0 => [.sc (.string x0.left), .sc (.string x0.right)]), .sc (.int .i64 a0.done)], .sl a1.length (a1.map fun x0 => .sc (.int .i64 x0))] = some (.sc (.int .i64 r), [.dead, .dead])) := ⟨fun r h => by have h := z5e h; unfold z1Q at h; exact z5W zn8 zol zpj⟩
end
end
section
open Go
set_option linter.unusedSectionVars false
set_option maxRecDepth 100000
noncomputable def itR (r : Eru) : Nat -> Eru
  | 0 => r
  | k + 1 => ((z0k (itR r k)).getD (0, r)).2
theorem zea (a : List (List Int)) (h : a.length < 4611686018427387904) (hr : ∀ r ∈ a, r.length < 4611686018427387904) : z0c a a = some true := by
  unfold z0c
  rw [if_pos rfl, z6J a.length h (fun _ => true) (fun k hk => ?_) (by simp only [z0d]; rw [if_neg (by omega)])]
  · simp
  · simp only [z0d]
    rw [if_pos (by omega), z0h [] hk, Option.bind_some, Option.bind_some, zaS _ (hr _ (z4B [] hk)), Option.bind_some, if_pos rfl, z2d (by omega)]
    simp
section
variable {n m : Nat} {G : List (List Int)} {mono : Bool} (hG : GenP n m G) (h3 : n <= 3)
include hG h3
theorem zlL {r : Eru} (hI : EnI n m G mono m r) : z1i r r.e = some (true, r) := by
  have hl := hI.le hG h3
  have h1 := hI.lp
  have h2 := hI.ll
  have hd := hI.dl
  have hm2 := hG.m2
  unfold z1i
  rw [if_pos rfl, if_pos rfl, zea _ (by omega) (fun f hf => by rw [(hI.tr f hf).len]; omega), Option.bind_some, if_pos rfl, zaS _ (by omega), Option.bind_some, if_pos rfl, zaS _ (by omega), Option.bind_some, if_pos rfl, zea _ (by omega) (fun f hf => by
    obtain ⟨i, hi, rfl⟩ := zac [] hf
    rw [(hI.rt i hi).1]; omega), Option.bind_some, if_pos rfl]
  simp [zl6]
theorem zj6 {r : Eru} (hI : EnI n m G mono m r) (h0 : r.e.right = []) (hr : r.e.rules.length <= m) : ∃ K, (∀ k, k < K -> EnI n m G mono m (itR r k) /\ (itR r k).e.right.length = k /\ k < (itR r k).e.elems.length /\ z0k (itR r k) = some (0, itR r (k + 1))) /\ EnI n m G mono m (itR r K) /\ (itR r K).e.right.length = K /\ (itR r K).e.elems.length = K := by
  have key : ∀ d, ((∀ k, k < d -> EnI n m G mono m (itR r k) /\ (itR r k).e.right.length = k /\ k < (itR r k).e.elems.length /\ z0k (itR r k) = some (0, itR r (k + 1))) /\ EnI n m G mono m (itR r d) /\ (itR r d).e.right.length = d /\ (itR r d).e.rules.length <= m + m * d) ∨ ∃ K, (∀ k, k < K -> EnI n m G mono m (itR r k) /\ (itR r k).e.right.length = k /\ k < (itR r k).e.elems.length /\ z0k (itR r k) = some (0, itR r (k + 1))) /\ EnI n m G mono m (itR r K) /\ (itR r K).e.right.length = K /\ (itR r K).e.elems.length = K := by
    intro d
    induction d with
    | zero => exact .inl ⟨fun k hk => by omega, hI, by simp [itR, h0], by simpa [itR] using hr⟩
    | succ d ih =>
      rcases ih with ⟨a1, a2, a3, a4⟩ | h
      · by_cases e : d < (itR r d).e.elems.length
        · left
          obtain ⟨r', b1, b2, b3, b4⟩ := zcV hG h3 a2 (by omega) (by rw [a3]; exact a4)
          have er : itR r (d + 1) = r' := by simp [itR, b1]
          refine ⟨fun k hk => ?_, by rw [er]; exact b2, by rw [er, b3, a3], by rw [er]; rw [b3, a3] at b4; exact b4⟩
          by_cases ek : k = d
          · subst ek; exact ⟨a2, a3, e, by rw [er]; exact b1⟩
          · exact a1 k (by omega)
        · right
          have := a2.dl
          exact ⟨d, a1, a2, a3, by omega⟩
      · exact .inr h
  rcases key 28 with ⟨a1, a2, a3, a4⟩ | h
  · exfalso
    have := a2.dl
    have := a2.le hG h3
    omega
  · exact h
theorem zgC (mono : Bool) : ∃ r, EnI n m G mono m r /\ r.e.right.length = r.e.elems.length /\ z0Z G mono = some (r.e, 0) /\ z0u r.e = some (.inr (r, true)) := by
  obtain ⟨r0, e1, hI, h0, hr⟩ := zgH hG h3 mono
  obtain ⟨K, hk, hK, hKr, hKe⟩ := zj6 hG h3 hI h0 hr
  have hK27 := hK.le hG h3
  refine ⟨itR r0 K, hK, by omega, ?_, ?_⟩
  · unfold z0Z
    rw [e1, Option.bind_some]
    simp only [if_true]
    refine z1J K (fun k => ((itR r0 k).e.points, (itR r0 k).e.monoid, (itR r0 k).e.gens, (itR r0 k).e.elems, (itR r0 k).e.pre, (itR r0 k).e.last, (itR r0 k).e.right, (itR r0 k).e.rules, (itR r0 k).e.done, (itR r0 k).number, (itR r0 k).words, (itR r0 k).behind, (itR r0 k).single)) rfl (by simp only [LFm]; omega) (fun k hk1 => ?_) ?_
    · obtain ⟨a1, a2, a3, a4⟩ := hk k hk1
      simp only [z1f, z0g]
      rw [Option.bind_some, decide_eq_false (by rw [a1.dn]; omega), if_neg (by simp), z5a, a4, Option.bind_some, if_pos rfl]
    · simp only [z1f, z0g]
      rw [Option.bind_some, decide_eq_true (by rw [hK.dn]; omega), if_pos rfl]
  · unfold z0u
    rw [hK.gens, hK.mon, e1, Option.bind_some]
    simp only [if_true]
    refine z1J K (fun k => ((itR r0 k).e.points, (itR r0 k).e.monoid, (itR r0 k).e.gens, (itR r0 k).e.elems, (itR r0 k).e.pre, (itR r0 k).e.last, (itR r0 k).e.right, (itR r0 k).e.rules, (itR r0 k).e.done, (itR r0 k).number, (itR r0 k).words, (itR r0 k).behind, (itR r0 k).single)) rfl (by simp only [LFm]; omega) (fun k hk1 => ?_) ?_
    · obtain ⟨a1, a2, a3, a4⟩ := hk k hk1
      simp only [z0V, z0g]
      rw [if_pos (by rw [a1.dn, hK.dn]; omega), Option.bind_some, decide_eq_false (by rw [a1.dn]; omega), if_neg (by simp), z5a, a4, Option.bind_some, if_pos rfl]
    · simp only [z0V]
      rw [if_neg (by omega), z5a, zlL hG h3 hK, Option.bind_some]
end
end
section
open Go
set_option linter.unusedSectionVars false
set_option maxRecDepth 100000
structure Fin' (n m : Nat) (G : List (List Int)) (mono : Bool) (r : Eru) : Prop where
  I : EnI n m G mono m r
  fin : r.e.right.length = r.e.elems.length
def pix (r : Eru) (i j : Nat) : Nat := r.e.elems.idxOf (z5f (r.e.elems.getD i []) (r.e.elems.getD j []))
def z9n (r : Eru) : List (List Int) := (List.range r.e.elems.length).map fun i => (List.range r.e.elems.length).map fun j => ((pix r i j : Nat) : Int)
def gix (r : Eru) (G : List (List Int)) (x : Nat) : Nat := r.e.elems.idxOf (G.getD x [])
def zd9 (r : Eru) (G : List (List Int)) (m : Nat) : List (List Int) := (List.range r.e.elems.length).map fun i => (List.range m).map fun x => ((pix r (gix r G x) i : Nat) : Int)
section
variable {n m : Nat} {G : List (List Int)} {mono : Bool} (hG : GenP n m G) (h3 : n <= 3) {r : Eru} (hF : Fin' n m G mono r)
include hG h3 hF
theorem zbj {i : Nat} (h : i < r.e.elems.length) : Tr n (r.e.elems.getD i []) := hF.I.tr _ (z4B [] h)
theorem zaR {i x : Nat} (h : i < r.e.elems.length) (hx : x < m) : z5f (r.e.elems.getD i []) (G.getD x []) ∈ r.e.elems /\ (r.e.right.getD i []).length = m /\ (r.e.right.getD i []).getD x 0 = ((r.e.elems.idxOf (z5f (r.e.elems.getD i []) (G.getD x [])) : Nat) : Int) := by
  obtain ⟨a, b⟩ := hF.I.rt i (by rw [hF.fin]; exact h)
  exact ⟨(b x hx).1, a, (b x hx).2⟩
theorem zhN : ∀ j, j < r.e.elems.length -> ∀ i, i < r.e.elems.length -> z5f (r.e.elems.getD i []) (r.e.elems.getD j []) ∈ r.e.elems := by
  intro j
  induction j using Nat.strongRecOn with
  | ind j ih =>
    intro hj i hi
    rcases hF.I.nod j hj with ⟨_, e, _⟩ | ⟨x, hx, _, ⟨_, e⟩ | ⟨p, hp, _, e⟩⟩
    · rw [e, zgW (zbj hG h3 hF hi)]; exact z4B [] hi
    · rw [e]; exact (zaR hG h3 hF hi hx).1
    · have h1 := ih p hp (by omega) i hi
      obtain ⟨q, hq, hqe⟩ := zac [] h1
      rw [e, ← zew (zbj hG h3 hF hi) (zbj hG h3 hF (by omega)), ← hqe]
      exact (zaR hG h3 hF hq hx).1
theorem z5F {i j : Nat} (hi : i < r.e.elems.length) (hj : j < r.e.elems.length) : pix r i j < r.e.elems.length /\ r.e.elems.getD (pix r i j) [] = z5f (r.e.elems.getD i []) (r.e.elems.getD j []) := z6k [] (zhN hG h3 hF j hj i hi)
theorem z3E {x : Nat} (hx : x < m) : gix r G x < r.e.elems.length /\ r.e.elems.getD (gix r G x) [] = G.getD x [] := z6k [] (hF.I.sg x hx).1
theorem z3p {i x : Nat} (h : i < r.e.elems.length) (hx : x < m) : atI r.e.right (i : Int) = some (r.e.right.getD i []) /\ atI (r.e.right.getD i []) (x : Int) = some ((pix r i (gix r G x) : Nat) : Int) := by
  obtain ⟨a, b, c⟩ := zaR hG h3 hF h hx
  refine ⟨z0h [] (by rw [hF.fin]; exact h), ?_⟩
  rw [z0h 0 (by rw [b]; exact hx), c]
  unfold pix
  rw [(z3E hG h3 hF hx).2]
theorem zbO {i j k : Nat} (hi : i < r.e.elems.length) (hj : j < r.e.elems.length) (hk : k < r.e.elems.length) (h : z5f (r.e.elems.getD i []) (r.e.elems.getD j []) = r.e.elems.getD k []) : pix r i j = k := by
  unfold pix; rw [h]; exact zgg [] hF.I.nd hk
theorem zb0 {i j k : Nat} (hi : i < r.e.elems.length) (hj : j < r.e.elems.length) (hk : k < r.e.elems.length) : pix r (pix r i j) k = pix r i (pix r j k) := by
  obtain ⟨a1, a2⟩ := z5F hG h3 hF hi hj
  obtain ⟨b1, b2⟩ := z5F hG h3 hF hj hk
  obtain ⟨c1, c2⟩ := z5F hG h3 hF hi b1
  refine zbO hG h3 hF a1 hk c1 ?_
  rw [a2, c2, b2, zew (zbj hG h3 hF hi) (zbj hG h3 hF hj)]
theorem z8E {j : Nat} (hj : j < r.e.elems.length) : (r.e.last.getD j 0 = -1 /\ (∀ i, i < r.e.elems.length -> pix r i j = i) /\ (∀ i, i < r.e.elems.length -> pix r j i = i) /\ mono = true) ∨ ∃ x, x < m /\ r.e.last.getD j 0 = ((x : Nat) : Int) /\ ((r.e.pre.getD j 0 = -1 /\ j = gix r G x) ∨ ∃ p, p < j /\ r.e.pre.getD j 0 = ((p : Nat) : Int) /\ j = pix r p (gix r G x)) := by
  rcases hF.I.nod j hj with ⟨a, e, b⟩ | ⟨x, hx, a, ⟨b, e⟩ | ⟨p, hp, b, e⟩⟩
  · refine .inl ⟨a, fun i hi => zbO hG h3 hF hi hj hi (by rw [e, zgW (zbj hG h3 hF hi)]), fun i hi => zbO hG h3 hF hj hi hi (by rw [e, zgZ (zbj hG h3 hF hi)]), b⟩
  · refine .inr ⟨x, hx, a, .inl ⟨b, ?_⟩⟩
    unfold gix; rw [← e]; exact (zgg [] hF.I.nd hj).symm
  · refine .inr ⟨x, hx, a, .inr ⟨p, hp, b, ?_⟩⟩
    obtain ⟨g1, g2⟩ := z3E hG h3 hF hx
    exact (zbO hG h3 hF (by omega) g1 hj (by rw [g2]; exact e.symm)).symm
theorem zfH (hr : z0u r.e = some (.inr (r, true))) : z1v r.e = some (z9n r, 0) := by
  have hl := hF.I.le hG h3
  have h1 := hF.I.lp
  have h2 := hF.I.ll
  unfold z1v
  rw [hr, Option.bind_some]
  simp only [if_true, z0g]
  rw [Option.bind_some]
  simp only
  rw [decide_eq_true (by rw [hF.I.dn, hF.fin]), if_pos rfl, if_neg (by omega), z0F _ (by unfold z1I; omega), Int.toNat_natCast]
  refine z4d r.e.elems.length (by omega) (fun i => (List.range r.e.elems.length).map fun j => ((pix r i j : Nat) : Int)) [] (fun i hi => ?_) ?_
  · simp only [z1e]
    obtain ⟨T0, hT0⟩ : ∃ T0, (List.range i).map (fun i => (List.range r.e.elems.length).map fun j => ((pix r i j : Nat) : Int)) ++ List.replicate (r.e.elems.length - i) ([] : List Int) = T0 := ⟨_, rfl⟩
    have hT0l : T0.length = r.e.elems.length := by rw [← hT0, z3G _ _ (by omega)]
    rw [hT0, if_pos (by omega), z0F _ (by unfold z1I; omega), z0h [] (by omega), Option.bind_some, Int.toNat_natCast, Int.toNat_natCast]
    refine z1J r.e.elems.length (fun j => ((j : Int), T0.set i ((List.range j).map (fun j => ((pix r i j : Nat) : Int)) ++ List.replicate (r.e.elems.length - j) 0))) (by simp) (by simp only [LFm]; omega) (fun j hj => ?_) ?_
    · simp only [z1d]
      have hrow : (T0.set i ((List.range j).map (fun j => ((pix r i j : Nat) : Int)) ++ List.replicate (r.e.elems.length - j) 0)).getD i [] = (List.range j).map (fun j => ((pix r i j : Nat) : Int)) ++ List.replicate (r.e.elems.length - j) 0 := by
        rw [List.getD, List.getElem?_set, if_pos rfl, if_pos (by omega)]; rfl
      have hrl : ((List.range j).map (fun j => ((pix r i j : Nat) : Int)) ++ List.replicate (r.e.elems.length - j) (0 : Int)).length = r.e.elems.length := z3G _ _ (by omega)
      have hset : ∀ v : Int, v = ((pix r i j : Nat) : Int) -> (T0.set i ((List.range j).map (fun j => ((pix r i j : Nat) : Int)) ++ List.replicate (r.e.elems.length - j) 0)).set i (((List.range j).map (fun j => ((pix r i j : Nat) : Int)) ++ List.replicate (r.e.elems.length - j) 0).set j v) = T0.set i ((List.range (j + 1)).map (fun j => ((pix r i j : Nat) : Int)) ++ List.replicate (r.e.elems.length - (j + 1)) 0) := by
        rintro v rfl
        rw [List.set_set, z8w (fun j => ((pix r i j : Nat) : Int)) 0 hj]
      rw [if_pos (by omega), z0h 0 (by omega), Option.bind_some, z0h 0 (by omega), Option.bind_some, z0h [] (by rw [List.length_set]; omega), hrow, z2d (by omega)]
      simp only [Option.bind_some, Int.toNat_natCast]
      rcases z8E hG h3 hF hj with ⟨a, b, _⟩ | ⟨x, hx, a, ⟨b, e⟩ | ⟨p, hp, b, e⟩⟩
      · rw [a, if_pos (by omega), z0h 0 (by omega), Option.bind_some, hset _ (by rw [b i hi])]
      · obtain ⟨c1, c2⟩ := z3p hG h3 hF hi hx
        rw [a, b, if_neg (by omega), if_pos (by omega), c1, Option.bind_some, c2, Option.bind_some, z0h 0 (by omega), Option.bind_some, hset _ (by rw [← e])]
      · obtain ⟨p1, p2⟩ := z5F hG h3 hF hi (show p < _ by omega)
        obtain ⟨c1, c2⟩ := z3p hG h3 hF p1 hx
        rw [a, b, if_neg (by omega), if_neg (by omega), z0h 0 (by omega), zce (fun j => ((pix r i j : Nat) : Int)) 0 0 hp, Option.bind_some, c1, Option.bind_some, c2, Option.bind_some, z0h 0 (by omega), Option.bind_some, hset _ (by
          rw [zb0 hG h3 hF hi (by omega) (z3E hG h3 hF hx).1, ← e])]
    · simp only [z1d]
      rw [if_neg (by omega), z2d (by omega)]
      simp only [Nat.sub_self, List.replicate_zero, List.append_nil]
  · simp only [z1e]
    rw [if_neg (by omega)]
    rfl
end
end
section
open Go
noncomputable section
set_option maxRecDepth 100000
set_option maxHeartbeats 6000000
abbrev z2y (a0 : List (List Int)) (w22 : Int) (v28 : List Int) : Int -> Option (Int ⊕ (Int ⊕ Int))
  | w30 =>
  if w30 < (v28.length : Int) then
    (atI v28 w30).bind fun v32 =>
    if v32 < 0 then
      z0p <|
      z0p <|
      some 4
    else
      if (a0.length : Int) <= v32 then
        z0p <|
        z0p <|
        some 4
      else
        z0J (IntKind.i64.wrap (w30 + 1))
  else
    z0p <|
    z0J (IntKind.i64.wrap (w22 + 1))
instance {a0 : List (List Int)} {w22 : Int} {v28 : List Int} : Hd (z2y a0 w22 v28) := ⟨fun w30 => ([(26, xI w30)], [])⟩
abbrev z2P (a0 : List (List Int)) : Int -> Option (Int ⊕ Int)
  | w22 =>
  if w22 < (a0.length : Int) then
    (atI a0 w22).bind fun v28 =>
    if (v28.length : Int) = (a0.length : Int) then
      z0C (z2y a0 w22 v28) LFm 0
    else
      z0p <|
      some 4
  else
    z0p <|
    some 0
instance {a0 : List (List Int)} : Hd (z2P a0) := ⟨fun w22 => ([(15, xI w22)], [])⟩
def z2S (a0 : List (List Int)) : Option (Int) :=
  if 400 < (a0.length : Int) then
    some 3
  else
    if (a0.length : Int) = 0 then
      some 4
    else
      z0C (z2P a0) LFm 0
instance mult_shape_ok {a0 : List (List Int)} : Ok (z2S a0) (fun r => L 49 [.sl a0.length (a0.map fun x0 => .sl x0.length (x0.map fun x1 => .sc (.int .i64 x1)))] = some (.sc (.int .i64 r), [.dead])) := ⟨fun r h => by have h := z5e h; unfold z2S at h; exact z5W zmZ zoc zpa⟩
abbrev z1c (a0 : List (List Int)) (a1 : List Int) : Int -> Option (Int ⊕ Bool)
  | w6 =>
  if w6 < (a1.length : Int) then
    (atI a1 w6).bind fun v8 =>
    if v8 < 0 then
      z0p <|
      some false
    else
      if (a0.length : Int) <= v8 then
        z0p <|
        some false
      else
        z0J (IntKind.i64.wrap (w6 + 1))
  else
    z0p <|
    some true
instance {a0 : List (List Int)} {a1 : List Int} : Hd (z1c a0 a1) := ⟨fun w6 => ([(9, xI w6)], [])⟩
def z0P (a0 : List (List Int)) (a1 : List Int) : Option (Bool) :=
  z0C (z1c a0 a1) LFm 0
instance mult_areElements_ok {a0 : List (List Int)} {a1 : List Int} : Ok (z0P a0 a1) (fun r => L 58 [.sl a0.length (a0.map fun x0 => .sl x0.length (x0.map fun x1 => .sc (.int .i64 x1))), .sl a1.length (a1.map fun x0 => .sc (.int .i64 x0))] = some (.sc (.bool r), [.dead, .dead])) := ⟨fun r h => by have h := z5e h; unfold z0P at h; exact z5W zmU zo7 zp5⟩
abbrev z1b (w248 : Int) (v263 : List Int) (v265 : List Int) (v266 : List Int) : Int -> Option (Int ⊕ (Int ⊕ ((Int × List Bool) ⊕ Bool)))
  | w270 =>
  if w270 < (v266.length : Int) then
    (atI v266 w270).bind fun v274 =>
    (atI v265 w270).bind fun v275 =>
    (atI v263 v274).bind fun v276 =>
    if v275 = v276 then
      z0J (IntKind.i64.wrap (w270 + 1))
    else
      z0p <|
      z0p <|
      z0p <|
      some false
  else
    z0p <|
    z0J (IntKind.i64.wrap (w248 + 1))
instance {w248 : Int} {v263 : List Int} {v265 : List Int} {v266 : List Int} : Hd (z1b w248 v263 v265 v266) := ⟨fun w270 => ([(47, xI w270)], [])⟩
abbrev z0R (a0 : List (List Int)) (w183 : Int) (w184 : List Bool) (v231 : Int) : Int -> Option (Int ⊕ ((Int × List Bool) ⊕ Bool))
  | w248 =>
  if w248 < (a0.length : Int) then
    (atI a0 w248).bind fun v263 =>
    (atI v263 v231).bind fun v264 =>
    (atI a0 v264).bind fun v265 =>
    (atI a0 v231).bind fun v266 =>
    z0C (z1b w248 v263 v265 v266) LFm 0
  else
    z0p <|
    z0J (IntKind.i64.wrap (w183 + 1), (w184.set v231.toNat true))
instance {a0 : List (List Int)} {w183 : Int} {w184 : List Bool} {v231 : Int} : Hd (z0R a0 w183 w184 v231) := ⟨fun w248 => ([(31, xI w248)], [])⟩
abbrev z1p (a0 : List (List Int)) (a1 : List Int) : Int × List Bool -> Option ((Int × List Bool) ⊕ Bool)
  | (w183, w184) =>
  if w183 < (a1.length : Int) then
    (atI a1 w183).bind fun v231 =>
    (atI w184 v231).bind fun v232 =>
    if v232 = true then
      z0J (IntKind.i64.wrap (w183 + 1), w184)
    else
      z0C (z0R a0 w183 w184 v231) LFm 0
  else
    z0p <|
    some true
instance {a0 : List (List Int)} {a1 : List Int} : Hd (z1p a0 a1) := ⟨fun (w183, w184) => ([(18, xI w183)], [(5, .os 1 w184.length (w184.map fun x0 => .sc (.bool x0)))])⟩
def z0X (a0 : List (List Int)) (a1 : List Int) : Option (Bool) :=
  chk (z1I 1 (a0.length : Int)) <|
  z0C (z1p a0 a1) LFm (0, List.replicate (a0.length : Int).toNat (false : Bool))
instance mult_associates_ok {a0 : List (List Int)} {a1 : List Int} : Ok (z0X a0 a1) (fun r => L 50 [.sl a0.length (a0.map fun x0 => .sl x0.length (x0.map fun x1 => .sc (.int .i64 x1))), .sl a1.length (a1.map fun x0 => .sc (.int .i64 x0))] = some (.sc (.bool r), [.dead, .dead])) := ⟨fun r h => by have h := z5e h; unfold z0X at h; exact z5W zmY zob zp9⟩
def z2r (a0 : List (List Int)) (a1 : List Int) : Option (Bool) :=
  (z2S a0).bind fun v4 =>
  if v4 = 0 then
    (z0P a0 a1).bind fun v5 =>
    if v5 = true then
      (z0X a0 a1).bind fun v6 =>
      some v6
    else
      some false
  else
    some false
instance mult_Light_ok {a0 : List (List Int)} {a1 : List Int} : Ok (z2r a0 a1) (fun r => L 26 [.sl a0.length (a0.map fun x0 => .sl x0.length (x0.map fun x1 => .sc (.int .i64 x1))), .sl a1.length (a1.map fun x0 => .sc (.int .i64 x0))] = some (.sc (.bool r), [.dead, .dead])) := ⟨fun r h => by have h := z5e h; unfold z2r at h; exact z5W zn6 zoj zph⟩
abbrev z3z (a0 : List (List Int)) (a1 : List Int) : Int -> Option (Int ⊕ Bool)
  | w6 =>
  if w6 < (a1.length : Int) then
    (atI a1 w6).bind fun v8 =>
    if v8 < 0 then
      z0p <|
      some false
    else
      if (a0.length : Int) <= v8 then
        z0p <|
        some false
      else
        z0J (IntKind.i64.wrap (w6 + 1))
  else
    z0p <|
    some true
instance {a0 : List (List Int)} {a1 : List Int} : Hd (z3z a0 a1) := ⟨fun w6 => ([(9, xI w6)], [])⟩
def z3A (a0 : List (List Int)) (a1 : List Int) : Option (Bool) :=
  z0C (z3z a0 a1) LFm 0
instance ref14_In_ok {a0 : List (List Int)} {a1 : List Int} : Ok (z3A a0 a1) (fun r => L 25 [.sl a0.length (a0.map fun x0 => .sl x0.length (x0.map fun x1 => .sc (.int .i64 x1))), .sl a1.length (a1.map fun x0 => .sc (.int .i64 x0))] = some (.sc (.bool r), [.dead, .dead])) := ⟨fun r h => by have h := z5e h; unfold z3A at h; exact z5W zn7 zok zpi⟩
end
end
section
open Go
set_option maxRecDepth 100000
structure ValP (t : List (List Int)) : Prop where
  pos : 0 < t.length
  le : t.length <= 400
  row : ∀ r ∈ t, r.length = t.length /\ ∀ x ∈ r, 0 <= x /\ x < t.length
  shp : z2S t = some 0
  ass : ∀ gs : List Nat, gs.Sublist (List.range t.length) -> z0X t (gs.map fun g => ((g : Nat) : Int)) = some true
open Classical in
noncomputable def zfG (t : List (List Int)) : Option Int := if ValP t then some 0 else none
theorem zhh {t : List (List Int)} (h : ValP t) : zfG t = some 0 := by unfold zfG; rw [if_pos h]
def ziD : List Nat -> List (List Nat)
  | [] => [[]]
  | a :: l => ziD l ++ (ziD l).map (a :: ·)
theorem z8u : ∀ {l g : List Nat}, g ∈ ziD l ↔ g.Sublist l
  | [], g => by simp [ziD]
  | a :: l, g => by
    simp only [ziD, List.mem_append, List.mem_map, List.sublist_cons_iff, z8u]
    constructor
    · rintro (h | ⟨x, h, rfl⟩)
      · exact .inl h
      · exact .inr ⟨x, rfl, h⟩
    · rintro (h | ⟨x, rfl, h⟩)
      · exact .inl h
      · exact .inr ⟨x, h, rfl⟩
theorem zh2 {α : Type} {p : α -> Nat -> Prop} : ∀ (l : List α), (∀ a ∈ l, Ev (p a)) -> Ev fun m => ∀ a ∈ l, p a m
  | [], _ => ⟨0, fun m _ a ha => by cases ha⟩
  | a :: l, h => by
    refine (h a (by simp)).both (zh2 l fun b hb => h b (by simp [hb])) fun m h1 h2 b hb => ?_
    rcases List.mem_cons.1 hb with e | hb
    · subst e; exact h1
    · exact h2 b hb
theorem zf6 {f : FuncId} {args : List T} {o : T × List T} (h : L f args = some o) : Ev fun m => z0U Tryz.prog xt z1g m f args = some o := zep h
theorem zh9 {C : z0b} {t : List (List Int)} (h : ValC C t) : ziA C [.sl t.length (t.map zaU)] = some (.sc (.int .i64 0), [.dead]) := by
  unfold ziA; rw [if_pos ⟨t, rfl, h⟩]
instance {a0 : List (List Int)} : Ok (zfG a0) (fun r => L 18 [.sl a0.length (a0.map fun x0 => .sl x0.length (x0.map fun x1 => .sc (.int .i64 x1)))] = some (.sc (.int .i64 r), [.dead])) := ⟨fun r h => by
  unfold zfG at h
  split at h
  case isFalse => cases h
  rename_i hv
  cases h
  have e1 := zf6 (mult_shape_ok.ok _ hv.shp)
  have e2 := zh2 (p := fun (gs : List Nat) m => z0U Tryz.prog xt z1g m 50 [.sl a0.length (a0.map zaU), .sl gs.length (gs.map fun g => .sc (.int .i64 ((g : Nat) : Int)))] = some (.sc (.bool true), [.dead, .dead])) (ziD (List.range a0.length)) fun gs hg => by
    have := mult_associates_ok.ok _ (hv.ass gs (z8u.1 hg))
    simp only [List.length_map, List.map_map] at this
    exact zf6 this
  refine zbX rfl (e1.both e2 fun m h1 h2 => ?_)
  simp only [xt, xtF, Nat.reduceEqDiff, if_true, if_false]
  exact zh9 ⟨hv.pos, hv.le, hv.row, h1, fun gs hg => h2 gs (z8u.2 hg)⟩⟩
end
section
open Go
noncomputable section
set_option maxRecDepth 100000
set_option maxHeartbeats 6000000
def z4n (a0 : List (List Int)) : Option (Bool) :=
  (zfG a0).bind fun v2 =>
  some (decide (v2 = 0))
instance mult_valid_ok {a0 : List (List Int)} : Ok (z4n a0) (fun r => L 91 [.sl a0.length (a0.map fun x0 => .sl x0.length (x0.map fun x1 => .sc (.int .i64 x1)))] = some (.sc (.bool r), [.dead])) := ⟨fun r h => by have h := z5e h; unfold z4n at h; exact z5W zmM znZ zoX⟩
def z6y (a0 : List (List Int)) (a1 : List Int) : Option (Bool) :=
  (z0P a0 a1).bind fun v3 =>
  if v3 = true then
    (z4n a0).bind fun v4 =>
    some v4
  else
    some false
instance mult_has_ok {a0 : List (List Int)} {a1 : List Int} : Ok (z6y a0 a1) (fun r => L 52 [.sl a0.length (a0.map fun x0 => .sl x0.length (x0.map fun x1 => .sc (.int .i64 x1))), .sl a1.length (a1.map fun x0 => .sc (.int .i64 x0))] = some (.sc (.bool r), [.dead, .dead])) := ⟨fun r h => by have h := z5e h; unfold z6y at h; exact z5W zmX zoa zp8⟩
end
end
section
open Go
set_option maxRecDepth 100000
structure GenQ (t : List (List Int)) (gs : List Int) : Prop where
  pos : 0 < t.length
  le : t.length <= 400
  row : ∀ r ∈ t, r.length = t.length /\ ∀ x ∈ r, 0 <= x /\ x < t.length
  rg : ∀ g ∈ gs, 0 <= g /\ g < t.length
  ass : ∀ x y z : Int, 0 <= x -> x < t.length -> 0 <= y -> y < t.length -> 0 <= z -> z < t.length -> tbI (zaQ t) (tbI (zaQ t) x y) z = tbI (zaQ t) x (tbI (zaQ t) y z)
  all : ∀ y : Int, 0 <= y -> y < t.length -> Wd (tbI (zaQ t)) gs y
  has : z6y t gs = some true
open Classical in
noncomputable def zgS (t : List (List Int)) (gs : List Int) : Option (List Int) := if GenQ t gs then some ((List.range t.length).map fun i => ((i : Nat) : Int)) else none
theorem zhi {t : List (List Int)} {gs : List Int} (h : GenQ t gs) : zgS t gs = some ((List.range t.length).map fun i => ((i : Nat) : Int)) := by unfold zgS; rw [if_pos h]
theorem zha {C : z0b} {t : List (List Int)} {gs : List Int} (h : GenC C t gs) : ziB C [.sl t.length (t.map zaU), .sl gs.length (gs.map fun g => .sc (.int .i64 g))] = some (.sl t.length ((List.range t.length).map fun i => .sc (.int .i64 ((i : Nat) : Int))), [.dead, .dead]) := by
  unfold ziB; rw [if_pos ⟨t, gs, rfl, h⟩]
instance {a0 : List (List Int)} {a1 : List Int} : Ok (zgS a0 a1) (fun r => L 27 [.sl a0.length (a0.map fun x0 => .sl x0.length (x0.map fun x1 => .sc (.int .i64 x1))), .sl a1.length (a1.map fun x0 => .sc (.int .i64 x0))] = some (.sl r.length (r.map fun x0 => .sc (.int .i64 x0)), [.dead, .dead])) := ⟨fun r h => by
  unfold zgS at h
  split at h
  case isFalse => cases h
  rename_i hv
  cases h
  simp only [List.length_map, List.length_range, List.map_map]
  refine zbX rfl ((zf6 (mult_has_ok.ok _ hv.has)).imp fun m h1 => ?_)
  simp only [xt, xtF, Nat.reduceEqDiff, if_true, if_false]
  exact zha ⟨hv.pos, hv.le, hv.row, hv.rg, hv.ass, hv.all, h1⟩⟩
end
section
open Go
set_option linter.unusedSectionVars false
set_option maxRecDepth 100000
section
variable {n m : Nat} {G : List (List Int)} {mono : Bool} (hG : GenP n m G) (h3 : n <= 3) {r : Eru} (hF : Fin' n m G mono r) (hr : z0u r.e = some (.inr (r, true)))
include hG h3 hF
theorem zes {j : Nat} (hj : j < r.e.elems.length) (h : r.e.last.getD j 0 = -1) : j = 0 /\ mono = true := by
  rcases hF.I.nod j hj with ⟨_, e, hm⟩ | ⟨x, _, e, _⟩
  · obtain ⟨z0, z1⟩ := hF.I.mz hm
    have a := zgg [] hF.I.nd hj
    have b := zgg [] hF.I.nd z0
    rw [e, ← z1, b] at a
    exact ⟨a.symm, hm⟩
  · omega
include hr
theorem zi4 : z1P r.e = some (zd9 r G m) := by
  have hl := hF.I.le hG h3
  have h1 := hF.I.lp
  have h2 := hF.I.ll
  have hm2 := hG.m2
  unfold z1P z0I
  rw [hr, Option.bind_some]
  simp only [if_true, z0g]
  rw [Option.bind_some, Option.bind_some]
  simp only
  rw [decide_eq_true (by rw [hF.I.dn, hF.fin]), if_pos rfl, z0F _ (by unfold z1I; omega), Int.toNat_natCast]
  refine z4d r.e.elems.length (by omega) (fun i => (List.range m).map fun x => ((pix r (gix r G x) i : Nat) : Int)) [] (fun i hi => ?_) ?_
  · simp only [z1H]
    obtain ⟨T0, hT0⟩ : ∃ T0, (List.range i).map (fun i => (List.range m).map fun x => ((pix r (gix r G x) i : Nat) : Int)) ++ List.replicate (r.e.elems.length - i) ([] : List Int) = T0 := ⟨_, rfl⟩
    have hT0l : T0.length = r.e.elems.length := by rw [← hT0, z3G _ _ (by omega)]
    have hT0p : ∀ p, p < i -> T0.getD p [] = (List.range m).map fun x => ((pix r (gix r G x) p : Nat) : Int) := fun p hp => by rw [← hT0, zce (fun i => (List.range m).map fun x => ((pix r (gix r G x) i : Nat) : Int)) [] [] hp]
    rw [hT0, if_pos (by omega), hF.I.gens, hG.len, z0F _ (by unfold z1I; omega), z0h [] (by omega), Option.bind_some, Int.toNat_natCast, Int.toNat_natCast]
    refine z1J m (fun j => ((j : Int), T0.set i ((List.range j).map (fun x => ((pix r (gix r G x) i : Nat) : Int)) ++ List.replicate (m - j) 0))) (by simp) (by simp only [LFm]; omega) (fun j hj => ?_) ?_
    · simp only [z1r]
      have hrow : (T0.set i ((List.range j).map (fun x => ((pix r (gix r G x) i : Nat) : Int)) ++ List.replicate (m - j) 0)).getD i [] = (List.range j).map (fun x => ((pix r (gix r G x) i : Nat) : Int)) ++ List.replicate (m - j) 0 := by
        rw [List.getD, List.getElem?_set, if_pos rfl, if_pos (by omega)]; rfl
      have hrl : ((List.range j).map (fun x => ((pix r (gix r G x) i : Nat) : Int)) ++ List.replicate (m - j) (0 : Int)).length = m := z3G _ _ (by omega)
      have hset : ∀ v : Int, v = ((pix r (gix r G j) i : Nat) : Int) -> (T0.set i ((List.range j).map (fun x => ((pix r (gix r G x) i : Nat) : Int)) ++ List.replicate (m - j) 0)).set i (((List.range j).map (fun x => ((pix r (gix r G x) i : Nat) : Int)) ++ List.replicate (m - j) 0).set j v) = T0.set i ((List.range (j + 1)).map (fun x => ((pix r (gix r G x) i : Nat) : Int)) ++ List.replicate (m - (j + 1)) 0) := by
        rintro v rfl
        rw [List.set_set, z8w (fun x => ((pix r (gix r G x) i : Nat) : Int)) 0 hj]
      have hgj := z3E hG h3 hF hj
      rw [hF.I.sl, if_pos (by omega), z0h 0 (by rw [hF.I.sl]; exact hj), Option.bind_some, (hF.I.sg j hj).2, z0h 0 (by omega), Option.bind_some, z0h 0 (by omega), Option.bind_some, z0h [] (by rw [List.length_set]; omega), hrow, z2d (by omega)]
      simp only [Option.bind_some, Int.toNat_natCast]
      rcases z8E hG h3 hF hi with ⟨a, b, _⟩ | ⟨x, hx, a, ⟨b, e⟩ | ⟨p, hp, b, e⟩⟩
      · rw [a, if_pos (by omega), z0h 0 (by omega), Option.bind_some, hset _ (by rw [b _ hgj.1]; rfl)]
      · obtain ⟨c1, c2⟩ := z3p hG h3 hF hgj.1 hx
        unfold gix at c1 c2
        rw [a, b, if_neg (by omega), if_pos (by omega), c1, Option.bind_some, c2, Option.bind_some, z0h 0 (by omega), Option.bind_some, hset _ (by unfold gix at e ⊢; rw [← e])]
      · obtain ⟨p1, p2⟩ := z5F hG h3 hF hgj.1 (show p < _ by omega)
        obtain ⟨c1, c2⟩ := z3p hG h3 hF p1 hx
        rw [a, b, if_neg (by omega), if_neg (by omega), z0h [] (by rw [List.length_set]; omega), Option.bind_some, show (T0.set i ((List.range j).map (fun x => ((pix r (gix r G x) i : Nat) : Int)) ++ List.replicate (m - j) 0)).getD p [] = (List.range m).map fun x => ((pix r (gix r G x) p : Nat) : Int) by
          rw [← hT0p p hp, List.getD, List.getD, List.getElem?_set_ne (by omega)], z0h 0 (by simpa using hj), z3J 0 0 (by simpa using hj), Option.bind_some, show (List.range m).getD j 0 = j by simp [List.getD, hj], c1, Option.bind_some, c2, Option.bind_some, z0h 0 (by omega), Option.bind_some, hset _ (by
          rw [zb0 hG h3 hF hgj.1 (by omega) (z3E hG h3 hF hx).1, ← e])]
    · simp only [z1r]
      rw [hF.I.sl, if_neg (by omega), z2d (by omega)]
      simp only [Nat.sub_self, List.replicate_zero, List.append_nil]
  · simp only [z1H]
    rw [if_neg (by omega)]
    rfl
theorem zih {x : Nat} (hx : x < m) : z1Q r.e (G.getD x []) = some ((gix r G x : Nat) : Int) := by
  have hg := hG.get hx
  unfold z1Q
  rw [hr, Option.bind_some]
  simp only [if_true]
  rw [z6u hg hG.n1 (by omega), Option.bind_some, if_pos rfl, z5B hg (by omega), Option.bind_some, hF.I.num _ hg, if_pos (hF.I.sg x hx).1, if_pos (by rfl), Option.getD_some]
  rfl
end
structure TabOk (t : List (List Int)) (N : Nat) (p : Nat -> Nat -> Nat) : Prop where
  len : t.length = N
  pos : 0 < N
  le : N <= 400
  row : ∀ i, i < N -> (t.getD i []).length = N
  get : ∀ i j, i < N -> j < N -> (t.getD i []).getD j 0 = ((p i j : Nat) : Int)
  lt : ∀ i j, i < N -> j < N -> p i j < N
  ass : ∀ i j k, i < N -> j < N -> k < N -> p (p i j) k = p i (p j k)
section
variable {t : List (List Int)} {N : Nat} {p : Nat -> Nat -> Nat} (h : TabOk t N p)
include h
theorem zbD : ∀ r ∈ t, r.length = t.length /\ ∀ x ∈ r, 0 <= x /\ x < t.length := by
  intro r hr
  obtain ⟨i, hi, rfl⟩ := zac [] hr
  rw [h.len] at hi ⊢
  refine ⟨h.row i hi, fun x hx => ?_⟩
  obtain ⟨j, hj, rfl⟩ := zac 0 hx
  rw [h.row i hi] at hj
  rw [h.get i j hi hj]
  have := h.lt i j hi hj
  omega
theorem zbI : z2S t = some 0 := by
  have hl := h.len
  have h0 := h.pos
  have h4 := h.le
  unfold z2S
  rw [if_neg (by omega), if_neg (by omega)]
  refine z1J N (fun i => (i : Int)) rfl (by simp only [LFm]; omega) (fun i hi => ?_) ?_
  · simp only [z2P]
    rw [if_pos (by omega), z0h [] (by omega), Option.bind_some, if_pos (by rw [h.row i hi, hl])]
    refine z1J N (fun j => (j : Int)) rfl (by simp only [LFm]; omega) (fun j hj => ?_) ?_
    · simp only [z2y]
      have := h.lt i j hi hj
      rw [h.row i hi, if_pos (by omega), z0h 0 (by rw [h.row i hi]; exact hj), Option.bind_some, h.get i j hi hj, if_neg (by omega), if_neg (by omega), z2d (by omega)]
    · simp only [z2y]
      rw [h.row i hi, if_neg (by omega), z2d (by omega)]
  · simp only [z2P]
    rw [if_neg (by omega)]
theorem z9h {gs : List Int} (hg : ∀ g ∈ gs, 0 <= g /\ g < N) (hs : gs.length < 4611686018427387904) : z0P t gs = some true /\ z3A t gs = some true := by
  have hl := h.len
  constructor
  · unfold z0P
    refine z1J gs.length (fun i => (i : Int)) rfl (by simp only [LFm]; omega) (fun i hi => ?_) ?_
    · simp only [z1c]
      obtain ⟨a, b⟩ := hg _ (z4B 0 hi)
      rw [if_pos (by omega), z0h 0 hi, Option.bind_some, if_neg (by omega), if_neg (by omega), z2d (by omega)]
    · simp only [z1c]
      rw [if_neg (by omega)]
  · unfold z3A
    refine z1J gs.length (fun i => (i : Int)) rfl (by simp only [LFm]; omega) (fun i hi => ?_) ?_
    · simp only [z3z]
      obtain ⟨a, b⟩ := hg _ (z4B 0 hi)
      rw [if_pos (by omega), z0h 0 hi, Option.bind_some, if_neg (by omega), if_neg (by omega), z2d (by omega)]
    · simp only [z3z]
      rw [if_neg (by omega)]
theorem zct {gs : List Int} (hg : ∀ g ∈ gs, 0 <= g /\ g < N) (hs : gs.length < 4611686018427387904) : z0X t gs = some true := by
  have hl := h.len
  have h4 := h.le
  unfold z0X
  rw [z0F _ (by unfold z1I; omega), Int.toNat_natCast]
  obtain ⟨r, e1, e2⟩ := z2s (b := z1p t gs) (fun s => ∃ (k : Nat) (tr : List Bool), s = ((k : Int), tr) /\ k <= gs.length /\ tr.length = N) (fun s => gs.length - s.1.toNat) (fun r => r = true) (fun s hs' => by
    obtain ⟨k, tr, rfl, hk, htr⟩ := hs'
    simp only [z1p]
    by_cases hlt : k < gs.length
    · left
      obtain ⟨a, b⟩ := hg _ (z4B 0 hlt)
      obtain ⟨g, hge⟩ : ∃ g : Nat, gs.getD k 0 = (g : Int) := ⟨(gs.getD k 0).toNat, by omega⟩
      rw [hge] at a b
      have hgN : g < N := by omega
      rw [if_pos (by omega), z0h 0 hlt, Option.bind_some, hge, z0h false (by omega), Option.bind_some, z2d (by omega)]
      by_cases ht : tr.getD g false = true
      · rw [if_pos ht]
        exact ⟨_, rfl, ⟨k + 1, tr, rfl, by omega, htr⟩, by simp only; omega⟩
      · rw [if_neg ht]
        have hin : z0C (z0R t (k : Int) tr (g : Int)) LFm 0 = z0J (((k + 1 : Nat) : Int), tr.set g true) := by
          refine z1J N (fun i => (i : Int)) rfl (by simp only [LFm]; omega) (fun i hi => ?_) ?_
          · simp only [z0R]
            have hp := h.lt i g hi hgN
            rw [if_pos (by omega), z0h [] (by omega), Option.bind_some, z0h 0 (by rw [h.row i hi]; exact hgN), Option.bind_some, h.get i g hi hgN, z0h [] (by omega), Option.bind_some, z0h [] (by omega), Option.bind_some]
            refine z1J N (fun y => (y : Int)) rfl (by simp only [LFm]; omega) (fun y hy => ?_) ?_
            · simp only [z1b]
              have hq := h.lt g y hgN hy
              rw [h.row g hgN, if_pos (by omega), z0h 0 (by rw [h.row g hgN]; exact hy), Option.bind_some, h.get g y hgN hy, z0h 0 (by rw [h.row _ hp]; exact hy), Option.bind_some, h.get _ y hp hy, z0h 0 (by rw [h.row i hi]; exact hq), Option.bind_some, h.get i _ hi hq, if_pos (by rw [h.ass i g y hi hgN hy]), z2d (by omega)]
            · simp only [z1b]
              rw [h.row g hgN, if_neg (by omega), z2d (by omega)]
          · simp only [z0R]
            rw [if_neg (by omega), z2d (by omega), Int.toNat_natCast]
        rw [hin]
        exact ⟨_, rfl, ⟨k + 1, _, rfl, by omega, by simpa using htr⟩, by simp only; omega⟩
    · right
      rw [if_neg (by omega)]
      exact ⟨true, rfl, rfl⟩) LFm (0, List.replicate t.length false) ⟨0, _, rfl, Nat.zero_le _, by simp [hl]⟩ (by simp only [LFm]; omega)
  rw [e1, e2]
theorem zga {gs : List Int} (hg : ∀ g ∈ gs, 0 <= g /\ g < N) (hs : gs.length < 4611686018427387904) : z2r t gs = some true := by
  unfold z2r
  rw [zbI h, Option.bind_some, if_pos rfl, (z9h h hg hs).1, Option.bind_some, if_pos rfl, zct h hg hs]
  rfl
theorem zgQ : zfG t = some 0 := by
  refine zhh ⟨by rw [h.len]; exact h.pos, by rw [h.len]; exact h.le, zbD h, zbI h, fun gs hs => ?_⟩
  rw [h.len] at hs
  have h4 := h.le
  have hl := hs.length_le
  rw [List.length_range] at hl
  refine zct h (fun g hg => ?_) (by rw [List.length_map]; omega)
  obtain ⟨i, hi, rfl⟩ := List.mem_map.1 hg
  have := List.mem_range.1 (hs.subset hi)
  omega
theorem z9D {x y : Int} (x0 : 0 <= x) (x1 : x < t.length) (y0 : 0 <= y) (y1 : y < t.length) : tbI (zaQ t) x y = ((p x.toNat y.toNat : Nat) : Int) := by
  rw [h.len] at x1 y1
  unfold tbI zaQ
  exact h.get _ _ (by omega) (by omega)
theorem zjI {gs : List Int} (hg : ∀ g ∈ gs, 0 <= g /\ g < N) (hs : gs.length < 4611686018427387904) (hall : ∀ y : Nat, y < N -> Wd (tbI (zaQ t)) gs y) : zgS t gs = some ((List.range t.length).map fun i => ((i : Nat) : Int)) := by
  have hl := h.len
  refine zhi ⟨by rw [h.len]; exact h.pos, by rw [h.len]; exact h.le, zbD h, by rw [hl]; exact hg, fun x y z x0 x1 y0 y1 z0 z1 => ?_, fun y y0 y1 => ?_, ?_⟩
  · have a := h.lt x.toNat y.toNat (by omega) (by omega)
    have b := h.lt y.toNat z.toNat (by omega) (by omega)
    rw [z9D h x0 x1 y0 y1, z9D h y0 y1 z0 z1, z9D h (by omega) (by omega) z0 z1, z9D h x0 x1 (by omega) (by omega), Int.toNat_natCast, Int.toNat_natCast, h.ass _ _ _ (by omega) (by omega) (by omega)]
  · have := hall y.toNat (by omega)
    rwa [Int.toNat_of_nonneg y0] at this
  · unfold z6y z4n
    rw [(z9h h hg hs).1, Option.bind_some, if_pos rfl, zgQ h]
    rfl
end
end
end Go.Proofs.YthbchhekejljjaaGreatDoor

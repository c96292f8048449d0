/- Proved here: the law TopCayley returns true for every input, and its arguments read afterwards as before; the row's listed tables are tied to the program's text by the given tie. No other condition. -/
import Derived.Test.YthbchhekejljjaaGreatDoorMCY4
import Derived.KernelRfl
import Derived.ChangeOld
import Derived.ChangeReads
import Derived.Below
import Derived.ChangeSlices
import Derived.Deep.Grids
import Derived.WideShapes
import Derived.WalkKit
import Derived.ProofKit
import Derived.WalkSpells
import Derived.WalkLawsBesides
import Derived.Lib.Hide
import Derived.Deep.OwnRows
import Derived.Deep.RegionLaw
import Derived.Shelf.Strings.Builder1
import Derived.Shelf.Small.Bits
import Derived.Shelf.Small.Strs
import Derived.Shelf.Small.Wraps
import Derived.Shelf.Strings.BuilderF
import Derived.Shelf.Strings.BuilderK
import Derived.Shelf.Strconv.Itoa0
import Derived.Shelf.Strings.Search1
import Derived.Shelf.Strings.Search2
import Derived.Shelf.Strings.Search3
import Derived.Shelf.LaysM
import Derived.Shelf.Strings.Shaped
import Derived.Shelf.Sort.Plain
import Derived.Shelf.Strings.Prefix
import Derived.Shelf.Slices.Equal
import Derived.Ground.Names2Prog
import Derived.Shelf.Slices.Clone
import Derived.Shelf.Slices.In.SortNone
import Derived.Test.YthbchhekejljjaaGreatDoorProg
import Derived.Shelf.Strings.BuilderX
import Derived.Lib.AppendStr
import Derived.Lib.OthersKept
import Derived.LoopN
import Derived.Laws.StructEq
import Derived.Shelf.GgSortFunc.Insertion
import Derived.RangeFuncBox
import Derived.Deep.AppendLies
import Derived.StillTailTactics
import Derived.Test.YthbchhekejljjaaGreatDoorRows
import Derived.OpenShut
import Derived.LaidMore
import Derived.LaidSub
import Derived.Lay
import Derived.ChangeArms
import Derived.ShutString
import Derived.Deep.DeepHandedRow
set_option linter.unusedVariables false
set_option linter.unusedSimpArgs false
set_option linter.unusedSectionVars false
namespace Go.Proofs.YthbchhekejljjaaGreatDoor
section
open Go
set_option maxRecDepth 100000
instance : XMo xt := inferInstanceAs (XMo xtF)
theorem cAw : z0U Tryz.prog xt z1g 24 9 [] = some (.sc (.bool true), []) := by kernel_rfl
theorem cK : L 9 [] = some (.sc (.bool true), []) := zjB 24 cAw
end
section
open Go
def zby : Option Bool := some true
instance : Ok zby (fun r => L 9 [] = some (.sc (.bool r), [])) := ⟨fun r h => by cases h; exact cK⟩
instance {a0 : List (List Int)} {a1 : Int} : Ok (z2A a0 a1) (fun r => L 7 [.sl a0.length (a0.map fun x0 => .sl x0.length (x0.map fun x1 => .sc (.int .i64 x1))), .sc (.int .i64 a1)] = some (.sc (.bool r), [.dead, .dead])) := ⟨fun r h => z9C h⟩
end
section
open Go
noncomputable section
set_option maxRecDepth 100000
set_option maxHeartbeats 6000000
instance : IsS Rul := ⟨⟩
instance : IsS Enm := ⟨⟩
abbrev z1z (a0 : List (List Int)) (v213 : Enm × Int) (v214 : List (List Int) × Int) (v215 : List (List Int)) (w219 : List Int) (w259 : Int) : Int -> Option (Int ⊕ (Int ⊕ Bool))
  | w301 =>
  if w301 < (a0.length : Int) then
    (atI v215 w259).bind fun v312 =>
    (atI v312 w301).bind fun v313 =>
    (atI (w219 ++ [0]) w301).bind fun v314 =>
    (atI v214.1 v314).bind fun v315 =>
    (atI v315 w259).bind fun v316 =>
    if v313 = v316 then
      (atI v213.1.right w259).bind fun v317 =>
      (atI v317 w301).bind fun v318 =>
      (atI v214.1 w259).bind fun v319 =>
      (atI v319 v314).bind fun v321 =>
      if v318 = v321 then
        z0J (IntKind.i64.wrap (w301 + 1))
      else
        z0p <|
        z0p <|
        some false
    else
      z0p <|
      z0p <|
      some false
  else
    z0p <|
    z0J (IntKind.i64.wrap (w259 + 1))
instance {a0 : List (List Int)} {v213 : Enm × Int} {v214 : List (List Int) × Int} {v215 : List (List Int)} {w219 : List Int} {w259 : Int} : Hd (z1z a0 v213 v214 v215 w219 w259) := ⟨fun w301 => ([(98, xI w301)], [])⟩
abbrev z1A (a0 : List (List Int)) (v213 : Enm × Int) (v214 : List (List Int) × Int) (v215 : List (List Int)) (w219 : List Int) : Int -> Option (Int ⊕ Bool)
  | w259 =>
  if w259 < (v214.1.length : Int) then
    z0C (z1z a0 v213 v214 v215 w219 w259) LFm 0
  else
    z0p <|
    (zby).bind fun v322 =>
    some v322
instance {a0 : List (List Int)} {v213 : Enm × Int} {v214 : List (List Int) × Int} {v215 : List (List Int)} {w219 : List Int} : Hd (z1A a0 v213 v214 v215 w219) := ⟨fun w259 => ([(93, xI w259)], [])⟩
abbrev z1n (a0 : List (List Int)) (v213 : Enm × Int) (v214 : List (List Int) × Int) (v215 : List (List Int)) (w219 : List Int) (w358 : Int) : Int -> Option (Int ⊕ (Int ⊕ Bool))
  | w400 =>
  if w400 < (a0.length : Int) then
    (atI v215 w358).bind fun v411 =>
    (atI v411 w400).bind fun v412 =>
    (atI w219 w400).bind fun v413 =>
    (atI v214.1 v413).bind fun v414 =>
    (atI v414 w358).bind fun v415 =>
    if v412 = v415 then
      (atI v213.1.right w358).bind fun v416 =>
      (atI v416 w400).bind fun v417 =>
      (atI v214.1 w358).bind fun v418 =>
      (atI v418 v413).bind fun v420 =>
      if v417 = v420 then
        z0J (IntKind.i64.wrap (w400 + 1))
      else
        z0p <|
        z0p <|
        some false
    else
      z0p <|
      z0p <|
      some false
  else
    z0p <|
    z0J (IntKind.i64.wrap (w358 + 1))
instance {a0 : List (List Int)} {v213 : Enm × Int} {v214 : List (List Int) × Int} {v215 : List (List Int)} {w219 : List Int} {w358 : Int} : Hd (z1n a0 v213 v214 v215 w219 w358) := ⟨fun w400 => ([(98, xI w400)], [])⟩
abbrev z1o (a0 : List (List Int)) (v213 : Enm × Int) (v214 : List (List Int) × Int) (v215 : List (List Int)) (w219 : List Int) : Int -> Option (Int ⊕ Bool)
  | w358 =>
  if w358 < (v214.1.length : Int) then
    z0C (z1n a0 v213 v214 v215 w219 w358) LFm 0
  else
    z0p <|
    (zby).bind fun v421 =>
    some v421
instance {a0 : List (List Int)} {v213 : Enm × Int} {v214 : List (List Int) × Int} {v215 : List (List Int)} {w219 : List Int} : Hd (z1o a0 v213 v214 v215 w219) := ⟨fun w358 => ([(93, xI w358)], [])⟩
abbrev z0W (a0 : List (List Int)) (a1 : Bool) (v213 : Enm × Int) (v214 : List (List Int) × Int) (v215 : List (List Int)) : Int × List Int -> Option ((Int × List Int) ⊕ Bool)
  | (w218, w219) =>
  if w218 < (a0.length : Int) then
    (atI a0 w218).bind fun v222 =>
    (z1Q v213.1 v222).bind fun v223 =>
    chk (z1t 8 (w219.length + 1)) <|
    z0J (IntKind.i64.wrap (w218 + 1), w219 ++ [v223])
  else
    z0p <|
    if a1 = true then
      chk (z1t 8 (w219.length + 1)) <|
      (z3A v214.1 (w219 ++ [0])).bind fun v224 =>
      if v224 = true then
        (z2r v214.1 (w219 ++ [0])).bind fun v225 =>
        if v225 = true then
          (zfG v214.1).bind fun v226 =>
          if v226 = 0 then
            (zgS v214.1 (w219 ++ [0])).bind fun v227 =>
            if (v227.length : Int) = (v214.1.length : Int) then
              z0C (z1A a0 v213 v214 v215 w219) LFm 0
            else
              some false
          else
            some false
        else
          some false
      else
        some false
    else
      (z3A v214.1 w219).bind fun v323 =>
      if v323 = true then
        (z2r v214.1 w219).bind fun v324 =>
        if v324 = true then
          (zfG v214.1).bind fun v325 =>
          if v325 = 0 then
            (zgS v214.1 w219).bind fun v326 =>
            if (v326.length : Int) = (v214.1.length : Int) then
              z0C (z1o a0 v213 v214 v215 w219) LFm 0
            else
              some false
          else
            some false
        else
          some false
      else
        some false
instance {a0 : List (List Int)} {a1 : Bool} {v213 : Enm × Int} {v214 : List (List Int) × Int} {v215 : List (List Int)} : Hd (z0W a0 a1 v213 v214 v215) := ⟨fun (w218, w219) => ([(52, xI w218)], [(10, .os 1 w219.length (w219.map fun x0 => .sc (.int .i64 x0)))])⟩
def z1B (a0 : List (List Int)) (a1 : Bool) : Option (Bool) :=
  (z2A a0 3).bind fun v212 =>
  if v212 = true then
    (z0Z a0 a1).bind fun v213 =>
    (z1v v213.1).bind fun v214 =>
    (z1P v213.1).bind fun v215 =>
    if v213.2 = 0 then
      if v214.2 = 0 then
        if (v215.length : Int) = (v214.1.length : Int) then
          if (v214.1.length : Int) = 0 then
            some false
          else
            z0C (z0W a0 a1 v213 v214 v215) LFm (0, [])
        else
          some false
      else
        some false
    else
      some false
  else
    (zby).bind fun v422 =>
    some v422
theorem z6p {a0 : List (List Int)} {a1 : Bool} {r : Bool} (h : z1B a0 a1 = some r) : L 6 [.sl a0.length (a0.map fun x0 => .sl x0.length (x0.map fun x1 => .sc (.int .i64 x1))), .sc (.bool a1)] = some (.sc (.bool r), [.dead, .dead]) := by
  have h := z5e h; unfold z1B at h; exact z5W zou fn6 bd6
end
end
section
open Go
set_option linter.unusedSectionVars false
set_option maxRecDepth 100000
def zdE (r : Eru) (G : List (List Int)) (m : Nat) : List Int := (List.range m).map fun x => ((gix r G x : Nat) : Int)
section
variable {n m : Nat} {G : List (List Int)} {mono : Bool} (hG : GenP n m G) (h3 : n <= 3) {r : Eru} (hF : Fin' n m G mono r)
include hG h3 hF
theorem zdS : TabOk (z9n r) r.e.elems.length (pix r) := by
  have hl := hF.I.le hG h3
  have h0 : 0 < r.e.elems.length := by
    have := (z3E hG h3 hF (x := 0) (by have := hG.m1; omega)).1
    omega
  have hrow : ∀ i, i < r.e.elems.length -> (z9n r).getD i [] = (List.range r.e.elems.length).map fun j => ((pix r i j : Nat) : Int) := fun i hi => by
    unfold z9n
    rw [z3J [] 0 (by simpa using hi)]
    simp [List.getD, hi]
  refine ⟨by simp [z9n], h0, by omega, fun i hi => by rw [hrow i hi]; simp, fun i j hi hj => ?_, fun i j hi hj => (z5F hG h3 hF hi hj).1, fun i j k hi hj hk => zb0 hG h3 hF hi hj hk⟩
  rw [hrow i hi, z3J 0 0 (by simpa using hj)]
  simp [List.getD, hj]
omit hG h3 hF in
theorem zeN {x : Nat} (hx : x < m) : (zdE r G m).getD x 0 = ((gix r G x : Nat) : Int) := by
  unfold zdE
  rw [z3J 0 0 (by simpa using hx)]
  simp [List.getD, hx]
theorem zgY : ∀ g ∈ zdE r G m, 0 <= g /\ g < r.e.elems.length := by
  intro g hg
  obtain ⟨x, hx, rfl⟩ := List.mem_map.1 hg
  have := (z3E hG h3 hF (List.mem_range.1 hx)).1
  omega
theorem zkJ {gs : List Int} (h1 : ∀ x, x < m -> ((gix r G x : Nat) : Int) ∈ gs) (h2 : mono = true -> (0 : Int) ∈ gs) : ∀ y, y < r.e.elems.length -> Wd (tbI (zaQ (z9n r))) gs y := by
  have hT := zdS hG h3 hF
  intro y
  induction y using Nat.strongRecOn with
  | ind y ih =>
    intro hy
    rcases z8E hG h3 hF hy with ⟨a, _, _, _⟩ | ⟨x, hx, a, ⟨b, e⟩ | ⟨p, hp, b, e⟩⟩
    · obtain ⟨z, hm⟩ := zes hG h3 hF hy a
      rw [z]; exact .base (h2 hm)
    · rw [e]; exact .base (h1 x hx)
    · have hg := (z3E hG h3 hF hx).1
      have := Wd.step (ih p hp (by omega)) (h1 x hx)
      rw [z9D hT (by omega) (by rw [hT.len]; omega) (by omega) (by rw [hT.len]; omega), Int.toNat_natCast, Int.toNat_natCast, ← e] at this
      exact this
theorem zh5 {gs : List Int} (h1 : ∀ x, x < m -> ((gix r G x : Nat) : Int) ∈ gs) (h2 : mono = true -> (0 : Int) ∈ gs) (hg : ∀ g ∈ gs, 0 <= g /\ g < r.e.elems.length) (hs : gs.length < 4611686018427387904) : z3A (z9n r) gs = some true /\ z2r (z9n r) gs = some true /\ zfG (z9n r) = some 0 /\ zgS (z9n r) gs = some ((List.range (z9n r).length).map fun i => ((i : Nat) : Int)) := by
  have hT := zdS hG h3 hF
  exact ⟨(z9h hT hg hs).2, zga hT hg hs, zgQ hT, zjI hT hg hs (zkJ hG h3 hF h1 h2)⟩
omit hG h3 hF in
theorem zbY {i x : Nat} (hi : i < r.e.elems.length) (hx : x < m) : atI (zd9 r G m) (i : Int) = some ((List.range m).map fun x => ((pix r (gix r G x) i : Nat) : Int)) /\ atI ((List.range m).map fun x => ((pix r (gix r G x) i : Nat) : Int)) (x : Int) = some ((pix r (gix r G x) i : Nat) : Int) := by
  constructor
  · unfold zd9
    rw [z0h [] (by simpa using hi), z3J [] 0 (by simpa using hi)]
    simp [List.getD, hi]
  · rw [z0h 0 (by simpa using hx), z3J 0 0 (by simpa using hx)]
    simp [List.getD, hx]
theorem z7h (hB : z0Z G mono = some (r.e, 0)) (hr : z0u r.e = some (.inr (r, true))) (hR : z2A G 3 = some true) : z1B G mono = some true := by
  have hT := zdS hG h3 hF
  have hl := hT.len
  have h0 := hT.pos
  have h27 := hF.I.le hG h3
  have hm6 := hG.m2
  have hGl := hG.len
  have hll : (zd9 r G m).length = r.e.elems.length := by simp [zd9]
  unfold z1B
  rw [hR, Option.bind_some, if_pos rfl, hB, Option.bind_some, zfH hG h3 hF hr, Option.bind_some, zi4 hG h3 hF hr, Option.bind_some, if_pos rfl, if_pos rfl, if_pos (by rw [hll, hl]), if_neg (by simp only; omega)]
  refine z1J m (fun x => ((x : Int), (List.range x).map fun x => ((gix r G x : Nat) : Int))) rfl (by simp only [LFm]; omega) (fun x hx => ?_) ?_
  · simp only [z0W]
    rw [if_pos (by omega), z0h [] (by omega), Option.bind_some, zih hG h3 hF hr hx, Option.bind_some, z0F _ (by unfold z1t; simp; omega), z2d (by omega), List.range_succ, List.map_append]
    rfl
  · show z0W G mono (r.e, 0) (z9n r, 0) (zd9 r G m) ((m : Int), zdE r G m) = _
    have hil : (zdE r G m).length = m := by simp [zdE]
    have him : ∀ x, x < m -> ((gix r G x : Nat) : Int) ∈ zdE r G m := fun x hx => List.mem_map.2 ⟨x, List.mem_range.2 hx, rfl⟩
    simp only [z0W]
    rw [if_neg (by omega)]
    congr 1
    have hcell : ∀ i x, i < r.e.elems.length -> x < m -> atI (z9n r) ((gix r G x : Nat) : Int) = some ((z9n r).getD (gix r G x) []) /\ atI ((z9n r).getD (gix r G x) []) (i : Int) = some ((pix r (gix r G x) i : Nat) : Int) /\ atI (z9n r) (i : Int) = some ((z9n r).getD i []) /\ atI ((z9n r).getD i []) ((gix r G x : Nat) : Int) = some ((pix r i (gix r G x) : Nat) : Int) := by
      intro i x hi hx
      have hg := (z3E hG h3 hF hx).1
      exact ⟨z0h [] (by omega), by rw [z0h 0 (by rw [hT.row _ hg]; exact hi), hT.get _ _ hg hi], z0h [] (by omega), by rw [z0h 0 (by rw [hT.row _ hi]; exact hg), hT.get _ _ hi hg]⟩
    cases mono with
    | true =>
      have hgs : ∀ g : Int, g ∈ zdE r G m ++ [0] -> 0 <= g /\ g < r.e.elems.length := by
        intro g hg
        rcases List.mem_append.1 hg with h | h
        · exact zgY hG h3 hF g h
        · simp at h; subst h; omega
      obtain ⟨c1, c2, c3, c4⟩ := zh5 hG h3 hF (gs := zdE r G m ++ [0]) (fun x hx => List.mem_append_left _ (him x hx)) (fun _ => by simp) hgs (by simp; omega)
      rw [if_pos rfl, z0F _ (by unfold z1t; omega), c1, Option.bind_some, if_pos rfl, c2, Option.bind_some, if_pos rfl, c3, Option.bind_some, if_pos rfl, c4, Option.bind_some, if_pos (by simp)]
      refine z1J r.e.elems.length (fun i => (i : Int)) rfl (by simp only [LFm]; omega) (fun i hi => ?_) ?_
      · simp only [z1A]
        rw [if_pos (by omega)]
        refine z1J m (fun x => (x : Int)) rfl (by simp only [LFm]; omega) (fun x hx => ?_) ?_
        · simp only [z1z]
          obtain ⟨a1, a2⟩ := zbY (r := r) (G := G) hi hx
          obtain ⟨b1, b2, b3, b4⟩ := hcell i x hi hx
          obtain ⟨d1, d2⟩ := z3p hG h3 hF hi hx
          have hag : atI (zdE r G m ++ [0]) (x : Int) = some ((gix r G x : Nat) : Int) := by
            rw [z0h 0 (by simp; omega), z2G, if_pos (by omega), zeN hx]
          rw [if_pos (by omega), a1, Option.bind_some, a2, Option.bind_some, hag, Option.bind_some, b1, Option.bind_some, b2, Option.bind_some, if_pos rfl, d1, Option.bind_some, d2, Option.bind_some, b3, Option.bind_some, b4, Option.bind_some, if_pos rfl, z2d (by omega)]
        · simp only [z1z]
          rw [if_neg (by omega), z2d (by omega)]
      · simp only [z1A]
        rw [if_neg (by omega)]
        rfl
    | false =>
      obtain ⟨c1, c2, c3, c4⟩ := zh5 hG h3 hF (gs := zdE r G m) him (fun h => by cases h) (zgY hG h3 hF) (by omega)
      rw [if_neg (by simp), c1, Option.bind_some, if_pos rfl, c2, Option.bind_some, if_pos rfl, c3, Option.bind_some, if_pos rfl, c4, Option.bind_some, if_pos (by simp)]
      refine z1J r.e.elems.length (fun i => (i : Int)) rfl (by simp only [LFm]; omega) (fun i hi => ?_) ?_
      · simp only [z1o]
        rw [if_pos (by omega)]
        refine z1J m (fun x => (x : Int)) rfl (by simp only [LFm]; omega) (fun x hx => ?_) ?_
        · simp only [z1n]
          obtain ⟨a1, a2⟩ := zbY (r := r) (G := G) hi hx
          obtain ⟨b1, b2, b3, b4⟩ := hcell i x hi hx
          obtain ⟨d1, d2⟩ := z3p hG h3 hF hi hx
          have hag : atI (zdE r G m) (x : Int) = some ((gix r G x : Nat) : Int) := by
            rw [z0h 0 (by omega), zeN hx]
          rw [if_pos (by omega), a1, Option.bind_some, a2, Option.bind_some, hag, Option.bind_some, b1, Option.bind_some, b2, Option.bind_some, if_pos rfl, d1, Option.bind_some, d2, Option.bind_some, b3, Option.bind_some, b4, Option.bind_some, if_pos rfl, z2d (by omega)]
        · simp only [z1n]
          rw [if_neg (by omega), z2d (by omega)]
      · simp only [z1o]
        rw [if_neg (by omega)]
        rfl
end
theorem zcI (G : List (List Int)) (mono : Bool) : z1B G mono = some true := by
  obtain ⟨b, e1, e2⟩ := zfV G 3
  cases b with
  | true =>
    obtain ⟨n, m, hG, h3, _⟩ := e2 rfl
    obtain ⟨r, hI, hf, hB, hr⟩ := zgC hG h3 mono
    exact z7h hG h3 ⟨hI, hf⟩ hB hr e1
  | false =>
    unfold z1B
    rw [show z2A G 3 = some false from e1, Option.bind_some, if_neg (by simp)]
    rfl
theorem zlK (G : List (List Int)) (mono : Bool) : ∃ outs, L 6 [.sl G.length (G.map fun x0 => .sl x0.length (x0.map fun x1 => .sc (.int .i64 x1))), .sc (.bool mono)] = some (.sc (.bool true), outs) := ⟨_, z6p (zcI G mono)⟩
end
section
open Go.RowKit
def z7r (P : Program) : Nat -> TypeId -> Bool
  | 0, _ => false
  | m + 1, t =>
    match P.underlying t with
    | some (.slice e) => P.cellsOf e != 0 && z7r P m e
    | some (.pointer e) => z7r P m e
    | some (.struct fs) => fs.toList.all fun f => z7r P m f.type
    | some (.array _ e) => z7r P m e
    | some (.map _ e) => z7r P m e
    | _ => true
section
variable {H : Type} {enc : TypeId × Value -> H} {P : Program} {w : World} {base : Nat}
theorem z7F {m : Nat} {r r' : TypeId -> List Value -> Option (DataW H × List MemPlace)}
    (hr : ∀ t cs x, z7r P m t = true -> r t cs = some x -> r' t cs = some x) {t : TypeId} {cs : List Value} {x : DataW H × List MemPlace} (hf : z7r P (m + 1) t = true)
    (h : DataW.trodStep enc P w base (fun _ => true) true r t cs = some x) : DataW.trodStep enc P w base (fun b => decide (b < w.heap.size)) true r' t cs = some x := by
  unfold DataW.trodStep at h ⊢
  unfold z7r at hf
  split at h
  case h_1 => exact h
  case h_2 => exact h
  case h_3 => exact h
  case h_4 => exact h
  case h_5 => exact h
  case h_6 e a hu =>
    rw [hu] at hf
    simp only [Option.map_eq_some_iff, Option.bind_eq_some_iff] at h ⊢
    obtain ⟨y, ⟨cs', hc, hy⟩, rfl⟩ := h
    exact ⟨y, ⟨cs', hc, hr _ _ _ hf hy⟩, rfl⟩
  case h_7 => exact h
  case h_8 e a len cap hu =>
    rw [hu] at hf
    simp only [Bool.and_eq_true, bne_iff_ne, ne_eq] at hf
    obtain ⟨hcell, hfe⟩ := hf
    simp only at h ⊢
    split at h
    · rename_i hc
      rw [if_pos hc]
      simp only [Option.map_eq_some_iff, Option.bind_eq_some_iff, if_true] at h ⊢
      obtain ⟨elems, he, rest, hrest, rfl⟩ := h
      have one : ∀ (i : Nat) (y : DataW H × List MemPlace), (w.cells? base (a.add (i * P.cellsOf e)) (P.cellsOf e)).bind (r e) = some y -> (w.cells? base (a.add (i * P.cellsOf e)) (P.cellsOf e)).bind (r' e) = some y := by
        intro i y hv
        simp only [Option.bind_eq_some_iff] at hv ⊢
        obtain ⟨cs', hc', hy'⟩ := hv
        exact ⟨cs', hc', hr _ _ _ hfe hy'⟩
      refine ⟨elems, mapM_carry he (fun i y _ _ hy => one i y hy), rest, ?_, rfl⟩
      by_cases hb : a.block < w.heap.size
      · rw [if_pos (by simpa using hb)]
        exact mapM_carry hrest (fun j y _ _ hy => one (len + j) y hy)
      · rw [if_neg (by simpa using hb)]
        have hz : cap - len = 0 := by
          rcases Nat.eq_zero_or_pos (cap - len) with h0 | h0
          · exact h0
          · exfalso
            have hl : rest.length = cap - len := by simpa using mapM_some_length hrest
            have h1 := mapM_some_get hrest 0 0 (by simp [h0])
            obtain ⟨y, hy⟩ : ∃ y, rest[0]? = some y := ⟨rest[0], List.getElem?_eq_getElem (by omega)⟩
            rw [hy] at h1
            simp only [Option.bind_eq_some_iff] at h1
            obtain ⟨cs', hc', _⟩ := h1
            have h2 := World.cells?_block hc' (by omega)
            have h3 : (a.add ((len + 0) * P.cellsOf e)).block = a.block := by unfold Addr.add; split <;> rfl
            omega
        rw [hz] at hrest
        simpa using hrest
    · cases h
  case h_9 fs _ hu =>
    rw [hu] at hf
    split at h
    · rename_i hc
      rw [if_pos hc]
      simp only [Option.map_eq_some_iff] at h ⊢
      obtain ⟨xs, hx, rfl⟩ := h
      exact ⟨xs, mapM_carry hx (fun f y hin _ hv => hr _ _ _ (List.all_eq_true.1 hf f hin) hv), rfl⟩
    · cases h
  case h_10 n e _ hu =>
    rw [hu] at hf
    split at h
    · rename_i hc
      rw [if_pos hc]
      simp only [Option.map_eq_some_iff] at h ⊢
      obtain ⟨xs, hx, rfl⟩ := h
      exact ⟨xs, mapM_carry hx (fun f y _ _ hv => hr _ _ _ hf hv), rfl⟩
    · cases h
  case h_11 => exact h
  case h_12 => exact h
  case h_13 => exact h
  case h_14 k e b hu =>
    rw [hu] at hf
    split at h
    · rename_i es clock hb
      split at h
      · rename_i hc
        simp only [Option.bind_eq_some_iff] at h
        obtain ⟨entries, he, hd⟩ := h
        split at hd
        · rename_i hris
          have hx := Option.some.inj hd
          subst hx
          simp only [if_pos hc, Option.bind_eq_some_iff]
          refine ⟨entries, mapM_carry he (fun x y _ hy hv => ?_), by simp [hris]⟩
          simp only [Option.bind_eq_some_iff] at hv ⊢
          obtain ⟨key, hk, hz⟩ := hv
          refine ⟨key, hk, ?_⟩
          split at hz
          · rename_i hfm
            rw [if_pos hfm]
            simp only [Option.map_eq_some_iff] at hz ⊢
            obtain ⟨q, hq, rfl⟩ := hz
            exact ⟨q, hr _ _ _ hf hq, rfl⟩
          · cases hz
        · cases hd
      · cases h
    · cases h
  case h_15 => exact h
  case h_16 => exact h
  case h_17 => exact h
  case h_18 => exact h
  case h_19 => exact h
  case h_20 => exact h
  case h_21 => cases h
theorem zcH : ∀ (n m : Nat) (t : TypeId) (cs : List Value) (x : DataW H × List MemPlace), z7r P m t = true ->
    DataW.trod enc P w base (fun _ => true) true n t cs = some x -> DataW.trod enc P w base (fun b => decide (b < w.heap.size)) true n t cs = some x := by
  intro n
  induction n with
  | zero => intro m t cs x _ h; simp [DataW.trod] at h
  | succ n ih =>
    intro m t cs x hf h
    cases m with
    | zero => simp [z7r] at hf
    | succ m =>
      rw [DataW.trod_step] at h ⊢
      exact z7F (m := m) (fun t cs x hf hx => ih m t cs x hf hx) hf h
theorem z9M {w' : World} (hb : Below w.heap.size w w') {p : MemPlace} (hp : p.block < w.heap.size) : w.sameAt w' p := by
  cases p with
  | cell b off => exact hb.cell (p := ⟨b, off, none⟩) hp
  | map b => exact hb.block b hp
theorem z5g {w' : World} (m : Nat) (hb : Below w.heap.size w w') : ∀ {ts : List TypeId} {vs : List Value} {ds : List (DataW H)} {ps : List MemPlace}, (ts.all (z7r P m)) = true ->
    DataW.TrodAll enc P w 0 (fun _ => true) true ts vs ds ps -> DataW.TrodAll enc P w' 0 (fun b => decide (b < w.heap.size)) true ts vs ds ps
  | [], [], [], ps, _, h => h
  | t :: ts, v :: vs, d :: ds, ps, hf, ⟨p, q, ⟨n, h1⟩, h2, e⟩ => by
    simp only [List.all_cons, Bool.and_eq_true] at hf
    have h3 := zcH n m t _ _ hf.1 h1
    exact ⟨p, q, ⟨n, DataW.trod_carry n _ _ _ h3 (fun z hz => z9M hb (DataW.trod_lt n _ _ _ h3 z hz))⟩, z5g m hb hf.2 h2, e⟩
  | [], _ :: _, _, _, _, h => by cases h
  | [], [], _ :: _, _, _, h => by cases h
  | _ :: _, [], _, _, _, h => by cases h
  | _ :: _, _ :: _, [], _, _, h => by cases h
end
section
variable {H : Type} {enc : TypeId × Value -> H} {P : Program} {w : World} {r : Reach} {b0 : Nat}
open Go.ChangeShapes Go.WideShapes
open Go.Deep (open_bools)
end
end
section
open Go.ChangeShapes Go.WideShapes Go.RowKit
def KZ : Nat -> z0a := fun _ => []
section
variable {H : Type} {enc : TypeId × Value -> H} {P : Program} {w : World} {r : Reach} {b0 : Nat}
end
end
section
open Go Go.RowKit
set_option maxRecDepth 100000
set_option maxHeartbeats 4000000
def zcS : Nat -> Code -> Code
  | 0, c => c
  | k + 1, c => zcS k (zhB c)
def zhA : Nat -> Code -> Prop
  | 0, _ => True
  | k + 1, c => c = .seq (ziG c) (zhB c) /\ zhA k (zhB c)
theorem ze9 {P : Program} {C : z0b} {cf : Cfg} {LF : Nat} {x y : Code} {fr fr' : Fr} {e : X} (h : z0x P C cf LF (.seq x y) fr = some (e, fr')) : (∃ f1, z0x P C cf LF x fr = some (.n, f1) /\ z0x P C cf LF y f1 = some (e, fr')) ∨ (z0x P C cf LF x fr = some (e, fr') /\ e ≠ .n) := by
  simp only [z0x] at h
  split at h
  · rename_i f1 h1
    exact .inl ⟨f1, h1, h⟩
  · rename_i hne
    refine .inr ⟨h, ?_⟩
    rintro rfl
    exact hne _ h
theorem zfd {P : Program} {I : World -> (Nat -> z0a) -> Prop} {C : z0b} {cf : Cfg} {LF : Nat} (hI : EnvS I) (hC : z2J P I C) (hm : P.follows .mixedOrders = true) {Q : Exit -> Act -> World -> Prop} : ∀ (k : Nat) (c : Code) {w : World} {K : Nat -> z0a} {R G : Nat -> Value} {fr fr' : Fr} {x : X} {a : Act}, zhA k c -> okC cf (zin k c) = true -> FRep w K R G fr a -> I w K ->
    z0x P C cf LF (zin k c) fr = some (x, fr') -> (∀ a' w' K' R', FRep w' K' R' G fr' a' -> Step w K w' K' -> (Exit.then ((zcS k c).wp P Q) Q) (zbA x) a' w') -> c.wp P Q a w
  | 0, c, w, K, R, G, fr, fr', x, a, _, _, h, hIw, hf, hq => by
    cases hf
    exact hq a w K R h (Step.refl _ _)
  | k + 1, c, w, K, R, G, fr, fr', x, a, hs, ho, h, hIw, hf, hq => by
    obtain ⟨e1, e2⟩ := hs
    simp only [zin, okC, Bool.and_eq_true] at ho
    simp only [zin] at hf
    rw [e1]
    refine wp_seq ?_
    rcases ze9 hf with ⟨f1, h1, h2⟩ | ⟨h1, hne⟩
    · exact zbn hI hC hm _ ho.1 h hIw h1 fun a1 w1 K1 R1 r1 s1 => zfd hI hC hm k _ e2 ho.2 r1 (hI.step hIw s1) h2 fun a2 w2 K2 R2 r2 s2 => hq a2 w2 K2 R2 r2 (s1.trans s2)
    · refine zbn hI hC hm _ ho.1 h hIw h1 fun a1 w1 K1 R1 r1 s1 => ?_
      have := hq a1 w1 K1 R1 r1 s1
      cases x with
      | n => exact absurd rfl hne
      | r => exact this
      | x id => exact this
end
section
open Go Go.RowKit
set_option maxRecDepth 100000
set_option maxHeartbeats 4000000
theorem z3R {P : Program} {ops : Array Oper} {Q : Exit -> Act -> World -> Prop} {l : List Oper} {o : Oper} {a : Act} {w w' : World} {v : Value} (hg : o.guard = none) (hr : (execOp a.eval o).run P w = .ok (.value v) w') (h : wpList P ops Q l (a.put o.dst v) w') : wpList P ops Q (o :: l) a w := by
  refine ziP hg fun Kk hK => ?_
  unfold Oper.wp
  rw [hr]
  simp only [Oper.upon]
  exact hK _ _ h
theorem zcQ {P : Program} (w : World) (t e ty : TypeId) (z : Value) (zs : List Value) (ht : P.underlying t = some (.slice e)) (hv : ∀ w, (zeroValue e).run P w = .ok z w) (b o n c : Nat) (hn : 0 < n) (hz : (Builtin.zeroCells z.cells n).toList = zs)
    (h1 : ∀ v ∈ zs, v.oneCell' = true) (hc : ∀ j, j < zs.length -> (w.cell? ⟨b, o + j, none⟩).isSome = true) (hf : ∀ j, j < zs.length -> w.frozen? ⟨b, o + j, none⟩ = false) :
    (Builtin.clear_ #[t] ty #[.slice (some ⟨b, o, none⟩) n c]).run P w = .ok (.tuple #[]) (w.setCells b o zs) := by
  have hst := run_storeCells_cells (P := P) b o zs 0 w (by simpa using hc) (by simpa using hf) h1
  simp only [Nat.add_zero] at hst
  obtain ⟨m, rfl⟩ : ∃ m, n = m + 1 := ⟨n - 1, by omega⟩
  simp [Builtin.clear_, run_underlying ht, hv, hz, hst]
theorem z5i {g : Nat} {e : TypeId} {fz : Nat × Nat} : ∀ (vs : List Value) (o : Nat) (w : World) (arr : Array Value), w.heap[g]? = some (.cells arr e fz) -> ∃ arr' : Array Value, (w.setCells g o vs).heap[g]? = some (.cells arr' e fz) /\ arr'.size = arr.size /\ (∀ j, j < o -> arr'[j]? = arr[j]?) /\ (∀ b, b ≠ g -> (w.setCells g o vs).heap[b]? = w.heap[b]?) /\ (w.setCells g o vs).heap.size = w.heap.size /\ (w.setCells g o vs).os = w.os /\ (w.setCells g o vs).tape = w.tape /\ (w.setCells g o vs).output = w.output
  | [], o, w, arr, h => ⟨arr, h, rfl, fun _ _ => rfl, fun _ _ => rfl, rfl, rfl, rfl, rfl⟩
  | v :: vs, o, w, arr, h => by
    have h1 : (w.setCell ⟨g, o, none⟩ v).heap[g]? = some (.cells (arr.setIfInBounds o v) e fz) := by
      simp [World.setCell, Array.getElem?_modify, h]
    obtain ⟨arr', a1, a2, a3, a4, a5, a6, a7, a8⟩ := z5i vs (o + 1) (w.setCell ⟨g, o, none⟩ v) _ h1
    refine ⟨arr', a1, by rw [a2]; simp, fun j hj => ?_, fun b hb => ?_, ?_, a6, a7, a8⟩
    · rw [a3 j (by omega), Array.getElem?_setIfInBounds, if_neg (by omega)]
    · rw [World.setCells, a4 b hb]
      exact Below.heap_setCell _ _ _ _ hb
    · rw [World.setCells, a5]; simp [World.setCell]
def elU (P : Program) (t : TypeId) : TypeId := match P.underlying t with | some (.slice e) => e | _ => 0
noncomputable def rD : Code := ziG (zcS 4 z4H)
noncomputable def rF : Code := ziG (zhB (zcS 4 z4H))
theorem zll : zcS 4 z4H = .seq (.region 11 (rgO rD) false) (.seq (.region 12 (rgO rF) false) .ret) := rfl
theorem zcF {I : World -> (Nat -> z0a) -> Prop} {C : z0b} (hI : EnvS I) (hC : z2J Tryz.prog I C) {args : List T} {r : T} {outs : List T} (h : zkO C args = some (r, outs)) : CallOk Tryz.prog I 182 args r outs := by
  have hm : Tryz.prog.follows .mixedOrders = true := by kernel_rfl
  unfold zkO at h
  split at h
  case h_2 => cases h
  rename_i n0 cs0 t
  split at h
  · cases h
  rename_i htio
  have hb : Tryz.f182.body = some z4H := rfl
  refine ⟨fun vals w => ?_, fun w K vals hs ha hIw => ?_⟩
  · have hname : Tryz.f182.name ≠ "runtime.NumGoroutine" := by decide
    simp [callFunc, program, Sem.run, Tryz.func182, hname, hb]
  have hent := zaj (nt := 42) hs ha (by simp)
  have okp : okC znt (zin 4 z4H) = true := by kernel_rfl
  refine calls_of_wp Tryz.func182 hb ?_
  have hsq : zhA 4 z4H := ⟨rfl, rfl, rfl, rfl, trivial⟩
  have hout : ∀ {W : World} {KK : Nat -> z0a}, ∀ i t', [T.os 3 n0 cs0, t][i]? = some t' -> z2L t' = true -> ∃ t'', [T.dead, T.dead][i]? = some t'' /\ TRep W KK (col i) (vals.getD i undef) t'' := fun i t' hi hio => by
    match i, hi with
    | 0, _ => exact ⟨_, rfl, .dead _ _⟩
    | 1, hi => cases hi; exact absurd hio htio
  split at h
  case h_3 => cases h
  ·
    rename_i fr hcode
    refine zfd hI hC hm 4 z4H hsq okp hent hIw hcode fun a8 w8 K8 R8 h8 s8 => ?_
    split at h
    case h_2 => cases h
    rename_i i hi
    split at h
    case h_2 => cases h
    rename_i fr' hfz
    rw [Option.bind_eq_some_iff] at h
    obtain ⟨⟨r0, o0⟩, h1, h2⟩ := h
    obtain ⟨rfl, rfl⟩ : r0 = r /\ [T.dead, T.dead] = outs := by simpa using h2
    have h9 := (h8.freeze hfz).1
    obtain ⟨v, K9, r1, r2, -, r4⟩ := zf5 h9 h1 (by simp)
    have s9 : Step w8 K8 w8 (fun b => fzK i [] (K8 b)) := ⟨rfl, rfl, rfl, Nat.le_refl _, fun b hb hcc => ⟨by rcases hcc with q | q <;> rw [q] <;> simp [fzK], rfl⟩, .same rfl⟩
    exact ⟨h8.df, v, r1, v, K9, rfl, r2, hout, (s8.trans s9).trans r4⟩
  · rename_i fr hcode
    split at h
    case h_2 => cases h
    rename_i i m hh0 hh5
    split at h
    case h_2 => cases h
    rename_i n cs hob
    split at h
    case isFalse => cases h
    rename_i hcc
    obtain ⟨hm0, hmn, hnt⟩ := hcc
    obtain ⟨rfl, rfl⟩ : T.sl m.toNat ((cs.take (m.toNat * 3)).map z0A) = r /\ [T.dead, T.dead] = outs := by simpa using h
    refine zfd hI hC hm 4 z4H hsq okp hent hIw hcode fun a8 w8 K8 R8 h8 s8 => ?_
    show (zcS 4 z4H).wp _ _ a8 w8
    rw [zll]
    have hn8 : a8.tmps.size = 42 := h8.nt.trans hnt
    have e0 : a8.eval (.tmp 0) = R8 i := by
      have e1 := h8.opE (.tmp 0)
      have e2 : opE fr (.tmp 0) = .one (.h i []) := by simp only [opE]; rw [if_pos (show 0 < fr.nt by omega), hh0]
      rw [e2] at e1
      obtain ⟨e3, -⟩ := e1
      simpa [nav] using e3.symm
    have e5 : a8.eval (.tmp 5) = .int .i64 m := by
      have e1 := h8.opE (.tmp 5)
      have e2 : opE fr (.tmp 5) = .one (.t none (.sc (.int .i64 m))) := by simp only [opE]; rw [if_pos (show 5 < fr.nt by omega), hh5]
      rw [e2] at e1
      exact e1.1.sc_eq
    have hrep := h8.ob i _ hob
    generalize hu : R8 i = u at hrep e0
    generalize hT : T.os 3 n cs = tt at hrep
    cases hrep with
    | nil => injection hT with _ e _; omega
    | own c g n' cap size cs' arr e fz F hfz hc0 hK hg hsz hl hz hn hcap hF hh =>
      injection hT with q1 q2 q3
      subst q1 q2 q3
      have hlt := z0f hg
      have hcelA : ∀ j, j < n * 3 -> ∃ x, arr[j]? = some x := fun j hj => ⟨_, hF j (by omega)⟩
      obtain ⟨o0, o1, o2, o3, r0, r1, r2, r3, T0, q17, p0, d0, g0, p1, d1, g1, p2, d2, g2, p3, g3, d3, q18, x0, y0, z0, x1, y1, z1, x2, y2, z2, x3, y3, z3, ht, hte, hzv⟩ : ∃ (o0 o1 o2 o3 r0 r1 r2 r3 : Oper) (T0 : TypeId), (rgO rD).toList = [o0, o1, o2, o3] /\ o0.op = .move (.tmp 0) /\ o0.dst = some 36 /\ o0.guard = none /\ o1.op = .move (.tmp 5) /\ o1.dst = some 37 /\ o1.guard = none /\ o2.op = .slice T0 (.tmp 36) (some (.tmp 37)) none none /\ o2.dst = some 38 /\ o2.guard = none /\ o3.op = .call { callee := .builtin .clear, args := #[.tmp 38], argTypes := #[T0] } /\ o3.guard = none /\ o3.dst = none /\
        (rgO rF).toList = [r0, r1, r2, r3] /\ r0.op = .move (.tmp 0) /\ r0.dst = some 39 /\ r0.guard = none /\ r1.op = .move (.tmp 5) /\ r1.dst = some 40 /\ r1.guard = none /\ r2.op = .slice T0 (.tmp 39) none (some (.tmp 40)) none /\ r2.dst = some 41 /\ r2.guard = none /\ r3.op = .assign (.tmp 41) /\ r3.dst = some 4 /\ r3.guard = none /\
        Tryz.prog.underlying T0 = some (.slice (elU Tryz.prog T0)) /\ (Tryz.prog.info? (elU Tryz.prog T0)).map (·.size) = some 3 /\ (Tryz.prog.info? (elU Tryz.prog T0)).bind (·.zero) = some (.agg #[.int .i64 0, .int .i64 0, .slice none 0 0]) := ⟨_, _, _, _, _, _, _, _, _, rfl, rfl, rfl, rfl, rfl, rfl, rfl, rfl, rfl, rfl, rfl, rfl, rfl, rfl, rfl, rfl, rfl, rfl, rfl, rfl, rfl, rfl, rfl, rfl, rfl, rfl, by kernel_rfl, by kernel_rfl, by kernel_rfl⟩
      generalize elU Tryz.prog T0 = T1 at ht hte hzv
      obtain ⟨ii, hii, hisz⟩ : ∃ i, Tryz.prog.info? T1 = some i /\ i.size = 3 := Option.map_eq_some_iff.1 hte
      have hz1 : ∀ W : World, (zeroValue T1).run Tryz.prog W = .ok (.agg #[.int .i64 0, .int .i64 0, .slice none 0 0]) W := fun W => by
        rw [hii] at hzv
        simp only [Option.bind_some] at hzv
        simp [zeroValue, typeInfo, hii, hzv]
      have hsz1 : ∀ W : World, (sizeOf T1).run Tryz.prog W = .ok 3 W := fun W => by simp [sizeOf, typeInfo, hii, hisz]
      have hu0 : ∀ W : World, (underlying T0).run Tryz.prog W = .ok (.slice T1) W := fun W => by simp [underlying, ht]
      have hb1 : ∀ W : World, (Instr.sliceBounds true n cap (some (.int .i64 m)) none none).run Tryz.prog W = .ok (m.toNat, n, cap) W := fun W => by simp [Instr.sliceBounds, z1l (P := Tryz.prog) (k := .i64) (i := m) (y := n) ⟨hm0, by omega⟩]
      have hb2 : ∀ W : World, (Instr.sliceBounds true n cap none (some (.int .i64 m)) none).run Tryz.prog W = .ok (0, m.toNat, cap) W := fun W => by simp [Instr.sliceBounds, z1l (P := Tryz.prog) (k := .i64) (i := m) (y := cap) ⟨hm0, by omega⟩]
      refine wp_seq (wp_region_list ?_)
      rw [q17]
      refine z3R (w' := w8) (v := .slice (some ⟨g, 0, none⟩) n cap) g0 (by simp [execOp, p0, e0]) ?_
      rw [d0]
      refine z3R (w' := w8) (v := .int .i64 m) g1 (by simp [execOp, p1, hn8, Act.put, Act.eval] at e5 ⊢; exact e5) ?_
      rw [d1]
      refine z3R (w' := w8) (v := .slice (some ⟨g, m.toNat * 3, none⟩) (n - m.toNat) (cap - m.toNat)) g2 (by
        have hne : ¬ cap = m.toNat := by omega
        simp [execOp, p2, hn8, Act.put, Act.eval, Instr.sliceAt, hu0, Instr.slice, hb1, hsz1, hne, z3k]) ?_
      rw [d2]
      have hcl : ∀ ty, (Builtin.clear_ #[T0] ty #[.slice (some ⟨g, m.toNat * 3, none⟩) (n - m.toNat) (cap - m.toNat)]).run Tryz.prog w8 = .ok (.tuple #[]) (w8.setCells g (m.toNat * 3) (Builtin.zeroCells #[.int .i64 0, .int .i64 0, .slice none 0 0] (n - m.toNat)).toList) := fun ty => by
        have hzl : ((Builtin.zeroCells #[.int .i64 0, .int .i64 0, .slice none 0 0] (n - m.toNat)).toList).length = (n - m.toNat) * 3 := by simp [Builtin.zeroCells]
        refine zcQ w8 T0 T1 ty _ _ ht hz1 g _ _ _ (by omega) rfl (fun v hv => ?_) (fun j hj => ?_) (fun j hj => ?_)
        · simp only [Builtin.zeroCells, Array.toList_map, List.mem_map] at hv
          obtain ⟨k, _, rfl⟩ := hv
          have : k % 3 < 3 := Nat.mod_lt _ (by decide)
          rcases (by omega : k % 3 = 0 ∨ k % 3 = 1 ∨ k % 3 = 2) with e | e | e <;> simp [e] <;> rfl
        · rw [hzl] at hj
          rw [z0i hg]
          obtain ⟨x, hx⟩ := hcelA (m.toNat * 3 + j) (by omega)
          rw [hx]; rfl
        · rw [hzl] at hj
          unfold World.frozen?
          simp only [hg]
          have := hfz (m.toNat * 3 + j) (by
            obtain ⟨x, hx⟩ := hcelA (m.toNat * 3 + j) (by omega)
            exact (Array.getElem?_eq_some_iff.1 hx).1)
          obtain ⟨lo, hi⟩ := fz
          simp only at this ⊢
          simp only [Bool.and_eq_false_iff, decide_eq_false_iff_not]
          omega
      refine z3R (w' := w8.setCells g (m.toNat * 3) (Builtin.zeroCells #[.int .i64 0, .int .i64 0, .slice none 0 0] (n - m.toNat)).toList) (v := .tuple #[]) g3 (by
        simp [execOp, p3, hn8, Act.put, Act.eval, resolve, invoke, hcl]
        rw [show ∀ ar, builtin Builtin.clear #[T0] o3.type #[false] ar = (do pure (.value (← Builtin.clear_ #[T0] o3.type ar))) from fun _ => rfl]
        simp [hcl]) ?_
      obtain ⟨arr9, a1, a2, a3, a4, a5, a6, a7, a8'⟩ := z5i (Builtin.zeroCells #[.int .i64 0, .int .i64 0, .slice none 0 0] (n - m.toNat)).toList (m.toNat * 3) w8 arr hg
      generalize w8.setCells g (m.toNat * 3) (Builtin.zeroCells #[.int .i64 0, .int .i64 0, .slice none 0 0] (n - m.toNat)).toList = w9 at a1 a4 a5 a6 a7 a8' ⊢
      rw [d3]
      refine wpList_nil ?_
      have n9 : (((a8.put (some 36) (.slice (some ⟨g, 0, none⟩) n cap)).put (some 37) (.int .i64 m)).put (some 38) (.slice (some ⟨g, m.toNat * 3, none⟩) (n - m.toNat) (cap - m.toNat))).tmps.size = 42 := by simp [Act.put, hn8]
      have v0 : (((a8.put (some 36) (.slice (some ⟨g, 0, none⟩) n cap)).put (some 37) (.int .i64 m)).put (some 38) (.slice (some ⟨g, m.toNat * 3, none⟩) (n - m.toNat) (cap - m.toNat))).eval (.tmp 0) = .slice (some ⟨g, 0, none⟩) n cap := by
        rw [← e0]; simp [Act.put, Act.eval, Array.getD_eq_getD_getElem?]
      have v5 : (((a8.put (some 36) (.slice (some ⟨g, 0, none⟩) n cap)).put (some 37) (.int .i64 m)).put (some 38) (.slice (some ⟨g, m.toNat * 3, none⟩) (n - m.toNat) (cap - m.toNat))).eval (.tmp 5) = .int .i64 m := by
        rw [← e5]; simp [Act.put, Act.eval, Array.getD_eq_getD_getElem?]
      have f9 : (((a8.put (some 36) (.slice (some ⟨g, 0, none⟩) n cap)).put (some 37) (.int .i64 m)).put (some 38) (.slice (some ⟨g, m.toNat * 3, none⟩) (n - m.toNat) (cap - m.toNat))).defers = [] := h8.df
      show (Code.seq _ _).wp _ _ (((a8.put (some 36) (.slice (some ⟨g, 0, none⟩) n cap)).put (some 37) (.int .i64 m)).put (some 38) (.slice (some ⟨g, m.toNat * 3, none⟩) (n - m.toNat) (cap - m.toNat))) w9
      generalize ((a8.put (some 36) (.slice (some ⟨g, 0, none⟩) n cap)).put (some 37) (.int .i64 m)).put (some 38) (.slice (some ⟨g, m.toNat * 3, none⟩) (n - m.toNat) (cap - m.toNat)) = a9 at n9 v0 v5 f9 ⊢
      refine wp_seq (wp_region_list ?_)
      rw [q18]
      refine z3R (w' := w9) (v := .slice (some ⟨g, 0, none⟩) n cap) z0 (by simp [execOp, x0, v0]) ?_
      rw [y0]
      refine z3R (w' := w9) (v := .int .i64 m) z1 (by simp [execOp, x1, Act.put, Act.eval, Array.getD_eq_getD_getElem?] at v5 ⊢; exact v5) ?_
      rw [y1]
      refine z3R (w' := w9) (v := .slice (some ⟨g, 0, none⟩) m.toNat cap) z2 (by
        simp [execOp, x2, n9, Act.put, Act.eval, Instr.sliceAt, hu0, Instr.slice, hb2, hsz1, z3k]) ?_
      rw [y2]
      refine z3R (w' := w9) (v := .slice (some ⟨g, 0, none⟩) m.toNat cap) z3 (by simp [execOp, x3, n9, Act.put, Act.eval]) ?_
      rw [y3]
      refine wpList_nil ?_
      show (Code.ret).wp _ _ _ _
      refine wp_ret ?_
      have hK9 : ∀ b, K8 b = [] ∨ K8 b = [1] -> b ≠ g := fun b hb he => by subst he; rw [hK] at hb; rcases hb with e | e <;> simp [col] at e
      refine ⟨f9, .slice (some ⟨g, 0, none⟩) m.toNat cap, ?_, .slice (some ⟨g, 0, none⟩) m.toNat cap, fun b => fzK i [] (K8 b), rfl, ?_, hout, ⟨a6.trans s8.os, a7.trans s8.tape, a8'.trans s8.output, by rw [a5]; exact s8.size, fun b hb hcb => ?_, fun b arr0 e0 fz0 hb0 => ?_⟩⟩
      · rw [show ∀ tm, (results Tryz.f182 tm).run Tryz.prog w9 = .ok (tm.getD 4 undef) w9 from fun tm => results_tmp rfl _ _ _]
        simp [Act.put, n9]
      · refine .fro _ g 0 m.toNat cap _ (fun j => F j) (by rw [hK]; simp [fzK, col]) (by rw [a5]; exact hlt) (by omega) hcap (fun j hj => ?_) (fun j t hj => ?_)
        · simp only [List.length_map, List.length_take] at hj
          rw [Nat.zero_add, z0i a1, a3 j (by omega), hF j (by omega)]
        · rw [List.getElem?_map, Option.map_eq_some_iff] at hj
          obtain ⟨t1, ht1, rfl⟩ := hj
          rw [List.getElem?_take] at ht1
          split at ht1
          · have h2 := hh j t1 ht1
            refine h2.freeze (fun b s hb hcc hKb => ?_) (fun b hb hKb => ?_) (by rw [a5]; exact Nat.le_refl _) []
            · have hbg : b ≠ g := by rintro rfl; rw [hK] at hKb; simp [col] at hKb
              exact ⟨by rw [hKb]; simp [fzK, col, z1m], a4 b hbg⟩
            · exact ⟨by rw [hKb]; rfl, a4 b (hK9 b (.inl hKb))⟩
          · cases ht1
      · obtain ⟨u1, u2⟩ := s8.old b hb hcb
        refine ⟨by rw [u1]; rcases hcb with q | q <;> rw [q] <;> simp [fzK], ?_⟩
        rw [a4 b (hK9 b (by rw [u1]; exact hcb))]; exact u2
      · obtain ⟨b1, c1, z1', h1, h2⟩ := s8.sz b arr0 e0 fz0 hb0
        by_cases hbg : b = g
        · subst hbg
          rw [hg] at h1
          cases h1
          exact ⟨_, _, _, a1, by rw [a2]; exact h2⟩
        · exact ⟨_, _, _, (a4 b hbg).trans h1, h2⟩
    | _ => cases hT
end
section
open Go.RowKit
def Arr (w : World) (g n : Nat) (f : Nat -> Value) : Prop :=
  ∀ i, i < n -> w.cell? ⟨g, i, none⟩ = some (f i) /\ w.frozen? ⟨g, i, none⟩ = false
theorem Arr.set {w : World} {g n : Nat} {f : Nat -> Value} (h : Arr w g n f) (j : Nat) (hj : j < n) (c : Value) :
    Arr (w.setCell ⟨g, j, none⟩ c) g n (fun i => if i = j then c else f i) := by
  intro i hi
  refine ⟨?_, by rw [World.frozen?_setCell]; exact (h i hi).2⟩
  by_cases hij : i = j
  · subst hij
    rw [World.cell?_setCell_same _ _ _ (h i hi).1]; simp
  · rw [World.cell?_setCell_other _ _ _ _ (fun e => hij (by cases e; rfl)), (h i hi).1]; simp [hij]
theorem Arr.drew {w : World} {g n : Nat} {f : Nat -> Value} (h : Arr w g n f) : Arr w.drew g n f := h
theorem Arr.congr {w : World} {g n : Nat} {f f' : Nat -> Value} (h : Arr w g n f) (e : ∀ i, i < n -> f i = f' i) : Arr w g n f' :=
  fun i hi => by rw [← e i hi]; exact h i hi
theorem Arr.below {w w' : World} {g n B : Nat} {f : Nat -> Value} (h : Arr w g n f) (hb : Below B w w') (hg : g < B) : Arr w' g n f :=
  fun i hi => ⟨(hb.cell (p := ⟨g, i, none⟩) hg).trans (h i hi).1, (hb.frozen (p := ⟨g, i, none⟩) hg).trans (h i hi).2⟩
theorem Arr.grown {w w' : World} {g n : Nat} {row : Option Nat} {f : Nat -> Value} (h : Arr w g n f) (hb : w.grownBy w' row) (hg : some g ≠ row) : Arr w' g n f :=
  fun i hi => by
    have hlt := World.block_lt_of_cell? w _ (h i hi).1
    have e := hb.block g hlt hg
    exact ⟨(World.cell?_of_block (a := ⟨g, i, none⟩) e).trans (h i hi).1, (World.frozen?_of_block (a := ⟨g, i, none⟩) e).trans (h i hi).2⟩
theorem Arr.made (w : World) (z : Value) (n : Nat) (e : TypeId) : Arr (w.alloc (.cells (madeCells #[z] n) e)) w.heap.size n (fun _ => z) := by
  intro i hi
  refine ⟨?_, by rw [World.frozen?_alloc_new]⟩
  rw [World.cell?_alloc_new]
  simp [madeCells, hi, Nat.mod_one]
theorem Arr.lt {w : World} {g n : Nat} {f : Nat -> Value} (h : Arr w g n f) (hn : 0 < n) : g < w.heap.size := World.block_lt_of_cell? w _ (h 0 hn).1
theorem Arr.get {w : World} {g n : Nat} {f : Nat -> Value} (h : Arr w g n f) (i : Nat) (hi : i < n) {v : Value} (e : f i = v) : w.cell? ⟨g, i, none⟩ = some v := by rw [(h i hi).1, e]
theorem Arr.free {w : World} {g n : Nat} {f : Nat -> Value} (h : Arr w g n f) (i : Nat) (hi : i < n) : w.frozen? ⟨g, i, none⟩ = false := (h i hi).2
end
end Go.Proofs.YthbchhekejljjaaGreatDoor
section
namespace Go.Proofs
open Go.Shelf
def Tryz.lays169_ren : Go.Shelf.Ren := ⟨fun | 169 => 141 | n => n, fun | 70 => 188 | 9 => 9 | 0 => 0 | 72 => 190 | 37 => 45 | 127 => 213 | 3 => 3 | 5 => 5 | n => n, fun | n => n⟩
theorem Tryz.lays169 : Go.Proofs.Lays.n169 Tryz.prog Tryz.lays169_ren := {
  mixed := by kernel_rfl
  f169 := Tryz.func141.trans (congrArg some (by kernel_rfl))
  t0 := Tryz.underlying0
  a0 := Tryz.isAgg0
  z0 := Tryz.sizeOf0
  v0 := Tryz.zeroValue0
  t3 := Tryz.underlying3
  a3 := Tryz.isAgg3
  z3 := Tryz.sizeOf3
  v3 := Tryz.zeroValue3
  t9 := Tryz.underlying9
  a9 := Tryz.isAgg9
  z9 := Tryz.sizeOf9
  v9 := Tryz.zeroValue9
  t37 := Tryz.underlying45
  a37 := Tryz.isAgg45
  z37 := Tryz.sizeOf45
  v37 := Tryz.zeroValue45
  t70 := Tryz.underlying188
  a70 := Tryz.isAgg188
  z70 := Tryz.sizeOf188
  v70 := Tryz.zeroValue188
  t72 := Tryz.underlying190
  a72 := Tryz.isAgg190
  z72 := Tryz.sizeOf190
  v72 := Tryz.zeroValue190
  t127 := Tryz.underlying213
  a127 := Tryz.isAgg213
  z127 := Tryz.sizeOf213
  v127 := Tryz.zeroValue213 }
theorem Tryz.Builder_Extra_169 : Builder.Extra Tryz.prog Tryz.lays169_ren := {
  sizeBuilder := by kernel_rfl
  liesBuilder := by kernel_rfl
  t5 := Tryz.underlying5
  a5 := Tryz.isAgg5
  z5 := Tryz.sizeOf5
  v5 := Tryz.zeroValue5
  infoByte := by kernel_rfl
  cellsByte := by kernel_rfl
  sizeByte := by kernel_rfl
  neB5 := by decide }
open Go.RowKit in
theorem Tryz.Builder_String_any (B b : Nat) (l : List UInt8) (w : World) (h : Lib.IsBuilder 190 5 B b (Lib.byteCells l) w) (hBw : B <= w.heap.size) :
    Calls Tryz.prog 141 #[.pointer (some ⟨b, 0, none⟩)] w fun e w' => e = .returned (.string ⟨l.toArray⟩) /\ Below B w w' := Any.Builder_String_any Tryz.lays169 Tryz.Builder_Extra_169 B b l w h hBw
def Tryz.lays189_ren : Go.Shelf.Ren := ⟨fun | 189 => 61 | 125 => 100 | 257 => 99 | 128 => 134 | 129 => 135 | 294 => 125 | 295 => 126 | 296 => 127 | 297 => 128 | 298 => 129 | 299 => 130 | 216 => 131 | 300 => 132 | 301 => 133 | 328 => 162 | 329 => 163 | 330 => 164 | 331 => 165 | 332 => 166 | 215 => 116 | 343 => 180 | n => n, fun | 28 => 26 | 3 => 3 | 46 => 153 | 0 => 0 | 51 => 178 | 53 => 164 | 4 => 4 | 183 => 172 | 182 => 171 | 131 => 105 | 5 => 5 | 9 => 9 | 218 => 202 | 222 => 181 | 228 => 221 | 229 => 222 | n => n, fun | n => n⟩
theorem Tryz.lays189 : Go.Proofs.Lays.n189 Tryz.prog Tryz.lays189_ren := {
  mixed := by kernel_rfl
  f125 := Tryz.func100.trans (congrArg some (by kernel_rfl))
  f128 := Tryz.func134.trans (congrArg some (by kernel_rfl))
  f129 := Tryz.func135.trans (congrArg some (by kernel_rfl))
  f189 := Tryz.func61.trans (congrArg some (by kernel_rfl))
  f215 := Tryz.func116.trans (congrArg some (by kernel_rfl))
  f216 := Tryz.func131.trans (congrArg some (by kernel_rfl))
  f257 := Tryz.func99.trans (congrArg some (by kernel_rfl))
  f294 := Tryz.func125.trans (congrArg some (by kernel_rfl))
  f295 := Tryz.func126.trans (congrArg some (by kernel_rfl))
  f296 := Tryz.func127.trans (congrArg some (by kernel_rfl))
  f297 := Tryz.func128.trans (congrArg some (by kernel_rfl))
  f298 := Tryz.func129.trans (congrArg some (by kernel_rfl))
  f299 := Tryz.func130.trans (congrArg some (by kernel_rfl))
  f300 := Tryz.func132.trans (congrArg some (by kernel_rfl))
  f301 := Tryz.func133.trans (congrArg some (by kernel_rfl))
  f328 := Tryz.func162.trans (congrArg some (by kernel_rfl))
  f329 := Tryz.func163.trans (congrArg some (by kernel_rfl))
  f330 := Tryz.func164.trans (congrArg some (by kernel_rfl))
  f331 := Tryz.func165.trans (congrArg some (by kernel_rfl))
  f332 := Tryz.func166.trans (congrArg some (by kernel_rfl))
  f343 := Tryz.func180.trans (congrArg some (by kernel_rfl))
  t0 := Tryz.underlying0
  a0 := Tryz.isAgg0
  z0 := Tryz.sizeOf0
  v0 := Tryz.zeroValue0
  t3 := Tryz.underlying3
  a3 := Tryz.isAgg3
  z3 := Tryz.sizeOf3
  v3 := Tryz.zeroValue3
  t4 := Tryz.underlying4
  a4 := Tryz.isAgg4
  z4 := Tryz.sizeOf4
  v4 := Tryz.zeroValue4
  t5 := Tryz.underlying5
  a5 := Tryz.isAgg5
  z5 := Tryz.sizeOf5
  v5 := Tryz.zeroValue5
  t9 := Tryz.underlying9
  a9 := Tryz.isAgg9
  z9 := Tryz.sizeOf9
  v9 := Tryz.zeroValue9
  t28 := Tryz.underlying26
  a28 := Tryz.isAgg26
  z28 := Tryz.sizeOf26
  v28 := Tryz.zeroValue26
  t46 := Tryz.underlying153
  a46 := Tryz.isAgg153
  z46 := Tryz.sizeOf153
  v46 := Tryz.zeroValue153
  t51 := Tryz.underlying178
  a51 := Tryz.isAgg178
  z51 := Tryz.sizeOf178
  v51 := Tryz.zeroValue178
  t53 := Tryz.underlying164
  a53 := Tryz.isAgg164
  z53 := Tryz.sizeOf164
  v53 := Tryz.zeroValue164
  t131 := Tryz.underlying105
  a131 := Tryz.isAgg105
  z131 := Tryz.sizeOf105
  v131 := Tryz.zeroValue105
  t182 := Tryz.underlying171
  a182 := Tryz.isAgg171
  z182 := Tryz.sizeOf171
  v182 := Tryz.zeroValue171
  t183 := Tryz.underlying172
  a183 := Tryz.isAgg172
  z183 := Tryz.sizeOf172
  v183 := Tryz.zeroValue172
  t218 := Tryz.underlying202
  a218 := Tryz.isAgg202
  z218 := Tryz.sizeOf202
  v218 := Tryz.zeroValue202
  t222 := Tryz.underlying181
  a222 := Tryz.isAgg181
  z222 := Tryz.sizeOf181
  v222 := Tryz.zeroValue181
  t228 := Tryz.underlying221
  a228 := Tryz.isAgg221
  z228 := Tryz.sizeOf221
  v228 := Tryz.zeroValue221
  t229 := Tryz.underlying222
  a229 := Tryz.isAgg222
  z229 := Tryz.sizeOf222
  v229 := Tryz.zeroValue222 }
open Go.Sort Go.RowKit in
theorem Tryz.slices_Sort_int (blk off cap : Nat) (zs : List Int) (w : World) (hH : Holds (Value.int .i64) w blk off zs.toArray) (hblk : blk < w.heap.size) (hsz : zs.length < 4611686018427387904) :
    Calls Tryz.prog 61 #[.slice (some ⟨blk, off, none⟩) zs.length cap] w fun e w' =>
      e = .returned (.tuple #[]) /\ ∃ n os, w' = grow (putRow (Value.int .i64) (Sort.ahead w n) blk off (zs.mergeSort fun x y => decide (x <= y)).toArray) os := Any.slices_Sort_int Tryz.lays189 blk off cap zs w hH hblk hsz
def Tryz.laysNm215_ren : Go.Shelf.Ren := ⟨fun | 15 => 76 | n => n, fun | 22 => 26 | 3 => 3 | 4 => 4 | n => n, fun | n => n⟩
theorem Tryz.laysNm215 : Go.Proofs.Lays2.n15 Tryz.prog Tryz.laysNm215_ren := {
  mixed := by kernel_rfl
  f15 := Tryz.func76.trans (congrArg some (by kernel_rfl))
  t3 := Tryz.underlying3
  a3 := Tryz.isAgg3
  z3 := Tryz.sizeOf3
  v3 := Tryz.zeroValue3
  t4 := Tryz.underlying4
  a4 := Tryz.isAgg4
  z4 := Tryz.sizeOf4
  v4 := Tryz.zeroValue4
  t22 := Tryz.underlying26
  a22 := Tryz.isAgg26
  z22 := Tryz.sizeOf26
  v22 := Tryz.zeroValue26
  i3 := by kernel_rfl }
open Go.RowKit Go.Lib in
theorem Tryz.slices_Clone_int (b off n c : Nat) (zs : List Int) (w : World) (hz : n <= zs.length) (hbig : n * 8 <= 140737488355328) (hc : ∀ j, j < zs.length -> w.cell? ⟨b, off + j, none⟩ = some (.int .i64 (zs.getD j 0))) :
    Calls Tryz.prog 76 #[.slice (some ⟨b, off, none⟩) n c] w fun e w' => ∃ v', e = .returned v' /\ w'.ownsRow w.heap.size 3 1 v' n ((zs.take n).map (Value.int .i64)) /\ v' ≠ .slice none 0 0 /\ Below w.heap.size w w' := Any.slices_Clone_int Tryz.laysNm215 b off n c zs w hz hbig hc
open Go.RowKit Go.Lib in
theorem Tryz.slices_Clone_int_nil (n c : Nat) (w : World) :
    Calls Tryz.prog 76 #[.slice none n c] w fun e w' => e = .returned (.slice none 0 0) /\ w' = w := Any.slices_Clone_int_nil Tryz.laysNm215 n c w
open Go.RowKit Go.Lib in
theorem Tryz.slices_Clone_int_zero (a : Addr) (c : Nat) (w : World) :
    Calls Tryz.prog 76 #[.slice (some a) 0 c] w fun e w' => ∃ v', e = .returned v' /\ w'.ownsRow w.heap.size 3 1 v' 0 [] /\ v' ≠ .slice none 0 0 /\ Below w.heap.size w w' := Any.slices_Clone_int_zero Tryz.laysNm215 a c w
end Go.Proofs
end
namespace Go.Proofs.YthbchhekejljjaaGreatDoor
section
open Go Go.RowKit
set_option maxRecDepth 100000
set_option maxHeartbeats 4000000
abbrev z4R : TypeId := 190
abbrev tPB : TypeId := 188
abbrev tBy : TypeId := 5
abbrev tBs : TypeId := 45
abbrev tUP : TypeId := 235
theorem ccU (b : Nat) (w : World) (h0 : w.cell? ⟨b, 0, none⟩ = some (.pointer (some ⟨b, 0, none⟩))) :
    Calls Tryz.prog 189 #[.pointer (some ⟨b, 0, none⟩)] w fun e w' => e = .returned (.tuple #[]) /\ w' = w := by
  obtain ⟨j, hj, _⟩ : ∃ j, Tryz.prog.info? z4R = some j /\ j.size = 2 := Option.map_eq_some_iff.1 (show (Tryz.prog.info? z4R).map (·.size) = some 2 by kernel_rfl)
  have hu : Tryz.prog.underlying tPB = some (.pointer z4R) := by kernel_rfl
  go_enter Tryz.func189, Tryz.ntmps189
  go_wp2
  rw [Lib.run_neq_ptr_same w _ hu hj]
  go_wp2
  go_end0
  exact ⟨rfl, rfl⟩
theorem ccF (b : Nat) (w : World) (h0 : w.cell? ⟨b, 0, none⟩ = some (.pointer none)) (hsh : w.shape? b = some (z4R, 2)) (hfz : w.frozen? ⟨b, 0, none⟩ = false) :
    Calls Tryz.prog 189 #[.pointer (some ⟨b, 0, none⟩)] w fun e w' => e = .returned (.tuple #[]) /\ w' = w.setCell ⟨b, 0, none⟩ (.pointer (some ⟨b, 0, none⟩)) := by
  obtain ⟨j, hj, hjs⟩ : ∃ j, Tryz.prog.info? z4R = some j /\ j.size = 2 := Option.map_eq_some_iff.1 (show (Tryz.prog.info? z4R).map (·.size) = some 2 by kernel_rfl)
  have hu : Tryz.prog.underlying tPB = some (.pointer z4R) := by kernel_rfl
  have hU : Tryz.prog.underlying tUP = some .unsafePointer := by kernel_rfl
  go_enter Tryz.func189, Tryz.ntmps189
  go_wp2
  rw [Lib.run_to_unsafe w ⟨b, 0, none⟩ hu hU hj (by rw [hjs]; decide) hsh (Nat.zero_lt_succ 1)]
  simp only [Result.andThen]
  rw [Oper.upon_value]
  go_wp2
  rw [run_callFunc_extern Tryz.func196 (by kernel_rfl) (by kernel_rfl) (by kernel_rfl) (e := Extern.AbiNoEscape.same) (by kernel_rfl)]
  rw [Lib.run_noEscape]
  simp only [Result.andThen]
  rw [Oper.upon_value]
  go_wp2
  rw [Lib.run_from_unsafe w ⟨b, 0, none⟩ hU hu hj hsh (show liesAt Tryz.prog Tryz.prog.depth z4R (2 / Tryz.prog.cellsOf z4R) 0 z4R 1 = true by kernel_rfl)]
  simp only [Result.andThen]
  rw [Oper.upon_value]
  go_wp2
  go_end0
  exact ⟨rfl, rfl⟩
theorem ccW (B b : Nat) (bs : List Value) (w : World) (h : Lib.IsBuilder z4R tBy B b bs w) :
    Calls Tryz.prog 189 #[.pointer (some ⟨b, 0, none⟩)] w fun e w' => e = .returned (.tuple #[]) /\ Lib.BuilderAt z4R tBy B b (.pointer (some ⟨b, 0, none⟩)) bs w' /\ Below B w w' /\ Lib.OthersKept tBy (some b) w w' := by
  rcases h with h | h
  · refine (ccF b w h.cell0 h.shape h.frozen0).mono ?_
    rintro e w' ⟨rfl, rfl⟩
    exact ⟨rfl, h.used _, (Below.refl B w).setCell (p := ⟨b, 0, none⟩) h.1 _, (Lib.OthersKept.refl _ _ w).setCell ⟨b, 0, none⟩ rfl _⟩
  · refine (ccU b w h.cell0).mono ?_
    rintro e w' ⟨rfl, rfl⟩
    exact ⟨rfl, h, Below.refl B _, Lib.OthersKept.refl _ _ _⟩
theorem zkF : ∃ i, Tryz.prog.info? tBy = some i /\ i.zero = some (.int .u8 0) /\ i.size = 1 /\ i.bytes = 1 := by
  obtain ⟨i, h1, h2⟩ := Option.map_eq_some_iff.1 (show (Tryz.prog.info? tBy).map (fun i => (i.zero, i.size, i.bytes)) = some (some (.int .u8 0), 1, 1) by kernel_rfl)
  simp only [Prod.mk.injEq] at h2
  exact ⟨i, h1, h2.1, h2.2.1, h2.2.2⟩
theorem wbW (B b : Nat) (bs : List Value) (c : Int) (w : World) (h : Lib.IsBuilder z4R tBy B b bs w) (hlen : bs.length + 1 <= 140737488355328) (hBw : B <= w.heap.size) :
    Calls Tryz.prog 173 #[.pointer (some ⟨b, 0, none⟩), .int .u8 c] w fun e w' => e = .returned .nilIface /\ Lib.BuilderAt z4R tBy B b (.pointer (some ⟨b, 0, none⟩)) (bs ++ [.int .u8 c]) w' /\ Below B w w' /\ Lib.OthersKept tBy (some b) w w' := by
  obtain ⟨i0, hi, hz0, hz1, hz2⟩ := zkF
  go_enter Tryz.func173, Tryz.ntmps173
  go_wp2_with (go_at_call 189; refine (ccW B b bs _ h).mono ?_)
  rintro e w1 ⟨rfl, h1, hb1, hk1⟩
  obtain ⟨hB, v, hbk, hown, hne⟩ := h1
  have c0 : w1.cell? ⟨b, 0, none⟩ = some (.pointer (some ⟨b, 0, none⟩)) := by rw [Lib.cell_of_heap hbk]; rfl
  have c1 : w1.cell? ⟨b, 1, none⟩ = some v := by rw [Lib.cell_of_heap hbk]; rfl
  have hlt : b < w1.heap.size := Lib.BuilderAt.lt ⟨hB, v, hbk, hown, hne⟩
  go_wp2_with (at_builtin; refine wpList_append_own _ rfl _ _ tBs rfl B tBy i0 (.int .u8 0) 1 1 (by kernel_rfl) hi hz0 hz1 hz2 rfl (by decide) v bs.length bs rfl (hown.alloc _) ⟨w1.heap.size, 0, none⟩ 1 1 [.int .u8 c] rfl rfl ?c1 ?c2 ?c3 ?c4 ?c5 ?_)
  case c1 =>
    intro j u hj
    match j, hj with
    | 0, hj => simp at hj; subst hj; simp [Addr.add]
  case c2 => intro u hu; simp at hu; subst hu; rfl
  case c3 => unfold maxLen; omega
  case c4 => omega
  case c5 => have := hb1.size; simp; omega
  intro v' w2 hown' hgrow _
  have hb2 : w2.heap[b]? = some (.cells #[.pointer (some ⟨b, 0, none⟩), v] z4R (0, 0)) := by
    rw [hgrow.block b (by simp; omega) (fun e => hne e.symm), Lib.alloc_old w1 _ b hlt]
    exact hbk
  have d0 : w2.cell? ⟨b, 0, none⟩ = some (.pointer (some ⟨b, 0, none⟩)) := by rw [Lib.cell_of_heap hb2]; rfl
  have d1 : w2.cell? ⟨b, 1, none⟩ = some v := by rw [Lib.cell_of_heap hb2]; rfl
  have f1 : w2.frozen? ⟨b, 1, none⟩ = false := Lib.frozen_of_heap hb2 1
  obtain ⟨g, cap, rfl⟩ : ∃ g cap, v' = .slice (some ⟨g, 0, none⟩) (bs.length + 1) cap := by
    rcases hown'.2 with ⟨_, h0⟩ | ⟨g, cap, cur, hv, _⟩
    · omega
    · exact ⟨g, cap, hv⟩
  go_wp2
  go_ret
  refine ⟨rfl, ?_, ?_, ((hk1.alloc _).grown hgrow (Lib.ownsRowF_kind (World.ownsRowF_of (hown.alloc _)))).setCell ⟨b, 1, none⟩ rfl _⟩
  · exact Lib.BuilderAt.put hB hb2 (bs' := bs ++ [.int .u8 c]) (by simpa using hown') (by decide)
  · exact ((hb1.alloc (by have := hb1.size; omega) _).grown hgrow (by have := hb1.size; simp; omega) (fun k hk => (hown.lt k hk).1)).setCell (p := ⟨b, 1, none⟩) hB _
theorem wsW (B b : Nat) (bs : List Value) (s : ByteArray) (w : World) (h : Lib.IsBuilder z4R tBy B b bs w) (hlen : bs.length + s.size <= 140737488355328) (hBw : B <= w.heap.size) :
    Calls Tryz.prog 190 #[.pointer (some ⟨b, 0, none⟩), .string s] w fun e w' => e = .returned (.tuple #[.int .i64 s.size, .nilIface]) /\ Lib.BuilderAt z4R tBy B b (.pointer (some ⟨b, 0, none⟩)) (bs ++ Lib.strCells s) w' /\ Below B w w' /\ Lib.OthersKept tBy (some b) w w' := by
  obtain ⟨i0, hi, hz0, hz1, hz2⟩ := zkF
  go_enter Tryz.func190, Tryz.ntmps190
  go_wp2_with (go_at_call 189; refine (ccW B b bs _ h).mono ?_)
  rintro e w1 ⟨rfl, h1, hb1, hk1⟩
  obtain ⟨hB, v, hbk, hown, hne⟩ := h1
  have c0 : w1.cell? ⟨b, 0, none⟩ = some (.pointer (some ⟨b, 0, none⟩)) := by rw [Lib.cell_of_heap hbk]; rfl
  have c1 : w1.cell? ⟨b, 1, none⟩ = some v := by rw [Lib.cell_of_heap hbk]; rfl
  have hlt : b < w1.heap.size := Lib.BuilderAt.lt ⟨hB, v, hbk, hown, hne⟩
  go_wp2_with (at_builtin; refine Lib.wpList_append_own_string _ rfl _ _ tBs 9 rfl B tBy i0 (by kernel_rfl) (by kernel_rfl) hi hz0 hz1 hz2 v bs.length bs rfl hown s rfl ?c3 ?c4 ?c5 ?_)
  case c3 => unfold maxLen; omega
  case c4 => omega
  case c5 => have := hb1.size; omega
  intro v' w2 hown' hgrow _
  have hb2 : w2.heap[b]? = some (.cells #[.pointer (some ⟨b, 0, none⟩), v] z4R (0, 0)) := by
    rw [hgrow.block b hlt (fun e => hne e.symm)]
    exact hbk
  have d0 : w2.cell? ⟨b, 0, none⟩ = some (.pointer (some ⟨b, 0, none⟩)) := by rw [Lib.cell_of_heap hb2]; rfl
  have d1 : w2.cell? ⟨b, 1, none⟩ = some v := by rw [Lib.cell_of_heap hb2]; rfl
  have f1 : w2.frozen? ⟨b, 1, none⟩ = false := Lib.frozen_of_heap hb2 1
  obtain ⟨ao, n', cap, rfl⟩ : ∃ ao n' cap, v' = .slice ao n' cap := by
    rcases hown'.2 with ⟨hv, _⟩ | ⟨g, cap, cur, hv, _⟩
    · exact ⟨_, _, _, hv⟩
    · exact ⟨_, _, _, hv⟩
  go_wp2
  go_ret2
  refine ⟨rfl, ?_, ?_, (hk1.grown hgrow (Lib.ownsRowF_kind (World.ownsRowF_of hown))).setCell ⟨b, 1, none⟩ rfl _⟩
  · exact Lib.BuilderAt.put hB hb2 (bs' := bs ++ Lib.strCells s) (by simpa [Lib.strCells_length] using hown') (by decide)
  · exact (hb1.grown hgrow (by have := hb1.size; omega) (fun k hk => (hown.lt k hk).1)).setCell (p := ⟨b, 1, none⟩) hB _
theorem znq (op : Int) (w : World) : Calls Tryz.prog 191 #[.int .i64 op] w fun e w' => e = .returned (.int .i64 (lvl op)) /\ w' = w := by
  unfold lvl
  go_enter Tryz.func191, Tryz.ntmps191
  go_wp2
  all_goals go_ret
  all_goals first | (simp_all; done) | trace_state
end
section
open Go Go.RowKit
set_option maxRecDepth 100000
set_option maxHeartbeats 4000000
theorem zni {w : World} {K : Nat -> z0a} {v : Value} {a b c : T} (h : TRep w K [] v (.agg [a, b, c])) : ∃ x y z, v = .agg #[x, y, z] /\ TRep w K [] x a /\ TRep w K [] y b /\ TRep w K [] z c := by
  generalize hT : T.agg [a, b, c] = t at h
  cases h with
  | agg c0 vs cs F hl hF h =>
    cases hT
    obtain ⟨l⟩ := vs
    match l, hl with
    | [x, y, z], _ =>
      have e0 := hF 0 (by simp)
      have e1 := hF 1 (by simp)
      have e2 := hF 2 (by simp)
      simp at e0 e1 e2
      refine ⟨x, y, z, rfl, ?_, ?_, ?_⟩
      · rw [e0]; exact h 0 a rfl
      · rw [e1]; exact h 1 b rfl
      · rw [e2]; exact h 2 c rfl
  | _ => cases hT
section
variable (w0 : World) (K0 : Nat -> z0a)
def znk (k : Nat) : Prop := ∀ (cs : List T) (v : Value) (bs : List UInt8), zgm k cs = some bs -> TRep w0 K0 [] v (.agg cs) -> ∀ (b : Nat) (pre : List UInt8) (W : World), Below w0.heap.size w0 W -> Lib.IsBuilder z4R tBy w0.heap.size b (Lib.byteCells pre) W -> pre.length + bs.length <= 100000 ->
  Calls Tryz.prog 140 #[.pointer (some ⟨b, 0, none⟩), v] W fun e W' => e = .returned (.tuple #[]) /\ Lib.IsBuilder z4R tBy w0.heap.size b (Lib.byteCells (pre ++ bs)) W' /\ Below w0.heap.size w0 W' /\ Lib.OthersKept tBy (some b) W W'
def znv (k : Nat) : Prop := ∀ (z4w n : Nat) (cs : List T) (v : Value) (bs : List UInt8), zfz k z4w n cs = some bs -> TRep w0 K0 [] v (.sl n cs) -> ∀ (b : Nat) (pre : List UInt8) (W : World), Below w0.heap.size w0 W -> Lib.IsBuilder z4R tBy w0.heap.size b (Lib.byteCells pre) W -> pre.length + bs.length <= 100000 ->
  Calls Tryz.prog 174 #[.pointer (some ⟨b, 0, none⟩), v, .string ⟨#[]⟩, .int .i64 z4w] W fun e W' => e = .returned (.tuple #[]) /\ Lib.IsBuilder z4R tBy w0.heap.size b (Lib.byteCells (pre ++ bs)) W' /\ Below w0.heap.size w0 W' /\ Lib.OthersKept tBy (some b) W W'
variable {w0 K0}
theorem z2D {T e : TypeId} {B b : Nat} {bs : List Value} {W : World} (h : Lib.IsBuilder T e B b bs W) (o : Obj) : Lib.IsBuilder T e B b bs (W.alloc o) := by
  have key : ∀ p, Lib.BuilderAt T e B b p bs W -> Lib.BuilderAt T e B b p bs (W.alloc o) := by
    rintro p ⟨hB, v, hbk, hown, hne⟩
    exact ⟨hB, v, (Lib.alloc_old W _ b (Lib.BuilderAt.lt ⟨hB, v, hbk, hown, hne⟩)).trans hbk, hown.alloc _, hne⟩
  exact h.imp (key _) (key _)
theorem z1w {B : Nat} {w W : World} (h : Below B w W) (hB : B = w.heap.size) (o : Obj) : Below B w (W.alloc o) := h.alloc (by have := h.size; omega) o
theorem z3g {e : TypeId} {b : Option Nat} {W W' : World} {o : Obj} (h : Lib.OthersKept e b (W.alloc o) W') : Lib.OthersKept e b W W' := ((Lib.OthersKept.refl e b W).alloc o).trans h
theorem wrB {b : Nat} {pre : List UInt8} {W : World} (hb : Below w0.heap.size w0 W) (h : Lib.IsBuilder z4R tBy w0.heap.size b (Lib.byteCells pre) W) (x : UInt8) {c : Int} (hc : c = (x.toNat : Int)) (hl : pre.length < 100000) :
    Calls Tryz.prog 173 #[.pointer (some ⟨b, 0, none⟩), .int .u8 c] W fun e W' => e = .returned .nilIface /\ Lib.IsBuilder z4R tBy w0.heap.size b (Lib.byteCells (pre ++ [x])) W' /\ Below w0.heap.size w0 W' /\ Lib.OthersKept tBy (some b) W W' := by
  subst hc
  refine (wbW w0.heap.size b _ (x.toNat : Int) W h (by simp [Lib.byteCells]; omega) hb.size).mono ?_
  rintro e W' ⟨rfl, h1, h2, h3⟩
  refine ⟨rfl, .inr ?_, hb.trans h2, h3⟩
  have : Lib.byteCells (pre ++ [x]) = Lib.byteCells pre ++ [.int .u8 (x.toNat : Int)] := by simp [Lib.byteCells]
  rw [this]; exact h1
abbrev tEx : TypeId := 72
theorem wrS {b : Nat} {pre : List UInt8} {W : World} (hb : Below w0.heap.size w0 W) (h : Lib.IsBuilder z4R tBy w0.heap.size b (Lib.byteCells pre) W) (hl : pre.length <= 100000) :
    Calls Tryz.prog 190 #[.pointer (some ⟨b, 0, none⟩), .string ⟨#[]⟩] W fun e W' => e = .returned (.tuple #[.int .i64 0, .nilIface]) /\ Lib.IsBuilder z4R tBy w0.heap.size b (Lib.byteCells pre) W' /\ Below w0.heap.size w0 W' /\ Lib.OthersKept tBy (some b) W W' := by
  refine (wsW w0.heap.size b _ ⟨#[]⟩ W h (by simp [Lib.byteCells]; omega) hb.size).mono ?_
  rintro e W' ⟨rfl, h1, h2, h3⟩
  refine ⟨rfl, .inr ?_, hb.trans h2, h3⟩
  have : Lib.strCells (⟨#[]⟩ : ByteArray) = [] := rfl
  rw [this, List.append_nil] at h1; exact h1
theorem z1T {b : Nat} {wr Wx : World} {vs : Array Value} {pre : List Value} (hd : Lib.IsBuilder z4R tBy w0.heap.size b pre wr) (h : Lib.OthersKept tBy (some b) (wr.alloc (.cells vs tEx)) Wx) (j : Nat) (v : Value) (hv : vs[j]? = some v) : Wx.cell? ⟨wr.heap.size, j, none⟩ = some v := by
  have hlt : b < wr.heap.size := hd.elim (·.lt) (·.lt)
  have h1 : (wr.alloc (.cells vs tEx)).heap[wr.heap.size]? = some (.cells vs tEx (0, 0)) := heap_alloc_new wr _
  have h2 := h _ _ h1 (fun e => by cases e; omega) (fun c fz e => by cases e)
  rw [z0i h2]; exact hv
theorem zhd {k : Nat} (hk : znv w0 K0 k) : znk w0 K0 (k + 1) := by
  intro cs v bs hf hr b pre W hbl hbd hlen
  unfold zgm at hf
  split at hf
  case h_2 => cases hf
  rename_i k' op l n es he
  cases he
  obtain ⟨x, y, z, rfl, hx, hy, hz⟩ := zni hr
  rw [hx.sc_eq, hy.sc_eq]
  clear hx hy hr
  have HB := Lib.hid hbl
  have HD := Lib.hid hbd
  have HZ := Lib.hid hz
  have HK := Lib.hid hk
  clear hbl hbd hz hk
  split at hf
  · rename_i hop
    cases hf
    subst hop
    go_enter Tryz.func140, Tryz.ntmps140
    go_wp2_with (go_at_call 173; refine (wrB (z1w HB.out rfl _) (z2D HD.out _) 48 rfl (by simp at hlen; omega)).mono ?_; rintro e W' ⟨rfl, h1, h2, h5⟩; have H1 := Lib.hid h1; have H2 := Lib.hid h2; have H5 := Lib.hid h5; clear h1 h2 h5)
    go_end0
    exact ⟨rfl, H1.out, H2.out, z3g H5.out⟩
  · rename_i hop1
    split at hf
    · rename_i hop
      split at hf
      case isFalse => cases hf
      rename_i hl
      cases hf
      subst hop
      clear hop1
      obtain ⟨m, rfl⟩ : ∃ m : Nat, l = (m : Int) := ⟨l.toNat, by omega⟩
      have hm : m < 26 := by omega
      simp only [Int.toNat_natCast] at hlen ⊢
      have hcv : (97 : Int) + (m : Int) = ((UInt8.ofNat (97 + m)).toNat : Int) := by
        rw [UInt8.toNat_ofNat']
        omega
      have HC := Lib.hid hcv
      clear hcv hl
      go_enter Tryz.func140, Tryz.ntmps140
      go_wp2_with (go_at_call 173; refine (wrB (z1w HB.out rfl _) (z2D HD.out _) (UInt8.ofNat (97 + m)) HC.out (by simp at hlen; omega)).mono ?_; rintro e W' ⟨rfl, h1, h2, h5⟩; have H1 := Lib.hid h1; have H2 := Lib.hid h2; have H5 := Lib.hid h5; clear h1 h2 h5)
      go_end0
      exact ⟨rfl, H1.out, H2.out, z3g H5.out⟩
    · rename_i hop3
      split at hf
      · rename_i hop
        subst hop
        clear hop1 hop3
        go_enter Tryz.func140, Tryz.ntmps140
        go_wp2_with (go_at_call 174; refine (HK.out 4 _ _ _ _ hf HZ.out b pre _ (z1w HB.out rfl _) (z2D HD.out _) hlen).mono ?_; rintro e W' ⟨rfl, h1, h2, h5⟩; have H1 := Lib.hid h1; have H2 := Lib.hid h2; have H5 := Lib.hid h5; clear h1 h2 h5)
        go_end0
        exact ⟨rfl, H1.out, H2.out, z3g H5.out⟩
      · rename_i hop5
        split at hf
        case isFalse => cases hf
        rename_i hop
        subst hop
        rw [Option.map_eq_some_iff] at hf
        obtain ⟨bs', hf, rfl⟩ := hf
        rw [List.length_append] at hlen
        clear hop1 hop3 hop5
        go_enter Tryz.func140, Tryz.ntmps140
        go_wp2_with (first | (go_at_call 174; refine (HK.out 5 _ _ _ _ hf HZ.out b pre _ (z1w HB.out rfl _) (z2D HD.out _) (by omega)).mono ?_; rintro e W' ⟨rfl, h1, h2, h5⟩; have H1 := Lib.hid h1; have H2 := Lib.hid h2; have H5 := Lib.hid h5; clear h1 h2 h5) | (go_at_call 173; refine (wrB H2.out H1.out 42 rfl (by simp at hlen ⊢; omega)).mono ?_; rintro e W2 ⟨rfl, h1, h2, h6⟩; have H3 := Lib.hid h1; have H4 := Lib.hid h2; have H6 := Lib.hid h6; clear h1 h2 h6))
        go_end0
        exact ⟨rfl, by rw [← List.append_assoc]; exact H3.out, H4.out, z3g (H5.out.trans H6.out)⟩
theorem zeY {k z4w m : Nat} {cs : List T} {r : List UInt8} (h : zfz k z4w (m + 1) cs = some r) : ∃ k' op b c l x y, k = k' + 1 /\ cs = .sc (.int .i64 op) :: b :: c :: l /\ zgm k' [.sc (.int .i64 op), b, c] = some x /\ zfz k' z4w m l = some y /\ r = (if z4w <= lvl op then x else [40] ++ x ++ [41]) ++ y := by
  unfold zfz at h
  split at h
  · rename_i k' n' op b c l e2
    cases e2
    split at h
    · rename_i x y hx hy
      cases h
      exact ⟨_, _, _, _, _, _, _, rfl, rfl, hx, hy, rfl⟩
    · cases h
  · rename_i e; cases e
  · cases h
theorem zdt {k : Nat} {op : Int} {b c : T} {x : List UInt8} (h : zgm k [.sc (.int .i64 op), b, c] = some x) : ∃ l n es, b = .sc (.int .i64 l) /\ c = .sl n es := by
  unfold zgm at h
  split at h
  · rename_i he
    cases he
    exact ⟨_, _, _, rfl, rfl⟩
  · cases h
theorem ze3 {w : World} {K : Nat -> z0a} {v : Value} {n : Nat} {cs : List T} (h : TRep w K [] v (.sl n cs)) : ∃ a cap, v = .slice a n cap := by
  generalize hT : T.sl n cs = t at h
  cases h with
  | emp c a cap hc => cases hT; exact ⟨_, _, rfl⟩
  | fro c g o n cap cs F hK hg hn hc hF h => cases hT; exact ⟨_, _, rfl⟩
  | _ => cases hT
theorem zgn {k z4w : Nat} {cs : List T} {r : List UInt8} (h : zfz k z4w 0 cs = some r) : r = [] := by
  unfold zfz at h
  split at h
  · rename_i e; cases e
  · cases h; rfl
  · cases h
theorem zi5 {k : Nat} (hw : ∀ j, j < k -> znk w0 K0 j) : znv w0 K0 k := by
  intro z4w n cs v bs hf hr b pre W hbl hbd hlen
  obtain ⟨a0, cap, rfl, hmx, hcell⟩ : ∃ a0 cap, v = .slice a0 n cap /\ n <= maxLen /\ (0 < n -> ∃ (g o : Nat) (F : Nat -> Value), a0 = some ⟨g, o, none⟩ /\ ∀ j t, cs[j]? = some t -> TRep w0 K0 [] (F j) t /\ ∀ W, Below w0.heap.size w0 W -> W.cell? ⟨g, o + j, none⟩ = some (F j)) := by
    generalize hT : T.sl n cs = t at hr
    cases hr with
    | emp c a cap hc => cases hT; exact ⟨_, _, rfl, Nat.zero_le _, fun hi => by omega⟩
    | fro c g o n cap cs F hK hg hn hc hF h =>
      cases hT
      refine ⟨_, _, rfl, Nat.le_trans hn hc, fun hi => ⟨g, o, F, rfl, fun j t ht => ⟨h _ t ht, fun W hW => ?_⟩⟩⟩
      rw [z0l (hW.block g hg)]
      exact hF _ (List.getElem?_eq_some_iff.1 ht).1
    | _ => cases hT
  replace hmx : n <= 9223372036854775807 := hmx
  have HW := Lib.hid hw
  have HC := Lib.hid hcell
  have HB := Lib.hid hbl
  have HD := Lib.hid hbd
  have HF := Lib.hid hf
  clear hr hw hcell hbl hbd hf
  go_enter Tryz.func174, Tryz.ntmps174
  go_wp2_with fail
  go_loopw [12] (fun vi wr => ∃ (i kk : Nat) (pre' rest : List UInt8), i <= n /\ vi = .int .i64 i /\ kk <= k /\ zfz kk z4w (n - i) (cs.drop (i * 3)) = some rest /\ pre' ++ rest = pre ++ bs /\ Lib.IsBuilder z4R tBy w0.heap.size b (Lib.byteCells pre') wr /\ Below w0.heap.size w0 wr /\ Lib.OthersKept tBy (some b) W wr) (fun vi _ => n - (intOf vi).toNat)
  case atStart => exact ⟨0, k, pre, bs, Nat.zero_le _, rfl, Nat.le_refl _, by simpa using HF.out, rfl, HD.out, HB.out, Lib.OthersKept.refl _ _ _⟩
  case round =>
    obtain ⟨i, kk, pre', rest, hi, rfl, hkk, hf, hpr, hbd, hbl, hok⟩ := hrel
    have HO := Lib.hid hok
    clear hok
    have HB := Lib.hid hbl
    have HD := Lib.hid hbd
    clear hbl hbd
    by_cases hlt : i < n
    · obtain ⟨m, hm⟩ : ∃ m, n - i = m + 1 := ⟨n - i - 1, by omega⟩
      rw [hm] at hf
      obtain ⟨k', op, x1, x2, l, x, y, rfl, hcs, hx, hy, rfl⟩ := zeY hf
      have h0 : cs[i * 3 + 0]? = some (.sc (.int .i64 op)) := by rw [← List.getElem?_drop, hcs]; rfl
      have h1 : cs[i * 3 + 1]? = some x1 := by rw [← List.getElem?_drop, hcs]; rfl
      have h2 : cs[i * 3 + 2]? = some x2 := by rw [← List.getElem?_drop, hcs]; rfl
      have hl : l = cs.drop ((i + 1) * 3) := by
        have := congrArg (List.drop 3) hcs
        rw [List.drop_drop] at this
        rw [show (i + 1) * 3 = i * 3 + 3 by omega, this]; rfl
      obtain ⟨g, o, F, rfl, hF⟩ := HC.out (by omega)
      obtain ⟨r0, d0⟩ := hF _ _ h0
      obtain ⟨r1, d1⟩ := hF _ _ h1
      obtain ⟨r2, d2⟩ := hF _ _ h2
      replace d0 := d0 _ HB.out
      replace d1 := d1 _ HB.out
      replace d2 := d2 _ HB.out
      have e0 := r0.sc_eq
      rw [e0] at d0 r0
      obtain ⟨l1, n2, es2, rfl, rfl⟩ := zdt hx
      have e1 := r1.sc_eq
      obtain ⟨a2, cap2, e2⟩ := ze3 r2
      rw [e1] at d1 r1
      rw [e2] at d2 r2
      have hag : TRep w0 K0 [] (.agg #[.int .i64 op, .int .i64 l1, .slice a2 n2 cap2]) (.agg [.sc (.int .i64 op), .sc (.int .i64 l1), .sl n2 es2]) := .agg _ _ _ (fun j => match j with | 0 => .int .i64 op | 1 => .int .i64 l1 | _ => .slice a2 n2 cap2) rfl (fun j hj => by match j, hj with | 0, _ => rfl | 1, _ => rfl | 2, _ => rfl) (fun j t ht => by
        match j, ht with
        | 0, ht => cases ht; exact r0
        | 1, ht => cases ht; exact r1
        | 2, ht => cases ht; exact r2)
      have HA := Lib.hid hag
      have HX := Lib.hid hx
      have HY := Lib.hid hy
      have HP := Lib.hid hpr
      subst hl
      have H0 := Lib.hid h0
      clear hag hx hy hpr r0 r1 r2 e0 e1 e2 hF h1 h2 hcs hf h0
      have hlen2 := congrArg List.length HP.out
      simp only [List.length_append] at hlen2
      rw [Nat.add_zero] at d0
      rw [← Nat.add_assoc] at d1 d2
      by_cases hbig : z4w <= lvl op
      · rw [if_pos hbig] at HP hlen2
        go_wp2_with (first | (go_at_call 190; refine (wrS (z1w HB.out rfl _) (z2D HD.out _) (by omega)).mono ?_; rintro e Wa ⟨rfl, g1, g2, g5⟩; have := z1T HD.out (g5) 0 _ rfl; have := z1T HD.out (g5) 1 _ rfl; have := z1T HD.out (g5) 2 _ rfl; have GWa1 := Lib.hid g1; have GWa2 := Lib.hid g2; have GWa5 := Lib.hid g5; clear g1 g2 g5) | (go_at_call 191; refine (znq op _).mono ?_; rintro e w' ⟨rfl, rfl⟩) | (go_at_call 140; refine (HW.out k' (by omega) _ _ _ HX.out HA.out b pre' _ GWa2.out GWa1.out (by omega)).mono ?_; rintro e Wb ⟨rfl, g1, g2, g5⟩; have GWb1 := Lib.hid g1; have GWb2 := Lib.hid g2; have GWb5 := Lib.hid g5; clear g1 g2 g5) | (go_at_call 140; refine (HW.out k' (by omega) _ _ _ HX.out HA.out b pre' _ (z1w HB.out rfl _) (z2D HD.out _) (by omega)).mono ?_; rintro e Wb ⟨rfl, g1, g2, g5⟩; have GWb1 := Lib.hid g1; have GWb2 := Lib.hid g2; have GWb5 := Lib.hid g5; clear g1 g2 g5))
        · refine ⟨?_, ?_⟩
          · refine ⟨_, _, _, _, _, _, _, _, _, _, _, _, _, _, _, _, _, _, _, _, _, _, _, _, _, _, _, _, ?_, rfl⟩
            exact ⟨i + 1, k', pre' ++ x, y, by omega, by go_num, by omega, by rw [show n - (i + 1) = m by omega]; exact HY.out, by rw [List.append_assoc]; exact HP.out, GWb1.out, GWb2.out, HO.out.trans (z3g (GWa5.out.trans GWb5.out))⟩
          · simp [intOf]; omega
        · refine ⟨?_, ?_⟩
          · refine ⟨_, _, _, _, _, _, _, _, _, _, _, _, _, _, _, _, _, _, _, _, _, _, _, _, _, _, _, _, ?_, rfl⟩
            exact ⟨i + 1, k', pre' ++ x, y, by omega, by go_num, by omega, by rw [show n - (i + 1) = m by omega]; exact HY.out, by rw [List.append_assoc]; exact HP.out, GWb1.out, GWb2.out, HO.out.trans (z3g GWb5.out)⟩
          · simp [intOf]; omega
      · rw [if_neg hbig] at HP hlen2
        simp only [List.length_append, List.length_cons, List.length_nil] at hlen2
        go_wp2_with (first | (go_at_call 190; refine (wrS (z1w HB.out rfl _) (z2D HD.out _) (by omega)).mono ?_; rintro e Wa ⟨rfl, g1, g2, g5⟩; have := z1T HD.out (g5) 0 _ rfl; have := z1T HD.out (g5) 1 _ rfl; have := z1T HD.out (g5) 2 _ rfl; have GWa1 := Lib.hid g1; have GWa2 := Lib.hid g2; have GWa5 := Lib.hid g5; clear g1 g2 g5) | (go_at_call 191; refine (znq op _).mono ?_; rintro e w' ⟨rfl, rfl⟩) | (go_at_call 173; refine (wrB GWc2.out GWc1.out 41 rfl (by simp; omega)).mono ?_; rintro e Wd ⟨rfl, g1, g2, g5⟩; have GWd1 := Lib.hid g1; have GWd2 := Lib.hid g2; have GWd5 := Lib.hid g5; clear g1 g2 g5) | (go_at_call 173; refine (wrB GWa2.out GWa1.out 40 rfl (by omega)).mono ?_; rintro e Wb ⟨rfl, g1, g2, g5⟩; have := z1T HD.out (GWa5.out.trans g5) 0 _ rfl; have := z1T HD.out (GWa5.out.trans g5) 1 _ rfl; have := z1T HD.out (GWa5.out.trans g5) 2 _ rfl; have GWb1 := Lib.hid g1; have GWb2 := Lib.hid g2; have GWb5 := Lib.hid g5; clear g1 g2 g5) | (go_at_call 173; refine (wrB (z1w HB.out rfl _) (z2D HD.out _) 40 rfl (by omega)).mono ?_; rintro e Wb ⟨rfl, g1, g2, g5⟩; have := z1T HD.out (g5) 0 _ rfl; have := z1T HD.out (g5) 1 _ rfl; have := z1T HD.out (g5) 2 _ rfl; have GWb1 := Lib.hid g1; have GWb2 := Lib.hid g2; have GWb5 := Lib.hid g5; clear g1 g2 g5) | (go_at_call 140; refine (HW.out k' (by omega) _ _ _ HX.out HA.out b (pre' ++ [40]) _ GWb2.out GWb1.out (by simp; omega)).mono ?_; rintro e Wc ⟨rfl, g1, g2, g5⟩; have GWc1 := Lib.hid g1; have GWc2 := Lib.hid g2; have GWc5 := Lib.hid g5; clear g1 g2 g5))
        · refine ⟨?_, ?_⟩
          · refine ⟨_, _, _, _, _, _, _, _, _, _, _, _, _, _, _, _, _, _, _, _, _, _, _, _, _, _, _, _, ?_, rfl⟩
            exact ⟨i + 1, k', pre' ++ [40] ++ x ++ [41], y, by omega, by go_num, by omega, by rw [show n - (i + 1) = m by omega]; exact HY.out, by rw [← HP.out]; simp, GWd1.out, GWd2.out, HO.out.trans (z3g ((GWa5.out.trans GWb5.out).trans (GWc5.out.trans GWd5.out)))⟩
          · simp [intOf]; omega
        · refine ⟨?_, ?_⟩
          · refine ⟨_, _, _, _, _, _, _, _, _, _, _, _, _, _, _, _, _, _, _, _, _, _, _, _, _, _, _, _, ?_, rfl⟩
            exact ⟨i + 1, k', pre' ++ [40] ++ x ++ [41], y, by omega, by go_num, by omega, by rw [show n - (i + 1) = m by omega]; exact HY.out, by rw [← HP.out]; simp, GWd1.out, GWd2.out, HO.out.trans (z3g (GWb5.out.trans (GWc5.out.trans GWd5.out)))⟩
          · simp [intOf]; omega
    · obtain rfl : i = n := by omega
      rw [Nat.sub_self] at hf
      obtain rfl := zgn hf
      rw [List.append_nil] at hpr
      have HP := Lib.hid hpr
      clear hf hpr
      go_wp2
      go_end0
      exact ⟨rfl, by rw [← HP.out]; exact HD.out, HB.out, HO.out⟩
end
end
section
open Go Go.RowKit
set_option maxRecDepth 100000
set_option maxHeartbeats 4000000
theorem zhc {w0 : World} {K0 : Nat -> z0a} : ∀ k, ∀ j, j <= k -> znk w0 K0 j := by
  intro k
  induction k with
  | zero =>
    intro j hj cs v bs hf
    obtain rfl : j = 0 := by omega
    simp [zgm] at hf
  | succ k ih =>
    intro j hj
    rcases Nat.lt_or_ge k j with h | h
    · obtain rfl : j = k + 1 := by omega
      exact zhd (zi5 fun i hi => ih i (by omega))
    · exact ih j h
theorem zcD {I : World -> (Nat -> z0a) -> Prop} {C : z0b} (hI : EnvS I) (hC : z2J Tryz.prog I C) {args : List T} {r : T} {outs : List T} (h : zkM C args = some (r, outs)) : CallOk Tryz.prog I 106 args r outs := by
  unfold zkM at h
  split at h
  case h_2 => cases h
  rename_i cs
  split at h
  case h_2 => cases h
  rename_i o1 bs hv hf
  split at h
  case isFalse => cases h
  rename_i hlen
  obtain ⟨rfl, rfl⟩ : T.sc (.string ⟨bs.toArray⟩) = r /\ [T.dead] = outs := by simpa using h
  clear h
  refine ⟨fun vals w => ?_, fun w K vals hs ha hIw => ?_⟩
  · have hb : ∃ c, Tryz.f106.body = some c := ⟨_, rfl⟩
    obtain ⟨c, hb⟩ := hb
    have hname : Tryz.f106.name ≠ "runtime.NumGoroutine" := by decide
    simp [callFunc, program, Sem.run, Tryz.func106, hname, hb]
  obtain ⟨v, rfl⟩ : ∃ v, vals = #[v] := by
    obtain ⟨l⟩ := vals
    match l, hs with
    | [v], _ => exact ⟨v, rfl⟩
  have hv0 : TRep w K [] v (.agg cs) := ha 0 _ rfl
  obtain ⟨op, l, n, es, rfl⟩ : ∃ op l n es, cs = [.sc (.int .i64 op), .sc (.int .i64 l), .sl n es] := by
    unfold zgm at hf
    split at hf
    · exact ⟨_, _, _, _, rfl⟩
    · cases hf
  obtain ⟨y0, y1, y2, rfl, r0, r1, r2⟩ := zni hv0
  obtain ⟨a2, cap2, rfl⟩ := ze3 r2
  have e0 := r0.sc_eq
  have e1 := r1.sc_eq
  subst e0 e1
  clear r0 r1 r2 ha hs
  have st1 : Step w K (w.alloc (.cells #[.int .i64 op, .int .i64 l, .slice a2 n cap2] tEx)) (fun b => if b < w.heap.size then K b else [1]) := by
    refine ⟨rfl, rfl, rfl, (by show w.heap.size <= (w.heap.push _).size; rw [Array.size_push]; omega), fun b hb _ => ⟨by simp [hb], Lib.alloc_old w _ b hb⟩, .olds fun b hb => Lib.alloc_old w _ b hb⟩
  have hI1 := hI.step hIw st1
  have keep : ∀ {w' : World} {K' : Nat -> z0a}, Step w K w' K' -> TRep w' K' [] (.agg #[.int .i64 op, .int .i64 l, .slice a2 n cap2]) (.agg [.sc (.int .i64 op), .sc (.int .i64 l), .sl n es]) := fun {w' K'} st => hv0.move (fun b s hb hc => absurd rfl hc) (fun b hb hk => by
    obtain ⟨u1, u2⟩ := st.old b hb (.inl hk)
    exact ⟨u1.trans hk, u2⟩) Iff.rfl st.size
  have hval := (hC _ _ _ _ hv).calls _ _ #[.agg #[.int .i64 op, .int .i64 l, .slice a2 n cap2]] rfl (fun i t hi => by
    match i, hi with
    | 0, hi => cases hi; exact keep st1) hI1
  have hb1 : (w.alloc (.cells #[.int .i64 op, .int .i64 l, .slice a2 n cap2] tEx)).heap[w.heap.size]? = some (.cells #[.int .i64 op, .int .i64 l, .slice a2 n cap2] tEx (0, 0)) := heap_alloc_new w _
  have hval2 : Calls Tryz.prog 71 #[.agg #[.int .i64 op, .int .i64 l, .slice a2 n cap2]] (w.alloc (.cells #[.int .i64 op, .int .i64 l, .slice a2 n cap2] tEx)) fun e w2 => e = .returned (.bool true) /\ ∃ K2, Step w K w2 K2 /\ w2.heap[w.heap.size]? = some (.cells #[.int .i64 op, .int .i64 l, .slice a2 n cap2] tEx (0, 0)) := by
    refine hval.mono ?_
    rintro e w2 ⟨u, K2, rfl, hu, -, st⟩
    have := hu.sc_eq
    subst this
    refine ⟨rfl, K2, st1.trans st, ?_⟩
    rw [(st.old w.heap.size (by show w.heap.size < (w.heap.push _).size; rw [Array.size_push]; omega) (.inr (by rw [if_neg (Nat.lt_irrefl _)]))).2]
    exact hb1
  clear hval hb1 hI1
  have HV := Lib.hid hval2
  have HKP : Hid (∀ (w' : World) (K' : Nat -> z0a), Step w K w' K' -> TRep w' K' [] (.agg #[.int .i64 op, .int .i64 l, .slice a2 n cap2]) (.agg [.sc (.int .i64 op), .sc (.int .i64 l), .sl n es])) := ⟨fun w' K' st => keep st⟩
  have HF := Lib.hid hf
  clear hval2 keep hv0 hf hv st1 hIw
  go_enter Tryz.func106, Tryz.ntmps106
  go_wp2_with (go_at_call 71; refine HV.out.mono ?_)
  rintro e w2 ⟨rfl, K2, st, hbx⟩
  have ST := Lib.hid st
  have d0 : w2.cell? ⟨w.heap.size, 0, none⟩ = some (.int .i64 op) := by rw [z0i hbx]; rfl
  have d1 : w2.cell? ⟨w.heap.size, 1, none⟩ = some (.int .i64 l) := by rw [z0i hbx]; rfl
  have d2 : w2.cell? ⟨w.heap.size, 2, none⟩ = some (.slice a2 n cap2) := by rw [z0i hbx]; rfl
  have hlt2 : w.heap.size < w2.heap.size := z0f hbx
  have hne2 : w.heap.size ≠ w2.heap.size := by omega
  have hbs : Lib.IsBuilder z4R tBy w2.heap.size w2.heap.size (Lib.byteCells []) (w2.alloc (.cells #[.pointer none, .slice none 0 0] z4R)) := .inl ⟨Nat.le_refl _, .slice none 0 0, heap_alloc_new w2 _, World.ownsRow_nil _ _ _ _, by simp [Value.ownBlock]⟩
  have hbw : Below w2.heap.size w2 (w2.alloc (.cells #[.pointer none, .slice none 0 0] z4R)) := (Below.refl _ _).alloc (Nat.le_refl _) _
  have hwr := zhc (w0 := w2) (K0 := K2) 40 40 (Nat.le_refl _) _ _ _ HF.out (HKP.out _ _ st) w2.heap.size [] _ hbw hbs (by simp; omega)
  have HW := Lib.hid hwr
  clear st hbx hbs hbw hwr
  go_wp2_with (first | (go_at_call 140; refine HW.out.mono ?_; rintro e w3 ⟨rfl, g1, g2, g3⟩; have G1 := Lib.hid g1; have G2 := Lib.hid g2; clear g1 g2 g3) | (go_at_call 141; refine (Tryz.Builder_String_any w2.heap.size w2.heap.size bs w3 (by simpa using G1.out) G2.out.size).mono ?_; rintro e w4 ⟨rfl, g1⟩; have G4 := Lib.hid g1; clear g1))
  go_ret
  have hB : Below w2.heap.size w2 w4 := G2.out.trans G4.out
  have st := ST.out
  refine ⟨_, fun b => if b < w2.heap.size then K2 b else [1], rfl, .sc _ _ rfl, fun i t hi hio => ?_, st.trans ⟨hB.os, hB.tape, hB.output, hB.size, fun b hb _ => ⟨by simp [hb], hB.block b hb⟩, .olds fun b hb => hB.block b hb⟩⟩
  match i, hi with
  | 0, hi => cases hi; cases hio
end
section
open Go Go.RowKit
set_option maxRecDepth 100000
set_option maxHeartbeats 4000000
def tzN (s : Nat) : Nat := (List.range 7).findIdx fun q => s.testBit q
def tab64 : List Nat := [0, 1, 56, 2, 57, 49, 28, 3, 61, 58, 42, 50, 38, 29, 17, 4, 62, 47, 59, 36, 45, 43, 51, 22, 53, 39, 33, 30, 24, 18, 12, 5, 63, 55, 48, 27, 60, 41, 37, 16, 46, 35, 44, 21, 52, 32, 23, 11, 54, 26, 40, 15, 34, 20, 31, 10, 25, 14, 19, 9, 13, 8, 7, 6]
def tzI (k : Nat) : Int := IntKind.u64.wrap (bits BinOp.and IntKind.u64 (k : Int) (IntKind.u64.wrap (-(k : Int))) * 285870213051353865) / 288230376151711744
theorem ziR : ∀ k : Fin 128, 0 < k.val -> 0 <= tzI k.val /\ tzI k.val < 64 /\ wrap64 ((tab64[(tzI k.val).toNat]?.getD 0 : Nat) : Int) = (tzN k.val : Nat) := by decide +kernel
theorem ziS (k : Nat) (W : World) (hk : 0 < k /\ k < 128) (hT : ∀ i : Nat, i < 64 -> W.cell? ⟨1, i, none⟩ = some (.int .u8 ((tab64.getD i 0 : Nat) : Int))) : Calls Tryz.prog 155 #[.int .u64 (k : Int)] W fun e w' => e = .returned (.int .i64 (tzN k)) /\ w' = W := by
  have h0 : (0 : Int) < (k : Int) := by omega
  have h1 : ¬ (k : Int) = 0 := by omega
  obtain ⟨q1, q2, q3⟩ := ziR ⟨k, hk.2⟩ hk.1
  have HQ := Lib.hid q3
  have HQ1 := Lib.hid q1
  have HQ2 := Lib.hid q2
  clear q1 q2 q3
  go_enter Tryz.func155, Tryz.ntmps155
  go_wp2
  · go_ret
    exact ⟨congrArg Ending.returned (congrArg (Value.int IntKind.i64) HQ.out), rfl⟩
  · rename_i hn
    exact absurd ⟨HQ1.out, HQ2.out⟩ hn
def zfx (w : World) (K : Nat -> z0a) : Prop := K 1 = [] /\ 1 < w.heap.size /\ ∀ i : Nat, i < 64 -> w.cell? ⟨1, i, none⟩ = some (.int .u8 ((tab64.getD i 0 : Nat) : Int))
theorem zfb : EnvS zfx := ⟨fun {w K w' K'} h hs hk => by
  obtain ⟨h1, h2, h3⟩ := h
  obtain ⟨k1, k2⟩ := hk 1 h2 h1
  exact ⟨k1, by omega, fun i hi => by rw [z0l k2]; exact h3 i hi⟩⟩
theorem znj (g : Nat) (W : World) (hc : W.cell? ⟨g, 0, none⟩ = some (.int .u64 0)) (hf : W.frozen? ⟨g, 0, none⟩ = false) :
    Calls Tryz.prog 73 #[.slice (some ⟨g, 0, none⟩) 1 1, .int .i64 1] W fun e w' => e = .returned (.tuple #[]) /\ w' = (W.setCell ⟨g, 0, none⟩ (.int .u64 2)).drew := by
  have b1 : bits BinOp.and IntKind.i64 1 63 = 1 := by decide +kernel
  have b2 : bits BinOp.or IntKind.u64 0 2 = 2 := by decide +kernel
  go_enter Tryz.func73, Tryz.ntmps73
  go_wp2
  go_region
  go_end0
  exact ⟨rfl, rfl⟩
theorem zlN : ∃ i, Tryz.prog.info? 164 = some i /\ i.zero = some (.int .u64 0) /\ i.size = 1 /\ i.bytes = 8 := by
  obtain ⟨i, h1, h2⟩ := Option.map_eq_some_iff.1 (show (Tryz.prog.info? 164).map (fun i => (i.zero, i.size, i.bytes)) = some (some (.int .u64 0), 1, 8) by kernel_rfl)
  simp only [Prod.mk.injEq] at h2
  exact ⟨i, h1, h2.1, h2.2.1, h2.2.2⟩
theorem zlM : ∃ i, Tryz.prog.info? 125 = some i /\ i.zero = some (.slice none 0 0) /\ i.size = 1 /\ i.bytes = 24 := by
  obtain ⟨i, h1, h2⟩ := Option.map_eq_some_iff.1 (show (Tryz.prog.info? 125).map (fun i => (i.zero, i.size, i.bytes)) = some (some (.slice none 0 0), 1, 24) by kernel_rfl)
  simp only [Prod.mk.injEq] at h2
  exact ⟨i, h1, h2.1, h2.2.1, h2.2.2⟩
theorem zjv (W : World) : Calls Tryz.prog 72 #[.agg #[.string ⟨#[97]⟩]] W fun e w' => e = .returned (.slice (some ⟨W.heap.size + 1, 0, none⟩) 1 1) /\ w' = (W.alloc (.cells #[.string ⟨#[97]⟩] 123)).alloc (.cells #[.int .u64 0] 164) := by
  obtain ⟨i1, h1, h2, h3, h4⟩ := zlN
  go_enter Tryz.func72, Tryz.ntmps72
  go_wp2_with (refine wpList_make_row _ rfl _ _ 125 rfl 164 i1 (.int .u64 0) (by kernel_rfl) h1 h2 h3 rfl .i64 .i64 1 rfl rfl (by omega) (by omega) ?_)
  go_ret
  exact ⟨rfl, by rw [show madeCells #[Value.int .u64 0] 1 = #[.int .u64 0] by kernel_rfl]⟩
structure After (W : World) (gr : Nat) (w' : World) : Prop where
  row : w'.heap[gr]? = some (.cells #[.slice (some ⟨W.heap.size + 1, 0, none⟩) 1 1, .slice none 0 0] 125 (0, 0))
  new : w'.heap[W.heap.size + 1]? = some (.cells #[.int .u64 2] 164 (0, 0))
  old : ∀ b, b < W.heap.size -> b ≠ gr -> w'.heap[b]? = W.heap[b]?
  size : w'.heap.size = W.heap.size + 2
  os : w'.os = W.os
  tape : w'.tape = W.tape
  output : w'.output = W.output
theorem z2c (W : World) (o : Obj) : (W.alloc o).heap.size = W.heap.size + 1 := by show (W.heap.push o).size = _; rw [Array.size_push]
theorem z8v (W : World) (p : Addr) (v : Value) : (W.setCell p v).heap.size = W.heap.size := by simp [World.setCell]
theorem zlG (V : World) (A : Obj) (cs : Array Value) (e : TypeId) : ((V.alloc A).alloc (.cells cs e)).heap[V.heap.size + 1]? = some (.cells cs e (0, 0)) := by
  have := heap_alloc_new (V.alloc A) (.cells cs e)
  rwa [z2c] at this
theorem z6K {W : World} {gr : Nat} (hr : W.heap[gr]? = some (.cells #[.slice none 0 0, .slice none 0 0] 125 (0, 0))) (A : Obj) : After W gr (((W.setCell ⟨gr, 0, none⟩ (.slice (some ⟨W.heap.size + 1, 0, none⟩) 1 1)).alloc A).alloc (.cells #[.int .u64 2] 164)) := by
  have hlt := z0f hr
  have hs := z8v W ⟨gr, 0, none⟩ (.slice (some ⟨W.heap.size + 1, 0, none⟩) 1 1)
  have ho : ∀ b, b < W.heap.size -> (((W.setCell ⟨gr, 0, none⟩ (.slice (some ⟨W.heap.size + 1, 0, none⟩) 1 1)).alloc A).alloc (.cells #[.int .u64 2] 164)).heap[b]? = (W.setCell ⟨gr, 0, none⟩ (.slice (some ⟨W.heap.size + 1, 0, none⟩) 1 1)).heap[b]? := fun b hb => by
    rw [Lib.alloc_old _ _ _ (by rw [z2c, hs]; omega), Lib.alloc_old _ _ _ (by rw [hs]; exact hb)]
  refine ⟨?_, ?_, fun b hb hne => ?_, ?_, rfl, rfl, rfl⟩
  · rw [ho _ hlt]
    simp [World.setCell, Array.getElem?_modify, hr]
  · have := zlG (W.setCell ⟨gr, 0, none⟩ (.slice (some ⟨W.heap.size + 1, 0, none⟩) 1 1)) A #[.int .u64 2] 164
    rwa [hs] at this
  · rw [ho b hb, Below.heap_setCell _ _ _ _ hne]
  · rw [z2c, z2c, hs]
theorem zos (b3 b4 b7 gr : Nat) (W : World) (c3 : W.cell? ⟨b3, 0, none⟩ = some (.string ⟨#[97]⟩)) (c40 : W.cell? ⟨b4, 0, none⟩ = some (.int .i64 3)) (c41 : W.cell? ⟨b4, 1, none⟩ = some (.int .i64 0)) (c7 : W.cell? ⟨b7, 0, none⟩ = some (.slice (some ⟨gr, 0, none⟩) 2 2))
    (hr : W.heap[gr]? = some (.cells #[.slice none 0 0, .slice none 0 0] 125 (0, 0))) (l3 : b3 < W.heap.size) (l4 : b4 < W.heap.size) (l7 : b7 < W.heap.size) (n3 : b3 ≠ gr) (n4 : b4 ≠ gr) (n7 : b7 ≠ gr) :
    Calls Tryz.prog 115 #[.int .i64 0, .pointer (some ⟨b3, 0, none⟩), .pointer (some ⟨b7, 0, none⟩), .pointer (some ⟨b4, 0, none⟩)] W fun e w' => e = .returned (.tuple #[]) /\ After W gr w' := by
  have lr : gr < W.heap.size := z0f hr
  have cr : W.cell? ⟨gr, 0, none⟩ = some (.slice none 0 0) := by rw [z0i hr]; rfl
  have fr : W.frozen? ⟨gr, 0, none⟩ = false := by simp [World.frozen?, hr]
  have HR := Lib.hid hr
  clear hr
  have k1 : ∀ A, ((((W.setCell ⟨gr, 0, none⟩ (.slice (some ⟨W.heap.size + 1, 0, none⟩) 1 1)).alloc A).alloc (.cells #[.int .u64 0] 164)).drew.drew.cell? ⟨W.heap.size + 1, 0, none⟩) = some (.int .u64 0) := fun A => by
    show (((W.setCell ⟨gr, 0, none⟩ (.slice (some ⟨W.heap.size + 1, 0, none⟩) 1 1)).alloc A).alloc (.cells #[.int .u64 0] 164)).cell? ⟨W.heap.size + 1, 0, none⟩ = _
    have := zlG (W.setCell ⟨gr, 0, none⟩ (.slice (some ⟨W.heap.size + 1, 0, none⟩) 1 1)) A #[.int .u64 0] 164
    rw [z8v] at this
    rw [z0i this]; rfl
  have k2 : ∀ A, ((((W.setCell ⟨gr, 0, none⟩ (.slice (some ⟨W.heap.size + 1, 0, none⟩) 1 1)).alloc A).alloc (.cells #[.int .u64 0] 164)).drew.drew.frozen? ⟨W.heap.size + 1, 0, none⟩) = false := fun A => by
    show (((W.setCell ⟨gr, 0, none⟩ (.slice (some ⟨W.heap.size + 1, 0, none⟩) 1 1)).alloc A).alloc (.cells #[.int .u64 0] 164)).frozen? ⟨W.heap.size + 1, 0, none⟩ = _
    have := zlG (W.setCell ⟨gr, 0, none⟩ (.slice (some ⟨W.heap.size + 1, 0, none⟩) 1 1)) A #[.int .u64 0] 164
    rw [z8v] at this
    unfold World.frozen?
    simp only [this]
    rfl
  have K1 := Lib.hid k1
  have K2 := Lib.hid k2
  clear k1 k2
  go_enter Tryz.func115, Tryz.ntmps115
  go_wp2
  go_region_with (go_at_call 72; refine (zjv _).mono ?_; rintro e w' ⟨rfl, rfl⟩)
  all_goals go_wp2
  all_goals go_region
  all_goals go_wp2_with (go_at_call 73; refine (znj _ _ (K1.out _) (K2.out _)).mono ?_; rintro e w' ⟨rfl, rfl⟩)
  all_goals go_end0
  all_goals exact ⟨rfl, show After W gr (World.drew (World.drew (World.drew _))) from ⟨(z6K HR.out _).row, (z6K HR.out _).new, (z6K HR.out _).old, (z6K HR.out _).size, rfl, rfl, rfl⟩⟩
end
section
open Go Go.RowKit
set_option maxRecDepth 100000
set_option maxHeartbeats 400000
theorem zl7 (W : World) (hT : ∀ i : Nat, i < 64 -> W.cell? ⟨1, i, none⟩ = some (.int .u8 ((tab64.getD i 0 : Nat) : Int))) : Calls Tryz.prog 155 #[.int .u64 1] W fun e w' => e = .returned (.int .i64 0) /\ w' = W := by
  have h := ziS 1 W (by omega) hT
  have e : tzN 1 = 0 := by decide +kernel
  rw [e] at h
  exact h
theorem zjP (b3 b4 b7 gr gf of capf : Nat) (W : World) (c3 : W.cell? ⟨b3, 0, none⟩ = some (.string ⟨#[97]⟩)) (c40 : W.cell? ⟨b4, 0, none⟩ = some (.int .i64 3)) (c41 : W.cell? ⟨b4, 1, none⟩ = some (.int .i64 0)) (c7 : W.cell? ⟨b7, 0, none⟩ = some (.slice (some ⟨gr, 0, none⟩) 2 2))
    (hr : W.heap[gr]? = some (.cells #[.slice none 0 0, .slice none 0 0] 125 (0, 0))) (l3 : b3 < W.heap.size) (l4 : b4 < W.heap.size) (l7 : b7 < W.heap.size) (n3 : b3 ≠ gr) (n4 : b4 ≠ gr) (n7 : b7 ≠ gr)
    (cf : W.cell? ⟨gf, of, none⟩ = some (.int .u64 1)) (hT : ∀ i : Nat, i < 64 -> W.cell? ⟨1, i, none⟩ = some (.int .u8 ((tab64.getD i 0 : Nat) : Int))) :
    Calls Tryz.prog 114 #[.slice (some ⟨gf, of, none⟩) 1 capf, .func (.func 115) #[] #[.pointer (some ⟨b3, 0, none⟩), .pointer (some ⟨b7, 0, none⟩), .pointer (some ⟨b4, 0, none⟩)]] W fun e w' => e = .returned (.tuple #[]) /\ After W gr w' := by
  have HC := Lib.hid (zos b3 b4 b7 gr W c3 c40 c41 c7 hr l3 l4 l7 n3 n4 n7)
  have HT := Lib.hid (zl7 W hT)
  have q1 : bits BinOp.and IntKind.u64 1 0 = 0 := by decide +kernel
  clear c3 c40 c41 c7 hr l3 l4 l7 n3 n4 n7 hT
  go_enter Tryz.func114, Tryz.ntmps114
  go_wp2_with fail
  refine wp_loop_rounds 2 ?_
  rw [rounds_succ]
  go_wp2_with fail
  refine wp_loop_rounds 2 ?_
  rw [rounds_succ]
  go_wp2_with (go_at_call 155; refine HT.out.mono ?_)
  rintro e w' ⟨rfl, rfl⟩
  go_wp2_with fail
  refine HC.out.mono ?_
  rintro e w2 ⟨rfl, ha⟩
  have HA := Lib.hid ha
  clear ha HC HT cf
  go_wp2_with fail
  rw [rounds_succ]
  go_wp2_with fail
  rw [rounds_succ]
  go_wp2_with fail
  go_end0
  exact ⟨rfl, HA.out⟩
theorem znY (W : World) (A B C D : Obj) : ((((W.alloc A).alloc B).alloc C).alloc D).heap[W.heap.size]? = some A /\ ((((W.alloc A).alloc B).alloc C).alloc D).heap[W.heap.size + 1]? = some B /\ ((((W.alloc A).alloc B).alloc C).alloc D).heap[W.heap.size + 1 + 1]? = some C /\ ((((W.alloc A).alloc B).alloc C).alloc D).heap[W.heap.size + 1 + 1 + 1]? = some D /\ (∀ b, b < W.heap.size -> ((((W.alloc A).alloc B).alloc C).alloc D).heap[b]? = W.heap[b]?) /\ ((((W.alloc A).alloc B).alloc C).alloc D).heap.size = W.heap.size + 1 + 1 + 1 + 1 := by
  have s1 := z2c W A
  have s2 := z2c (W.alloc A) B
  have s3 := z2c ((W.alloc A).alloc B) C
  have s4 := z2c (((W.alloc A).alloc B).alloc C) D
  have n1 := heap_alloc_new W A
  have n2 := heap_alloc_new (W.alloc A) B
  have n3 := heap_alloc_new ((W.alloc A).alloc B) C
  have n4 := heap_alloc_new (((W.alloc A).alloc B).alloc C) D
  rw [s1] at n2
  rw [s2, s1] at n3
  rw [s3, s2, s1] at n4
  refine ⟨?_, ?_, ?_, n4, fun b hb => ?_, by rw [s4, s3, s2, s1]⟩
  · rw [Lib.alloc_old _ _ _ (by omega), Lib.alloc_old _ _ _ (by omega), Lib.alloc_old _ _ _ (by omega)]; exact n1
  · rw [Lib.alloc_old _ _ _ (by omega), Lib.alloc_old _ _ _ (by omega)]; exact n2
  · rw [Lib.alloc_old _ _ _ (by omega)]; exact n3
  · rw [Lib.alloc_old _ _ _ (by omega), Lib.alloc_old _ _ _ (by omega), Lib.alloc_old _ _ _ (by omega), Lib.alloc_old _ _ _ hb]
theorem zjO (W : World) (a : Option Addr) (cap gf of capf : Nat) (cf : W.cell? ⟨gf, of, none⟩ = some (.int .u64 1)) (hT : ∀ i : Nat, i < 64 -> W.cell? ⟨1, i, none⟩ = some (.int .u8 ((tab64.getD i 0 : Nat) : Int))) :
    Calls Tryz.prog 74 #[.agg #[.string ⟨#[97]⟩], .agg #[.int .i64 3, .int .i64 0, .slice a 0 cap], .slice (some ⟨gf, of, none⟩) 1 capf] W fun e w' => ∃ g1 g2, e = .returned (.slice (some ⟨g1, 0, none⟩) 2 2) /\ Below W.heap.size W w' /\ W.heap.size <= g1 /\ W.heap.size <= g2 /\ w'.heap[g1]? = some (.cells #[.slice (some ⟨g2, 0, none⟩) 1 1, .slice none 0 0] 125 (0, 0)) /\ w'.heap[g2]? = some (.cells #[.int .u64 2] 164 (0, 0)) := by
  obtain ⟨i1, h1, h2, h3, h4⟩ := zlM
  have HT := Lib.hid hT
  clear hT
  go_enter Tryz.func74, Tryz.ntmps74
  go_wp2_with (refine wpList_make_row _ rfl _ _ 127 rfl 125 i1 (.slice none 0 0) (by kernel_rfl) h1 h2 h3 rfl .i64 .i64 2 rfl rfl (by omega) (by omega) ?_)
  rw [show madeCells #[Value.slice none 0 0] 2 = #[.slice none 0 0, .slice none 0 0] by kernel_rfl]
  obtain ⟨x1, x2, x3, x4, x5, x6⟩ := znY W (.cells #[.string ⟨#[97]⟩] 123) (.cells #[.int .i64 3, .int .i64 0, .slice a 0 cap] 72) (.cells #[.slice none 0 0, .slice none 0 0] 125) (.cells #[.slice (some ⟨W.heap.size + 1 + 1, 0, none⟩) 2 2] 127)
  have hb0 : Below W.heap.size W ((((W.alloc (.cells #[.string ⟨#[97]⟩] 123)).alloc (.cells #[.int .i64 3, .int .i64 0, .slice a 0 cap] 72)).alloc (.cells #[.slice none 0 0, .slice none 0 0] 125)).alloc (.cells #[.slice (some ⟨W.heap.size + 1 + 1, 0, none⟩) 2 2] 127)) := ⟨rfl, rfl, rfl, by omega, x5⟩
  have hlf := World.block_lt_of_cell? W _ cf
  have hl1 := World.block_lt_of_cell? W _ (HT.out 0 (by omega))
  simp only at hlf hl1
  have cf' := cf
  rw [← z0l (x5 _ hlf)] at cf'
  have hT' : ∀ i : Nat, i < 64 -> World.cell? _ ⟨1, i, none⟩ = some (.int .u8 ((tab64.getD i 0 : Nat) : Int)) := fun i hi => (z0l (x5 _ hl1) i).trans (HT.out i hi)
  generalize ((((W.alloc (.cells #[.string ⟨#[97]⟩] 123)).alloc (.cells #[.int .i64 3, .int .i64 0, .slice a 0 cap] 72)).alloc (.cells #[.slice none 0 0, .slice none 0 0] 125)).alloc (.cells #[.slice (some ⟨W.heap.size + 1 + 1, 0, none⟩) 2 2] 127)) = X at x1 x2 x3 x4 x5 x6 hb0 cf' hT' ⊢
  refine (zjP W.heap.size (W.heap.size + 1) (W.heap.size + 1 + 1 + 1) (W.heap.size + 1 + 1) gf of capf X (by rw [z0i x1]; rfl) (by rw [z0i x2]; rfl) (by rw [z0i x2]; rfl) (by rw [z0i x4]; rfl) x3 (by omega) (by omega) (by omega) (by omega) (by omega) (by omega) cf' hT').mono ?_
  rintro e w2 ⟨rfl, ha⟩
  have d0 : w2.cell? ⟨W.heap.size + 1 + 1 + 1, 0, none⟩ = some (.slice (some ⟨W.heap.size + 1 + 1, 0, none⟩) 2 2) := by
    rw [z0l (ha.old _ (by omega) (by omega)), z0i x4]; rfl
  have HA := Lib.hid ha
  have HB0 := Lib.hid hb0
  clear ha x1 x2 x3 x4 x5 hb0 cf cf' hT' HT
  go_wp2_with fail
  go_ret
  refine ⟨W.heap.size + 1 + 1, X.heap.size + 1, rfl, HB0.out.trans ⟨HA.out.os, HA.out.tape, HA.out.output, by rw [HA.out.size]; omega, fun b hb => HA.out.old b (by omega) (by omega)⟩, by omega, by omega, HA.out.row, HA.out.new⟩
end
section
open Go Go.RowKit
set_option maxRecDepth 100000
set_option maxHeartbeats 1000000
theorem z9a : ∀ {xs ys : List ByteArray}, zaA xs ys = true ↔ xs = ys
  | [], [] => by simp [zaA]
  | [], _ :: _ => by simp [zaA]
  | _ :: _, [] => by simp [zaA]
  | a :: x, b :: y => by
    simp only [zaA, Bool.and_eq_true, decide_eq_true_eq, z9a, List.cons.injEq]
    refine and_congr_left fun _ => ⟨fun h => ?_, fun h => by rw [h]⟩
    obtain ⟨⟨l⟩⟩ := a
    obtain ⟨⟨r⟩⟩ := b
    simp only at h
    rw [h]
theorem z8Z {xs ys : List ByteArray} (h : xs ≠ ys) : zaA xs ys = false := by
  cases e : zaA xs ys
  · rfl
  · exact absurd (z9a.1 e) h
theorem toL {a b : ByteArray} (h : a.toList = b.toList) : a = b := by
  rw [ByteArray.toList_eq, ByteArray.toList_eq] at h
  obtain ⟨⟨l⟩⟩ := a
  obtain ⟨⟨r⟩⟩ := b
  simp only at h
  rw [h]
theorem ziY {xs : List ByteArray} {k : Nat} {a b : ByteArray} (h1 : xs[k * 2 + 0]? = some a) (h2 : xs[k * 2 + 1]? = some b) : xs.take ((k + 1) * 2) = xs.take (k * 2) ++ [a, b] := by
  rw [show (k + 1) * 2 = k * 2 + 1 + 1 by omega, List.take_add_one, List.take_add_one, h2, show k * 2 = k * 2 + 0 by omega, h1]
  simp
theorem zlY (xs ys : List ByteArray) (n m : Nat) (hx : xs.length = n * 2) (hy : ys.length = m * 2) (hn : n <= 9223372036854775807) (a0 b0 : Option Addr) (ca cb : Nat) (W : World)
    (ha : 0 < n -> ∃ g o : Nat, a0 = some ⟨g, o, none⟩ /\ ∀ j s, xs[j]? = some s -> W.cell? ⟨g, o + j, none⟩ = some (.string s)) (hb : 0 < m -> ∃ g o : Nat, b0 = some ⟨g, o, none⟩ /\ ∀ j s, ys[j]? = some s -> W.cell? ⟨g, o + j, none⟩ = some (.string s)) :
    Calls Tryz.prog 122 #[.slice a0 n ca, .slice b0 m cb] W fun e w' => e = .returned (.bool (zaA xs ys)) /\ Below W.heap.size W w' := by
  by_cases hnm : n = m
  · subst hnm
    have HA := Lib.hid ha
    have HB := Lib.hid hb
    clear ha hb
    go_enter Tryz.func122, Tryz.ntmps122
    go_wp2_with fail
    go_loopw [13] (fun vi wr => ∃ k : Nat, k <= n /\ vi = .int .i64 k /\ Below W.heap.size W wr /\ xs.take (k * 2) = ys.take (k * 2)) (fun vi _ => n - (intOf vi).toNat)
    case atStart => exact ⟨0, Nat.zero_le _, rfl, Below.refl _ _, by simp⟩
    case round =>
      obtain ⟨k, hk, rfl, hbl, hpre⟩ := hrel
      have HP := Lib.hid hpre
      clear hpre
      by_cases hlt : k < n
      · obtain ⟨g, o, rfl, hF⟩ := HA.out (by omega)
        obtain ⟨g', o', rfl, hG⟩ := HB.out (by omega)
        obtain ⟨s1, e1⟩ : ∃ s, xs[k * 2 + 0]? = some s := ⟨_, List.getElem?_eq_getElem (by omega)⟩
        obtain ⟨s2, e2⟩ : ∃ s, xs[k * 2 + 1]? = some s := ⟨_, List.getElem?_eq_getElem (by omega)⟩
        obtain ⟨u1, e3⟩ : ∃ s, ys[k * 2 + 0]? = some s := ⟨_, List.getElem?_eq_getElem (by omega)⟩
        obtain ⟨u2, e4⟩ : ∃ s, ys[k * 2 + 1]? = some s := ⟨_, List.getElem?_eq_getElem (by omega)⟩
        have at_ : ∀ {g j : Nat} {v : Value}, W.cell? ⟨g, j, none⟩ = some v -> wr.cell? ⟨g, j, none⟩ = some v := fun {g j v} h => by
          rw [z0l (hbl.block g (World.block_lt_of_cell? W _ h))]; exact h
        have d1 := at_ (hF _ _ e1)
        have d2 := at_ (hF _ _ e2)
        have d3 := at_ (hG _ _ e3)
        have d4 := at_ (hG _ _ e4)
        rw [← Nat.add_assoc] at d1 d2 d3 d4
        rw [Nat.add_zero] at d1 d3
        have E1 := Lib.hid e1
        have E2 := Lib.hid e2
        have E3 := Lib.hid e3
        have E4 := Lib.hid e4
        have HBL := Lib.hid hbl
        clear e1 e2 e3 e4 hF hG HA HB at_ hbl
        go_wp2_with fail
        by_cases c1 : s1.toList = u1.toList
        · by_cases c2 : s2.toList = u2.toList
          · go_region
            go_wp2_with fail
            go_roundw
            case rel => exact ⟨k + 1, by omega, by go_num, HBL.out.drew, by rw [ziY E1.out E2.out, ziY E3.out E4.out, HP.out, toL c1, toL c2]⟩
            case measure => simp [intOf]; omega
          · have hne : xs ≠ ys := fun e => by
              subst e
              have h1 := E2.out
              rw [E4.out] at h1
              cases h1; exact c2 rfl
            have HN := Lib.hid hne
            clear hne
            go_region
            go_wp2
            go_ret
            exact ⟨by rw [z8Z HN.out]; rfl, HBL.out.drew⟩
        · have hne : xs ≠ ys := fun e => by
            subst e
            have h1 := E1.out
            rw [E3.out] at h1
            cases h1; exact c1 rfl
          have HN := Lib.hid hne
          clear hne
          go_region
          go_wp2
          go_ret
          exact ⟨by rw [z8Z HN.out]; rfl, HBL.out.drew⟩
      · obtain rfl : k = n := by omega
        have he : xs = ys := by
          have := HP.out
          rwa [List.take_of_length_le (by omega), List.take_of_length_le (by omega)] at this
        have HE := Lib.hid he
        have HBL := Lib.hid hbl
        clear he hbl
        go_wp2
        go_ret
        exact ⟨by rw [z9a.2 HE.out]; rfl, HBL.out⟩
  · have : xs ≠ ys := fun e => by subst e; omega
    have hne : ¬ (n : Int) = (m : Int) := by omega
    go_enter Tryz.func122, Tryz.ntmps122
    go_wp2
    go_ret
    exact ⟨by rw [z8Z this]; rfl, Below.refl _ _⟩
theorem ze4 {w : World} {K : Nat -> z0a} {v : Value} {n : Nat} {xs : List ByteArray} (h : TRep w K [] v (.sl n (xs.map fun s => .sc (.string s)))) : ∃ a cap, v = .slice a n cap /\ n <= maxLen /\ (0 < n -> ∃ g o : Nat, a = some ⟨g, o, none⟩ /\ ∀ j s, xs[j]? = some s -> w.cell? ⟨g, o + j, none⟩ = some (.string s)) := by
  generalize hT : T.sl n (xs.map fun s => .sc (.string s)) = t at h
  cases h with
  | emp c a cap hc =>
    injection hT with e1 e2
    exact ⟨_, _, by rw [e1], by omega, fun hi => by omega⟩
  | fro c g o n cap cs F hK hg hn hc hF h =>
    injection hT with e1 e2
    subst e1 e2
    refine ⟨_, _, rfl, Nat.le_trans hn hc, fun hi => ⟨g, o, rfl, fun j s hs => ?_⟩⟩
    have hj := (List.getElem?_eq_some_iff.1 hs).1
    rw [hF j (by simpa using hj), (h j (.sc (.string s)) (by simp [hs])).sc_eq]
  | _ => cases hT
theorem zcE {I : World -> (Nat -> z0a) -> Prop} {args : List T} {r : T} {outs : List T} (h : zkN args = some (r, outs)) : CallOk Tryz.prog I 122 args r outs := by
  unfold zkN at h
  split at h
  case h_2 => cases h
  rename_i n cs m ds
  split at h
  case h_2 => cases h
  rename_i xs ys h1 h2
  split at h
  case isFalse => cases h
  rename_i hl
  obtain ⟨rfl, rfl⟩ : T.sc (.bool (zaA xs ys)) = r /\ [T.dead, T.dead] = outs := by simpa using h
  have e1 := z6U h1
  have e2 := z6U h2
  subst e1 e2
  refine ⟨fun vals w => ?_, fun w K vals hs ha hI => ?_⟩
  · have hb : ∃ c, Tryz.f122.body = some c := ⟨_, rfl⟩
    obtain ⟨c, hb⟩ := hb
    have hname : Tryz.f122.name ≠ "runtime.NumGoroutine" := by decide
    simp [callFunc, program, Sem.run, Tryz.func122, hname, hb]
  obtain ⟨v0, v1, rfl⟩ : ∃ v0 v1, vals = #[v0, v1] := by
    obtain ⟨l⟩ := vals
    match l, hs with
    | [a, b], _ => exact ⟨a, b, rfl⟩
  obtain ⟨a0, ca, rfl, l0, q0⟩ := ze4 (ha 0 _ rfl)
  obtain ⟨b0, cb, rfl, l1, q1⟩ := ze4 (ha 1 _ rfl)
  refine (zlY xs ys n m hl.1 hl.2 l0 a0 b0 ca cb w q0 q1).mono ?_
  rintro e w' ⟨rfl, hB⟩
  refine ⟨_, fun b => if b < w.heap.size then K b else [1], rfl, .sc _ _ rfl, fun i t hi hio => ?_, hB.os, hB.tape, hB.output, hB.size, fun b hb _ => ⟨by rw [if_pos hb], hB.block b hb⟩, .olds fun b hb => hB.block b hb⟩
  match i, hi with
  | 0, hi => cases hi; cases hio
  | 1, hi => cases hi; cases hio
end
section
open Go.RowKit
def Cells (w : World) (ga : Option Addr) (n : Nat) (F : Nat -> Value) : Prop := ∀ j, j < n -> ∃ g o, ga = some ⟨g, o, none⟩ /\ w.cell? ⟨g, o + j, none⟩ = some (F j)
theorem z5R {w w' : World} (hb : Below w.heap.size w w') {a : Addr} {v : Value} (h : w.cell? a = some v) : w'.cell? a = some v := by
  rw [hb.cell (World.block_lt_of_cell? w a h)]; exact h
theorem Cells.below {w w' : World} {ga : Option Addr} {n : Nat} {F : Nat -> Value} (h : Cells w ga n F) (hb : Below w.heap.size w w') : Cells w' ga n F := fun j hj => by
  obtain ⟨g, o, e, hc⟩ := h j hj
  exact ⟨g, o, e, z5R hb hc⟩
theorem Cells.mono {w : World} {ga : Option Addr} {n m : Nat} {F : Nat -> Value} (h : Cells w ga n F) (hm : m <= n) : Cells w ga m F := fun j hj => h j (by omega)
theorem Cells.congr {w : World} {ga : Option Addr} {n : Nat} {F G : Nat -> Value} (h : Cells w ga n F) (e : ∀ j, j < n -> F j = G j) : Cells w ga n G := fun j hj => by
  obtain ⟨g, o, e1, hc⟩ := h j hj
  exact ⟨g, o, e1, by rw [hc, e j hj]⟩
def IntsAt (w : World) (v : Value) (xs : List Int) : Prop :=
  ∃ ga cap, v = .slice ga xs.length cap /\ xs.length <= cap /\ cap <= maxLen /\ Cells w ga xs.length (fun j => .int .i64 (xs.getD j 0))
theorem IntsAt.below {w w' : World} {v : Value} {xs : List Int} (h : IntsAt w v xs) (hb : Below w.heap.size w w') : IntsAt w' v xs := by
  obtain ⟨ga, cap, e, h1, h2, h3⟩ := h
  exact ⟨ga, cap, e, h1, h2, h3.below hb⟩
def RowsAt (w : World) (v : Value) (rows : List (List Int)) : Prop :=
  ∃ ga cap, ∃ F : Nat -> Value, v = .slice ga rows.length cap /\ rows.length <= cap /\ cap <= maxLen /\ Cells w ga rows.length F /\ ∀ j, j < rows.length -> IntsAt w (F j) (rows.getD j [])
theorem RowsAt.below {w w' : World} {v : Value} {rows : List (List Int)} (h : RowsAt w v rows) (hb : Below w.heap.size w w') : RowsAt w' v rows := by
  obtain ⟨ga, cap, F, e, h1, h2, h3, h4⟩ := h
  exact ⟨ga, cap, F, e, h1, h2, h3.below hb, fun j hj => (h4 j hj).below hb⟩
structure CRow where
  pre : List Int
  maps : List (List Int)
deriving Inhabited
structure Casc where
  letters : Int
  sizes : List Int
  rows : List CRow
deriving Inhabited
def CRowsAt (w : World) (v : Value) (rows : List CRow) : Prop :=
  ∃ ga cap, ∃ F G : Nat -> Value, v = .slice ga rows.length cap /\ rows.length <= cap /\ cap <= maxLen /\ ∀ j, (h : j < rows.length) -> ∃ g o, ga = some ⟨g, o, none⟩ /\ w.cell? ⟨g, o + j * 2, none⟩ = some (F j) /\ w.cell? ⟨g, o + j * 2 + 1, none⟩ = some (G j) /\ IntsAt w (F j) rows[j].pre /\ RowsAt w (G j) rows[j].maps
theorem CRowsAt.below {w w' : World} {v : Value} {rows : List CRow} (h : CRowsAt w v rows) (hb : Below w.heap.size w w') : CRowsAt w' v rows := by
  obtain ⟨ga, cap, F, G, e, h1, h2, h3⟩ := h
  refine ⟨ga, cap, F, G, e, h1, h2, fun j hj => ?_⟩
  obtain ⟨g, o, e1, c1, c2, i1, i2⟩ := h3 j hj
  exact ⟨g, o, e1, z5R hb c1, z5R hb c2, i1.below hb, i2.below hb⟩
def CascAt (w : World) (v : Value) (c : Casc) : Prop :=
  ∃ s r, v = .agg #[.int .i64 c.letters, s, r] /\ IntsAt w s c.sizes /\ CRowsAt w r c.rows
theorem CascAt.below {w w' : World} {v : Value} {c : Casc} (h : CascAt w v c) (hb : Below w.heap.size w w') : CascAt w' v c := by
  obtain ⟨s, r, e, h1, h2⟩ := h
  exact ⟨s, r, e, h1.below hb, h2.below hb⟩
end
section
open Go Go.RowKit Go.Sort
set_option maxRecDepth 100000
set_option maxHeartbeats 4000000
def zgV (B : Nat) (K : Nat -> z0a) (b : Nat) : z0a := if B <= b then [0] else K b
theorem z7m {α : Type} [Inhabited α] {enc : α -> Value} {w : World} {g n : Nat} {os : Array Obj} {cur : Array Value} {e : TypeId} {fr : Nat × Nat} (d : Array α) (hb : w.heap[g]? = some (.cells cur e fr)) : (sortWorld enc w g 0 n d os).heap[g]? = some (.cells (putCells enc 0 d cur) e fr) := by
  unfold sortWorld
  rw [heap_grow_old _ _ (by rw [size_putRow]; exact z0f hb)]
  simp [putRow, mapBlock, Sort.ahead, Array.getElem?_modify, hb, onCells]
theorem z3D {α : Type} [Inhabited α] {enc : α -> Value} {w : World} {g n : Nat} {os : Array Obj} (d : Array α) {b : Nat} (hb : b < w.heap.size) (hne : b ≠ g) : (sortWorld enc w g 0 n d os).heap[b]? = w.heap[b]? := by
  unfold sortWorld
  rw [heap_grow_old _ _ (by rw [size_putRow]; exact hb)]
  simp [putRow, mapBlock, Sort.ahead, Array.getElem?_modify, Ne.symm hne]
theorem z9H {α : Type} [Inhabited α] {enc : α -> Value} {w : World} {g n : Nat} {os : Array Obj} (d : Array α) : w.heap.size <= (sortWorld enc w g 0 n d os).heap.size := by
  unfold sortWorld
  rw [size_grow, size_putRow]
  show w.heap.size <= w.heap.size + _
  omega
theorem z9q {I : World -> (Nat -> z0a) -> Prop} {args : List T} {r : T} {outs : List T} (h : zdI args = some (r, outs)) : CallOk Tryz.prog I 61 args r outs := by
  unfold zdI at h
  split at h
  case h_2 => cases h
  rename_i n cs
  split at h
  case h_2 => cases h
  rename_i xs hxs
  split at h
  case isFalse => cases h
  rename_i hn
  subst hn
  unfold zgR at h
  split at h
  case isFalse => cases h
  rename_i hc
  obtain ⟨hne, hlen⟩ := hc
  have hcs := z7k hxs
  subst hcs
  clear hxs
  have hys : (xs.mergeSort fun x y => decide (x <= y)).length = xs.length := List.length_mergeSort xs
  simp only [Option.map_some, Option.some.injEq, Prod.mk.injEq] at h
  generalize hgen : (xs.mergeSort fun x y => decide (x <= y)) = ys at h hys
  obtain ⟨rfl, rfl⟩ := h
  refine ⟨fun vals w => ?_, fun w K vals hs ha hI => ?_⟩
  · have hb : ∃ c, Tryz.f61.body = some c := ⟨_, rfl⟩
    obtain ⟨c, hb⟩ := hb
    have hname : Tryz.f61.name ≠ "runtime.NumGoroutine" := by decide
    simp [callFunc, program, Sem.run, Tryz.func61, hname, hb]
  · obtain ⟨v, rfl⟩ : ∃ v, vals = #[v] := by
      obtain ⟨l⟩ := vals
      match l, hs with
      | [v], _ => exact ⟨v, rfl⟩
    have hv : TRep w K (col 0) v (.os 1 xs.length (xs.map fun x => .sc (.int .i64 x))) := ha 0 _ rfl
    clear ha
    have hl0 : 0 < xs.length := List.length_pos_iff.2 hne
    generalize hT : T.os 1 xs.length (xs.map fun x => T.sc (.int .i64 x)) = t at hv
    cases hv with
    | nil => injection hT with _ e _; omega
    | own c g n cap size cs arr e fz F hfz hc0 hK hg hsz hl hz hn hcap hF hh =>
      injection hT with e1 e2 e3
      subst e1 e2 e3
      have hcell : ∀ j (hj : j < xs.length), arr[j]? = some (.int .i64 xs[j]) := fun j hj => by
        rw [hF j (by simpa using hj)]
        have := hh j (.sc (.int .i64 xs[j])) (by simp [hj])
        rw [this.sc_eq]
      have hH : Holds (Value.int .i64) w g 0 xs.toArray := fun j hj => by
        have hj' : j < xs.length := by simpa using hj
        constructor
        · rw [Nat.zero_add, z0i hg, hcell j hj', getElem!_pos _ j hj]; simp
        · unfold World.frozen?
          rw [Nat.zero_add]
          simp only [hg]
          have := hfz j (by omega)
          obtain ⟨lo, hi⟩ := fz
          simp only at this ⊢
          simp only [Bool.and_eq_false_iff, decide_eq_false_iff_not]
          omega
      have hcon := Tryz.slices_Sort_int g 0 cap xs w hH (z0f hg) hlen
      refine hcon.mono fun e' w' ⟨he, m, os, hw⟩ => ?_
      rw [hgen] at hw
      have hw' : w' = sortWorld (Value.int .i64) w g 0 m ys.toArray os := hw
      clear hw
      subst hw'
      refine ⟨.tuple #[], zgV w.heap.size K, he, ?_, fun i t hi hio => ?_, rfl, rfl, rfl, z9H _, fun b hb hcb => ⟨by unfold zgV; rw [if_neg (by omega)], z3D _ hb ?_⟩, ?_⟩
      · exact .tup _ #[] [] (fun _ => undef) rfl (fun j hj => by simp at hj) (fun j t ht => by simp at ht)
      · match i, hi with
        | 0, hi =>
          refine ⟨_, rfl, ?_⟩
          show TRep _ _ (col 0) (.slice (some ⟨g, 0, none⟩) xs.length cap) _
          rw [← hys]
          refine .own (col 0) g _ cap 1 _ (putCells (Value.int .i64) 0 ys.toArray arr) e fz (fun j => .int .i64 (ys.getD j 0)) (fun i hi => hfz i (by simpa [putCells] using hi)) (by simp [col]) (by unfold zgV; rw [if_neg (by have := z0f hg; omega)]; exact hK) (z7m _ hg) (by simpa [putCells] using hsz) (by simp) (by omega) (by omega) hcap (fun j hj => ?_) (fun j t ht => ?_)
          · have hj' : j < xs.length := by simpa [hys] using hj
            have hjd : j < ys.toArray.size := by simp; omega
            simp only [putCells, Array.getElem?_mapIdx, hcell j hj', Option.map_some]
            rw [if_pos (by omega), Nat.sub_zero, getElem!_pos _ j hjd]
            have hjy : j < ys.length := by omega
            simp [List.getD, hjy]
          · simp only [List.getElem?_map, Option.map_eq_some_iff] at ht
            obtain ⟨x, hx', rfl⟩ := ht
            simp only [List.getD, hx']
            exact .sc _ _ rfl
      · rintro rfl
        rw [hK] at hcb
        simp [col] at hcb
      · intro b arr0 e0 fz0 hb0
        by_cases hbg : b = g
        · subst hbg
          rw [hg] at hb0
          cases hb0
          exact ⟨_, _, _, z7m _ hg, by simp [putCells]⟩
        · exact ⟨_, _, _, (z3D _ (z0f hb0) hbg).trans hb0, rfl⟩
    | _ => cases hT
theorem ziq {w w' : World} {K : Nat -> z0a} (h : Below w.heap.size w w') : Step w K w' (zgV w.heap.size K) :=
  ⟨h.os, h.tape, h.output, h.size, fun b hb _ => ⟨by unfold zgV; rw [if_neg (by omega)], h.block b hb⟩, .olds fun b hb => h.block b hb⟩
theorem zkA {w : World} {K : Nat -> z0a} {B : Nat} {e : TypeId} {v : Value} {n : Nat} {xs : List Int} (hn : xs.length = n) (h : w.ownsRow B e 1 v n (xs.map (Value.int .i64))) : TRep w (zgV B K) [0] v (.os 1 xs.length (xs.map fun x => .sc (.int .i64 x))) := by
  obtain ⟨h1, h2⟩ := h
  subst hn
  rcases h2 with ⟨rfl, h0⟩ | ⟨g, cap, cur, rfl, hb, hg, hc1, hc2, hs, ht⟩
  · have : xs = [] := List.eq_nil_of_length_eq_zero h0
    subst this
    exact .nil _ _
  · refine .own [0] g xs.length cap 1 _ cur e (0, 0) (fun j => .int .i64 (xs.getD j 0)) (fun i _ => by simp) (by simp) (by unfold zgV; rw [if_pos hb]) hg hs (by simp) (by omega) hc1 hc2 (fun j hj => ?_) (fun j t ht => ?_)
    · have hj' : j < xs.length := by simpa using hj
      have h3 : (cur.toList.take (xs.length * 1))[j]? = (xs.map (Value.int .i64))[j]? := by rw [ht]
      rw [List.getElem?_take_of_lt (by omega), List.getElem?_map, List.getElem?_eq_getElem hj'] at h3
      simp only [Option.map_some, Array.getElem?_toList] at h3
      rw [h3, List.getD, List.getElem?_eq_getElem hj']
      rfl
    · simp only [List.getElem?_map, Option.map_eq_some_iff] at ht
      obtain ⟨x, hx, rfl⟩ := ht
      simp only [List.getD, hx]
      exact .sc _ _ rfl
theorem z9r {I : World -> (Nat -> z0a) -> Prop} {args : List T} {r : T} {outs : List T} (h : zbx args = some (r, outs)) : CallOk Tryz.prog I 76 args r outs := by
  unfold zbx at h
  split at h
  case h_2 => cases h
  rename_i n cs
  split at h
  case h_2 => cases h
  rename_i xs hxs
  split at h
  case isFalse => cases h
  rename_i hn
  subst hn
  unfold z3o at h
  split at h
  case isFalse => cases h
  rename_i hb
  have hcs := z7k hxs
  subst hcs
  clear hxs
  simp only [Option.map_some, Option.some.injEq, Prod.mk.injEq] at h
  obtain ⟨rfl, rfl⟩ := h
  refine ⟨fun vals w => ?_, fun w K vals hs ha hI => ?_⟩
  · have hb : ∃ c, Tryz.f76.body = some c := ⟨_, rfl⟩
    obtain ⟨c, hb⟩ := hb
    have hname : Tryz.f76.name ≠ "runtime.NumGoroutine" := by decide
    simp [callFunc, program, Sem.run, Tryz.func76, hname, hb]
  · obtain ⟨v, rfl⟩ : ∃ v, vals = #[v] := by
      obtain ⟨l⟩ := vals
      match l, hs with
      | [v], _ => exact ⟨v, rfl⟩
    have hv : TRep w K [] v (.sl xs.length (xs.map fun x => .sc (.int .i64 x))) := ha 0 _ rfl
    have fin : ∀ e w', (∃ v', e = Ending.returned v' /\ w'.ownsRow w.heap.size 3 1 v' xs.length (xs.map (Value.int .i64)) /\ Below w.heap.size w w') -> ∃ v' K', e = Ending.returned v' /\ TRep w' K' [0] v' (.os 1 xs.length (xs.map fun x => .sc (.int .i64 x))) /\ (∀ i t, [T.sl xs.length (xs.map fun x => T.sc (.int .i64 x))][i]? = some t -> z2L t = true -> ∃ t', [T.dead][i]? = some t' /\ TRep w' K' (col i) (#[v].getD i undef) t') /\ Step w K w' K' := by
      rintro e w' ⟨v', he, ho, hbl⟩
      refine ⟨v', zgV w.heap.size K, he, zkA rfl ho, fun i t hi hio => ?_, ziq hbl⟩
      match i, hi with
      | 0, hi => cases hi; cases hio
    generalize hT : T.sl xs.length (xs.map fun x => T.sc (.int .i64 x)) = t at hv
    cases hv with
    | emp c a cap hcap =>
      have : xs = [] := by
        have : xs.length = 0 := by injection hT
        exact List.eq_nil_of_length_eq_zero this
      subst this
      cases a with
      | none => exact (Tryz.slices_Clone_int_nil 0 cap w).mono fun e w' ⟨he, hw⟩ => fin e w' ⟨_, he, ⟨by simp, .inl ⟨rfl, rfl⟩⟩, hw ▸ Below.refl _ _⟩
      | some a => exact (Tryz.slices_Clone_int_zero a cap w).mono fun e w' ⟨v', he, ho, _, hb⟩ => fin e w' ⟨v', he, ho, hb⟩
    | fro c g o n cap cs F hK hg hn hcap hF hh =>
      injection hT with e1 e2
      subst e1
      subst e2
      refine (Tryz.slices_Clone_int g o xs.length cap xs w (Nat.le_refl _) hb (fun j hj => ?_)).mono fun e w' ⟨v', he, ho, _, hbl⟩ => fin e w' ⟨v', he, ?_, hbl⟩
      · have h1 := hF j (by simpa using hj)
        rw [h1]
        have h2 := hh j (.sc (.int .i64 (xs.getD j 0))) (by simp [List.getD, hj])
        rw [h2.sc_eq]
      · rw [List.take_of_length_le (Nat.le_refl _)] at ho
        exact ho
    | _ => cases hT
end
section
open Go Go.RowKit
set_option maxRecDepth 100000
set_option maxHeartbeats 4000000
theorem z8B {P : Program} {ops : Array Oper} {rest : List Oper} {o : Oper} {a : Act} {Q : Exit -> Act -> World -> Prop} {w : World}
    (s x : Operand) (t e : TypeId) (z : Value) (bytes base : Nat) (hgd : o.guard = none)
    (ho : o.op = .call { callee := .builtin .append, args := #[s, x], argTypes := #[t, t] })
    (ht : P.underlying t = some (.slice e)) (hi : (P.info? e).map (fun i => (i.zero, i.size, i.bytes)) = some (some z, 1, bytes)) (hz : z.cells.size = 1)
    (v : Value) (n : Nat) (xs : List Value) (hs : a.eval s = v) (hown : w.ownsRow base e 1 v n xs)
    (y : Value) (ad : Addr) (c : Nat) (hx : a.eval x = .slice (some ad) 1 c) (hy : w.cell? ad = some y) (h1 : y.oneCell' = true)
    (hb : (n + 1) * bytes <= 140737488355328) (hn : n < 4611686018427387904) (hbase : base <= w.heap.size)
    (h : ∀ v' w', w'.ownsRow base e 1 v' (n + 1) (xs ++ [y]) -> w.grownBy w' v.ownBlock -> (v'.ownBlock = v.ownBlock ∨ v'.ownBlock = some w.heap.size /\ w.grownBy w' none) -> wpList P ops Q rest (a.put o.dst v') w') :
    wpList P ops Q (o :: rest) a w := by
  obtain ⟨i0, hi1, hi2, hi3, hi4⟩ := info_parts hi
  have hnews : ∀ j u, [y][j]? = some u -> w.cell? (ad.add j) = some u := by
    intro j u hj
    match j, hj with
    | 0, hj => simp at hj; subst hj; simpa [Addr.add] using hy
    | j + 1, hj => simp at hj
  have hone : ∀ u ∈ [y], u.oneCell' = true := by intro u hu; simp at hu; subst hu; exact h1
  obtain ⟨v', w', hrun, h2, h3, h4, h5⟩ := run_append_own_at (P := P) w base t o.type e i0 z 1 bytes ht hi1 hi2 hi3 hi4 hz (by decide) v n xs hown ad 1 c [y] rfl hnews hone (by unfold maxLen; omega) hb hbase
  have h6 : v'.ownBlock = v.ownBlock ∨ v'.ownBlock = some w.heap.size /\ w.grownBy w' none := by
    rcases hown.2 with ⟨rfl, rfl⟩ | ⟨g, cap, cur, rfl, hbg, hg, hnc, hcm, hcs, htake⟩
    · rcases h5 with h5 | h5
      · exact .inl h5
      · exact .inr ⟨h5, h3⟩
    · by_cases hroom : n + 1 <= cap
      · left
        rcases h5 with h5 | h5
        · exact h5
        · exfalso
          have hr := run_append_room (P := P) w t o.type e i0 ht hi1 g n cap cur hg ad 1 c [y] (by rw [hi3]; rfl) hnews hone hroom (by rw [hi3]; simp; omega)
          rw [hrun] at hr
          cases hr
          simp [Value.ownBlock] at h5
          have := z0f hg
          omega
      · right
        have hholds : ∀ j u, xs[j]? = some u -> w.cell? ((⟨g, 0, none⟩ : Addr).add j) = some u := hown.cells (g := g) rfl
        have hr := run_append_grow (P := P) w t o.type e i0 z ht hi1 hi2 ⟨g, 0, none⟩ n cap xs (by rw [hi3]; exact hown.1) hholds ad 1 c [y] (by rw [hi3]; rfl) hnews (by omega) (by omega) (by rw [hi4]; exact growslice_fits (by omega) hb)
        rw [hrun] at hr
        cases hr
        exact ⟨by simp [Value.ownBlock], rfl, rfl, rfl, by simp, fun k hk _ => Lib.alloc_old w.drew _ k hk⟩
  refine wpList_plain hgd fun K hK => ?_
  unfold Oper.wp execOp
  simp only [ho, resolve, invoke, builtin, Sem.run_bind, Sem.run_pure, Result.andThen_ok, List.map_toArray, List.map_cons, List.map_nil, hs, hx, hrun]
  exact hK _ _ (h v' w' h2 h3 h6)
abbrev z4Q : TypeId := 26
abbrev zdU : TypeId := 65
abbrev zbF : TypeId := 4
structure SpI (B n b4 b5 bI : Nat) (w0 : World) (v3 : Value) (gs : List Int) (g k : Nat) (mk : List Int) (bs : List Bool) (w : World) : Prop where
  below : Below B w0 w
  made : ∃ v, Boxed w b4 z4Q v /\ w.ownsRow B 3 1 v mk.length (mk.map (Value.int .i64)) /\ (v3.ownBlock = none ∨ v3.ownBlock ≠ v.ownBlock)
  box : Boxed w b5 zdU (.slice (some ⟨bI, 0, none⟩) n n)
  row : w.heap[bI]? = some (.cells (bs.map Value.bool).toArray zbF (0, 0))
  bl : bs.length = n
  nd : mk.Nodup
  rg : ∀ x ∈ mk, 0 <= x /\ x < n
  inn : ∀ x ∈ mk, bs.getD x.toNat false = true
  gens : w.ownsRow B 3 1 v3 gs.length (gs.map (Value.int .i64))
  kle : k <= mk.length
  old : 0 < k -> ∃ cur, w.heap[g]? = some (.cells cur 3 (0, 0)) /\ ∀ j, j < k -> ∃ y : Int, cur[j]? = some (.int .i64 y) /\ 0 <= y /\ y < n
  hB : B <= b4 /\ B <= b5 /\ B <= bI /\ b4 ≠ b5 /\ b4 ≠ bI /\ b5 ≠ bI
theorem znp : ∀ {l p : List Nat}, l.Nodup -> (∀ a ∈ l, a ∈ p) -> l.length <= p.length
  | [], _, _, _ => Nat.zero_le _
  | a :: l, p, h, hs => by
    rw [List.nodup_cons] at h
    have ha := hs a (by simp)
    have := znp (p := p.erase a) h.2 fun b hb => (List.mem_erase_of_ne (by rintro rfl; exact h.1 hb)).2 (hs b (List.mem_cons_of_mem _ hb))
    rw [List.length_erase_of_mem ha] at this
    have := List.length_pos_of_mem ha
    simp only [List.length_cons]
    omega
theorem z3X {l : List Int} {n : Nat} (h : l.Nodup) (hl : ∀ x ∈ l, 0 <= x /\ x < n) : l.length <= n := by
  have h1 : (l.map Int.toNat).Nodup := List.pairwise_map.2 (h.imp_of_mem fun {a b} ha hb hne e => hne (by have := hl a ha; have := hl b hb; omega))
  have h2 : (l.map Int.toNat).length <= (List.range n).length := by
    refine znp h1 fun x hx => ?_
    obtain ⟨y, hy, rfl⟩ := List.mem_map.1 hx
    have := hl y hy
    rw [List.mem_range]; omega
  simpa using h2
theorem zkU : (Tryz.prog.info? 3).map (fun i => (i.zero, i.size, i.bytes)) = some (some (.int .i64 0), 1, 8) := by kernel_rfl
theorem zh0 (W : World) (p : Addr) (v : Value) : W.grownBy (W.setCell p v) (some p.block) :=
  ⟨rfl, rfl, rfl, by simp [World.setCell], fun k _ hk => Below.heap_setCell _ _ _ k (fun e => hk (by rw [e]))⟩
theorem z2j {W : World} {b : Nat} {t e : TypeId} {cs : Array Value} {fr : Nat × Nat} (h : W.heap[b]? = some (.cells cs t fr)) (hte : t ≠ e) {base size k : Nat} {v : Value} {xs : List Value} (hr : W.ownsRow base e size v k xs) : v.ownBlock ≠ some b := by
  rcases hr.2 with ⟨rfl, _⟩ | ⟨g, cap, cur, rfl, _, hgb, _⟩
  · simp [Value.ownBlock]
  · intro e'
    obtain rfl : g = b := by simpa [Value.ownBlock] using e'
    have := h.symm.trans hgb
    simp at this
    exact hte this.2.1
theorem zbK {W : World} {base e size k : Nat} {v : Value} {xs : List Value} (hr : W.ownsRow base e size v k xs) {b : Nat} (hb : v.ownBlock = some b) : b < W.heap.size := by
  rcases hr.2 with ⟨rfl, _⟩ | ⟨g, cap, cur, rfl, _, hgb, _⟩
  · simp [Value.ownBlock] at hb
  · obtain rfl : g = b := by simpa [Value.ownBlock] using hb
    exact z0f hgb
theorem zh6 {bs : List Bool} {i : Nat} (h : i < bs.length) : (bs.map Value.bool).toArray.modify i (fun _ => .bool true) = ((bs.set i true).map Value.bool).toArray := by
  apply Array.ext
  · simp
  · intro j h1 h2
    simp only [Array.getElem_modify, List.getElem_toArray, List.getElem_map, List.getElem_set]
    split <;> rfl
theorem ziy {B n b4 b5 bI : Nat} {w0 : World} {v3 : Value} {gs : List Int} {g k : Nat} {mk : List Int} {bs : List Bool} {w : World} (hI : SpI B n b4 b5 bI w0 v3 gs g k mk bs w) {x : Int} (h0 : 0 <= x) (h1 : x < n) (hx : bs.getD x.toNat false = false)
    {v v' : Value} {tmp : Obj} {w3 : World} (q1 : Boxed w b4 z4Q v) (q2 : w.ownsRow B 3 1 v mk.length (mk.map (Value.int .i64))) (q3 : v3.ownBlock = none ∨ v3.ownBlock ≠ v.ownBlock)
    (o' : w3.ownsRow B 3 1 v' (mk.length + 1) (mk.map (Value.int .i64) ++ [.int .i64 x])) (hg : ((w.setCell ⟨bI, x.toNat, none⟩ (.bool true)).alloc tmp).grownBy w3 v.ownBlock) (alt : v'.ownBlock = v.ownBlock ∨ v'.ownBlock = some ((w.setCell ⟨bI, x.toNat, none⟩ (.bool true)).alloc tmp).heap.size /\ ((w.setCell ⟨bI, x.toNat, none⟩ (.bool true)).alloc tmp).grownBy w3 none) :
    Boxed w3 b4 z4Q v /\ SpI B n b4 b5 bI w0 v3 gs g k (mk ++ [x]) (bs.set x.toNat true) (w3.setCell ⟨b4, 0, none⟩ v') := by
  obtain ⟨d1, d2, d3, d4, d5, d6⟩ := hI.hB
  have g1 := zh0 w ⟨bI, x.toNat, none⟩ (.bool true)
  generalize hW : w.setCell ⟨bI, x.toNat, none⟩ (.bool true) = W1 at g1 hg alt
  have hs1 : W1.heap.size = w.heap.size := by subst hW; simp [World.setCell]
  have hBw : B <= w.heap.size := Nat.le_trans d1 (Nat.le_of_lt q1.lt)
  have r1 : W1.ownsRow B 3 1 v mk.length (mk.map (Value.int .i64)) := q2.kept g1 (.inr (z2j hI.row (by decide) q2))
  have x1 : Boxed W1 b4 z4Q v := q1.kept g1 (by simpa using d5)
  obtain ⟨a1, a2, a3, -, a5⟩ := Boxed.appended x1 (by decide) r1 (by omega) d1 o' hg
  have ga := World.grownBy_alloc W1 tmp none
  have g4 := zh0 w3 ⟨b4, 0, none⟩ v'
  have hsz : (W1.alloc tmp).heap.size = W1.heap.size + 1 := by show (W1.heap.push tmp).size = _; rw [Array.size_push]
  have row1 : W1.heap[bI]? = some (.cells ((bs.set x.toNat true).map Value.bool).toArray zbF (0, 0)) := by
    subst hW
    simp only [World.setCell, Array.getElem?_modify, if_true, hI.row, Option.map_some]
    rw [← zh6 (by rw [hI.bl]; omega)]
    rfl
  have lI : bI < w.heap.size := z0f hI.row
  have l5 := hI.box.lt
  refine ⟨a1, ?_⟩
  refine ⟨hI.below.trans (Below.trans ?_ a5), ⟨v', a2, by simpa using a3, ?_⟩, ?_, ?_, by simp [hI.bl], ?_, ?_, ?_, ?_, by have := hI.kle; simp; omega, ?_, hI.hB⟩
  · subst hW; exact (Below.refl B w).setCell (p := ⟨bI, x.toNat, none⟩) d3 _
  · rcases alt with h | ⟨h, _⟩
    · rw [h]; exact q3
    · by_cases e : v3.ownBlock = none
      · exact .inl e
      · right
        obtain ⟨b, hb⟩ := Option.ne_none_iff_exists'.1 e
        have := zbK hI.gens hb
        rw [h, hb]
        intro e2
        cases e2
        omega
  · have y1 : Boxed W1 b5 zdU _ := hI.box.kept g1 (by simpa using d6)
    exact ((y1.alloc tmp).kept hg (y1.not_row (by decide) r1)).kept g4 (by simpa using Ne.symm d4)
  · rw [g4.block bI (by have := hg.size; omega) (by simpa using Ne.symm d5), hg.block bI (by omega) (Ne.symm (z2j row1 (by decide) r1)), ga.block bI (by omega) (by simp)]
    exact row1
  · rw [List.nodup_append]
    exact ⟨hI.nd, by simp, fun a ha b hb e => by
      simp at hb; subst hb; subst e
      rw [hI.inn a ha] at hx; cases hx⟩
  · intro y hy
    rcases List.mem_append.1 hy with h | h
    · exact hI.rg y h
    · simp at h; subst h; exact ⟨h0, h1⟩
  · intro y hy
    rw [List.getD, List.getElem?_set]
    rcases List.mem_append.1 hy with h | h
    · by_cases e : x.toNat = y.toNat
      · rw [if_pos e, if_pos (by rw [hI.bl]; omega)]; rfl
      · rw [if_neg e]; exact hI.inn y h
    · simp at h; subst h; rw [if_pos rfl, if_pos (by rw [hI.bl]; omega)]; rfl
  · have z1 := hI.gens.kept g1 (.inr (z2j hI.row (by decide) hI.gens))
    have z2 := (z1.alloc tmp).kept hg q3
    exact z2.kept g4 (.inr (z2j a1 (by decide) z2))
  · intro hk
    obtain ⟨cur, c1, c2⟩ := hI.old hk
    have lg := z0f c1
    have n1 : g ≠ bI := by rintro rfl; rw [hI.row] at c1; simp at c1
    have n4 : g ≠ b4 := by rintro rfl; rw [show w.heap[g]? = _ from q1] at c1; simp at c1; exact absurd c1.2 (by decide)
    have k1 : W1.heap[g]? = some (.cells cur 3 (0, 0)) := by rw [g1.block g lg (by simpa using n1)]; exact c1
    have k2 : (W1.alloc tmp).heap[g]? = some (.cells cur 3 (0, 0)) := by rw [ga.block g (by omega) (by simp)]; exact k1
    have fin : ∀ c : Array Value, w3.heap[g]? = some (.cells c 3 (0, 0)) -> (∀ j, j < k -> ∃ y : Int, c[j]? = some (.int .i64 y) /\ 0 <= y /\ y < n) -> ∃ cur, (w3.setCell ⟨b4, 0, none⟩ v').heap[g]? = some (.cells cur 3 (0, 0)) /\ ∀ j, j < k -> ∃ y : Int, cur[j]? = some (.int .i64 y) /\ 0 <= y /\ y < n := fun c e1 e2 => ⟨c, by rw [g4.block g (z0f e1) (by simpa using n4)]; exact e1, e2⟩
    by_cases e : v.ownBlock = some g
    · rcases alt with h | ⟨_, h⟩
      · rcases o'.2 with ⟨_, h2⟩ | ⟨g', cap, cur', hv', _, hc', _, _, hsz', ht⟩
        · omega
        · obtain rfl : g' = g := by rw [hv', e] at h; simpa [Value.ownBlock] using h
          refine fin cur' hc' fun j hj => ?_
          have hk2 := hI.kle
          have : (cur'.toList.take ((mk.length + 1) * 1))[j]? = (mk.map (Value.int .i64) ++ [.int .i64 x])[j]? := by rw [ht]
          rw [List.getElem?_take_of_lt (by omega), List.getElem?_append_left (by simp; omega), List.getElem?_map, List.getElem?_eq_getElem (l := mk) (by omega)] at this
          exact ⟨mk[j]'(by omega), by simpa using this, hI.rg _ (List.getElem_mem _)⟩
      · exact fin cur (by rw [h.block g (by omega) (by simp)]; exact k2) c2
    · exact fin cur (by rw [hg.block g (by omega) (fun e2 => e e2.symm)]; exact k2) c2
theorem zbv {B n b4 b5 bI : Nat} {w0 : World} {v3 : Value} {gs : List Int} {g k : Nat} {mk : List Int} {bs : List Bool} {w : World} (hI : SpI B n b4 b5 bI w0 v3 gs g k mk bs w) (hn : n <= 400) {x : Int} (h0 : 0 <= x) (h1 : x < n) :
    Calls Tryz.prog 90 #[.int .i64 x, .pointer (some ⟨b5, 0, none⟩), .pointer (some ⟨b4, 0, none⟩)] w fun e w' => e = .returned (.tuple #[]) /\ ∃ z bs', SpI B n b4 b5 bI w0 v3 gs g k (mk ++ z) bs' w' := by
  have HI := Lib.hid hI
  obtain ⟨v, q1, q2, q3⟩ := hI.made
  have hml := z3X hI.nd hI.rg
  obtain ⟨d1, d2, d3, d4, d5, d6⟩ := hI.hB
  have c4 : (w.setCell ⟨bI, x.toNat, none⟩ (.bool true)).cell? ⟨b4, 0, none⟩ = some v := (q1.kept (zh0 w _ _) (by simpa using d5)).cell
  have HO := Lib.hid (q2.kept (zh0 w ⟨bI, x.toNat, none⟩ (.bool true)) (.inr (z2j hI.row (by decide) q2)))
  have Q1 := Lib.hid q1
  have Q2 := Lib.hid q2
  have Q3 := Lib.hid q3
  have hBw : B <= w.heap.size := Nat.le_trans d1 (Nat.le_of_lt q1.lt)
  have hsz1 : (w.setCell ⟨bI, x.toNat, none⟩ (.bool true)).heap.size = w.heap.size := by simp [World.setCell]
  clear q1 q2 q3
  have e1 : ⟨bI, 0 + x.toNat, none⟩ = (⟨bI, x.toNat, none⟩ : Addr) := by rw [Nat.zero_add]
  have c5 := hI.box.cell
  have cI : w.cell? ⟨bI, x.toNat, none⟩ = some (.bool (bs.getD x.toNat false)) := by
    rw [z0i hI.row]
    have : x.toNat < bs.length := by rw [hI.bl]; omega
    simp [List.getD, this]
  have fI : w.frozen? ⟨bI, x.toNat, none⟩ = false := by simp [World.frozen?, hI.row]
  clear hI
  go_enter Tryz.func90, Tryz.ntmps90
  go_wp2_with (at_builtin; refine z8B _ _ z4Q 3 (.int .i64 0) 8 B rfl rfl (by kernel_rfl) zkU rfl v mk.length (mk.map (Value.int .i64)) rfl (HO.out.alloc _) (.int .i64 x) ⟨w.heap.size, 0, none⟩ 1 ?c1 ?c2 rfl (by omega) (by omega) (by simp; omega) ?_)
  case c1 => rfl
  case c2 =>
    have := heap_alloc_new (w.setCell ⟨bI, x.toNat, none⟩ (.bool true)) (.cells #[.int .i64 x] 3)
    rw [hsz1] at this
    rw [z0i this]; rfl
  · rename_i hb
    have hx : bs.getD x.toNat false = false := by simpa [List.getD] using hb
    intro v' w3 o' hg alt
    obtain ⟨a1, hS⟩ := ziy HI.out h0 h1 hx Q1.out Q2.out Q3.out o' hg (alt.imp id fun h => ⟨h.1.trans (by rw [← hsz1]; exact congrArg some (Array.size_push _).symm), h.2⟩)
    have d7 := a1.cell
    have d8 := a1.frozen
    have HS := Lib.hid hS
    clear hS a1 hg alt
    obtain ⟨gg, cap, rfl⟩ := ownsRow_succ o'
    clear o'
    go_wp2
    go_end0
    exact ⟨rfl, _, _, HS.out⟩
  · go_end0
    exact ⟨rfl, [], bs, by simpa using HI.out⟩
end
section
open Go Go.RowKit
set_option maxRecDepth 100000
set_option maxHeartbeats 4000000
def ofN (l : List Nat) : List Int := l.map fun g => ((g : Nat) : Int)
structure TabW (w : World) (B n gt ot ct : Nat) (t : Nat -> Nat -> Int) : Prop where
  le : n <= ct
  row : ∀ x, x < n -> ∃ gr or cr, gt < B /\ gr < B /\ n <= cr /\ w.cell? ⟨gt, ot + x, none⟩ = some (.slice (some ⟨gr, or, none⟩) n cr) /\ ∀ y, y < n -> w.cell? ⟨gr, or + y, none⟩ = some (.int .i64 (t x y))
  rg : ∀ x y, x < n -> y < n -> 0 <= t x y /\ t x y < n
theorem SpI.weak {B n b4 b5 bI : Nat} {w0 : World} {v3 : Value} {gs : List Int} {g k : Nat} {mk : List Int} {bs : List Bool} {w : World} (h : SpI B n b4 b5 bI w0 v3 gs g k mk bs w) : SpI B n b4 b5 bI w0 v3 gs 0 0 mk bs w :=
  ⟨h.below, h.made, h.box, h.row, h.bl, h.nd, h.rg, h.inn, h.gens, Nat.zero_le _, fun h => by omega, h.hB⟩
theorem SpI.gen {B n b4 b5 bI : Nat} {w0 : World} {v3 v' : Value} {gs : List Int} {mk : List Int} {bs : List Bool} {w w3 : World} (h : SpI B n b4 b5 bI w0 v3 gs 0 0 mk bs w) {tmp : Obj} {x : Int}
    (o' : w3.ownsRow B 3 1 v' (gs.length + 1) (gs.map (Value.int .i64) ++ [.int .i64 x])) (hg : (w.alloc tmp).grownBy w3 v3.ownBlock) (alt : v'.ownBlock = v3.ownBlock ∨ v'.ownBlock = some (w.alloc tmp).heap.size /\ (w.alloc tmp).grownBy w3 none) :
    SpI B n b4 b5 bI w0 v' (gs ++ [x]) 0 0 mk bs w3 := by
  obtain ⟨d1, d2, d3, d4, d5, d6⟩ := h.hB
  obtain ⟨v, q1, q2, q3⟩ := h.made
  have hBw : B <= w.heap.size := Nat.le_trans d1 (Nat.le_of_lt q1.lt)
  have hsz : (w.alloc tmp).heap.size = w.heap.size + 1 := by show (w.heap.push tmp).size = _; rw [Array.size_push]
  have r4 := z2j (show w.heap[b4]? = _ from q1) (by decide) h.gens
  have r5 := z2j (show w.heap[b5]? = _ from h.box) (by decide) h.gens
  have rI := z2j h.row (by decide) h.gens
  have q3' : v.ownBlock = none ∨ v.ownBlock ≠ v3.ownBlock := by
    by_cases e : v.ownBlock = none
    · exact .inl e
    · rcases q3 with q | q
      · right; rw [q]; exact e
      · exact .inr (Ne.symm q)
  refine ⟨h.below.trans (((Below.refl B w).alloc hBw tmp).grown hg (by omega) fun j ej => ?_), ⟨v, (q1.alloc tmp).kept hg (Ne.symm r4), (q2.alloc tmp).kept hg q3', ?_⟩, (h.box.alloc tmp).kept hg (Ne.symm r5), ?_, h.bl, h.nd, h.rg, h.inn, by simpa using o', Nat.zero_le _, fun h => by omega, h.hB⟩
  · rcases h.gens.2 with ⟨rfl, _⟩ | ⟨g, cap, cur, rfl, hb, _, _⟩
    · simp [Value.ownBlock] at ej
    · obtain rfl : g = j := by simpa [Value.ownBlock] using ej
      exact hb
  · rcases alt with e | ⟨e, _⟩
    · rw [e]; exact q3
    · right
      rw [e]
      intro e2
      have := zbK q2 e2.symm
      omega
  · rw [hg.block bI (by have := z0f h.row; omega) (Ne.symm rI), (World.grownBy_alloc w tmp none).block bI (z0f h.row) (by simp)]
    exact h.row
theorem zjG : ∃ i, Tryz.prog.info? zbF = some i /\ i.zero = some (.bool false) /\ i.size = 1 /\ i.bytes = 1 := by
  obtain ⟨i, h1, h2⟩ := Option.map_eq_some_iff.1 (show (Tryz.prog.info? zbF).map (fun i => (i.zero, i.size, i.bytes)) = some (some (.bool false), 1, 1) by kernel_rfl)
  simp only [Prod.mk.injEq] at h2
  exact ⟨i, h1, h2.1, h2.2.1, h2.2.2⟩
theorem zey (n : Nat) : madeCells #[Value.bool false] n = ((List.replicate n false).map Value.bool).toArray := by
  apply Array.ext
  · simp [size_madeCells]
  · intro i h1 h2
    simp [madeCells, Nat.mod_one]
theorem ze1 (w : World) (n : Nat) : SpI w.heap.size n w.heap.size (w.heap.size + 1 + 1) (w.heap.size + 1) w (.slice none 0 0) (ofN []) 0 0 [] (List.replicate n false) (((w.alloc (.cells #[.slice none 0 0] z4Q)).alloc (.cells (madeCells #[Value.bool false] n) zbF)).alloc (.cells #[.slice (some ⟨w.heap.size + 1, 0, none⟩) n n] zdU)) := by
  have asz : ∀ (W : World) (o : Obj), (W.alloc o).heap.size = W.heap.size + 1 := fun W o => by show (W.heap.push o).size = _; rw [Array.size_push]
  have n0 := heap_alloc_new w (.cells #[.slice none 0 0] z4Q)
  have n1 := heap_alloc_new (w.alloc (.cells #[.slice none 0 0] z4Q)) (.cells (madeCells #[Value.bool false] n) zbF)
  have n2 := heap_alloc_new ((w.alloc (.cells #[.slice none 0 0] z4Q)).alloc (.cells (madeCells #[Value.bool false] n) zbF)) (.cells #[.slice (some ⟨w.heap.size + 1, 0, none⟩) n n] zdU)
  rw [asz] at n1
  rw [asz, asz] at n2
  have b0 : Boxed (w.alloc (.cells #[.slice none 0 0] z4Q)) w.heap.size z4Q (.slice none 0 0) := n0
  refine ⟨(((Below.refl _ w).alloc (Nat.le_refl _) _).alloc (by rw [asz]; omega) _).alloc (by rw [asz, asz]; omega) _, ⟨_, (b0.alloc _).alloc _, World.ownsRow_nil _ _ _ _, .inl rfl⟩, n2, ?_, by simp, List.nodup_nil, by simp, by simp, World.ownsRow_nil _ _ _ _, Nat.zero_le _, fun h => by omega, ⟨Nat.le_refl _, by omega, by omega, by omega, by omega, by omega⟩⟩
  rw [Lib.alloc_old _ _ _ (by rw [asz, asz]; omega), n1, zey]
theorem zg5 (gs : List Nat) (g : Nat) : ofN (gs ++ [g]) = ofN gs ++ [(g : Int)] := by simp [ofN]
theorem z5I (gs : List Nat) : (ofN gs).length = gs.length := by simp [ofN]
theorem zfJ {gs : List Nat} {g : Nat} (h : gs.Sublist (List.range g)) : gs.Sublist (List.range (g + 1)) := by
  rw [List.range_succ]; exact h.trans (List.sublist_append_left _ _)
theorem zfK {gs : List Nat} {g : Nat} (h : gs.Sublist (List.range g)) : (gs ++ [g]).Sublist (List.range (g + 1)) := by
  rw [List.range_succ]; exact h.append (List.Sublist.refl _)
theorem z4k {w : World} {B : Nat} {v : Value} {mk : List Int} (h : w.ownsRow B 3 1 v mk.length (mk.map (Value.int .i64))) (h0 : 0 < mk.length) : ∃ g cap cur, v = .slice (some ⟨g, 0, none⟩) mk.length cap /\ mk.length <= cap /\ w.heap[g]? = some (.cells cur 3 (0, 0)) /\ ∀ j (hj : j < mk.length), cur[j]? = some (.int .i64 mk[j]) := by
  rcases h.2 with ⟨_, h2⟩ | ⟨g, cap, cur, hv, _, hc, hcap, _, hsz, ht⟩
  · omega
  · refine ⟨g, cap, cur, hv, hcap, hc, fun j hj => ?_⟩
    have : (cur.toList.take (mk.length * 1))[j]? = (mk.map (Value.int .i64))[j]? := by rw [ht]
    rw [List.getElem?_take_of_lt (by omega), List.getElem?_map, List.getElem?_eq_getElem (l := mk) hj] at this
    simpa using this
theorem zj2 (w : World) (n gt ot ct : Nat) (t : Nat -> Nat -> Int) (hn : n <= 400) (hT : TabW w w.heap.size n gt ot ct t) :
    Calls Tryz.prog 51 #[.slice (some ⟨gt, ot, none⟩) n ct] w fun e w' => ∃ (v : Value) (gs : List Nat), e = .returned v /\ gs.Sublist (List.range n) /\ w'.ownsRow w.heap.size 3 1 v gs.length ((ofN gs).map (Value.int .i64)) /\ Below w.heap.size w w' := by
  obtain ⟨i1, h1, h2, h3, h4⟩ := zjG
  have HT := Lib.hid hT
  clear hT
  go_enter Tryz.func51, Tryz.ntmps51
  go_wp2_with (refine wpList_make_row _ rfl _ _ 65 rfl zbF i1 (.bool false) (by kernel_rfl) h1 h2 h3 rfl .i64 .i64 n rfl rfl (by rw [h4]; omega) (by omega) ?_)
  have hS := ze1 w n
  generalize (((w.alloc (.cells #[.slice none 0 0] z4Q)).alloc (.cells (madeCells #[Value.bool false] n) zbF)).alloc (.cells #[.slice (some ⟨w.heap.size + 1, 0, none⟩) n n] zdU)) = X at hS ⊢
  have HS := Lib.hid hS
  clear hS h1 h2 h3 h4
  go_wp2_with fail
  go_loopw [3, 7, 18] (fun v3 v7 v18 wr => ∃ (g mu : Nat) (gs : List Nat) (mk : List Int) (bs : List Bool), g <= n /\ v18 = .int .i64 g /\ v7 = .int .i64 mu /\ mu <= mk.length /\ gs.Sublist (List.range g) /\ SpI w.heap.size n w.heap.size (w.heap.size + 1 + 1) (w.heap.size + 1) w v3 (ofN gs) 0 0 mk bs wr) (fun v3 v7 v18 wr => n - (intOf v18).toNat)
  case atStart => exact ⟨0, 0, [], [], _, Nat.zero_le _, rfl, rfl, Nat.zero_le _, by simp, HS.out⟩
  case round =>
    obtain ⟨g, mu, gs, mk, bs, hg, rfl, rfl, hmu, hsub, hI⟩ := hrel
    by_cases hlt : g < n
    · have c5 := hI.box.cell
      have cI : wr.cell? ⟨w.heap.size + 1, 0 + g, none⟩ = some (.bool (bs.getD g false)) := by
        rw [z0i hI.row]
        have : g < bs.length := by rw [hI.bl]; omega
        simp [List.getD, this]
      have hgl : gs.length <= g := by have := hsub.length_le; simpa using this
      have HI := Lib.hid hI
      have HU := Lib.hid hsub
      clear hI hsub
      rw [Nat.zero_add] at cI
      cases hb : bs.getD g false with
      | true =>
        rw [hb] at cI
        clear hb
        go_wp2_with fail
        go_roundw
        case rel => exact ⟨g + 1, mu, gs, mk, bs, by omega, by go_num, rfl, hmu, zfJ HU.out, HI.out⟩
        case measure => simp [intOf]; omega
      | false =>
        rw [hb] at cI
        have hsl := z5I gs
        have HL := Lib.hid hsl
        clear hsl hb
        have hBw : w.heap.size <= wr.heap.size := HI.out.below.size
        have HO := Lib.hid (HI.out.gens)
        go_wp2_with (at_builtin; refine z8B _ _ z4Q 3 (.int .i64 0) 8 w.heap.size rfl rfl (by kernel_rfl) zkU rfl u3 (ofN gs).length ((ofN gs).map (Value.int .i64)) rfl (HO.out.alloc _) (.int .i64 g) ⟨wr.heap.size, 0, none⟩ 1 rfl ?c2 rfl (by rw [HL.out]; omega) (by rw [HL.out]; omega) (by simp; omega) ?_)
        case c2 => rw [z0i (heap_alloc_new wr _)]; rfl
        intro v' w3 o' hg' alt
        have hS3 := HI.out.gen o' hg' (alt.imp id fun h => ⟨h.1.trans (congrArg some (Array.size_push _).symm), h.2⟩)
        rw [← zg5] at hS3
        obtain ⟨gg, cap, rfl⟩ := ownsRow_succ o'
        have HS3 := Lib.hid hS3
        clear hS3 o' hg' alt
        go_wp2_with fail
        refine (zbv HS3.out hn (by omega) (by omega)).mono ?_
        rintro e w4 ⟨rfl, z, bs4, h4⟩
        have hmu4 : mu <= (mk ++ z).length := by simp; omega
        have H4 := Lib.hid h4
        clear h4
        go_wp2_with fail
        go_loopw [7] (fun v7 wr => ∃ (mu : Nat) (mk : List Int) (bs : List Bool), v7 = .int .i64 mu /\ mu <= mk.length /\ SpI w.heap.size n w.heap.size (w.heap.size + 1 + 1) (w.heap.size + 1) w (.slice (some ⟨gg, 0, none⟩) ((ofN gs).length + 1) cap) (ofN (gs ++ [g])) 0 0 mk bs wr) (fun v7 wr => n + 1 - (intOf v7).toNat)
        case atStart => exact ⟨mu, _, _, rfl, hmu4, H4.out⟩
        case round =>
          obtain ⟨mu2, mk2, bs2, rfl, hmu2, hI2⟩ := hrel
          obtain ⟨v, q1, q2, q3⟩ := hI2.made
          have hml := z3X hI2.nd hI2.rg
          by_cases h2 : mu2 < mk2.length
          · obtain ⟨ga, cap2, cur, rfl, hcap, hcu, hcells⟩ := z4k q2 (by omega)
            have k4 := q1.cell
            have cm : wr.cell? ⟨ga, mu2, none⟩ = some (.int .i64 mk2[mu2]) := by rw [z0i hcu]; simpa using hcells mu2 h2
            have hx := hI2.rg _ (List.getElem_mem h2)
            have hS5 : SpI w.heap.size n w.heap.size (w.heap.size + 1 + 1) (w.heap.size + 1) w (.slice (some ⟨gg, 0, none⟩) ((ofN gs).length + 1) cap) (ofN (gs ++ [g])) ga (mu2 + 1) mk2 bs2 wr := { hI2 with kle := by omega, old := fun _ => ⟨cur, hcu, fun j hj => ⟨mk2[j]'(by omega), hcells j (by omega), hI2.rg _ (List.getElem_mem _)⟩⟩ }
            generalize mk2[mu2] = x at cm hx
            obtain ⟨hx0, hx1⟩ := hx
            have HS5 := Lib.hid hS5
            have HX0 := Lib.hid hx0
            have HX1 := Lib.hid hx1
            clear hS5 hI2 q1 q2 q3 hcu hcells
            have hsc : (mu2 : Int) + 1 <= cap2 := by omega
            go_wp2_with fail
            go_loopw [47] (fun v47 wr => ∃ (j : Nat) (mk : List Int) (bs : List Bool), v47 = .int .i64 j /\ j <= mu2 + 1 /\ SpI w.heap.size n w.heap.size (w.heap.size + 1 + 1) (w.heap.size + 1) w (.slice (some ⟨gg, 0, none⟩) ((ofN gs).length + 1) cap) (ofN (gs ++ [g])) ga (mu2 + 1) mk bs wr) (fun v47 wr => mu2 + 2 - (intOf v47).toNat)
            case atStart => exact ⟨0, mk2, bs2, rfl, by omega, HS5.out⟩
            case round =>
              obtain ⟨j, mk3, bs3, rfl, hj, hI3⟩ := hrel
              by_cases hj2 : j < mu2 + 1
              · obtain ⟨cur3, c31, c32⟩ := hI3.old (by omega)
                obtain ⟨y, y1, y2, y3⟩ := c32 j hj2
                have cy : wr.cell? ⟨ga, j, none⟩ = some (.int .i64 y) := by rw [z0i c31]; simpa using y1
                obtain ⟨gr, or, cr, r1, r2, r3, r4, r5⟩ := HT.out.row x.toNat (by have := HX0.out; have := HX1.out; omega)
                obtain ⟨gs', os', cs', s1, s2, s3, s4, s5⟩ := HT.out.row y.toNat (by omega)
                obtain ⟨t1, t2⟩ := HT.out.rg x.toNat y.toNat (by have := HX0.out; have := HX1.out; omega) (by omega)
                obtain ⟨t3, t4⟩ := HT.out.rg y.toNat x.toNat (by omega) (by have := HX0.out; have := HX1.out; omega)
                have R4 := Lib.hid r4
                have R5 := Lib.hid (r5 y.toNat (by omega))
                have S4 := Lib.hid s4
                have S5 := Lib.hid (s5 x.toNat (by have := HX0.out; have := HX1.out; omega))
                have hle := HT.out.le
                generalize t x.toNat y.toNat = p at t1 t2 R5
                generalize t y.toNat x.toNat = q at t3 t4 S5
                have f1 := (hI3.below.cell (p := ⟨gt, ot + x.toNat, none⟩) r1).trans R4.out
                have f2 := (hI3.below.cell (p := ⟨gr, or + y.toNat, none⟩) r2).trans R5.out
                have HI3 := Lib.hid hI3
                have P0 := Lib.hid t1
                have P1 := Lib.hid t2
                have P2 := Lib.hid t3
                have P3 := Lib.hid t4
                clear hI3 c31 c32 y1 r4 r5 s4 s5 t1 t2 t3 t4
                go_wp2_with fail
                refine (zbv HI3.out hn P0.out P1.out).mono ?_
                rintro e w5 ⟨rfl, z5, bs5, h5⟩
                have f3 := (h5.below.cell (p := ⟨gt, ot + y.toNat, none⟩) s1).trans S4.out
                have f4 := (h5.below.cell (p := ⟨gs', os' + x.toNat, none⟩) s2).trans S5.out
                have H5 := Lib.hid h5
                clear h5 f1 f2 cy
                go_wp2_with fail
                refine (zbv H5.out hn P2.out P3.out).mono ?_
                rintro e w6 ⟨rfl, z6, bs6, h6⟩
                have H6 := Lib.hid h6
                clear h6 f3 f4
                go_wp2_with fail
                go_roundw
                case rel => exact ⟨j + 1, _, _, by go_num, by omega, H6.out⟩
                case measure => simp [intOf]; omega
              · obtain rfl : j = mu2 + 1 := by omega
                have hk3 := hI3.kle
                have HI3 := Lib.hid hI3.weak
                clear hI3
                go_wp2_with fail
                go_roundw
                case rel => exact ⟨mu2 + 1, mk3, bs3, by go_num, hk3, HI3.out⟩
                case measure => simp [intOf]; omega
          · obtain rfl : mu2 = mk2.length := by omega
            have hk4 := q1.cell
            obtain ⟨ga, cap2, hv⟩ : ∃ ga cap2, v = .slice ga mk2.length cap2 := by
              rcases q2.2 with ⟨rfl, h0⟩ | ⟨g0, cap0, cur0, rfl, _⟩
              · exact ⟨none, 0, by rw [h0]⟩
              · exact ⟨_, _, rfl⟩
            rw [hv] at hk4
            have HI3 := Lib.hid hI2
            have HHv := Lib.hid hv
            clear hI2 q1 q2 q3 hv
            go_wp2_with fail
            go_roundw
            case rel => exact ⟨g + 1, mk2.length, gs ++ [g], mk2, bs2, by omega, by go_num, rfl, Nat.le_refl _, zfK HU.out, by rw [z5I] at HI3 ⊢; exact HI3.out⟩
            case measure => simp [intOf]; omega
    · obtain rfl : g = n := by omega
      have HI3 := Lib.hid hI
      have HU := Lib.hid hsub
      clear hI hsub
      go_wp2_with fail
      go_ret
      refine ⟨_, gs, rfl, HU.out, ?_, HI3.out.below⟩
      have := HI3.out.gens
      rwa [z5I] at this
end
section
open Go Go.RowKit
set_option maxRecDepth 100000
set_option maxHeartbeats 4000000
abbrev zcJ : TypeId := 112
def z9o (l : List Int) (x : Int) : List Int := if x ∈ l then l else l ++ [x]
structure ClI (B n bc bI : Nat) (w0 : World) (tv gv : Value) (gl ll : List Int) (bs : List Bool) (w : World) : Prop where
  below : Below B w0 w
  clo : ∃ lv, w.heap[bc]? = some (.cells #[tv, gv, .slice (some ⟨bI, 0, none⟩) n n, lv] zcJ (0, 0)) /\ w.ownsRow B 3 1 lv ll.length (ll.map (Value.int .i64)) /\ (gv.ownBlock = none ∨ gv.ownBlock ≠ lv.ownBlock)
  gens : w.ownsRow B 3 1 gv gl.length (gl.map (Value.int .i64))
  row : w.heap[bI]? = some (.cells (bs.map Value.bool).toArray zbF (0, 0))
  bl : bs.length = n
  nd : ll.Nodup
  rg : ∀ x ∈ ll, 0 <= x /\ x < n
  inn : ∀ x : Int, 0 <= x -> x < n -> (bs.getD x.toNat false = true ↔ x ∈ ll)
  hB : B <= bc /\ B <= bI /\ bc ≠ bI
theorem z2R {w : World} {bc : Nat} {a b c d : Value} (h : w.heap[bc]? = some (.cells #[a, b, c, d] zcJ (0, 0))) : w.cell? ⟨bc, 0, none⟩ = some a /\ w.cell? ⟨bc, 1, none⟩ = some b /\ w.cell? ⟨bc, 2, none⟩ = some c /\ w.cell? ⟨bc, 3, none⟩ = some d := by
  refine ⟨?_, ?_, ?_, ?_⟩ <;> rw [z0i h] <;> rfl
theorem zck {w : World} {bc : Nat} {cs : Array Value} (h : w.heap[bc]? = some (.cells cs zcJ (0, 0))) (i : Nat) : w.frozen? ⟨bc, i, none⟩ = false := by simp [World.frozen?, h]
theorem zfg {w : World} {bc : Nat} {a b c d : Value} (h : w.heap[bc]? = some (.cells #[a, b, c, d] zcJ (0, 0))) (v : Value) : (w.setCell ⟨bc, 3, none⟩ v).heap[bc]? = some (.cells #[a, b, c, v] zcJ (0, 0)) /\ (w.setCell ⟨bc, 1, none⟩ v).heap[bc]? = some (.cells #[a, v, c, d] zcJ (0, 0)) := by
  constructor <;> simp [World.setCell, Array.getElem?_modify, h] <;> rfl
theorem z8b {w : World} {B : Nat} {v : Value} {xs : List Int} (h : w.ownsRow B 3 1 v xs.length (xs.map (Value.int .i64))) : ∃ a cap, v = .slice a xs.length cap := by
  rcases h.2 with ⟨rfl, h0⟩ | ⟨g, cap, _, rfl, _⟩
  · exact ⟨none, 0, by rw [h0]⟩
  · exact ⟨_, _, rfl⟩
theorem zgM {B n bc bI : Nat} {w0 : World} {tv gv : Value} {gl ll : List Int} {bs : List Bool} {w : World} (hI : ClI B n bc bI w0 tv gv gl ll bs w) {x : Int} (h0 : 0 <= x) (h1 : x < n) (hx : bs.getD x.toNat false = false)
    {lv v' : Value} {tmp : Obj} {w3 : World} (q1 : w.heap[bc]? = some (.cells #[tv, gv, .slice (some ⟨bI, 0, none⟩) n n, lv] zcJ (0, 0))) (q2 : w.ownsRow B 3 1 lv ll.length (ll.map (Value.int .i64))) (q3 : gv.ownBlock = none ∨ gv.ownBlock ≠ lv.ownBlock)
    (o' : w3.ownsRow B 3 1 v' (ll.length + 1) (ll.map (Value.int .i64) ++ [.int .i64 x])) (hg : ((w.setCell ⟨bI, x.toNat, none⟩ (.bool true)).alloc tmp).grownBy w3 lv.ownBlock) (alt : v'.ownBlock = lv.ownBlock ∨ v'.ownBlock = some ((w.setCell ⟨bI, x.toNat, none⟩ (.bool true)).alloc tmp).heap.size /\ ((w.setCell ⟨bI, x.toNat, none⟩ (.bool true)).alloc tmp).grownBy w3 none) :
    w3.heap[bc]? = some (.cells #[tv, gv, .slice (some ⟨bI, 0, none⟩) n n, lv] zcJ (0, 0)) /\ ClI B n bc bI w0 tv gv gl (ll ++ [x]) (bs.set x.toNat true) (w3.setCell ⟨bc, 3, none⟩ v') := by
  obtain ⟨d1, d3, d5⟩ := hI.hB
  have g1 := zh0 w ⟨bI, x.toNat, none⟩ (.bool true)
  have row1 : (w.setCell ⟨bI, x.toNat, none⟩ (.bool true)).heap[bI]? = some (.cells ((bs.set x.toNat true).map Value.bool).toArray zbF (0, 0)) := by
    simp only [World.setCell, Array.getElem?_modify, if_true, hI.row, Option.map_some]
    rw [← zh6 (by rw [hI.bl]; omega)]
    rfl
  have hb1 : Below B w (w.setCell ⟨bI, x.toNat, none⟩ (.bool true)) := (Below.refl B w).setCell (p := ⟨bI, x.toNat, none⟩) d3 _
  have hs1 : (w.setCell ⟨bI, x.toNat, none⟩ (.bool true)).heap.size = w.heap.size := by simp [World.setCell]
  generalize w.setCell ⟨bI, x.toNat, none⟩ (.bool true) = W1 at g1 hg alt row1 hb1 hs1
  have lc := z0f q1
  have lI := z0f hI.row
  have hBw : B <= w.heap.size := by omega
  have r1 : W1.ownsRow B 3 1 lv ll.length (ll.map (Value.int .i64)) := q2.kept g1 (.inr (z2j hI.row (by decide) q2))
  have ga := World.grownBy_alloc W1 tmp none
  have g4 := zh0 w3 ⟨bc, 3, none⟩ v'
  have hsz : (W1.alloc tmp).heap.size = W1.heap.size + 1 := by show (W1.heap.push tmp).size = _; rw [Array.size_push]
  have c1 : W1.heap[bc]? = some (.cells #[tv, gv, .slice (some ⟨bI, 0, none⟩) n n, lv] zcJ (0, 0)) := by rw [g1.block bc lc (by simpa using d5)]; exact q1
  have c3 : w3.heap[bc]? = some (.cells #[tv, gv, .slice (some ⟨bI, 0, none⟩) n n, lv] zcJ (0, 0)) := by
    rw [hg.block bc (by omega) (Ne.symm (z2j c1 (by decide) r1)), ga.block bc (by omega) (by simp)]; exact c1
  have z2 : w3.ownsRow B 3 1 gv gl.length (gl.map (Value.int .i64)) := ((hI.gens.kept g1 (.inr (z2j hI.row (by decide) hI.gens))).alloc tmp).kept hg q3
  refine ⟨c3, hI.below.trans (hb1.trans ((((Below.refl B W1).alloc (by omega) tmp).grown hg (by omega) fun j ej => ?_).setCell (p := ⟨bc, 3, none⟩) d1 v')), ⟨v', (zfg c3 v').1, ?_, ?_⟩, z2.kept g4 (.inr (z2j c3 (by decide) z2)), ?_, by simp [hI.bl], ?_, ?_, ?_, hI.hB⟩
  · rcases r1.2 with ⟨rfl, _⟩ | ⟨g, cap, cur, rfl, hb, _, _⟩
    · simp [Value.ownBlock] at ej
    · obtain rfl : g = j := by simpa [Value.ownBlock] using ej
      exact hb
  · have := o'.kept g4 (.inr (z2j c3 (by decide) o'))
    simpa using this
  · rcases alt with h | ⟨h, _⟩
    · rw [h]; exact q3
    · by_cases e : gv.ownBlock = none
      · exact .inl e
      · right
        obtain ⟨b, hb⟩ := Option.ne_none_iff_exists'.1 e
        have := zbK hI.gens hb
        rw [h, hb]
        intro e2
        cases e2
        omega
  · rw [g4.block bI (by have := hg.size; omega) (by simpa using Ne.symm d5), hg.block bI (by omega) (Ne.symm (z2j row1 (by decide) r1)), ga.block bI (by omega) (by simp)]
    exact row1
  · rw [List.nodup_append]
    exact ⟨hI.nd, by simp, fun a ha b hb e => by
      simp at hb; subst hb; subst e
      rw [(hI.inn a h0 h1).2 ha] at hx; cases hx⟩
  · intro y hy
    rcases List.mem_append.1 hy with h | h
    · exact hI.rg y h
    · simp at h; subst h; exact ⟨h0, h1⟩
  · intro y y0 y1
    rw [List.getD, List.getElem?_set]
    by_cases e : x.toNat = y.toNat
    · rw [if_pos e, if_pos (by rw [hI.bl]; omega)]
      obtain rfl : x = y := by omega
      simp
    · rw [if_neg e]
      have := hI.inn y y0 y1
      rw [List.getD] at this
      rw [this]
      have : y ≠ x := by omega
      simp [this]
theorem z9l {B n bc bI : Nat} {w0 : World} {tv gv : Value} {gl ll : List Int} {bs : List Bool} {w : World} (hI : ClI B n bc bI w0 tv gv gl ll bs w) (hn : n <= 400) {x : Int} (h0 : 0 <= x) (h1 : x < n) :
    Calls Tryz.prog 98 #[.pointer (some ⟨bc, 0, none⟩), .int .i64 x] w fun e w' => e = .returned (.tuple #[]) /\ ∃ bs', ClI B n bc bI w0 tv gv gl (z9o ll x) bs' w' := by
  have HI := Lib.hid hI
  obtain ⟨lv, q1, q2, q3⟩ := hI.clo
  have hml := z3X hI.nd hI.rg
  obtain ⟨d1, d3, d5⟩ := hI.hB
  have g1 := zh0 w ⟨bI, x.toNat, none⟩ (.bool true)
  have c1 : (w.setCell ⟨bI, x.toNat, none⟩ (.bool true)).heap[bc]? = some (.cells #[tv, gv, .slice (some ⟨bI, 0, none⟩) n n, lv] zcJ (0, 0)) := by rw [g1.block bc (z0f q1) (by simpa using d5)]; exact q1
  have c4 := (z2R c1).2.2.2
  have c6 := (z2R q1).2.2.1
  have HO := Lib.hid (q2.kept g1 (.inr (z2j hI.row (by decide) q2)))
  have Q1 := Lib.hid q1
  have Q2 := Lib.hid q2
  have Q3 := Lib.hid q3
  have hBw : B <= w.heap.size := by have := z0f q1; omega
  have hsz1 : (w.setCell ⟨bI, x.toNat, none⟩ (.bool true)).heap.size = w.heap.size := by simp [World.setCell]
  have hin := hI.inn x h0 h1
  have cI : w.cell? ⟨bI, x.toNat, none⟩ = some (.bool (bs.getD x.toNat false)) := by
    rw [z0i hI.row]
    have : x.toNat < bs.length := by rw [hI.bl]; omega
    simp [List.getD, this]
  have fI : w.frozen? ⟨bI, x.toNat, none⟩ = false := by simp [World.frozen?, hI.row]
  have HIN := Lib.hid hin
  clear hI q1 q2 q3 c1 g1 hin
  go_enter Tryz.func98, Tryz.ntmps98
  go_wp2_with (at_builtin; refine z8B _ _ z4Q 3 (.int .i64 0) 8 B rfl rfl (by kernel_rfl) zkU rfl lv ll.length (ll.map (Value.int .i64)) rfl (HO.out.alloc _) (.int .i64 x) ⟨w.heap.size, 0, none⟩ 1 ?c1 ?c2 rfl (by omega) (by omega) (by simp; omega) ?_)
  case c1 => rfl
  case c2 =>
    have := heap_alloc_new (w.setCell ⟨bI, x.toNat, none⟩ (.bool true)) (.cells #[.int .i64 x] 3)
    rw [hsz1] at this
    rw [z0i this]; rfl
  · rename_i hb
    have hx : bs.getD x.toNat false = false := by simpa [List.getD] using hb
    intro v' w3 o' hg alt
    obtain ⟨a1, hS⟩ := zgM HI.out h0 h1 hx Q1.out Q2.out Q3.out o' hg (alt.imp id fun h => ⟨h.1.trans (by rw [← hsz1]; exact congrArg some (Array.size_push _).symm), h.2⟩)
    have d7 := (z2R a1).2.2.2
    have d8 := zck a1 3
    have HS := Lib.hid hS
    have HX := Lib.hid hx
    clear hS a1 hg alt hx
    obtain ⟨gg, cap, rfl⟩ := ownsRow_succ o'
    clear o'
    go_wp2
    go_end0
    refine ⟨rfl, bs.set x.toNat true, ?_⟩
    have : x ∉ ll := fun h => by rw [HIN.out.2 h] at HX; cases HX.out
    rw [z9o, if_neg this]
    exact HS.out
  · go_end0
    rename_i hb
    have hx : bs.getD x.toNat false = true := by simpa [List.getD] using hb
    refine ⟨rfl, bs, ?_⟩
    rw [z9o, if_pos (HIN.out.1 hx)]
    exact HI.out
end
section
open Go Go.RowKit
set_option maxRecDepth 100000
set_option maxHeartbeats 4000000
theorem Wd.mono {t : Int -> Int -> Int} {gl gl' : List Int} (hs : ∀ h ∈ gl, h ∈ gl') {y : Int} (h : Wd t gl y) : Wd t gl' y := by
  induction h with
  | base h => exact .base (hs _ h)
  | step _ h ih => exact .step ih (hs _ h)
structure PI (t : Int -> Int -> Int) (gl ll : List Int) : Prop where
  cl : ∀ x ∈ ll, ∀ h ∈ gl, t x h ∈ ll
  wd : ∀ y ∈ ll, Wd t gl y
  sub : ∀ h ∈ gl, h ∈ ll
  gnd : gl.Nodup
theorem zbL (l : List Int) (x : Int) : x ∈ z9o l x := by unfold z9o; split <;> simp_all
theorem z8A (l : List Int) (x : Int) : ∃ z, z9o l x = l ++ z := by
  unfold z9o
  split
  · exact ⟨[], by simp⟩
  · exact ⟨[x], rfl⟩
theorem zhM {l : List Int} {x y : Int} (h : y ∈ z9o l x) : y ∈ l ∨ y = x := by
  unfold z9o at h
  split at h
  · exact .inl h
  · simpa using h
theorem zbM {l z : List Int} {k : Nat} (h : k < l.length) : (l ++ z).getD k 0 = l.getD k 0 := by
  rw [List.getD, List.getD, List.getElem?_append_left h]
structure GI (t : Int -> Int -> Int) (l0 gl : List Int) (g : Int) (ll : List Int) (i : Nat) : Prop where
  pre : ∃ z, ll = l0 ++ z
  gin : g ∈ ll
  wd : ∀ y ∈ ll, Wd t gl y
  le : i <= ll.length
  dn : ∀ j, j < i -> ∀ h, (h = g ∨ (l0.length <= j /\ h ∈ gl)) -> t (ll.getD j 0) h ∈ ll
theorem GI.put {t : Int -> Int -> Int} {l0 gl : List Int} {g : Int} {ll : List Int} {i : Nat} (hI : GI t l0 gl g ll i) {y h : Int} (hy : y ∈ ll) (hh : h ∈ gl) : GI t l0 gl g (z9o ll (t y h)) i := by
  obtain ⟨z, hz⟩ := hI.pre
  obtain ⟨z2, hz2⟩ := z8A ll (t y h)
  refine ⟨⟨z ++ z2, by rw [hz2, hz, List.append_assoc]⟩, by rw [hz2]; exact List.mem_append_left _ hI.gin, fun q hq => ?_, by rw [hz2, List.length_append]; have := hI.le; omega, fun j hj q hq => ?_⟩
  · rcases zhM hq with h1 | h1
    · exact hI.wd q h1
    · subst h1; exact .step (hI.wd y hy) hh
  · have := hI.dn j hj q hq
    rw [hz2, zbM (by have := hI.le; omega)]
    exact List.mem_append_left _ this
theorem GI.fin {t : Int -> Int -> Int} {l0 g0 : List Int} {g : Int} {ll : List Int} (hP : PI t g0 l0) (hI : GI t l0 (g0 ++ [g]) g ll ll.length) (hg : g ∉ l0) : PI t (g0 ++ [g]) ll := by
  obtain ⟨z, hz⟩ := hI.pre
  refine ⟨fun x hx h hh => ?_, hI.wd, fun h hh => ?_, ?_⟩
  · obtain ⟨j, hj, e⟩ := List.getElem_of_mem hx
    have ej : ll.getD j 0 = x := by rw [List.getD, List.getElem?_eq_getElem hj, Option.getD_some, e]
    rw [← ej]
    by_cases hlt : j < l0.length
    · rcases List.mem_append.1 hh with h1 | h1
      · have : ll.getD j 0 ∈ l0 := by rw [hz, zbM hlt, List.getD, List.getElem?_eq_getElem hlt]; exact List.getElem_mem hlt
        have := hP.cl _ this h h1
        rw [hz]; exact List.mem_append_left _ (by rw [hz] at this; exact this)
      · simp at h1; exact hI.dn j hj h (.inl h1)
    · exact hI.dn j hj h (.inr ⟨by omega, hh⟩)
  · rcases List.mem_append.1 hh with h1 | h1
    · rw [hz]; exact List.mem_append_left _ (hP.sub h h1)
    · simp at h1; subst h1; exact hI.gin
  · rw [List.nodup_append]
    exact ⟨hP.gnd, by simp, fun a ha b hb e => by simp at hb; subst hb; subst e; exact hg (hP.sub a ha)⟩
theorem zgj {B n bc bI : Nat} {w0 : World} {tv gv : Value} {gl ll : List Int} {bs : List Bool} {w : World} (hI : ClI B n bc bI w0 tv gv gl ll bs w) {x : Int} {v' : Value} {tmp : Obj} {w3 : World}
    (o' : w3.ownsRow B 3 1 v' (gl.length + 1) (gl.map (Value.int .i64) ++ [.int .i64 x])) (hg : (w.alloc tmp).grownBy w3 gv.ownBlock) (alt : v'.ownBlock = gv.ownBlock ∨ v'.ownBlock = some (w.alloc tmp).heap.size /\ (w.alloc tmp).grownBy w3 none) :
    w3.frozen? ⟨bc, 1, none⟩ = false /\ (∃ u, w3.cell? ⟨bc, 1, none⟩ = some u) /\ ClI B n bc bI w0 tv v' (gl ++ [x]) ll bs (w3.setCell ⟨bc, 1, none⟩ v') := by
  obtain ⟨d1, d3, d5⟩ := hI.hB
  obtain ⟨lv, q1, q2, q3⟩ := hI.clo
  have lc := z0f q1
  have lI := z0f hI.row
  have hsz : (w.alloc tmp).heap.size = w.heap.size + 1 := by show (w.heap.push tmp).size = _; rw [Array.size_push]
  have ga := World.grownBy_alloc w tmp none
  have g4 := zh0 w3 ⟨bc, 1, none⟩ v'
  have q3' : lv.ownBlock = none ∨ lv.ownBlock ≠ gv.ownBlock := by
    by_cases e : lv.ownBlock = none
    · exact .inl e
    · rcases q3 with q | q
      · right; rw [q]; exact e
      · exact .inr (Ne.symm q)
  have c3 : w3.heap[bc]? = some (.cells #[tv, gv, .slice (some ⟨bI, 0, none⟩) n n, lv] zcJ (0, 0)) := by
    rw [hg.block bc (by omega) (Ne.symm (z2j q1 (by decide) hI.gens)), ga.block bc (by omega) (by simp)]; exact q1
  have z2 : w3.ownsRow B 3 1 lv ll.length (ll.map (Value.int .i64)) := (q2.alloc tmp).kept hg q3'
  refine ⟨zck c3 1, ⟨_, (z2R c3).2.1⟩, hI.below.trans ((((Below.refl B w).alloc (by omega) tmp).grown hg (by omega) fun j ej => ?_).setCell (p := ⟨bc, 1, none⟩) d1 v'), ⟨lv, (zfg c3 v').2, z2.kept g4 (.inr (z2j c3 (by decide) z2)), ?_⟩, ?_, ?_, hI.bl, hI.nd, hI.rg, hI.inn, hI.hB⟩
  · rcases hI.gens.2 with ⟨rfl, _⟩ | ⟨g, cap, cur, rfl, hb, _, _⟩
    · simp [Value.ownBlock] at ej
    · obtain rfl : g = j := by simpa [Value.ownBlock] using ej
      exact hb
  · rcases alt with h | ⟨h, _⟩
    · rw [h]; exact q3
    · right
      rw [h]
      intro e2
      have := zbK q2 e2.symm
      omega
  · have := o'.kept g4 (.inr (z2j c3 (by decide) o'))
    simpa using this
  · rw [g4.block bI (by have := hg.size; omega) (by simpa using Ne.symm d5), hg.block bI (by omega) (Ne.symm (z2j hI.row (by decide) hI.gens)), ga.block bI (by omega) (by simp)]
    exact hI.row
theorem ClI.drew {B n bc bI : Nat} {w0 : World} {tv gv : Value} {gl ll : List Int} {bs : List Bool} {w : World} (h : ClI B n bc bI w0 tv gv gl ll bs w) : ClI B n bc bI w0 tv gv gl ll bs w.drew :=
  ⟨h.below.drew, h.clo, h.gens, h.row, h.bl, h.nd, h.rg, h.inn, h.hB⟩
theorem GI.next {t : Int -> Int -> Int} {l0 gl : List Int} {g : Int} {ll : List Int} {i : Nat} (hI : GI t l0 gl g ll i) (hi : i < ll.length) (hd : ∀ h, (h = g ∨ (l0.length <= i /\ h ∈ gl)) -> t (ll.getD i 0) h ∈ ll) : GI t l0 gl g ll (i + 1) :=
  ⟨hI.pre, hI.gin, hI.wd, hi, fun j hj h hh => by
    by_cases e : j = i
    · subst e; exact hd h hh
    · exact hI.dn j (by omega) h hh⟩
theorem zia {B n bc bI gt ot ct : Nat} {w0 : World} {t : Nat -> Nat -> Int} (hT : TabW w0 B n gt ot ct t) {gv : Value} {gl ll : List Int} {bs : List Bool} {w : World} (hI : ClI B n bc bI w0 (.slice (some ⟨gt, ot, none⟩) n ct) gv gl ll bs w) (hP : PI (tbI t) gl ll) (hn : n <= 400) {g : Int} (h0 : 0 <= g) (h1 : g < n) :
    Calls Tryz.prog 60 #[.pointer (some ⟨bc, 0, none⟩), .int .i64 g] w fun e w' => e = .returned (.tuple #[]) /\ ∃ gv' gl' ll' bs', ClI B n bc bI w0 (.slice (some ⟨gt, ot, none⟩) n ct) gv' gl' ll' bs' w' /\ PI (tbI t) gl' ll' /\ g ∈ ll' /\ (∀ x ∈ ll, x ∈ ll') := by
  have HT := Lib.hid hT
  have HI := Lib.hid hI
  have HP := Lib.hid hP
  obtain ⟨lv, q1, q2, q3⟩ := hI.clo
  obtain ⟨k0, k1, k2, k3⟩ := z2R q1
  have hml := z3X hI.nd hI.rg
  have hgl := z3X hP.gnd (fun x hx => hI.rg x (hP.sub x hx))
  obtain ⟨d1, d3, d5⟩ := hI.hB
  have hin := hI.inn g h0 h1
  obtain ⟨la, lcap, rfl⟩ := z8b q2
  have cI : w.cell? ⟨bI, g.toNat, none⟩ = some (.bool (bs.getD g.toNat false)) := by
    rw [z0i hI.row]
    have : g.toNat < bs.length := by rw [hI.bl]; omega
    simp [List.getD, this]
  have hBw : B <= w.heap.size := by have := z0f q1; omega
  have HO := Lib.hid hI.gens
  have HIN := Lib.hid hin
  clear hT hI hP q1 q2 q3 hin k0
  go_enter Tryz.func60, Tryz.ntmps60
  cases hb : bs.getD g.toNat false with
  | true =>
    have HB := Lib.hid hb
    rw [hb] at cI
    clear hb
    go_wp2_with fail
    (try simp only [Exit.inBlock, Exit.then])
    refine bodyPost_ret (results_none rfl _ _ _) rfl ?_
    exact ⟨rfl, gv, gl, ll, bs, HI.out, HP.out, HIN.out.1 HB.out, fun x hx => hx⟩
  | false =>
    have HB := Lib.hid hb
    rw [hb] at cI
    clear hb
    go_wp2_with (at_builtin; refine z8B _ _ z4Q 3 (.int .i64 0) 8 B rfl rfl (by kernel_rfl) zkU rfl gv gl.length (gl.map (Value.int .i64)) rfl (HO.out.alloc _) (.int .i64 g) ⟨w.heap.size, 0, none⟩ 1 rfl ?c2 rfl (by omega) (by omega) (by simp; omega) ?_)
    case c2 => rw [z0i (heap_alloc_new w _)]; rfl
    intro v' w3 o' hg' alt
    obtain ⟨j1, ⟨u1, j2⟩, hS3⟩ := zgj HI.out o' hg' (alt.imp id fun h => ⟨h.1.trans (congrArg some (Array.size_push _).symm), h.2⟩)
    obtain ⟨gg, cap, rfl⟩ := ownsRow_succ o'
    have HS3 := Lib.hid hS3
    clear hS3 o' hg' alt
    go_wp2_with fail
    refine (z9l HS3.out hn h0 h1).mono ?_
    rintro e w4 ⟨rfl, bs4, h4⟩
    have hng : g ∉ ll := fun h => by have := HB.out; rw [HIN.out.2 h] at this; cases this
    have hput : z9o ll g = ll ++ [g] := by unfold z9o; rw [if_neg hng]
    rw [hput] at h4
    have H4 := Lib.hid h4
    have HN := Lib.hid hng
    clear h4 hput hng j1 j2
    have hgl2 : gl.length + 1 <= n + 1 := by omega
    go_wp2_with fail
    go_loopw [5] (fun v5 wr => ∃ (i : Nat) (l : List Int) (bs : List Bool), v5 = .int .i64 i /\ ClI B n bc bI w0 (.slice (some ⟨gt, ot, none⟩) n ct) (.slice (some ⟨gg, 0, none⟩) (gl.length + 1) cap) (gl ++ [g]) l bs wr /\ GI (tbI t) ll (gl ++ [g]) g l i) (fun v5 wr => n + 1 - (intOf v5).toNat)
    case atStart => exact ⟨0, _, _, rfl, H4.out, ⟨⟨[g], rfl⟩, by simp, fun y hy => by
      rcases List.mem_append.1 hy with h | h
      · exact (HP.out.wd y h).mono fun h hh => List.mem_append_left _ hh
      · simp at h; subst h; exact .base (by simp), Nat.zero_le _, fun j hj => by omega⟩⟩
    case round =>
      obtain ⟨i, l, bs5, rfl, hI5, hG5⟩ := hrel
      have hln := z3X hI5.nd hI5.rg
      obtain ⟨lv5, q1, q2, q3⟩ := hI5.clo
      by_cases hil : i < l.length
      · obtain ⟨lg, lc, cur, rfl, e1, e2, e3⟩ := z4k q2 (by omega)
        obtain ⟨k0, k1', k2', k3'⟩ := z2R q1
        have cl : wr.cell? ⟨lg, i, none⟩ = some (.int .i64 (l.getD i 0)) := by rw [z0i e2, List.getD, List.getElem?_eq_getElem hil]; simpa using e3 i hil
        have hx := hI5.rg (l.getD i 0) (by rw [List.getD, List.getElem?_eq_getElem hil]; exact List.getElem_mem hil)
        obtain ⟨x, hxe⟩ : ∃ x, l.getD i 0 = x := ⟨_, rfl⟩
        rw [hxe] at cl hx
        obtain ⟨hx0, hx1⟩ := hx
        obtain ⟨gr, or, cr, r1, r2, r3, r4, r5⟩ := HT.out.row x.toNat (by omega)
        have f1 := (hI5.below.cell (p := ⟨gt, ot + x.toNat, none⟩) r1).trans r4
        have R5 := Lib.hid r5
        have HX := Lib.hid hxe
        have HI5 := Lib.hid hI5
        have HG5 := Lib.hid hG5
        have hle := HT.out.le
        clear hI5 hG5 q1 q2 q3 e1 e2 e3 hxe r4 r5 k2'
        by_cases hbf : i < ll.length
        · have f2 := (HI5.out.below.cell (p := ⟨gr, or + g.toNat, none⟩) r2).trans (R5.out g.toNat (by omega))
          obtain ⟨t0, t1⟩ := HT.out.rg x.toNat g.toNat (by omega) (by omega)
          obtain ⟨p, hp⟩ : ∃ p, t x.toNat g.toNat = p := ⟨_, rfl⟩
          rw [hp] at f2 t0 t1
          have HPp := Lib.hid hp
          clear hp
          go_wp2_with fail
          go_still_tail 17, (by kernel_rfl)
          go_wp2_with fail
          refine (z9l HI5.out.drew hn t0 t1).mono ?_
          rintro e w5 ⟨rfl, bs6, h6⟩
          have hgl3 : g ∈ gl ++ [g] := by simp
          have hG6 := HG5.out.put (y := x) (h := g) (by rw [← HX.out, List.getD, List.getElem?_eq_getElem hil]; exact List.getElem_mem hil) hgl3
          have ep : tbI t x g = p := HPp.out
          rw [ep] at hG6
          obtain ⟨z, hz⟩ := z8A l p
          have hl6 : i < (z9o l p).length := by rw [hz, List.length_append]; omega
          have hd6 : ∀ h, (h = g ∨ (ll.length <= i /\ h ∈ gl ++ [g])) -> tbI t ((z9o l p).getD i 0) h ∈ z9o l p := by
            intro h hh
            rcases hh with hh | hh
            · subst hh
              rw [hz, zbM hil, HX.out, ep, ← hz]
              exact zbL l p
            · omega
          have hG7 := hG6.next hl6 hd6
          have hln6 := z3X h6.nd h6.rg
          have H6 := Lib.hid h6
          have HG7 := Lib.hid hG7
          clear h6 hG6 hG7 hd6 ep hz hgl3
          go_wp2_with fail
          go_roundw
          case rel => exact ⟨i + 1, _, bs6, by go_num, H6.out, HG7.out⟩
          case measure => simp [intOf]; omega
        · have hlg : (gl ++ [g]).length = gl.length + 1 := by simp
          have HLG := Lib.hid hlg
          clear hlg
          go_wp2_with fail
          go_loopw [68] (fun v68 wr => ∃ (a : Nat) (l : List Int) (bs : List Bool), v68 = .int .i64 a /\ a <= gl.length + 1 /\ ClI B n bc bI w0 (.slice (some ⟨gt, ot, none⟩) n ct) (.slice (some ⟨gg, 0, none⟩) (gl.length + 1) cap) (gl ++ [g]) l bs wr /\ GI (tbI t) ll (gl ++ [g]) g l i /\ i < l.length /\ l.getD i 0 = x /\ ∀ h ∈ (gl ++ [g]).take a, tbI t x h ∈ l) (fun v68 wr => gl.length + 2 - (intOf v68).toNat)
          case atStart => exact ⟨0, l, bs5, rfl, Nat.zero_le _, HI5.out, HG5.out, hil, HX.out, by simp⟩
          case round =>
            obtain ⟨a, l2, bs7, rfl, ha, hI7, hG7, hil2, hx2, hd7⟩ := hrel
            have hln2 := z3X hI7.nd hI7.rg
            by_cases hal : a < gl.length + 1
            · obtain ⟨ga, cap7, cur7, ev, e7, c7, cc7⟩ := z4k hI7.gens (by rw [HLG.out]; omega)
              obtain ⟨rfl, rfl⟩ : gg = ga /\ cap = cap7 := by simp only [Value.slice.injEq, Option.some.injEq, Addr.mk.injEq] at ev; exact ⟨ev.1.1, ev.2.2⟩
              obtain ⟨h, hhe⟩ : ∃ h, (gl ++ [g]).getD a 0 = h := ⟨_, rfl⟩
              have hhm : h ∈ gl ++ [g] := by rw [← hhe, List.getD, List.getElem?_eq_getElem (by rw [HLG.out]; omega)]; exact List.getElem_mem _
              have ch : wr.cell? ⟨gg, a, none⟩ = some (.int .i64 h) := by
                rw [z0i c7, ← hhe, List.getD, List.getElem?_eq_getElem (by rw [HLG.out]; omega)]; simpa using cc7 a (by rw [HLG.out]; omega)
              have hhr : 0 <= h /\ h < n := by
                rcases List.mem_append.1 hhm with h' | h'
                · obtain ⟨z, hz⟩ := hG7.pre
                  exact hI7.rg h (by rw [hz]; exact List.mem_append_left _ (HP.out.sub h h'))
                · simp at h'; subst h'; exact ⟨h0, h1⟩
              obtain ⟨hh0, hh1⟩ := hhr
              obtain ⟨lv7, q1, q2, q3⟩ := hI7.clo
              obtain ⟨lg2, lc2, cur2, rfl, e1, e2, e3⟩ := z4k q2 (by omega)
              obtain ⟨m0, m1, m2, m3⟩ := z2R q1
              have cl2 : wr.cell? ⟨lg2, i, none⟩ = some (.int .i64 x) := by rw [z0i e2, ← hx2, List.getD, List.getElem?_eq_getElem hil2]; simpa using e3 i hil2
              have f3 := (hI7.below.cell (p := ⟨gt, ot + x.toNat, none⟩) r1).trans ((HI5.out.below.cell (p := ⟨gt, ot + x.toNat, none⟩) r1).symm.trans f1)
              have f2 := (hI7.below.cell (p := ⟨gr, or + h.toNat, none⟩) r2).trans (R5.out h.toNat (by omega))
              obtain ⟨t0, t1⟩ := HT.out.rg x.toNat h.toNat (by omega) (by omega)
              obtain ⟨p, hp⟩ : ∃ p, t x.toNat h.toNat = p := ⟨_, rfl⟩
              rw [hp] at f2 t0 t1
              have HPp := Lib.hid hp
              have HI7 := Lib.hid hI7
              have HG7 := Lib.hid hG7
              have HX2 := Lib.hid hx2
              have HD7 := Lib.hid hd7
              have HH := Lib.hid hhe
              have HM := Lib.hid hhm
              clear hp hI7 hG7 hx2 hd7 hhe hhm c7 cc7 q1 q2 q3 e2 e3 m1 m2 ev
              go_wp2_with fail
              go_still_tail 17, (by kernel_rfl)
              go_wp2_with fail
              refine (z9l HI7.out.drew hn t0 t1).mono ?_
              rintro e w5 ⟨rfl, bs6, h6⟩
              have hG6 := HG7.out.put (y := x) (h := h) (by rw [← HX2.out, List.getD, List.getElem?_eq_getElem hil2]; exact List.getElem_mem hil2) HM.out
              have ep : tbI t x h = p := HPp.out
              rw [ep] at hG6
              obtain ⟨z, hz⟩ := z8A l2 p
              have hl6 : i < (z9o l2 p).length := by rw [hz, List.length_append]; omega
              have hx6 : (z9o l2 p).getD i 0 = x := by rw [hz, zbM hil2, HX2.out]
              have hd6 : ∀ h' ∈ (gl ++ [g]).take (a + 1), tbI t x h' ∈ z9o l2 p := by
                intro h' hh'
                rw [List.take_succ_eq_append_getElem (by rw [HLG.out]; omega)] at hh'
                rcases List.mem_append.1 hh' with h3 | h3
                · rw [hz]; exact List.mem_append_left _ (HD7.out h' h3)
                · have e3 : h' = h := by
                    rw [← HH.out, List.getD, List.getElem?_eq_getElem (by rw [HLG.out]; omega)]
                    simpa using h3
                  subst e3
                  rw [ep]; exact zbL l2 p
              have H6 := Lib.hid h6
              have HG6 := Lib.hid hG6
              have HX6 := Lib.hid hx6
              have HD6 := Lib.hid hd6
              clear h6 hG6 hx6 hd6 ep hz
              go_wp2_with fail
              go_roundw
              case rel => exact ⟨a + 1, _, bs6, by go_num, by omega, H6.out, HG6.out, hl6, HX6.out, HD6.out⟩
              case measure => simp [intOf]; omega
            · have hG8 := hG7.next hil2 (fun h hh => by
                rw [hx2]
                refine hd7 h ?_
                rw [List.take_of_length_le (by rw [HLG.out]; omega)]
                rcases hh with hh | hh
                · subst hh; simp
                · exact hh.2)
              have HI7 := Lib.hid hI7
              have HG8 := Lib.hid hG8
              obtain rfl : a = gl.length + 1 := by omega
              clear hI7 hG7 hG8 hx2 hd7
              go_wp2_with fail
              go_roundw
              case rel => exact ⟨i + 1, l2, bs7, by go_num, HI7.out, HG8.out⟩
              case measure => simp [intOf]; omega
      · obtain rfl : i = l.length := by have := hG5.le; omega
        obtain ⟨la5, lc5, rfl⟩ := z8b q2
        obtain ⟨k0, k1', k2', k3'⟩ := z2R q1
        have hfin := hG5.fin HP.out HN.out
        have HI5 := Lib.hid hI5
        have HF := Lib.hid hfin
        obtain ⟨z, hz⟩ := hG5.pre
        have HZ := Lib.hid hz
        have HGi := Lib.hid hG5.gin
        clear hI5 hG5 hfin q1 q2 q3 hz k0 k1' k2'
        go_wp2_with fail
        go_end0
        exact ⟨rfl, _, _, _, bs5, HI5.out, HF.out, HGi.out, fun y hy => by rw [HZ.out]; exact List.mem_append_left _ hy⟩
end
section
open Go Go.RowKit
set_option maxRecDepth 100000
set_option maxHeartbeats 4000000
theorem zj3 {w : World} {K : Nat -> z0a} {B : Nat} {v : Value} {xs : List Int} (hK : ∀ b, B <= b -> K b = []) (h : w.ownsRow B 3 1 v xs.length (xs.map (Value.int .i64))) : TRep w K [] v (.sl xs.length (xs.map fun x => .sc (.int .i64 x))) := by
  by_cases h0 : 0 < xs.length
  · obtain ⟨g, cap, cur, rfl, hc, hg, hcs⟩ := z4k h h0
    have hb : B <= g := by
      rcases h.2 with ⟨_, h2⟩ | ⟨g', _, _, e, hb, _⟩
      · omega
      · cases e; exact hb
    refine .fro [] g 0 xs.length cap _ (fun j => .int .i64 (xs.getD j 0)) (hK g hb) (z0f hg) hc ?_ (fun j hj => ?_) (fun j t ht => ?_)
    · rcases h.2 with ⟨_, h2⟩ | ⟨g', cap', _, e, _, _, _, hm, _⟩
      · omega
      · cases e; exact hm
    · have hj' : j < xs.length := by simpa using hj
      rw [Nat.zero_add, z0i hg, hcs j hj', List.getD, List.getElem?_eq_getElem hj']; rfl
    · simp only [List.getElem?_map, Option.map_eq_some_iff] at ht
      obtain ⟨x, hx', rfl⟩ := ht
      simp only [List.getD, hx']
      exact .sc _ _ rfl
  · have : xs = [] := List.eq_nil_of_length_eq_zero (by omega)
    subst this
    rcases h.2 with ⟨rfl, _⟩ | ⟨g, cap, cur, rfl, _⟩
    · exact .emp _ _ _ (Nat.zero_le _)
    · exact .emp _ _ _ (by rcases h.2 with ⟨e, _⟩ | ⟨_, _, _, e, _, _, _, hm, _⟩ <;> cases e; exact hm)
theorem zdT {w : World} {K : Nat -> z0a} {v : Value} {t : List (List Int)} (h0 : 0 < t.length) (hr : ∀ r ∈ t, r.length = t.length /\ ∀ x ∈ r, 0 <= x /\ x < t.length) (h : TRep w K [] v (.sl t.length (t.map zaU))) :
    ∃ g o cap, v = .slice (some ⟨g, o, none⟩) t.length cap /\ TabW w w.heap.size t.length g o cap fun x y => (t.getD x []).getD y 0 := by
  generalize hT : T.sl t.length (t.map zaU) = T at h
  cases h with
  | emp c a cap hc => injection hT with e1 e2; omega
  | fro c g o n cap cs F hK hg hn hc hF hh =>
    injection hT with e1 e2
    subst e1 e2
    refine ⟨g, o, cap, rfl, hn, fun x hx => ?_, fun x y hx hy => ?_⟩
    · have hm := hr _ (List.getElem_mem hx)
      have h1 := hh x (zaU t[x]) (by simp [hx])
      have h2 := hF x (by simpa using hx)
      generalize hU : zaU t[x] = U at h1
      generalize hFx : F x = Fx at h1 h2
      cases h1 with
      | emp c a cap hc => injection hU with e1 e2; omega
      | fro c gr or n' cr cs' F' hK' hg' hn' hc' hF' hh' =>
        injection hU with e1 e2
        subst e1 e2
        rw [hm.1] at h2 hn'
        refine ⟨gr, or, cr, hg, hg', hn', h2, fun y hy => ?_⟩
        rw [hF' y (by simp [hm.1]; omega)]
        have := hh' y (.sc (.int .i64 (t[x]'hx)[y])) (by simp [hm.1, hy])
        rw [this.sc_eq]
        simp [List.getD, hx, hm.1, hy]
      | _ => cases hU
    · have hm := hr _ (List.getElem_mem hx)
      have : (t.getD x []).getD y 0 = (t[x])[y]'(by omega) := by simp [List.getD, hx, hm.1, hy]
      rw [this]
      exact hm.2 _ (List.getElem_mem _)
  | _ => cases hT
theorem zcB {I : World -> (Nat -> z0a) -> Prop} {C : z0b} (hI : EnvS I) (hC : z2J Tryz.prog I C) {args : List T} {r : T} {outs : List T} (h : ziA C args = some (r, outs)) : CallOk Tryz.prog I 18 args r outs := by
  unfold ziA at h
  split at h
  case isFalse => cases h
  rename_i hc
  obtain ⟨t, rfl, hv⟩ := hc
  obtain ⟨rfl, rfl⟩ : T.sc (.int .i64 0) = r /\ [T.dead] = outs := by simpa using h
  clear h
  refine ⟨fun vals w => ?_, fun w K vals hs ha hIw => ?_⟩
  · have hb : ∃ c, Tryz.f18.body = some c := ⟨_, rfl⟩
    obtain ⟨c, hb⟩ := hb
    have hname : Tryz.f18.name ≠ "runtime.NumGoroutine" := by decide
    simp [callFunc, program, Sem.run, Tryz.func18, hname, hb]
  obtain ⟨v, rfl⟩ : ∃ v, vals = #[v] := by
    obtain ⟨l⟩ := vals
    match l, hs with
    | [v], _ => exact ⟨v, rfl⟩
  have hv0 : TRep w K [] v (.sl t.length (t.map zaU)) := ha 0 _ rfl
  have keep : ∀ {w' : World} {K' : Nat -> z0a}, Step w K w' K' -> TRep w' K' [] v (.sl t.length (t.map zaU)) := fun {w' K'} st => hv0.move (fun b s hb hc => absurd rfl hc) (fun b hb hk => by
    obtain ⟨u1, u2⟩ := st.old b hb (.inl hk)
    exact ⟨u1.trans hk, u2⟩) Iff.rfl st.size
  have hshp : Calls Tryz.prog 49 #[v] w fun e w2 => e = .returned (.int .i64 0) /\ ∃ K2, Step w K w2 K2 := by
    refine ((hC _ _ _ _ hv.shp).calls w K #[v] rfl (fun i t hi => by match i, hi with | 0, hi => cases hi; exact hv0) hIw).mono ?_
    rintro e w2 ⟨u, K2, rfl, hu, -, st⟩
    rw [hu.sc_eq]
    exact ⟨rfl, K2, st⟩
  have hsp : ∀ w2 K2, Step w K w2 K2 -> Calls Tryz.prog 51 #[v] w2 fun e w3 => ∃ (u : Value) (gs : List Nat) (K3 : Nat -> z0a), e = .returned u /\ gs.Sublist (List.range t.length) /\ TRep w3 K3 [] u (.sl gs.length (gs.map fun g => .sc (.int .i64 ((g : Nat) : Int)))) /\ Step w K w3 K3 := by
    intro w2 K2 st
    obtain ⟨g, o, cap, rfl, hT⟩ := zdT hv.pos hv.row (keep st)
    refine (zj2 w2 t.length g o cap _ hv.le hT).mono ?_
    rintro e w3 ⟨u, gs, rfl, hsub, ho, hB⟩
    refine ⟨u, gs, fun b => if b < w2.heap.size then K2 b else [], rfl, hsub, ?_, st.trans ⟨hB.os, hB.tape, hB.output, hB.size, fun b hb _ => ⟨by simp [hb], hB.block b hb⟩, .olds fun b hb => hB.block b hb⟩⟩
    have := zj3 (B := w2.heap.size) (K := fun b => if b < w2.heap.size then K2 b else []) (xs := ofN gs) (fun b hb => by rw [if_neg (by omega)]) (by rw [z5I]; exact ho)
    rw [z5I] at this
    simpa [ofN] using this
  have has : ∀ w3 K3 u (gs : List Nat), Step w K w3 K3 -> gs.Sublist (List.range t.length) -> TRep w3 K3 [] u (.sl gs.length (gs.map fun g => .sc (.int .i64 ((g : Nat) : Int)))) -> Calls Tryz.prog 50 #[v, u] w3 fun e w4 => e = .returned (.bool true) /\ ∃ K4, Step w K w4 K4 := by
    intro w3 K3 u gs st hsub hu
    refine ((hC _ _ _ _ (hv.ass gs hsub)).calls w3 K3 #[v, u] rfl (fun i t hi => by
      match i, hi with
      | 0, hi => cases hi; exact keep st
      | 1, hi => cases hi; exact hu) (hI.step hIw st)).mono ?_
    rintro e w4 ⟨z, K4, rfl, hz, -, st4⟩
    rw [hz.sc_eq]
    exact ⟨rfl, K4, st.trans st4⟩
  have H1 := Lib.hid hshp
  have H2 := Lib.hid hsp
  have H3 := Lib.hid has
  clear hshp hsp has keep hv0 hv ha hs hIw
  go_enter Tryz.func18, Tryz.ntmps18
  go_wp2_with (first | (go_at_call 49; refine H1.out.mono ?_; rintro e w2 ⟨rfl, K2, st2⟩; have ST2 := Lib.hid st2; clear st2) | (go_at_call 51; refine (H2.out _ _ ST2.out).mono ?_; rintro e w3 ⟨u, gs, K3, rfl, hsub, hu, st3⟩; have H4 := Lib.hid (H3.out _ _ _ _ st3 hsub hu); clear hsub hu st3) | (go_at_call 50; refine H4.out.mono ?_; rintro e w4 ⟨rfl, K4, st4⟩; have ST4 := Lib.hid st4; clear st4))
  go_ret
  refine ⟨_, K4, rfl, .sc _ _ rfl, fun i t hi hio => ?_, ST4.out⟩
  match i, hi with
  | 0, hi => cases hi; cases hio
end
section
open Go Go.RowKit Go.Sort
set_option maxRecDepth 100000
set_option maxHeartbeats 4000000
theorem zg7 (w : World) (n gt ot ct : Nat) (hn : n <= 400) :
    Calls Tryz.prog 59 #[.slice (some ⟨gt, ot, none⟩) n ct] w fun e w' => e = .returned (.pointer (some ⟨w.heap.size + 1, 0, none⟩)) /\ ClI w.heap.size n (w.heap.size + 1) w.heap.size w (.slice (some ⟨gt, ot, none⟩) n ct) (.slice none 0 0) [] [] (List.replicate n false) w' := by
  obtain ⟨i1, h1, h2, h3, h4⟩ := zjG
  go_enter Tryz.func59, Tryz.ntmps59
  go_wp2_with (refine wpList_make_row _ rfl _ _ 65 rfl zbF i1 (.bool false) (by kernel_rfl) h1 h2 h3 rfl .i64 .i64 n rfl rfl (by rw [h4]; omega) (by omega) ?_)
  go_ret
  refine ⟨rfl, ?_⟩
  have asz : ∀ (W : World) (o : Obj), (W.alloc o).heap.size = W.heap.size + 1 := fun W o => by show (W.heap.push o).size = _; rw [Array.size_push]
  have n0 := heap_alloc_new w (.cells (madeCells #[Value.bool false] n) zbF)
  have n1 := heap_alloc_new (w.alloc (.cells (madeCells #[Value.bool false] n) zbF)) (.cells #[.slice (some ⟨gt, ot, none⟩) n ct, .slice none 0 0, .slice (some ⟨w.heap.size, 0, none⟩) n n, .slice none 0 0] zcJ)
  rw [asz] at n1
  refine ⟨((Below.refl _ w).alloc (Nat.le_refl _) _).alloc (by rw [asz]; omega) _, ⟨_, n1, World.ownsRow_nil _ _ _ _, .inl rfl⟩, World.ownsRow_nil _ _ _ _, ?_, by simp, List.nodup_nil, by simp, fun x h0 h1 => ?_, ⟨by omega, Nat.le_refl _, by omega⟩⟩
  · rw [Lib.alloc_old _ _ _ (by rw [asz]; omega), n0, zey]
  · have : x.toNat < n := by omega
    simp [List.getD, this]
theorem zkK {t : Int -> Int -> Int} {n : Nat} (hr : ∀ x y : Int, 0 <= x -> x < n -> 0 <= y -> y < n -> 0 <= t x y /\ t x y < n) (ass : ∀ x y z : Int, 0 <= x -> x < n -> 0 <= y -> y < n -> 0 <= z -> z < n -> t (t x y) z = t x (t y z)) {gl ll gs : List Int} (hll : ∀ x ∈ ll, 0 <= x /\ x < n) (hP : PI t gl ll) (hg : ∀ g ∈ gs, g ∈ ll) {y : Int} (hy : Wd t gs y) : y ∈ ll := by
  have key : ∀ z, Wd t gl z -> 0 <= z /\ z < n /\ ∀ x ∈ ll, t x z ∈ ll := by
    intro z hz
    induction hz with
    | base h => exact ⟨(hll _ (hP.sub _ h)).1, (hll _ (hP.sub _ h)).2, fun x hx => hP.cl x hx _ h⟩
    | @step y' h' _ hh ih =>
      obtain ⟨a, b, c⟩ := ih
      obtain ⟨d, e⟩ := hll _ (hP.sub _ hh)
      refine ⟨(hr _ _ a b d e).1, (hr _ _ a b d e).2, fun x hx => ?_⟩
      rw [← ass x y' h' (hll x hx).1 (hll x hx).2 a b d e]
      exact hP.cl _ (c x hx) _ hh
  induction hy with
  | base h => exact hg _ h
  | step _ hh ih => exact (key _ (hP.wd _ (hg _ hh))).2.2 _ ih
theorem zdC {n : Nat} {ll : List Int} (hnd : ll.Nodup) (hr : ∀ x ∈ ll, 0 <= x /\ x < n) (hall : ∀ y : Int, 0 <= y -> y < n -> y ∈ ll) : (ll.mergeSort fun x y => decide (x <= y)) = ofN (List.range n) := by
  have h1 : (ll.mergeSort fun x y => decide (x <= y)).Pairwise (fun a b => a <= b) := by
    have := List.pairwise_mergeSort (le := fun x y : Int => decide (x <= y)) (fun a b c h1 h2 => by simp at *; omega) (fun a b => by simp; omega) ll
    simpa using this
  have h2 : (ofN (List.range n)).Pairwise (fun a b => a <= b) := by
    unfold ofN
    rw [List.pairwise_map]
    exact List.pairwise_lt_range.imp fun h => by omega
  have hp : (ofN (List.range n)).Nodup := by
    unfold ofN
    exact List.pairwise_map.2 (List.nodup_range.imp fun h e => h (by omega))
  refine List.Perm.eq_of_pairwise (le := fun a b : Int => a <= b) (fun a b _ _ h3 h4 => by omega) h1 h2 ((List.mergeSort_perm ll _).trans ((List.perm_ext_iff_of_nodup hnd hp).2 fun a => ?_))
  constructor
  · intro ha
    have := hr a ha
    exact List.mem_map.2 ⟨a.toNat, List.mem_range.2 (by omega), by omega⟩
  · intro ha
    obtain ⟨i, hi, rfl⟩ := List.mem_map.1 ha
    rw [List.mem_range] at hi
    exact hall _ (by omega) (by omega)
theorem zeI {w : World} {K : Nat -> z0a} {v : Value} {gs : List Int} (h : TRep w K [] v (.sl gs.length (gs.map fun g => .sc (.int .i64 g)))) : ∃ a cap, v = .slice a gs.length cap /\ gs.length <= maxLen /\ (0 < gs.length -> ∃ g o : Nat, a = some ⟨g, o, none⟩ /\ g < w.heap.size /\ gs.length <= cap /\ ∀ j (hj : j < gs.length), w.cell? ⟨g, o + j, none⟩ = some (.int .i64 gs[j])) := by
  generalize hT : T.sl gs.length (gs.map fun g => T.sc (.int .i64 g)) = t at h
  cases h with
  | emp c a cap hc =>
    injection hT with e1 e2
    exact ⟨_, _, by rw [e1], by omega, fun hi => by omega⟩
  | fro c g o n cap cs F hK hg hn hc hF h =>
    injection hT with e1 e2
    subst e1 e2
    refine ⟨_, _, rfl, Nat.le_trans hn hc, fun hi => ⟨g, o, rfl, hg, hn, fun j hj => ?_⟩⟩
    rw [hF j (by simpa using hj), (h j (.sc (.int .i64 gs[j])) (by simp [hj])).sc_eq]
  | _ => cases hT
end
section
open Go Go.RowKit Go.Sort
set_option maxRecDepth 100000
set_option maxHeartbeats 4000000
theorem zjH {Q : World -> Prop} (w : World) (n gt ot ct : Nat) (t : Nat -> Nat -> Int) (gs : List Int) (gg og gcap : Nat) (hn0 : 0 < n) (hn : n <= 400)
    (hhas : Calls Tryz.prog 52 #[.slice (some ⟨gt, ot, none⟩) n ct, .slice (some ⟨gg, og, none⟩) gs.length gcap] w fun e w2 => e = .returned (.bool true) /\ Q w2)
    (hQ : ∀ w2, Q w2 -> TabW w2 w2.heap.size n gt ot ct t /\ gg < w2.heap.size /\ ∀ j (hj : j < gs.length), w2.cell? ⟨gg, og + j, none⟩ = some (.int .i64 gs[j]))
    (hgl : gs.length <= gcap) (hgm : gs.length <= maxLen) (hg : ∀ g ∈ gs, 0 <= g /\ g < n)
    (ass : ∀ x y z : Int, 0 <= x -> x < n -> 0 <= y -> y < n -> 0 <= z -> z < n -> tbI t (tbI t x y) z = tbI t x (tbI t y z)) (hall : ∀ y : Int, 0 <= y -> y < n -> Wd (tbI t) gs y) :
    Calls Tryz.prog 27 #[.slice (some ⟨gt, ot, none⟩) n ct, .slice (some ⟨gg, og, none⟩) gs.length gcap] w fun e w' => ∃ w2 g cap, Q w2 /\ e = .returned (.slice (some ⟨g, 0, none⟩) n cap) /\ Below w2.heap.size w2 w' /\ w2.heap.size <= g /\ g < w'.heap.size /\ n <= cap /\ cap <= maxLen /\ ∀ j, j < n -> w'.cell? ⟨g, j, none⟩ = some (.int .i64 j) := by
  have HH := Lib.hid hhas
  have HQ := Lib.hid hQ
  have HG := Lib.hid hg
  have HA := Lib.hid ass
  have HL := Lib.hid hall
  have hm63 : gs.length <= 9223372036854775807 := by simp only [maxLen] at hgm; omega
  have HGM := Lib.hid hgm
  clear hhas hQ hg ass hall hgm
  go_enter Tryz.func27, Tryz.ntmps27
  go_wp2_with (first | (go_at_call 52; refine HH.out.mono ?_; rintro e w2 ⟨rfl, hq⟩; obtain ⟨hT, hlt, hcs⟩ := HQ.out _ hq; have HT := Lib.hid hT; have HC := Lib.hid hcs; have HQ2 := Lib.hid hq; clear hT hcs hq) | (go_at_call 59; refine (zg7 _ n gt ot ct hn).mono ?_; rintro e w3 ⟨rfl, hcl⟩; have HCl := Lib.hid hcl; clear hcl) | fail)
  go_loopw [16] (fun v16 wr => ∃ (i : Nat) (gv : Value) (gl ll : List Int) (bs : List Bool), v16 = .int .i64 i /\ i <= gs.length /\ ClI w2.heap.size n (w2.heap.size + 1) w2.heap.size w2 (.slice (some ⟨gt, ot, none⟩) n ct) gv gl ll bs wr /\ PI (tbI t) gl ll /\ ∀ j (hj : j < gs.length), j < i -> gs[j] ∈ ll) (fun v16 wr => gs.length - (intOf v16).toNat)
  case atStart => exact ⟨0, _, _, _, _, rfl, Nat.zero_le _, HCl.out, ⟨by simp, by simp, by simp, List.nodup_nil⟩, fun j hj h => by omega⟩
  case round =>
    obtain ⟨i, gv, gl, ll, bs, rfl, hi, hI, hP, hin⟩ := hrel
    by_cases hil : i < gs.length
    · have cg := (hI.below.cell (p := ⟨gg, og + i, none⟩) hlt).trans (HC.out i hil)
      obtain ⟨x, hx⟩ : ∃ x, gs[i] = x := ⟨_, rfl⟩
      have hxr := HG.out gs[i] (List.getElem_mem hil)
      rw [hx] at cg hxr
      obtain ⟨x0, x1⟩ := hxr
      have HI := Lib.hid hI
      have HP := Lib.hid hP
      have HN := Lib.hid hin
      have HX := Lib.hid hx
      have X0 := Lib.hid x0
      have X1 := Lib.hid x1
      clear hI hP hin hx x0 x1
      go_wp2_with fail
      refine (zia HT.out HI.out HP.out hn X0.out X1.out).mono ?_
      rintro e w4 ⟨rfl, gv', gl', ll', bs', h4, p4, g4, s4⟩
      have H4 := Lib.hid h4
      have P4 := Lib.hid p4
      have G4 := Lib.hid g4
      have S4 := Lib.hid s4
      clear h4 p4 g4 s4
      go_wp2_with fail
      go_roundw
      case rel =>
        refine ⟨i + 1, gv', gl', ll', bs', by go_num, by omega, H4.out, P4.out, fun j hj hji => ?_⟩
        by_cases e : j = i
        · subst e; rw [HX.out]; exact G4.out
        · exact S4.out _ (HN.out j hj (by omega))
      case measure => simp [intOf]; omega
    · obtain ⟨lv, q1, q2, q3⟩ := hI.clo
      have hnd := hI.nd
      have hrg := hI.rg
      have hgs : ∀ g ∈ gs, g ∈ ll := fun g hg => by
        obtain ⟨j, hj, rfl⟩ := List.getElem_of_mem hg
        exact hin j hj (by omega)
      have hfull : ∀ y : Int, 0 <= y -> y < n -> y ∈ ll := fun y y0 y1 => zkK (t := tbI t) (n := n) (fun x y x0 x1 y0 y1 => HT.out.rg _ _ (by omega) (by omega)) HA.out hrg hP hgs (HL.out y y0 y1)
      have hsort := zdC hnd hrg hfull
      have hlen : ll.length = n := by
        have := congrArg List.length hsort
        rw [List.length_mergeSort, z5I, List.length_range] at this
        exact this
      obtain ⟨lg, lc, cur, rfl, e1, e2, e3⟩ := z4k q2 (by omega)
      have hrow := q2
      have hlm : lc <= maxLen := by
        rcases q2.2 with ⟨h, _⟩ | ⟨_, _, _, h, _, _, _, hm, _⟩
        · cases h
        · cases h; exact hm
      have hlB : w2.heap.size <= lg := by
        rcases q2.2 with ⟨h, _⟩ | ⟨_, _, _, h, hb, _⟩
        · cases h
        · cases h; exact hb
      obtain ⟨k0, k1, k2, k3⟩ := z2R q1
      have hH : Holds (Value.int .i64) wr lg 0 ll.toArray := fun j hj => by
        have hj' : j < ll.length := by simpa using hj
        constructor
        · rw [Nat.zero_add, z0i e2, e3 j hj', getElem!_pos _ j hj]; simp
        · simp [World.frozen?, e2]
      have hcon := Tryz.slices_Sort_int lg 0 lc ll wr hH (z0f e2) (by omega)
      rw [hsort] at hcon
      have hne : w2.heap.size + 1 ≠ lg := by
        rintro rfl
        rw [q1] at e2
        simp at e2
        exact absurd e2.2 (by decide)
      have hcon2 : Calls Tryz.prog 61 #[.slice (some ⟨lg, 0, none⟩) ll.length lc] wr fun e w' => e = .returned (.tuple #[]) /\ w'.cell? ⟨w2.heap.size + 1, 3, none⟩ = some (.slice (some ⟨lg, 0, none⟩) ll.length lc) /\ Below w2.heap.size w2 w' /\ lg < w'.heap.size /\ ∀ j, j < n -> w'.cell? ⟨lg, j, none⟩ = some (.int .i64 j) := by
        refine hcon.mono fun e' w' ⟨he, m, os, hw⟩ => ?_
        have hw' : w' = sortWorld (Value.int .i64) wr lg 0 m (ofN (List.range n)).toArray os := hw
        clear hw
        subst hw'
        have hr := z7m (enc := Value.int .i64) (n := m) (os := os) (ofN (List.range n)).toArray e2
        have hc := z3D (enc := Value.int .i64) (n := m) (os := os) (ofN (List.range n)).toArray (z0f q1) hne
        refine ⟨he, by rw [z0i (hc.trans q1)]; rfl, ⟨hI.below.os, hI.below.tape, hI.below.output, Nat.le_trans hI.below.size (z9H _), fun k hk => (z3D _ (by have := hI.below.size; omega) (by omega)).trans (hI.below.block k hk)⟩, z0f hr, fun j hj => ?_⟩
        rw [z0i hr]
        simp only [putCells, Array.getElem?_mapIdx, e3 j (by omega), Option.map_some]
        have hjd : j < (ofN (List.range n)).toArray.size := by simp [ofN]; omega
        rw [if_pos (by simp [ofN]; omega), Nat.sub_zero, getElem!_pos _ j hjd]
        simp [ofN]
      have HS := Lib.hid hcon2
      have E1 := Lib.hid e1
      have HM := Lib.hid hlm
      clear hcon hcon2 hH e1 e2 e3 hsort hfull hgs hrg hnd q1 q2 q3 hI hP hin hrow k0 k1 k2
      rw [hlen] at HS k3 E1
      clear hlen
      go_wp2_with (go_at_call 61; refine HS.out.mono ?_; rintro e w5 ⟨rfl, s1, s2, s3, s4⟩; have S2 := Lib.hid s2; have S4 := Lib.hid s4; clear s2 s4)
      go_ret
      exact ⟨w2, lg, lc, HQ2.out, rfl, S2.out, hlB, s3, E1.out, HM.out, S4.out⟩
end
section
open Go Go.RowKit
set_option maxRecDepth 100000
set_option maxHeartbeats 4000000
theorem Wd.ne {t : Int -> Int -> Int} {gs : List Int} {y : Int} (h : Wd t gs y) : 0 < gs.length := by
  induction h with
  | base h => exact List.length_pos_of_mem h
  | step _ h _ => exact List.length_pos_of_mem h
theorem zeE {w w' : World} {K K' : Nat -> z0a} {v : Value} {t : T} (h : TRep w K [] v t) (st : Step w K w' K') : TRep w' K' [] v t := h.move (fun b s hb hc => absurd rfl hc) (fun b hb hk => by
    obtain ⟨u1, u2⟩ := st.old b hb (.inl hk)
    exact ⟨u1.trans hk, u2⟩) Iff.rfl st.size
theorem zcC {I : World -> (Nat -> z0a) -> Prop} {C : z0b} (hI : EnvS I) (hC : z2J Tryz.prog I C) {args : List T} {r : T} {outs : List T} (h : ziB C args = some (r, outs)) : CallOk Tryz.prog I 27 args r outs := by
  unfold ziB at h
  split at h
  case isFalse => cases h
  rename_i hc
  obtain ⟨t, gs, rfl, hg⟩ := hc
  obtain ⟨rfl, rfl⟩ : T.sl t.length ((List.range t.length).map fun i => .sc (.int .i64 ((i : Nat) : Int))) = r /\ [T.dead, T.dead] = outs := by simpa using h
  clear h
  refine ⟨fun vals w => ?_, fun w K vals hs ha hIw => ?_⟩
  · have hb : ∃ c, Tryz.f27.body = some c := ⟨_, rfl⟩
    obtain ⟨c, hb⟩ := hb
    have hname : Tryz.f27.name ≠ "runtime.NumGoroutine" := by decide
    simp [callFunc, program, Sem.run, Tryz.func27, hname, hb]
  obtain ⟨v, u, rfl⟩ : ∃ v u, vals = #[v, u] := by
    obtain ⟨l⟩ := vals
    match l, hs with
    | [v, u], _ => exact ⟨v, u, rfl⟩
  have hv0 : TRep w K [] v (.sl t.length (t.map zaU)) := ha 0 _ rfl
  have hu0 : TRep w K [] u (.sl gs.length (gs.map fun g => .sc (.int .i64 g))) := ha 1 _ rfl
  have hgs : 0 < gs.length := (hg.all 0 (by omega) (by have := hg.pos; omega)).ne
  obtain ⟨gt, ot, ct, rfl, hT0⟩ := zdT hg.pos hg.row hv0
  obtain ⟨a, gcap, rfl, hm, ha2⟩ := zeI hu0
  obtain ⟨gg, og, rfl, hlt, hle, -⟩ := ha2 hgs
  have hhas : Calls Tryz.prog 52 #[.slice (some ⟨gt, ot, none⟩) t.length ct, .slice (some ⟨gg, og, none⟩) gs.length gcap] w fun e w2 => e = .returned (.bool true) /\ ∃ K2, Step w K w2 K2 := by
    refine ((hC _ _ _ _ hg.has).calls w K _ rfl (fun i t hi => by
      match i, hi with
      | 0, hi => cases hi; exact hv0
      | 1, hi => cases hi; exact hu0) hIw).mono ?_
    rintro e w2 ⟨z, K2, rfl, hz, -, st⟩
    rw [hz.sc_eq]
    exact ⟨rfl, K2, st⟩
  refine (zjH (Q := fun w2 => ∃ K2, Step w K w2 K2) w t.length gt ot ct (zaQ t) gs gg og gcap hg.pos hg.le hhas (fun w2 hq => ?_) hle hm hg.rg hg.ass hg.all).mono ?_
  · obtain ⟨K2, st⟩ := hq
    obtain ⟨g1, o1, c1, e1, hT⟩ := zdT hg.pos hg.row (zeE hv0 st)
    cases e1
    obtain ⟨a1, c2, e2, -, h2⟩ := zeI (zeE hu0 st)
    cases e2
    obtain ⟨g3, o3, e3, h3, h4, h5⟩ := h2 hgs
    cases e3
    exact ⟨hT, h3, h5⟩
  · rintro e w' ⟨w2, g, cap, ⟨K2, st⟩, rfl, hB, hgB, hgl, hnc, hcm, hcs⟩
    refine ⟨_, fun b => if b < w2.heap.size then K2 b else [], rfl, ?_, fun i t hi hio => ?_, st.trans ⟨hB.os, hB.tape, hB.output, hB.size, fun b hb _ => ⟨by simp [hb], hB.block b hb⟩, .olds fun b hb => hB.block b hb⟩⟩
    · refine .fro _ g 0 t.length cap _ (fun j => .int .i64 j) (by rw [if_neg (by omega)]) hgl hnc hcm (fun j hj => ?_) (fun j x hx => ?_)
      · rw [Nat.zero_add]; exact hcs j (by simpa using hj)
      · simp only [List.getElem?_map, Option.map_eq_some_iff] at hx
        obtain ⟨i, hi, rfl⟩ := hx
        obtain ⟨hj, rfl⟩ := List.getElem?_eq_some_iff.1 hi
        rw [List.getElem_range]
        exact .sc _ _ rfl
    · match i, hi with
      | 0, hi => cases hi; cases hio
      | 1, hi => cases hi; cases hio
end
section
open Go Go.RowKit
set_option maxRecDepth 100000
theorem zaD {args : List T} {r : T} {outs : List T} (h : zhb args = some (r, outs)) : CallOk Tryz.prog zfx 74 args r outs := by
  unfold zhb at h
  split at h
  case h_2 => cases h
  rename_i s x y n z
  split at h
  case isFalse => cases h
  rename_i hc
  obtain ⟨hs0, rfl, rfl, rfl, rfl⟩ := hc
  obtain ⟨rfl, rfl⟩ : T.sl 2 [.sl 1 [.sc (.int .u64 2)], .sl 0 []] = r /\ [T.dead, T.dead, T.dead] = outs := by simpa using h
  obtain rfl : s = ⟨#[97]⟩ := by
    obtain ⟨⟨l⟩⟩ := s
    simp only at hs0
    subst hs0; rfl
  clear h hs0
  refine ⟨fun vals w => ?_, fun w K vals hs ha hI => ?_⟩
  · have hb : ∃ c, Tryz.f74.body = some c := ⟨_, rfl⟩
    obtain ⟨c, hb⟩ := hb
    have hname : Tryz.f74.name ≠ "runtime.NumGoroutine" := by decide
    simp [callFunc, program, Sem.run, Tryz.func74, hname, hb]
  obtain ⟨v0, v1, v2, rfl⟩ : ∃ v0 v1 v2, vals = #[v0, v1, v2] := by
    obtain ⟨l⟩ := vals
    match l, hs with
    | [a, b, c], _ => exact ⟨a, b, c, rfl⟩
  have r0 : TRep w K [] v0 (.agg [.sc (.string ⟨#[97]⟩)]) := ha 0 _ rfl
  have r1 : TRep w K [] v1 (.agg [.sc (.int .i64 3), .sc (.int .i64 0), .sl 0 []]) := ha 1 _ rfl
  have r2 : TRep w K [] v2 (.sl 1 [.sc (.int .u64 1)]) := ha 2 _ rfl
  obtain rfl : v0 = .agg #[.string ⟨#[97]⟩] := by
    generalize hT : T.agg [.sc (.string ⟨#[97]⟩)] = t at r0
    cases r0 with
    | agg c0 vs cs F hl hF h =>
      cases hT
      obtain ⟨l⟩ := vs
      match l, hl with
      | [x], _ =>
        have e0 := hF 0 (by simp)
        simp at e0
        rw [e0, (h 0 _ rfl).sc_eq]
    | _ => cases hT
  obtain ⟨y0, y1, y2, rfl, q0, q1, q2⟩ := zni r1
  obtain ⟨a2, cap2, rfl⟩ := ze3 q2
  have e0 := q0.sc_eq
  have e1 := q1.sc_eq
  subst e0 e1
  obtain ⟨gf, of, capf, rfl, cf⟩ : ∃ gf of capf, v2 = .slice (some ⟨gf, of, none⟩) 1 capf /\ w.cell? ⟨gf, of, none⟩ = some (.int .u64 1) := by
    generalize hT : T.sl 1 [.sc (.int .u64 1)] = t at r2
    cases r2 with
    | fro c g o n cap cs F hK hg hn hc hF h =>
      cases hT
      have := hF 0 (by simp)
      rw [(h 0 _ rfl).sc_eq, Nat.add_zero] at this
      exact ⟨_, _, _, rfl, this⟩
    | _ => cases hT
  clear r0 r1 r2 q0 q1 q2 ha
  refine (zjO w a2 cap2 gf of capf cf hI.2.2).mono ?_
  rintro e w' ⟨g1, g2, rfl, hB, l1, l2, h1, h2⟩
  refine ⟨_, fun b => if b < w.heap.size then K b else [], rfl, ?_, fun i t hi hio => ?_, hB.os, hB.tape, hB.output, hB.size, fun b hb _ => ⟨by rw [if_pos hb], hB.block b hb⟩, .olds fun b hb => hB.block b hb⟩
  · refine .fro _ g1 0 2 2 _ (fun j => if j = 0 then .slice (some ⟨g2, 0, none⟩) 1 1 else .slice none 0 0) (by rw [if_neg (by omega)]) (z0f h1) (Nat.le_refl _) (by decide) (fun j hj => ?_) (fun j t hj => ?_)
    · rw [Nat.zero_add, z0i h1]
      match j, hj with
      | 0, _ => rfl
      | 1, _ => rfl
    · match j, hj with
      | 0, hj =>
        cases hj
        refine .fro _ g2 0 1 1 _ (fun _ => .int .u64 2) (by rw [if_neg (by omega)]) (z0f h2) (Nat.le_refl _) (by decide) (fun j hj => ?_) (fun j t hj => ?_)
        · rw [Nat.zero_add, z0i h2]
          match j, hj with
          | 0, _ => rfl
        · match j, hj with
          | 0, hj => cases hj; exact .sc _ _ rfl
      | 1, hj => cases hj; exact .emp _ _ _ (Nat.zero_le _)
  · match i, hi with
    | 0, hi => cases hi; cases hio
    | 1, hi => cases hi; cases hio
    | 2, hi => cases hi; cases hio
theorem zdH : ∀ C, z2J Tryz.prog zfx C -> z2J Tryz.prog zfx (xtF C) := by
  intro C hC f args r outs h
  unfold xtF at h
  split at h
  case isTrue hf => subst hf; exact zcF zfb hC h
  split at h
  case isTrue hf => subst hf; exact zaD h
  split at h
  case isTrue hf => subst hf; exact zcD zfb hC h
  split at h
  case isTrue hf => subst hf; exact zcE h
  split at h
  case isTrue hf => subst hf; exact z9q h
  split at h
  case isTrue hf => subst hf; exact z9r h
  split at h
  case isTrue hf => subst hf; exact zcB zfb hC h
  split at h
  case isTrue hf => subst hf; exact zcC zfb hC h
  cases h
end
section
open Go.ChangeShapes Go.WideShapes Go.ChangeAt Go.RowKit
set_option maxRecDepth 100000
theorem zd8 {P : Program} {I : World -> (Nat -> z0a) -> Prop} {Xc : z0b -> z0b} {cf : FuncId -> Option Cfg} {f : FuncId} {args : List T} {outs : List T} (hI : EnvS I) (hX : ∀ C, z2J P I C -> z2J P I (Xc C)) (hm : P.follows .mixedOrders = true) (hf : ∀ f c, cf f = some c -> z0K P f c = true)
    (h : Lim P Xc cf f args = some (.sc (.bool true), outs)) (hio : args.all (fun t => !z2L t) = true) (W : World) (hIW : I W KZ) (vals : Array Value) (hs : vals.size = args.length)
    (ha : ∀ i t, args[i]? = some t -> TRep W KZ [] (vals.getD i undef) t) : Calls P f vals W fun e W' => e = .returned (.bool true) /\ Below W.heap.size W W' := by
  have hc := zjA (I := I) hI hX hm hf h
  refine (hc.calls W KZ vals hs (fun i t hi => ?_) hIW).mono fun e W' ⟨v, K', he, hv, _, hst⟩ => ?_
  · have h1 := List.all_eq_true.1 hio t (List.mem_of_getElem? hi)
    unfold z8s
    rw [if_neg (by simpa using h1)]
    exact ha i t hi
  · generalize hT : T.sc (.bool true) = t at hv
    cases hv with
    | sc c v hb => cases hT; exact ⟨he, hst.os, hst.tape, hst.output, hst.size, fun b hb => (hst.old b hb (.inl rfl)).2⟩
    | _ => cases hT
theorem zbE {W : World} (h : laidMetH Tryz.prog Rows.topCayleyRow.laid W) (r : Nat) (hr : r < 64) : W.cell? ⟨1, r, none⟩ = some (.int .u8 ((tab64.getD r 0 : Nat) : Int)) := by
  have h := h.filter fun x => x.1 == "math/bits.deBruijn64tab"
  rw [MakeChecks.laidMetH_plain _ _ _ (by kernel_rfl)] at h
  obtain ⟨ps, ⟨g, t, cs, fuel, p, q, hg, ht, hv, hd, _, _⟩, _, _⟩ := h
  obtain rfl := Option.some.inj ((show Tryz.prog.globalNamed "math/bits.deBruijn64tab" = some 1 by kernel_rfl).symm.trans hg)
  obtain ⟨t1, ht1, e, hu, hu5, hce⟩ : ∃ t1, (Tryz.prog.globals[1]?).map (·.type) = some t1 /\ ∃ e, Tryz.prog.underlying t1 = some (.array 64 e) /\ Tryz.prog.underlying e = some (.int .u8) /\ Tryz.prog.cellsOf e = 1 := ⟨218, by kernel_rfl, 5, by kernel_rfl, by kernel_rfl, by kernel_rfl⟩
  obtain rfl := Option.some.inj (ht1.symm.trans ht)
  obtain ⟨xs, m, _, ex, _, hl, hel⟩ := DataW.trod_array hu hd
  have hE := hel r hr
  rw [hce, Nat.mul_one, List.getElem?_eq_getElem (by omega)] at hE
  obtain ⟨z, e1, e2, _⟩ := DataW.trod_int hu5 hE
  have hlen : tab64.length = 64 := by kernel_rfl
  have e3 : (xs.map (·.1)) = tab64.map fun (n : Nat) => .lit (.int .u8 (n : Int)) := (DataW.agg.inj (Prod.mk.inj ex).1).symm
  have e4 : (xs.map (·.1))[r]? = (tab64.map fun (n : Nat) => (DataW.lit (.int .u8 (n : Int)) : DataW Unit))[r]? := by rw [e3]
  rw [List.getElem?_map, List.getElem?_map, List.getElem?_eq_getElem (by omega : r < xs.length), List.getElem?_eq_getElem (by omega : r < tab64.length), e2] at e4
  have hz : z = ((tab64.getD r 0 : Nat) : Int) := by
    simp only [Option.map_some, Option.some.injEq, DataW.lit.injEq, Lit.int.injEq, true_and] at e4
    rw [e4, List.getD, List.getElem?_eq_getElem (by omega : r < tab64.length)]; rfl
  rw [World.var?_cell hg hv r, ← hz]
  have : cs.toList[r]? = some (.int .u8 z) := by
    have h0 : ((cs.toList.drop r).take 1)[0]? = some (.int .u8 z) := by rw [e1]; rfl
    simpa using h0
  simpa using this
theorem zil {W : World} (h : laidMetH Tryz.prog Rows.topCayleyRow.laid W) : zfx W KZ :=
  ⟨rfl, World.block_lt_of_cell? W _ (zbE h 0 (by decide)), fun i hi => zbE h i hi⟩
end
section
open Go.ChangeShapes Go.WideShapes Go.RowKit
section
variable {H : Type} {enc : TypeId × Value -> H} {P : Program} {w : World}
def Opn (enc : TypeId × Value -> H) (P : Program) (w : World) (t : TypeId) {α : Type} (g : α -> List T) : Prop :=
  ∀ (fuel : Nat) (cs : List Value) (x : DataW H × List MemPlace), DataW.trod enc P w 0 (fun _ => true) true fuel t cs = some x -> ∃ a : α, cs.length = (g a).length /\ ∀ j s, (g a)[j]? = some s -> TRep w KZ [] (cs.getD j undef) s
theorem z5H {α : Type} {x s : α} {j : Nat} (h : ([x] : List α)[j]? = some s) : j = 0 /\ s = x := by
  match j, h with
  | 0, h => exact ⟨rfl, by simpa using h.symm⟩
theorem Opn.int {t : TypeId} {k : IntKind} (ht : P.underlying t = some (.int k)) : Opn enc P w t (fun x : Int => [T.sc (.int k x)]) := fun fuel cs x h => by
  obtain ⟨m, rfl, _⟩ := DataW.trod_int ht h
  exact ⟨m, rfl, fun j s hj => by
    obtain ⟨rfl, rfl⟩ := z5H hj
    exact .sc _ _ rfl⟩
theorem Opn.string {t : TypeId} (ht : P.underlying t = some .string) : Opn enc P w t (fun x : ByteArray => [T.sc (.string x)]) := fun fuel cs x h => by
  obtain ⟨m, rfl, _⟩ := DataW.trod_string ht h
  exact ⟨m, rfl, fun j s hj => by
    obtain ⟨rfl, rfl⟩ := z5H hj
    exact .sc _ _ rfl⟩
theorem Opn.bool {t : TypeId} (ht : P.underlying t = some .bool) : Opn enc P w t (fun x : Bool => [T.sc (.bool x)]) := fun fuel cs x h => by
  obtain ⟨m, rfl, _⟩ := DataW.trod_bool ht h
  exact ⟨m, rfl, fun j s hj => by
    obtain ⟨rfl, rfl⟩ := z5H hj
    exact .sc _ _ rfl⟩
theorem zcy (g o x : Nat) : (⟨g, o, none⟩ : Addr).add x = ⟨g, o + x, none⟩ := by
  unfold Addr.add
  split
  · rename_i h; subst h; rfl
  · rfl
theorem ze0 {a : Addr} {v : Value} (h : w.cell? a = some v) : a.spot = none := by
  unfold World.cell? at h
  split at h
  · split at h
    · cases h
    · rename_i hh
      simpa using hh
  · cases h
theorem Opn.slice {t e : TypeId} {α : Type} {g : α -> List T} {m : Nat} (ht : P.underlying t = some (.slice e)) (he : Opn enc P w e g) (hg : ∀ a, (g a).length = m) (hc : P.cellsOf e = m) (hm : 0 < m) :
    Opn enc P w t (fun xs : List α => [T.sl xs.length (xs.flatMap g)]) := fun fuel cs x h => by
  rcases DataW.trod_slice ht h with ⟨rfl, _⟩ | ⟨a, len, cap, elems, rest, n, _, rfl, _, _, hl, hcm, hlen, hel, _, _⟩
  · refine ⟨[], rfl, fun j s hj => ?_⟩
    obtain ⟨rfl, rfl⟩ := z5H hj
    exact .emp _ _ _ (by decide)
  by_cases h0 : len = 0
  · subst h0
    refine ⟨[], rfl, fun j s hj => ?_⟩
    obtain ⟨rfl, rfl⟩ := z5H hj
    exact .emp _ _ _ hcm
  rw [hc] at hel
  have each : ∀ i : Fin len, ∃ y : α, ∀ j s, (g y)[j]? = some s -> ∃ v, w.cell? ((a.add (i.1 * m)).add j) = some v /\ TRep w KZ [] v s := fun i => by
    have h1 := hel i.1 i.2
    have hi : i.1 < elems.length := by have := i.2; omega
    rw [List.getElem?_eq_getElem hi, Option.bind_eq_some_iff] at h1
    obtain ⟨ci, c1, c2⟩ := h1
    obtain ⟨y, y1, y2⟩ := he n ci _ c2
    obtain ⟨_, c3, c4⟩ := World.cells?_some c1
    refine ⟨y, fun j s hj => ?_⟩
    have hjm : j < m := by have := (List.getElem?_eq_some_iff.1 hj).1; rw [hg] at this; exact this
    have hjl : j < ci.length := by omega
    refine ⟨ci.getD j undef, ?_, y2 j s hj⟩
    rw [c4 j hjm, List.getElem?_eq_getElem hjl]
    simp [List.getD, List.getElem?_eq_getElem hjl]
  obtain ⟨f, hf⟩ := Classical.axiomOfChoice each
  have hpos : 0 < len := by omega
  have hsp : a.spot = none := by
    have hj0 : ∃ s, (g (f ⟨0, hpos⟩))[0]? = some s := ⟨_, List.getElem?_eq_getElem (by rw [hg]; exact hm)⟩
    obtain ⟨s, hs⟩ := hj0
    obtain ⟨v, hv, _⟩ := hf ⟨0, hpos⟩ 0 s hs
    have e : (a.add (0 * m)).add 0 = a := by simp [Addr.add]
    rw [e] at hv
    exact ze0 hv
  obtain ⟨b, o, sp⟩ := a
  simp only at hsp
  subst hsp
  have hxl : (List.ofFn f).length = len := by simp
  have hat : ∀ k s, ((List.ofFn f).flatMap g)[k]? = some s -> ∃ v, w.cell? ⟨b, o + k, none⟩ = some v /\ TRep w KZ [] v s := fun k s hk => by
    have hkl := (List.getElem?_eq_some_iff.1 hk).1
    rw [z8V hg, hxl] at hkl
    have hi : k / m < len := (Nat.div_lt_iff_lt_mul hm).2 hkl
    have hj : k % m < m := Nat.mod_lt _ hm
    have hkm : k / m * m + k % m = k := by rw [Nat.mul_comm]; exact Nat.div_add_mod k m
    have hx : (List.ofFn f)[k / m]? = some (f ⟨k / m, hi⟩) := by simp [hi]
    have h3 := (z5v hg hx).2.2.1 (k % m) hj
    rw [hkm, hk] at h3
    obtain ⟨v, hv, hr⟩ := hf ⟨k / m, hi⟩ (k % m) s h3.symm
    rw [zcy, zcy, Nat.add_assoc, hkm] at hv
    exact ⟨v, hv, hr⟩
  refine ⟨List.ofFn f, rfl, fun j s hj => ?_⟩
  obtain ⟨rfl, rfl⟩ := z5H hj
  rw [hxl]
  have hb : b < w.heap.size := by
    have hk0 : 0 < ((List.ofFn f).flatMap g).length := by rw [z8V hg, hxl]; exact Nat.mul_pos hpos hm
    obtain ⟨v, hv, _⟩ := hat 0 _ (List.getElem?_eq_getElem hk0)
    exact World.block_lt_of_cell? w _ hv
  refine .fro [] b o len cap _ (fun k => (w.cell? ⟨b, o + k, none⟩).getD undef) rfl hb hl hcm (fun k hk => ?_) (fun k s hk => ?_)
  · obtain ⟨v, hv, _⟩ := hat k _ (List.getElem?_eq_getElem hk)
    rw [hv]; rfl
  · obtain ⟨v, hv, hr⟩ := hat k s hk
    simp only [hv, Option.getD_some]
    exact hr
theorem zex {α : Type} (q : α -> T) : ∀ xs : List α, xs.flatMap (fun a => [q a]) = xs.map q
  | [] => rfl
  | a :: l => by rw [List.flatMap_cons, zex q l]; rfl
theorem Opn.slice1 {t e : TypeId} {α : Type} {q : α -> T} (ht : P.underlying t = some (.slice e)) (he : Opn enc P w e (fun a => [q a])) (hc : P.cellsOf e = 1) : Opn enc P w t (fun xs : List α => [T.sl xs.length (xs.map q)]) := fun fuel cs x h => by
  obtain ⟨xs, h1, h2⟩ := Opn.slice ht he (fun _ => rfl) hc (by decide) fuel cs x h
  refine ⟨xs, h1, ?_⟩
  have : xs.flatMap (fun a => [q a]) = xs.map q := zex q xs
  simp only [this] at h2
  exact h2
theorem zg4 {t : TypeId} {α : Type} {q : α -> T} {v : Value} {d : DataW H} {ps : List MemPlace} (h : Opn enc P w t (fun a => [q a])) (hv : v.cells = #[v]) (hd : DataW.Trod enc P w 0 (fun _ => true) true t v d ps) : ∃ a : α, TRep w KZ [] v (q a) := by
  obtain ⟨fuel, hf⟩ := hd
  obtain ⟨a, h1, h2⟩ := h _ _ _ hf
  have := h2 0 (q a) rfl
  rw [hv] at this
  exact ⟨a, this⟩
end
end
section
open Go Go.ChangeShapes Go.WideShapes Go.RowKit
section
variable {H : Type} {enc : TypeId × Value -> H} {w : World}
theorem zg3 : Opn enc Tryz.prog w 26 (fun xs : List Int => [T.sl xs.length (xs.map fun x => .sc (.int .i64 x))]) := .slice1 Tryz.underlying26 (.int Tryz.underlying3) (by kernel_rfl)
theorem zg2 : Opn enc Tryz.prog w 22 (fun xs : List (List Int) => [T.sl xs.length (xs.map fun y => .sl y.length (y.map fun x => .sc (.int .i64 x)))]) := .slice1 Tryz.underlying22 zg3 (by kernel_rfl)
end
end
section
structure StOk (ops : Array Oper) (t : SchT) (L : Array Bool) (d : Nat) (ns : List Nat) : Prop where
  ord : z0T .any ops true t L = true
  dep : t.depth = d
  nx : ∀ z ∈ t.nexts, z ∈ ns
structure BrOk (ops : Array Oper) (t : SchT) (L : Array Bool) (d : Nat) (ns hs : List Nat) : Prop where
  ord : z0T .any ops false t L = true
  dep : t.depth = d
  nx : ∀ z ∈ t.nexts, z ∈ ns
  hd : ∀ i ∈ hs, i ∈ t.heads
theorem zj0 {ops : Array Oper} {L : Array Bool} (h : decide (Region.ready .any ops L = []) = true) : StOk ops .nil L 0 [] := ⟨by simp only [z0T, h, Bool.and_true], rfl, fun z hz => by simp [SchT.nexts] at hz⟩
theorem znx {ops : Array Oper} {k m : Nat} {rest : SchT} {L L' : Array Bool} {d : Nat} {ns : List Nat} (h : StOk ops rest L' d ns) (hL : L.setIfInBounds k true = L')
    (hc : ((m == 0 || m == 3) && (Region.ready .any ops L).contains k && Region.free .any ops L k && !(ns.contains k) && (m == 3 || ns.all fun z => (zix .any ops ops.size [z]).contains k)) = true) : StOk ops (.op k m rest) L (d + 1) ns := by
  simp only [Bool.and_eq_true, Bool.or_eq_true, Bool.not_eq_true', beq_iff_eq] at hc
  obtain ⟨⟨⟨⟨h1, h2⟩, h3⟩, h4⟩, h5⟩ := hc
  have hm2 : ¬ m = 2 := by omega
  have hk : k ∉ ns := by simpa using h4
  refine ⟨?_, by simp only [SchT.depth, h.dep], fun z hz => h.nx z (by simpa only [SchT.nexts, if_neg hm2] using hz)⟩
  simp only [z0T]
  rw [if_pos (by simpa using h1), hL, h.ord, h2, h3]
  have h6 : rest.nexts.contains k = false := by
    rw [Bool.eq_false_iff]
    intro hh
    exact hk (h.nx k (by simpa using hh))
  rw [h6]
  simp only [Bool.not_false, Bool.and_self, Bool.true_and, Bool.and_true, Bool.or_eq_true, beq_iff_eq]
  rcases h5 with h5 | h5
  · exact .inl h5
  · exact .inr (List.all_eq_true.2 fun z hz => List.all_eq_true.1 h5 z (h.nx z hz))
theorem zny {ops : Array Oper} {k m : Nat} {rest : SchT} {L L' : Array Bool} {d : Nat} {ns ns' : List Nat} (h : StOk ops rest L' d ns) (hL : L.setIfInBounds k true = L')
    (hc : ((m == 1 || m == 2) && decide (Region.ready .any ops L = [k])) = true) (hn : (if m = 2 then [k] else ns) = ns') : StOk ops (.op k m rest) L (d + 1) ns' := by
  subst hn
  simp only [Bool.and_eq_true, Bool.or_eq_true, beq_iff_eq] at hc
  obtain ⟨h1, h2⟩ := hc
  refine ⟨?_, by simp only [SchT.depth, h.dep], fun z hz => ?_⟩
  · simp only [z0T]
    rw [if_neg (by omega), hL, h.ord, h2]
    simp [h1]
  · simp only [SchT.nexts] at hz
    split at hz
    · rename_i e; rw [if_pos e]; exact hz
    · rename_i e; rw [if_neg e]; exact h.nx z hz
theorem zoW {ops : Array Oper} {k m : Nat} {rest : SchT} {L L' : Array Bool} {d : Nat} {ns ns' : List Nat} (h : StOk ops rest L' d ns) (hL : L.setIfInBounds k true = L')
    (hc : ((m == 1 || m == 2) && (Region.ready .any ops L).contains k) = true) (hn : (if m = 2 then [k] else ns) = ns') : BrOk ops (.op k m rest) L (d + 1) ns' [k] := by
  subst hn
  simp only [Bool.and_eq_true, Bool.or_eq_true, beq_iff_eq] at hc
  obtain ⟨h1, h2⟩ := hc
  refine ⟨?_, by simp only [SchT.depth, h.dep], fun z hz => ?_, fun i hi => by simpa [SchT.heads] using hi⟩
  · simp only [z0T]
    rw [if_neg (by simp), hL, h.ord, h2]
    simp [h1]
  · simp only [SchT.nexts] at hz
    split at hz
    · rename_i e; rw [if_pos e]; exact hz
    · rename_i e; rw [if_neg e]; exact h.nx z hz
theorem z4G {ops : Array Oper} {a b : SchT} {L : Array Bool} {d : Nat} {n1 n2 h1 h2 : List Nat} (ha : BrOk ops a L d n1 h1) (hb : BrOk ops b L d n2 h2) : BrOk ops (.alt a b) L d (n1 ++ n2) (h1 ++ h2) := by
  refine ⟨?_, by simp only [SchT.depth, ha.dep], fun z hz => ?_, fun i hi => ?_⟩
  · simp only [z0T, ha.ord, hb.ord, ha.dep, hb.dep]; simp
  · simp only [SchT.nexts, List.mem_append] at hz ⊢
    exact hz.imp (ha.nx z) (hb.nx z)
  · simp only [SchT.heads, List.mem_append] at hi ⊢
    exact hi.imp (ha.hd i) (hb.hd i)
theorem zj1 {ops : Array Oper} {a b : SchT} {L : Array Bool} {d : Nat} {ns ns' hs : List Nat} (h : BrOk ops (.alt a b) L d ns hs) (hc : ((Region.ready .any ops L).all fun i => hs.contains i) = true) (hn : (ns.all fun z => ns'.contains z) = true) : StOk ops (.alt a b) L d ns' := by
  refine ⟨?_, h.dep, fun z hz => by simpa using List.all_eq_true.1 hn z (h.nx z hz)⟩
  have := h.ord
  simp only [z0T, Bool.and_eq_true, decide_eq_true_eq] at this ⊢
  obtain ⟨⟨⟨h1, h2⟩, h3⟩, h4⟩ := this
  refine ⟨⟨⟨?_, h2⟩, h3⟩, h4⟩
  simp only [Bool.not_true, Bool.false_or, decide_eq_true_eq]
  intro i hi
  have := List.all_eq_true.1 hc i hi
  exact h.hd i (by simpa using this)
def z7A : Nat -> Nat -> List Bool
  | 0, _ => []
  | n + 1, k => (k % 2 == 1) :: z7A n (k / 2)
def mB (n k : Nat) : Array Bool := ⟨z7A n k⟩
theorem zcp : ∀ n k, (z7A n k).length = n
  | 0, _ => rfl
  | n + 1, k => by simp [z7A, zcp n]
theorem z9f : ∀ n k i (h : i < (z7A n k).length), (z7A n k)[i] = k.testBit i
  | 0, k, i, h => by simp [z7A] at h
  | n + 1, k, 0, h => by simp only [z7A, List.getElem_cons_zero, Nat.testBit_zero]; rfl
  | n + 1, k, i + 1, h => by
    simp only [z7A, List.getElem_cons_succ]
    rw [z9f n (k / 2) i, Nat.testBit_succ]
theorem ze7 {n a k : Nat} : (mB n a).setIfInBounds k true = mB n (a ||| 2 ^ k) := by
  apply Array.ext
  · simp [mB, zcp]
  · intro i h1 h2
    have e1 : i < (z7A n a).length := by simpa [mB] using h1
    have e2 : i < (z7A n (a ||| 2 ^ k)).length := by simpa [mB] using h2
    have b1 := z9f n a i e1
    have b2 := z9f n (a ||| 2 ^ k) i e2
    rw [Array.getElem_setIfInBounds]
    simp only [mB, List.getElem_toArray] at b1 b2 ⊢
    rw [b1, b2, Nat.testBit_or, Nat.testBit_two_pow]
    · by_cases h : k = i
      · simp [h]
      · simp [h]
    · simpa [mB] using e1
theorem sq {ops : Array Oper} {k m n a : Nat} {rest : SchT} {d : Nat} {ns : List Nat} (h : StOk ops rest (mB n (a ||| 2 ^ k)) d ns)
    (hc : ((m == 0 || m == 3) && (Region.ready .any ops (mB n a)).contains k && Region.free .any ops (mB n a) k && !(ns.contains k) && (m == 3 || ns.all fun z => (zix .any ops ops.size [z]).contains k)) = true := by kernel_rfl) : StOk ops (.op k m rest) (mB n a) (d + 1) ns := znx h ze7 hc
theorem se {ops : Array Oper} {k m n a : Nat} {rest : SchT} {d : Nat} {ns ns' : List Nat} (h : StOk ops rest (mB n (a ||| 2 ^ k)) d ns)
    (hc : ((m == 1 || m == 2) && decide (Region.ready .any ops (mB n a) = [k])) = true := by kernel_rfl) (hn : (if m = 2 then [k] else ns) = ns' := by rfl) : StOk ops (.op k m rest) (mB n a) (d + 1) ns' := zny h ze7 hc hn
theorem be {ops : Array Oper} {k m n a : Nat} {rest : SchT} {d : Nat} {ns ns' : List Nat} (h : StOk ops rest (mB n (a ||| 2 ^ k)) d ns)
    (hc : ((m == 1 || m == 2) && (Region.ready .any ops (mB n a)).contains k) = true := by kernel_rfl) (hn : (if m = 2 then [k] else ns) = ns' := by rfl) : BrOk ops (.op k m rest) (mB n a) (d + 1) ns' [k] := zoW h ze7 hc hn
theorem sa {ops : Array Oper} {a b : SchT} {L : Array Bool} {d : Nat} {ns ns' hs : List Nat} (h : BrOk ops (.alt a b) L d ns hs) (hc : ((Region.ready .any ops L).all fun i => hs.contains i) = true := by kernel_rfl) (hn : (ns.all fun z => ns'.contains z) = true := by rfl) : StOk ops (.alt a b) L d ns' := zj1 h hc hn
def zb4 (cf : Cfg) (sk : Nat -> Bool) : Code -> Bool
  | .region id ops draw => sk id || (!draw || (match cf.dt id with | some t => z4U ops t | none => (match cf.dr id with | some sch => zeo ops sch | none => true)))
  | .seq a b => zb4 cf sk a && zb4 cf sk b
  | .cond _ x y => zb4 cf sk x && zb4 cf sk y
  | .block _ c => zb4 cf sk c
  | .loop c => zb4 cf sk c
  | .scope c => zb4 cf sk c
  | _ => true
def z1N (i : Nat) : Code -> List (Array Oper)
  | .region id ops _ => if Nat.beq id i then [ops] else []
  | .seq a b => z1N i a ++ z1N i b
  | .cond _ x y => z1N i x ++ z1N i y
  | .block _ c => z1N i c
  | .loop c => z1N i c
  | .scope c => z1N i c
  | _ => []
noncomputable def zaV (i : Nat) (c : Code) : Array Oper := match z1N i c with | x :: _ => x | [] => #[]
theorem z6j {cf : Cfg} {sk : Nat -> Bool} : ∀ (c : Code), zb4 cf sk c = true -> (∀ i, sk i = true -> ∃ t, cf.dt i = some t /\ ∀ o ∈ z1N i c, z4U o t = true) -> okC cf c = true
  | .region id ops draw, h, hs => by
    simp only [zb4, Bool.or_eq_true] at h
    simp only [okC, Bool.or_eq_true]
    rcases h with h | h
    · right
      obtain ⟨t, h1, h2⟩ := hs id h
      rw [h1]
      exact h2 ops (by simp [z1N])
    · exact h
  | .seq a b, h, hs => by
    simp only [zb4, Bool.and_eq_true] at h
    simp only [okC, Bool.and_eq_true]
    exact ⟨z6j a h.1 fun i hi => by obtain ⟨t, h1, h2⟩ := hs i hi; exact ⟨t, h1, fun o ho => h2 o (by simp only [z1N, List.mem_append]; exact .inl ho)⟩,
      z6j b h.2 fun i hi => by obtain ⟨t, h1, h2⟩ := hs i hi; exact ⟨t, h1, fun o ho => h2 o (by simp only [z1N, List.mem_append]; exact .inr ho)⟩⟩
  | .cond _ a b, h, hs => by
    simp only [zb4, Bool.and_eq_true] at h
    simp only [okC, Bool.and_eq_true]
    exact ⟨z6j a h.1 fun i hi => by obtain ⟨t, h1, h2⟩ := hs i hi; exact ⟨t, h1, fun o ho => h2 o (by simp only [z1N, List.mem_append]; exact .inl ho)⟩,
      z6j b h.2 fun i hi => by obtain ⟨t, h1, h2⟩ := hs i hi; exact ⟨t, h1, fun o ho => h2 o (by simp only [z1N, List.mem_append]; exact .inr ho)⟩⟩
  | .block _ c, h, hs => by simp only [okC]; exact z6j c (by simpa only [zb4] using h) (by simpa only [z1N] using hs)
  | .loop c, h, hs => by simp only [okC]; exact z6j c (by simpa only [zb4] using h) (by simpa only [z1N] using hs)
  | .scope c, h, hs => by simp only [okC]; exact z6j c (by simpa only [zb4] using h) (by simpa only [z1N] using hs)
  | .skip, _, _ => rfl
  | .label .., _, _ => rfl
  | .exit .., _, _ => rfl
  | .ret, _, _ => rfl
  | .rangeFunc .., _, _ => rfl
  | .goto _, _, _ => rfl
  | .refuse _, _, _ => rfl
theorem zhq {c : Code} {i : Nat} {t : SchT} {n : Nat} {ns : List Nat} {L : Array Bool} (hr : (z1N i c).length = 1) (hs : StOk (zaV i c) t L n ns) (hL : L = Array.replicate (zaV i c).toList.length false) (hd : (decide (n = (zaV i c).toList.length) && Region.noSelect (zaV i c)) = true) : ∀ o ∈ z1N i c, z4U o t = true := by
  intro o ho
  obtain ⟨x, hx⟩ : ∃ x, z1N i c = [x] := List.length_eq_one_iff.1 hr
  have e : zaV i c = x := by unfold zaV; rw [hx]
  rw [hx] at ho
  obtain rfl : o = x := by simpa using ho
  rw [e] at hs hL hd
  subst hL
  simp only [Bool.and_eq_true, decide_eq_true_eq] at hd
  unfold z4U
  simp only [Bool.and_eq_true, decide_eq_true_eq]
  exact ⟨⟨hs.dep.trans hd.1, hd.2⟩, hs.ord⟩
theorem zhT {P : Program} {f : FuncId} {cf : Cfg} {fn : Func} {c : Code} (l : List Nat) (hf : P.funcs[f]? = some fn) (hb : fn.body = some c) (hn : (fn.name != "runtime.NumGoroutine") = true) (h2 : zb4 cf l.contains c = true)
    (ht : ∀ i ∈ l, ∃ t, cf.dt i = some t /\ ∀ o ∈ z1N i c, z4U o t = true) : z0K P f cf = true := by
  unfold z0K
  simp only [hf, hb, hn, Bool.true_and]
  exact z6j c h2 fun j hj => ht j (by simpa using hj)
end
section
open Go
set_option maxRecDepth 100000
theorem zor : z0K Tryz.prog 6 cf6 = true := by kernel_rfl
theorem zoq : z0K Tryz.prog 7 cf7 = true := by kernel_rfl
theorem zop : z0K Tryz.prog 9 cf9 = true := by kernel_rfl
theorem zmL : z0K Tryz.prog 10 cf10 = true := by kernel_rfl
theorem zmK : z0K Tryz.prog 20 cf20 = true := by kernel_rfl
theorem zmJ : z0K Tryz.prog 23 cf23 = true := by kernel_rfl
theorem zmI : z0K Tryz.prog 24 cf24 = true := by kernel_rfl
theorem zmH : z0K Tryz.prog 25 cf25 = true := by kernel_rfl
theorem zmG : z0K Tryz.prog 26 cf26 = true := by kernel_rfl
theorem zmF : z0K Tryz.prog 28 cf28 = true := by kernel_rfl
theorem zmE : z0K Tryz.prog 30 cf30 = true := by kernel_rfl
theorem zmD : z0K Tryz.prog 31 cf31 = true := by kernel_rfl
theorem zmC : z0K Tryz.prog 32 cf32 = true := by kernel_rfl
theorem zmB : z0K Tryz.prog 33 cf33 = true := by kernel_rfl
theorem zmA : z0K Tryz.prog 34 cf34 = true := by kernel_rfl
theorem zmz : z0K Tryz.prog 35 cf35 = true := by kernel_rfl
theorem zmy : z0K Tryz.prog 36 cf36 = true := by kernel_rfl
theorem zmx : z0K Tryz.prog 37 cf37 = true := by kernel_rfl
theorem zmw : z0K Tryz.prog 38 cf38 = true := by kernel_rfl
theorem zmv : z0K Tryz.prog 42 cf42 = true := by kernel_rfl
theorem zmu : z0K Tryz.prog 43 cf43 = true := by kernel_rfl
theorem zmt : z0K Tryz.prog 49 cf49 = true := by kernel_rfl
theorem zms : z0K Tryz.prog 50 cf50 = true := by kernel_rfl
theorem zmr : z0K Tryz.prog 52 cf52 = true := by kernel_rfl
theorem zmq : z0K Tryz.prog 56 cf56 = true := by kernel_rfl
theorem zmp : z0K Tryz.prog 57 cf57 = true := by kernel_rfl
theorem zmo : z0K Tryz.prog 58 cf58 = true := by kernel_rfl
theorem zmn : z0K Tryz.prog 62 cf62 = true := by kernel_rfl
theorem zmm : z0K Tryz.prog 63 cf63 = true := by kernel_rfl
theorem zml : z0K Tryz.prog 64 cf64 = true := by kernel_rfl
theorem zmk : z0K Tryz.prog 65 cf65 = true := by kernel_rfl
theorem zmj : z0K Tryz.prog 66 cf66 = true := by kernel_rfl
theorem zmi : z0K Tryz.prog 67 cf67 = true := by kernel_rfl
theorem zmh : z0K Tryz.prog 68 cf68 = true := by kernel_rfl
theorem zmg : z0K Tryz.prog 69 cf69 = true := by kernel_rfl
theorem zmf : z0K Tryz.prog 70 cf70 = true := by kernel_rfl
theorem zme : z0K Tryz.prog 71 cf71 = true := by kernel_rfl
theorem zmd : z0K Tryz.prog 72 cf72 = true := by kernel_rfl
theorem zmc : z0K Tryz.prog 73 cf73 = true := by kernel_rfl
theorem zmb : z0K Tryz.prog 75 cf75 = true := by kernel_rfl
theorem zma : z0K Tryz.prog 77 cf77 = true := by kernel_rfl
theorem zm9 : z0K Tryz.prog 78 cf78 = true := by kernel_rfl
theorem zm8 : z0K Tryz.prog 79 cf79 = true := by kernel_rfl
theorem zm7 : z0K Tryz.prog 80 cf80 = true := by kernel_rfl
theorem zm6 : z0K Tryz.prog 81 cf81 = true := by kernel_rfl
theorem zm5 : z0K Tryz.prog 82 cf82 = true := by kernel_rfl
theorem zm4 : z0K Tryz.prog 88 cf88 = true := by kernel_rfl
theorem zm3 : z0K Tryz.prog 91 cf91 = true := by kernel_rfl
theorem zkz : z0K Tryz.prog 100 cf100 = true := by kernel_rfl
theorem zky : z0K Tryz.prog 101 cf101 = true := by kernel_rfl
theorem zkx : z0K Tryz.prog 102 cf102 = true := by kernel_rfl
theorem zkw : z0K Tryz.prog 103 cf103 = true := by kernel_rfl
theorem zkv : z0K Tryz.prog 104 cf104 = true := by kernel_rfl
theorem zku : z0K Tryz.prog 105 cf105 = true := by kernel_rfl
theorem zkt : z0K Tryz.prog 107 cf107 = true := by kernel_rfl
theorem zks : z0K Tryz.prog 108 cf108 = true := by kernel_rfl
theorem zkr : z0K Tryz.prog 109 cf109 = true := by kernel_rfl
theorem zkq : z0K Tryz.prog 116 cf116 = true := by kernel_rfl
theorem zkp : z0K Tryz.prog 120 cf120 = true := by kernel_rfl
theorem zko : z0K Tryz.prog 121 cf121 = true := by kernel_rfl
theorem zkn : z0K Tryz.prog 134 cf134 = true := by kernel_rfl
theorem zkm : z0K Tryz.prog 135 cf135 = true := by kernel_rfl
theorem zkl : z0K Tryz.prog 136 cf136 = true := by kernel_rfl
theorem zkk : z0K Tryz.prog 137 cf137 = true := by kernel_rfl
theorem zkj : z0K Tryz.prog 138 cf138 = true := by kernel_rfl
theorem zki : z0K Tryz.prog 139 cf139 = true := by kernel_rfl
theorem zkh : z0K Tryz.prog 142 cf142 = true := by kernel_rfl
theorem zkg : z0K Tryz.prog 143 cf143 = true := by kernel_rfl
theorem zkf : z0K Tryz.prog 144 cf144 = true := by kernel_rfl
theorem zke : z0K Tryz.prog 145 cf145 = true := by kernel_rfl
theorem zkd : z0K Tryz.prog 148 cf148 = true := by kernel_rfl
theorem zkc : z0K Tryz.prog 167 cf167 = true := by kernel_rfl
theorem zkb : z0K Tryz.prog 168 cf168 = true := by kernel_rfl
theorem zka : z0K Tryz.prog 169 cf169 = true := by kernel_rfl
theorem zk9 : z0K Tryz.prog 170 cf170 = true := by kernel_rfl
theorem zk8 : z0K Tryz.prog 171 cf171 = true := by kernel_rfl
noncomputable abbrev z0j : Array Oper := (zaV 10 zkD)
theorem z9t : StOk z0j z6L (mB 15 32767) 0 [] := zj0 (by kernel_rfl)
theorem z5Y : StOk z0j z4I (mB 15 16383) 1 [] := sq z9t
theorem z9u : StOk z0j z6M (mB 15 15359) 2 [] := se z5Y
theorem z5Z : StOk z0j z4J (mB 15 8191) 2 [13] := se z5Y
theorem z9v : StOk z0j z6N (mB 15 7167) 3 [13] := sa (z4G (be z5Z) (be z9u))
theorem z6a : StOk z0j z4K (mB 15 4095) 3 [13] := sq z5Z
theorem z6b : StOk z0j z4L (mB 15 3839) 4 [13] := se z6a
theorem z6c : StOk z0j z4M (mB 15 3071) 4 [13] := sq z9v
theorem z9w : StOk z0j z6O (mB 15 2047) 4 [13] := sq z6a
theorem z3T : StOk z0j z3y (mB 15 1983) 5 [6] := se z9w
theorem z9x : StOk z0j z6P (mB 15 2815) 5 [13] := sa (z4G (be z6c) (be z6b))
theorem z9y : StOk z0j z6Q (mB 15 1791) 5 [13] := sq z6b
theorem z9z : StOk z0j z6R (mB 15 1023) 5 [13] := sq z6c
theorem z6d : StOk z0j z4N (mB 15 1951) 6 [6] := se z3T
theorem z6e : StOk z0j z4O (mB 15 1727) 6 [6] := sa (z4G (be z9y) (be z3T))
theorem z6f : StOk z0j z4P (mB 15 959) 6 [6] := sa (z4G (be z9z) (be z3T))
theorem z9A : StOk z0j z6S (mB 15 767) 6 [13] := sq z9x
theorem z9B : StOk z0j z6T (mB 15 1695) 7 [6] := sa (z4G (be z6e) (be z6d))
theorem zaF : StOk z0j z7M (mB 15 927) 7 [6] := sa (z4G (be z6f) (be z6d))
theorem zaG : StOk z0j z7N (mB 15 703) 7 [6] := sa (z4G (be z9A) (z4G (be z6f) (be z6e)))
theorem zaH : StOk z0j z7O (mB 15 671) 8 [6] := sa (z4G (be zaG) (z4G (be zaF) (be z9B)))
theorem zaI : StOk z0j z7P (mB 15 159) 9 [6] := sq zaH
theorem zaJ : StOk z0j z7Q (mB 15 31) 10 [6] := sq zaI
theorem zaK : StOk z0j z7R (mB 15 15) 11 [6] := sq zaJ
theorem zaL : StOk z0j z7S (mB 15 7) 12 [6] := sq zaK
theorem zaM : StOk z0j z7T (mB 15 3) 13 [6] := sq zaL
theorem zaN : StOk z0j z7U (mB 15 1) 14 [6] := sq zaM
theorem zaO : StOk z0j z7V (mB 15 0) 15 [6] := sq zaN
set_option maxHeartbeats 0 in
theorem zk7 : z0K Tryz.prog 172 cf172 = true := zhT [10] zlU znf rfl (by kernel_rfl) (by simp only [List.forall_mem_cons]; exact ⟨⟨_, rfl, zhq (by kernel_rfl) zaO (by kernel_rfl) (by kernel_rfl)⟩, fun _ h => by cases h⟩)
theorem zk6 : z0K Tryz.prog 175 cf175 = true := by kernel_rfl
theorem zk5 : z0K Tryz.prog 176 cf176 = true := by kernel_rfl
theorem zk4 : z0K Tryz.prog 177 cf177 = true := by kernel_rfl
theorem zk3 : z0K Tryz.prog 181 cf181 = true := by kernel_rfl
theorem zk2 : z0K Tryz.prog 183 cf183 = true := by kernel_rfl
theorem zk1 : z0K Tryz.prog 184 cf184 = true := by kernel_rfl
theorem zk0 : z0K Tryz.prog 185 cf185 = true := by kernel_rfl
theorem zjZ : z0K Tryz.prog 186 cf186 = true := by kernel_rfl
theorem zjY : z0K Tryz.prog 187 cf187 = true := by kernel_rfl
theorem zjX : z0K Tryz.prog 188 cf188 = true := by kernel_rfl
theorem zjW : z0K Tryz.prog 192 cf192 = true := by kernel_rfl
theorem zjV : z0K Tryz.prog 193 cf193 = true := by kernel_rfl
theorem zjU : z0K Tryz.prog 194 cf194 = true := by kernel_rfl
theorem zjT : z0K Tryz.prog 195 cf195 = true := by kernel_rfl
theorem zjS : z0K Tryz.prog 197 cf197 = true := by kernel_rfl
theorem zjR : z0K Tryz.prog 198 cf198 = true := by kernel_rfl
theorem zjQ : z0K Tryz.prog 199 cf199 = true := by kernel_rfl
theorem z0m {p : Prop} [Decidable p] {a c : Cfg} {r : Option Cfg} {G : Prop} (h : (if p then some a else r) = some c) (h1 : p -> a = c -> G) (h2 : r = some c -> G) : G := by
  split at h
  · rename_i hp; exact h1 hp (Option.some.inj h)
  · exact h2 h
theorem zov : ∀ f c, z1g f = some c -> z0K Tryz.prog f c = true := by
  intro f c h
  unfold z1g at h
  refine z0m h (fun e h => by rw [e, ← h]; exact zor) fun h => ?_
  refine z0m h (fun e h => by rw [e, ← h]; exact zoq) fun h => ?_
  refine z0m h (fun e h => by rw [e, ← h]; exact zop) fun h => ?_
  refine z0m h (fun e h => by rw [e, ← h]; exact zmL) fun h => ?_
  refine z0m h (fun e h => by rw [e, ← h]; exact zmK) fun h => ?_
  refine z0m h (fun e h => by rw [e, ← h]; exact zmJ) fun h => ?_
  refine z0m h (fun e h => by rw [e, ← h]; exact zmI) fun h => ?_
  refine z0m h (fun e h => by rw [e, ← h]; exact zmH) fun h => ?_
  refine z0m h (fun e h => by rw [e, ← h]; exact zmG) fun h => ?_
  refine z0m h (fun e h => by rw [e, ← h]; exact zmF) fun h => ?_
  refine z0m h (fun e h => by rw [e, ← h]; exact zmE) fun h => ?_
  refine z0m h (fun e h => by rw [e, ← h]; exact zmD) fun h => ?_
  refine z0m h (fun e h => by rw [e, ← h]; exact zmC) fun h => ?_
  refine z0m h (fun e h => by rw [e, ← h]; exact zmB) fun h => ?_
  refine z0m h (fun e h => by rw [e, ← h]; exact zmA) fun h => ?_
  refine z0m h (fun e h => by rw [e, ← h]; exact zmz) fun h => ?_
  refine z0m h (fun e h => by rw [e, ← h]; exact zmy) fun h => ?_
  refine z0m h (fun e h => by rw [e, ← h]; exact zmx) fun h => ?_
  refine z0m h (fun e h => by rw [e, ← h]; exact zmw) fun h => ?_
  refine z0m h (fun e h => by rw [e, ← h]; exact zmv) fun h => ?_
  refine z0m h (fun e h => by rw [e, ← h]; exact zmu) fun h => ?_
  refine z0m h (fun e h => by rw [e, ← h]; exact zmt) fun h => ?_
  refine z0m h (fun e h => by rw [e, ← h]; exact zms) fun h => ?_
  refine z0m h (fun e h => by rw [e, ← h]; exact zmr) fun h => ?_
  refine z0m h (fun e h => by rw [e, ← h]; exact zmq) fun h => ?_
  refine z0m h (fun e h => by rw [e, ← h]; exact zmp) fun h => ?_
  refine z0m h (fun e h => by rw [e, ← h]; exact zmo) fun h => ?_
  refine z0m h (fun e h => by rw [e, ← h]; exact zmn) fun h => ?_
  refine z0m h (fun e h => by rw [e, ← h]; exact zmm) fun h => ?_
  refine z0m h (fun e h => by rw [e, ← h]; exact zml) fun h => ?_
  refine z0m h (fun e h => by rw [e, ← h]; exact zmk) fun h => ?_
  refine z0m h (fun e h => by rw [e, ← h]; exact zmj) fun h => ?_
  refine z0m h (fun e h => by rw [e, ← h]; exact zmi) fun h => ?_
  refine z0m h (fun e h => by rw [e, ← h]; exact zmh) fun h => ?_
  refine z0m h (fun e h => by rw [e, ← h]; exact zmg) fun h => ?_
  refine z0m h (fun e h => by rw [e, ← h]; exact zmf) fun h => ?_
  refine z0m h (fun e h => by rw [e, ← h]; exact zme) fun h => ?_
  refine z0m h (fun e h => by rw [e, ← h]; exact zmd) fun h => ?_
  refine z0m h (fun e h => by rw [e, ← h]; exact zmc) fun h => ?_
  refine z0m h (fun e h => by rw [e, ← h]; exact zmb) fun h => ?_
  refine z0m h (fun e h => by rw [e, ← h]; exact zma) fun h => ?_
  refine z0m h (fun e h => by rw [e, ← h]; exact zm9) fun h => ?_
  refine z0m h (fun e h => by rw [e, ← h]; exact zm8) fun h => ?_
  refine z0m h (fun e h => by rw [e, ← h]; exact zm7) fun h => ?_
  refine z0m h (fun e h => by rw [e, ← h]; exact zm6) fun h => ?_
  refine z0m h (fun e h => by rw [e, ← h]; exact zm5) fun h => ?_
  refine z0m h (fun e h => by rw [e, ← h]; exact zm4) fun h => ?_
  refine z0m h (fun e h => by rw [e, ← h]; exact zm3) fun h => ?_
  refine z0m h (fun e h => by rw [e, ← h]; exact zkz) fun h => ?_
  refine z0m h (fun e h => by rw [e, ← h]; exact zky) fun h => ?_
  refine z0m h (fun e h => by rw [e, ← h]; exact zkx) fun h => ?_
  refine z0m h (fun e h => by rw [e, ← h]; exact zkw) fun h => ?_
  refine z0m h (fun e h => by rw [e, ← h]; exact zkv) fun h => ?_
  refine z0m h (fun e h => by rw [e, ← h]; exact zku) fun h => ?_
  refine z0m h (fun e h => by rw [e, ← h]; exact zkt) fun h => ?_
  refine z0m h (fun e h => by rw [e, ← h]; exact zks) fun h => ?_
  refine z0m h (fun e h => by rw [e, ← h]; exact zkr) fun h => ?_
  refine z0m h (fun e h => by rw [e, ← h]; exact zkq) fun h => ?_
  refine z0m h (fun e h => by rw [e, ← h]; exact zkp) fun h => ?_
  refine z0m h (fun e h => by rw [e, ← h]; exact zko) fun h => ?_
  refine z0m h (fun e h => by rw [e, ← h]; exact zkn) fun h => ?_
  refine z0m h (fun e h => by rw [e, ← h]; exact zkm) fun h => ?_
  refine z0m h (fun e h => by rw [e, ← h]; exact zkl) fun h => ?_
  refine z0m h (fun e h => by rw [e, ← h]; exact zkk) fun h => ?_
  refine z0m h (fun e h => by rw [e, ← h]; exact zkj) fun h => ?_
  refine z0m h (fun e h => by rw [e, ← h]; exact zki) fun h => ?_
  refine z0m h (fun e h => by rw [e, ← h]; exact zkh) fun h => ?_
  refine z0m h (fun e h => by rw [e, ← h]; exact zkg) fun h => ?_
  refine z0m h (fun e h => by rw [e, ← h]; exact zkf) fun h => ?_
  refine z0m h (fun e h => by rw [e, ← h]; exact zke) fun h => ?_
  refine z0m h (fun e h => by rw [e, ← h]; exact zkd) fun h => ?_
  refine z0m h (fun e h => by rw [e, ← h]; exact zkc) fun h => ?_
  refine z0m h (fun e h => by rw [e, ← h]; exact zkb) fun h => ?_
  refine z0m h (fun e h => by rw [e, ← h]; exact zka) fun h => ?_
  refine z0m h (fun e h => by rw [e, ← h]; exact zk9) fun h => ?_
  refine z0m h (fun e h => by rw [e, ← h]; exact zk8) fun h => ?_
  refine z0m h (fun e h => by rw [e, ← h]; exact zk7) fun h => ?_
  refine z0m h (fun e h => by rw [e, ← h]; exact zk6) fun h => ?_
  refine z0m h (fun e h => by rw [e, ← h]; exact zk5) fun h => ?_
  refine z0m h (fun e h => by rw [e, ← h]; exact zk4) fun h => ?_
  refine z0m h (fun e h => by rw [e, ← h]; exact zk3) fun h => ?_
  refine z0m h (fun e h => by rw [e, ← h]; exact zk2) fun h => ?_
  refine z0m h (fun e h => by rw [e, ← h]; exact zk1) fun h => ?_
  refine z0m h (fun e h => by rw [e, ← h]; exact zk0) fun h => ?_
  refine z0m h (fun e h => by rw [e, ← h]; exact zjZ) fun h => ?_
  refine z0m h (fun e h => by rw [e, ← h]; exact zjY) fun h => ?_
  refine z0m h (fun e h => by rw [e, ← h]; exact zjX) fun h => ?_
  refine z0m h (fun e h => by rw [e, ← h]; exact zjW) fun h => ?_
  refine z0m h (fun e h => by rw [e, ← h]; exact zjV) fun h => ?_
  refine z0m h (fun e h => by rw [e, ← h]; exact zjU) fun h => ?_
  refine z0m h (fun e h => by rw [e, ← h]; exact zjT) fun h => ?_
  refine z0m h (fun e h => by rw [e, ← h]; exact zjS) fun h => ?_
  refine z0m h (fun e h => by rw [e, ← h]; exact zjR) fun h => ?_
  refine z0m h (fun e h => by rw [e, ← h]; exact zjQ) fun h => ?_
  cases h
end
end Go.Proofs.YthbchhekejljjaaGreatDoor

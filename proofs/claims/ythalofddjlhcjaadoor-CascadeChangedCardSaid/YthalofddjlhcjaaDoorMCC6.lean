/- Proved here: the law CascadeChanged returns true for every input, and its arguments read afterwards as before; the row's listed tables are tied to the program's text by the given tie. No other condition. -/
import Derived.Test.YthalofddjlhcjaaDoorMCC5
import Derived.Shelf.Small.Wraps
import Derived.Shelf.Utf8.RuneCount
import Derived.Shelf.Strconv.Itoa0
import Derived.Shelf.Strconv.Itoa1
import Derived.Shelf.LaysM
import Derived.Shelf.Strconv.Itoa2
import Derived.Shelf.Strings.Search1
import Derived.Shelf.Strings.Search2
import Derived.Shelf.Strings.Search3
import Derived.Shelf.Strings.Cut
import Derived.Shelf.Strings.Count
import Derived.Shelf.Strings.Shaped
import Derived.Shelf.Strconv.AppendUint10
import Derived.Shelf.Strconv.AppendInt10
import Derived.Shelf.Strconv.AppendIntPublic10
import Derived.Shelf.Strings.Split
import Derived.Shelf.Strings.SplitShaped
import Derived.Shelf.Unicode.Decode
import Derived.Shelf.Strings.RuneCount
import Derived.Shelf.Strings.Explode
import Derived.Shelf.Unicode.DecodeSlow
import Derived.Shelf.Unicode.DecodeAny
import Derived.Ground.Names2Prog
import Derived.Shelf.Slices.Clone
import Derived.Shelf.Slices.SearchI
import Derived.Ground.SlgnProg
import Derived.Shelf.SlicesE.Clone
import Derived.Test.YthalofddjlhcjaaDoorProg
import Derived.ChangeOld
import Derived.ChangeReads
import Derived.Below
import Derived.ChangeSlices
import Derived.Deep.Grids
import Derived.WideShapes
import Derived.WalkKit
import Derived.ProofKit
import Derived.Test.YthalofddjlhcjaaDoorCards
import Derived.Test.YthalofddjlhcjaaDoorTie
import Derived.OpenShut
import Derived.ShutString
import Derived.Deep.DeepHandedRow
set_option linter.unusedVariables false
set_option linter.unusedSimpArgs false
namespace Go.Proofs.YthalofddjlhcjaaDoor
section
open Go
set_option maxRecDepth 100000
instance : XMo xt := inferInstanceAs (XMo xtF)
theorem zpt : z2j Tryd.prog xt z1A 12 18 [] = some (.sc (.bool true), []) := by kernel_rfl
theorem c18 : L 18 [] = some (.sc (.bool true), []) := zl9 12 zpt
def xKnown : Option Bool := some true
theorem z4a {r : Bool} (h : xKnown = some r) : L 18 [] = some (.sc (.bool r), []) := by cases h; exact c18
end
section
open Go
noncomputable section
set_option maxRecDepth 100000
set_option maxHeartbeats 4000000
theorem fmB {α β : Type} {a b : α -> β} {xs : List α} {i : Nat} {r : α} (h : xs[i]? = some r) (v : α) (e : a v = a r) : (xs.set i v).flatMap (fun x => [a x, b x]) = (xs.flatMap fun x => [a x, b x]).set (i * 2 + 1) (b v) := by
  induction xs generalizing i with
  | nil => simp at h
  | cons x xs ih =>
    cases i with
    | zero =>
      simp at h; subst h
      simp [e]
    | succ i =>
      have := ih (i := i) (by simpa using h)
      rw [List.set_cons_succ, List.flatMap_cons, List.flatMap_cons, this, show (i + 1) * 2 + 1 = i * 2 + 1 + 1 + 1 by omega]
      simp
theorem fmA {α β : Type} {a b : α -> β} {xs : List α} {i : Nat} {r : α} (h : xs[i]? = some r) (v : α) (e : b v = b r) : (xs.set i v).flatMap (fun x => [a x, b x]) = (xs.flatMap fun x => [a x, b x]).set (i * 2) (a v) := by
  induction xs generalizing i with
  | nil => simp at h
  | cons x xs ih =>
    cases i with
    | zero =>
      simp at h; subst h
      simp [e]
    | succ i =>
      have := ih (i := i) (by simpa using h)
      rw [List.set_cons_succ, List.flatMap_cons, List.flatMap_cons, this, show (i + 1) * 2 = i * 2 + 1 + 1 by omega]
      simp
def z1Z (a0 : List Int) (a1 : Int) (a2 : Int) (a3 : Int) : Option (Bool) :=
  (z8z a0).bind fun v35 =>
  (z5B v35).bind fun v36 =>
  (z4v v36.2 v36.1).bind fun v37 =>
  if (v36.1.rows.length : Int) = 0 then
    (xKnown).bind fun v38 =>
    some v38
  else
    (z5h a2 (v36.1.rows.length : Int)).bind fun v39 =>
    (z5h a3 6).bind fun v40 =>
    (z5h a1 7).bind fun v41 =>
    if v41 = 0 then
      (z2l (⟨IntKind.i64.wrap (v40 - 1), v36.1.sizes, v36.1.rows⟩ : Casc) v37.1 0 ⟨#[97]⟩).bind fun v42 =>
      if v42 = true then
        (xKnown).bind fun v43 =>
        some v43
      else
        some false
    else
      if v41 = 1 then
        (z5h a2 (v36.1.sizes.length : Int)).bind fun v44 =>
        (atI v36.1.sizes v44).bind fun v45 =>
        (z2l (⟨v36.1.letters, (v36.1.sizes.set v44.toNat (IntKind.i64.wrap (v40 - 1))), v36.1.rows⟩ : Casc) v37.1 0 ⟨#[97]⟩).bind fun v46 =>
        if v46 = true then
          (xKnown).bind fun v47 =>
          some v47
        else
          some false
      else
        if v41 = 2 then
          (atI v36.1.rows v39).bind fun v48 =>
          chk (z1g 48 (v36.1.rows.length + 1)) <|
          (z2l (⟨v36.1.letters, v36.1.sizes, v36.1.rows ++ [v48]⟩ : Casc) v37.1 0 ⟨#[97]⟩).bind fun v49 =>
          if v49 = true then
            (xKnown).bind fun v50 =>
            some v50
          else
            some false
        else
          if v41 = 3 then
            (atI v36.1.rows v39).bind fun v51 =>
            chk (z1g 8 (v51.pre.length)) <|
            chk (z1g 8 (v51.pre.length + 1)) <|
            (z2l (⟨v36.1.letters, v36.1.sizes, (v36.1.rows.set v39.toNat (⟨v51.pre ++ [IntKind.i64.wrap (v40 - 1)], v51.maps⟩ : CRow))⟩ : Casc) v37.1 0 ⟨#[97]⟩).bind fun v53 =>
            if v53 = true then
              (xKnown).bind fun v54 =>
              some v54
            else
              some false
          else
            if v41 = 4 then
              (atI v36.1.rows v39).bind fun v55 =>
              (atI v55.maps 0).bind fun v56 =>
              (atI v56 0).bind fun v57 =>
              (z2l (⟨v36.1.letters, v36.1.sizes, (v36.1.rows.set v39.toNat (⟨v55.pre, (v55.maps.set (0 : Int).toNat (v56.set (0 : Int).toNat (IntKind.i64.wrap (v40 - 1))))⟩ : CRow))⟩ : Casc) v37.1 0 ⟨#[97]⟩).bind fun v58 =>
              if v58 = true then
                (xKnown).bind fun v59 =>
                some v59
              else
                some false
            else
              if v41 = 5 then
                (atI v36.1.rows v39).bind fun v60 =>
                (z6i v60.maps 1 (v60.maps.length : Int)).bind fun v61 =>
                (z2l (⟨v36.1.letters, v36.1.sizes, (v36.1.rows.set v39.toNat (⟨v60.pre, v61⟩ : CRow))⟩ : Casc) v37.1 0 ⟨#[97]⟩).bind fun v63 =>
                if v63 = true then
                  (xKnown).bind fun v64 =>
                  some v64
                else
                  some false
              else
                if v41 = 6 then
                  chk (z1g 8 (v37.1.length + 1)) <|
                  (z2l v36.1 (v37.1 ++ [IntKind.i64.wrap (v40 - 1)]) 0 ⟨#[97]⟩).bind fun v65 =>
                  if v65 = true then
                    (xKnown).bind fun v66 =>
                    some v66
                  else
                    some false
                else
                  (z2l v36.1 v37.1 0 ⟨#[97]⟩).bind fun v67 =>
                  if v67 = true then
                    (xKnown).bind fun v68 =>
                    some v68
                  else
                    some false
theorem z6A {a0 : List Int} {a1 : Int} {a2 : Int} {a3 : Int} {r : Bool} (h0 : z1Z a0 a1 a2 a3 = some r) : L 8 [.sl a0.length (a0.map fun x0 => .sc (.int .i64 x0)), .sc (.int .i64 a1), .sc (.int .i64 a2), .sc (.int .i64 a3)] = some (.sc (.bool r), [.dead, .dead, .dead, .dead]) := by
  simp only [z1Z] at h0
  refine z1Q zoI fn8 (z0F bd8 ⟨of_decide_eq_true rfl, of_decide_eq_true rfl⟩ ?_)
  simp only [z0K, z0H, z0G, z0L, z1S]
  refine zq rfl (zr rfl rfl rfl (by simp; rfl) ?_)
  refine z0a (zq rfl ?_)
  obtain ⟨v35, f53, h1⟩ := z0b h0
  have f53k := zdY f53
  try simp at f53k
  refine zr rfl rfl rfl (by simp [f53k]; rfl) ?_
  refine z0a (zq rfl ?_)
  obtain ⟨v36, f54, h2⟩ := z0b h1
  have f54k := zaD f54
  try simp at f54k
  refine zr rfl rfl rfl (by simp [f54k]; rfl) ?_
  refine z0a (zq rfl ?_)
  obtain ⟨v37, f55, h3⟩ := z0b h2
  have f55k := zaC f55
  try simp at f55k
  refine zr rfl rfl rfl (by simp [f55k]; rfl) ?_
  refine z0a (zq rfl (zq rfl (zr rfl rfl rfl (by simp; rfl) ?_)))
  refine z0a ?_
  by_cases c56 : (v36.1.rows.length : Int) = 0
  ·rw [if_pos c56] at h3
   have c56e := eq_true c56
   have c56s : v36.1.rows = [] := by simpa [List.length_pos_iff] using c56
   refine z0p rfl (by simp [c56e, c56s]) (zq rfl ?_)
   obtain ⟨v38, f57, h4⟩ := z0b h3
   have f57k := z4a f57
   try simp at f57k
   refine zr rfl rfl rfl (by simp [f57k]; rfl) ?_
   refine z0a (z0o rfl (z0c ?_))
   cases h4
   simp
  ·rw [if_neg c56] at h3
   have c56e := eq_false c56
   have c56s : v36.1.rows ≠ [] := by simpa [List.length_pos_iff] using c56
   refine z0s rfl (by simp [c56e, c56s]) (z0n rfl (z0a (zq rfl ?_)))
   obtain ⟨v39, f58, h4⟩ := z0b h3
   have f58k := z5y f58
   try simp at f58k
   refine zr rfl rfl rfl (by simp [f58k]; rfl) ?_
   refine z0a (zq rfl ?_)
   obtain ⟨v40, f59, h5⟩ := z0b h4
   have f59k := z5y f59
   try simp at f59k
   refine zr rfl rfl rfl (by simp [f59k]; rfl) ?_
   refine z0a (zq rfl (zq rfl ?_))
   obtain ⟨v41, f60, h6⟩ := z0b h5
   have f60k := z5y f60
   try simp at f60k
   refine zr rfl rfl rfl (by simp [f60k]; rfl) ?_
   refine z0a (zb rfl (zq rfl (zr rfl rfl rfl (by simp; rfl) ?_)))
   refine z0a ?_
   by_cases c61 : v41 = 0
   ·rw [if_pos c61] at h6
    have c61e := eq_true c61
    refine z0p rfl (by simp [c61e]) (zr rfl rfl rfl (by simp; rfl) ?_)
    refine z0g (z0a (zq rfl ?_))
    obtain ⟨v42, f62, h7⟩ := z0b h6
    have f62k := z2n f62
    try simp at f62k
    by_cases c63 : v42 = true
    ·rw [if_pos c63] at h7
     obtain ⟨v43, f64, h8⟩ := z0b h7
     have f64k := z4a f64
     try simp at f64k
     refine zr rfl rfl rfl (by simp [f62k, c63, f64k]; rfl) ?_
     refine z0a (z0o rfl ?_)
     cases h8
     simp [c63]
    ·rw [if_neg c63] at h7
     refine zr rfl rfl rfl (by simp [f62k, c63]; rfl) ?_
     refine z0a (z0o rfl ?_)
     cases h7
     simp [c63]
   ·rw [if_neg c61] at h6
    have c61e := eq_false c61
    refine z0s rfl (by simp [c61e]) (zq rfl (zr rfl rfl rfl (by simp; rfl) ?_))
    refine z0a ?_
    by_cases c65 : v41 = 1
    ·rw [if_pos c65] at h6
     have c65e := eq_true c65
     refine z0p rfl (by simp [c65e]) ?_
     obtain ⟨v44, f66, h7⟩ := z0b h6
     have f66k := z5y f66
     try simp at f66k
     obtain ⟨v45, f67, h8⟩ := z1x h7
     refine z1o rfl rfl rfl rfl ?_; repeat' ((first | refine z0D rfl rfl fun Q' hQ => ?_ | refine z0A rfl fun Q' hQ => ?_); simp [f66k, f67]; refine hQ.out _ ?_; clear hQ; clear Q')
     refine z0g (z0a (zq rfl ?_))
     obtain ⟨v46, f68, h9⟩ := z0b h8
     have f68k := z2n f68
     try simp at f68k
     by_cases c69 : v46 = true
     ·rw [if_pos c69] at h9
      obtain ⟨v47, f70, h10⟩ := z0b h9
      have f70k := z4a f70
      try simp at f70k
      refine zr rfl rfl rfl (by simp [f68k, c69, f70k]; rfl) ?_
      refine z0a (z0o rfl ?_)
      cases h10
      simp [c69]
     ·rw [if_neg c69] at h9
      refine zr rfl rfl rfl (by simp [f68k, c69]; rfl) ?_
      refine z0a (z0o rfl ?_)
      cases h9
      simp [c69]
    ·rw [if_neg c65] at h6
     have c65e := eq_false c65
     refine z0s rfl (by simp [c65e]) (zq rfl (zr rfl rfl rfl (by simp; rfl) ?_))
     refine z0a ?_
     by_cases c71 : v41 = 2
     ·rw [if_pos c71] at h6
      have c71e := eq_true c71
      refine z0p rfl (by simp [c71e]) (zhv rfl rfl (by simp; rfl) ?_)
      obtain ⟨v48, f72, h7⟩ := z0b h6
      obtain ⟨f72a, f72b, f72c, f72d, f72e⟩ := z0W f72
      have f72g := z1e (g := fun x : CRow => ([.sl x.pre.length (x.pre.map fun x0 => .sc (.int .i64 x0)), .sl x.maps.length (x.maps.map fun x0 => .sl x0.length (x0.map fun x1 => .sc (.int .i64 x1)))] : List T)) (m := 2) (fun _ => rfl) f72d
      have f72h := z1k (g := fun x : CRow => ([.sl x.pre.length (x.pre.map fun x0 => .sc (.int .i64 x0)), .sl x.maps.length (x.maps.map fun x0 => .sl x0.length (x0.map fun x1 => .sc (.int .i64 x1)))] : List T)) (m := 2) (fun _ => rfl) v36.1.rows
      have f72k0 := f72g.2.2.1 0 (by decide)
      have f72m0 := f72g.2.2.2 0 _ rfl
      have f72k1 := f72g.2.2.1 1 (by decide)
      have f72m1 := f72g.2.2.2 1 _ rfl
      obtain ⟨f72g, f72i, -⟩ := f72g
      try simp at f72i f72h f72k0 f72m0 f72k1 f72m1
      obtain ⟨f73, h8⟩ := z5l h7
      refine z1o rfl rfl rfl rfl ?_; repeat' ((first | refine z0D rfl rfl fun Q' hQ => ?_ | refine z0A rfl fun Q' hQ => ?_); simp [f72a, f72b, f72c, f72d, f72e, f72g, f72i, f72h, f72k0, f72k1, f72m0, f72m1, f73]; refine hQ.out _ ?_; clear hQ; clear Q')
      refine z0g (z0a (zq rfl ?_))
      obtain ⟨v49, f74, h9⟩ := z0b h8
      have f74k := z2n f74
      try simp at f74k
      by_cases c75 : v49 = true
      ·rw [if_pos c75] at h9
       obtain ⟨v50, f76, h10⟩ := z0b h9
       have f76k := z4a f76
       try simp at f76k
       refine zr rfl rfl rfl (by simp [f74k, c75, f76k]; rfl) ?_
       refine z0a (z0o rfl ?_)
       cases h10
       simp [c75]
      ·rw [if_neg c75] at h9
       refine zr rfl rfl rfl (by simp [f74k, c75]; rfl) ?_
       refine z0a (z0o rfl ?_)
       cases h9
       simp [c75]
     ·rw [if_neg c71] at h6
      have c71e := eq_false c71
      refine z0s rfl (by simp [c71e]) (zq rfl (zr rfl rfl rfl (by simp; rfl) ?_))
      refine z0a ?_
      by_cases c77 : v41 = 3
      ·rw [if_pos c77] at h6
       have c77e := eq_true c77
       refine z0p rfl (by simp [c77e]) (zhv rfl rfl (by simp; rfl) ?_)
       obtain ⟨v51, f78, h7⟩ := z0b h6
       obtain ⟨f78a, f78b, f78c, f78d, f78e⟩ := z0W f78
       have f78g := z1e (g := fun x : CRow => ([.sl x.pre.length (x.pre.map fun x0 => .sc (.int .i64 x0)), .sl x.maps.length (x.maps.map fun x0 => .sl x0.length (x0.map fun x1 => .sc (.int .i64 x1)))] : List T)) (m := 2) (fun _ => rfl) f78d
       have f78h := z1k (g := fun x : CRow => ([.sl x.pre.length (x.pre.map fun x0 => .sc (.int .i64 x0)), .sl x.maps.length (x.maps.map fun x0 => .sl x0.length (x0.map fun x1 => .sc (.int .i64 x1)))] : List T)) (m := 2) (fun _ => rfl) v36.1.rows
       have f78k0 := f78g.2.2.1 0 (by decide)
       have f78m0 := f78g.2.2.2 0 _ rfl
       have f78k1 := f78g.2.2.1 1 (by decide)
       have f78m1 := f78g.2.2.2 1 _ rfl
       obtain ⟨f78g, f78i, -⟩ := f78g
       try simp at f78i f78h f78k0 f78m0 f78k1 f78m1
       obtain ⟨f79, h8⟩ := z5l h7
       obtain ⟨f80, h9⟩ := z5l h8
       have hst : v39.toNat * 2 + 1 <= v36.1.rows.length * 2 := by have := (List.getElem?_eq_some_iff.1 f78d).1; omega
       refine zjv rfl rfl rfl rfl ?_
       refine zkH [(0, 0, 3, 1), (1, 2, 3, 2), (2, 4, 0, 3), (3, 5, 0, 4), (4, 6, 0, 5), (5, 7, 0, 6), (6, 8, 0, 7), (7, 9, 0, 8), (8, 11, 3, 9), (9, 1, 1, 10), (9, 3, 1, 11), (9, 12, 1, 12), (10, 3, 1, 13), (10, 12, 1, 14), (11, 1, 1, 13), (11, 10, 2, 15), (11, 12, 1, 16), (12, 1, 1, 14), (12, 3, 1, 16), (13, 10, 2, 17), (13, 12, 1, 18), (14, 3, 1, 18), (15, 1, 1, 17), (15, 12, 1, 19), (16, 1, 1, 18), (16, 10, 2, 19), (17, 12, 1, 20), (18, 10, 2, 20), (19, 1, 1, 20), (19, 13, 2, 21), (20, 13, 2, 22), (21, 1, 1, 22), (22, 14, 0, 23), (23, 15, 0, 24), (24, 16, 2, 25)] 25 (by kernel_rfl) ?_
       refine z2F rfl rfl rfl rfl (by simp [z1i, z1h, hst, f78a, f78b, f78c, f78d, f78e, f78g, f78i, f78h, f78k0, f78k1, f78m0, f78m1, f79, f80]; rfl) ?_
       refine z2F rfl rfl rfl rfl (by simp [z1i, z1h, hst, f78a, f78b, f78c, f78d, f78e, f78g, f78i, f78h, f78k0, f78k1, f78m0, f78m1, f79, f80]; rfl) ?_
       refine z2F rfl rfl rfl rfl (by simp [z1i, z1h, hst, f78a, f78b, f78c, f78d, f78e, f78g, f78i, f78h, f78k0, f78k1, f78m0, f78m1, f79, f80]; rfl) ?_
       refine z2F rfl rfl rfl rfl (by simp [z1i, z1h, hst, f78a, f78b, f78c, f78d, f78e, f78g, f78i, f78h, f78k0, f78k1, f78m0, f78m1, f79, f80]; rfl) ?_
       refine z2F rfl rfl rfl rfl (by simp [z1i, z1h, hst, f78a, f78b, f78c, f78d, f78e, f78g, f78i, f78h, f78k0, f78k1, f78m0, f78m1, f79, f80]; rfl) ?_
       refine z2F rfl rfl rfl rfl (by simp [z1i, z1h, hst, f78a, f78b, f78c, f78d, f78e, f78g, f78i, f78h, f78k0, f78k1, f78m0, f78m1, f79, f80]; rfl) ?_
       refine z2F rfl rfl rfl rfl (by simp [z1i, z1h, hst, f78a, f78b, f78c, f78d, f78e, f78g, f78i, f78h, f78k0, f78k1, f78m0, f78m1, f79, f80]; rfl) ?_
       refine z2F rfl rfl rfl rfl (by simp [z1i, z1h, hst, f78a, f78b, f78c, f78d, f78e, f78g, f78i, f78h, f78k0, f78k1, f78m0, f78m1, f79, f80]; rfl) ?_
       refine z2F rfl rfl rfl rfl (by simp [z1i, z1h, hst, f78a, f78b, f78c, f78d, f78e, f78g, f78i, f78h, f78k0, f78k1, f78m0, f78m1, f79, f80]; rfl) ?_
       refine z2F rfl rfl rfl rfl (by simp [z1i, z1h, hst, f78a, f78b, f78c, f78d, f78e, f78g, f78i, f78h, f78k0, f78k1, f78m0, f78m1, f79, f80]; rfl) ?_
       refine z2F rfl rfl rfl rfl (by simp [z1i, z1h, hst, f78a, f78b, f78c, f78d, f78e, f78g, f78i, f78h, f78k0, f78k1, f78m0, f78m1, f79, f80]; rfl) ?_
       refine z2F rfl rfl rfl rfl (by simp [z1i, z1h, hst, f78a, f78b, f78c, f78d, f78e, f78g, f78i, f78h, f78k0, f78k1, f78m0, f78m1, f79, f80]; rfl) ?_
       refine z2F rfl rfl rfl rfl (by simp [z1i, z1h, hst, f78a, f78b, f78c, f78d, f78e, f78g, f78i, f78h, f78k0, f78k1, f78m0, f78m1, f79, f80]; rfl) ?_
       refine z2F rfl rfl rfl rfl (by simp [z1i, z1h, hst, f78a, f78b, f78c, f78d, f78e, f78g, f78i, f78h, f78k0, f78k1, f78m0, f78m1, f79, f80]; rfl) ?_
       refine z7L rfl rfl rfl rfl (by simp [z1i, z1h, hst, f78a, f78b, f78c, f78d, f78e, f78g, f78i, f78h, f78k0, f78k1, f78m0, f78m1, f79, f80]) ?_
       refine z2F rfl rfl rfl rfl (by simp [z1i, z1h, hst, f78a, f78b, f78c, f78d, f78e, f78g, f78i, f78h, f78k0, f78k1, f78m0, f78m1, f79, f80]; rfl) ?_
       refine z2F rfl rfl rfl rfl (by simp [z1i, z1h, hst, f78a, f78b, f78c, f78d, f78e, f78g, f78i, f78h, f78k0, f78k1, f78m0, f78m1, f79, f80]; rfl) ?_
       refine z7L rfl rfl rfl rfl (by simp [z1i, z1h, hst, f78a, f78b, f78c, f78d, f78e, f78g, f78i, f78h, f78k0, f78k1, f78m0, f78m1, f79, f80]) ?_
       refine z7L rfl rfl rfl rfl (by simp [z1i, z1h, hst, f78a, f78b, f78c, f78d, f78e, f78g, f78i, f78h, f78k0, f78k1, f78m0, f78m1, f79, f80]) ?_
       refine z2F rfl rfl rfl rfl (by simp [z1i, z1h, hst, f78a, f78b, f78c, f78d, f78e, f78g, f78i, f78h, f78k0, f78k1, f78m0, f78m1, f79, f80]; rfl) ?_
       refine z2F rfl rfl rfl rfl (by simp [z1i, z1h, hst, f78a, f78b, f78c, f78d, f78e, f78g, f78i, f78h, f78k0, f78k1, f78m0, f78m1, f79, f80]; rfl) ?_
       refine z7L rfl rfl rfl rfl (by simp [z1i, z1h, hst, f78a, f78b, f78c, f78d, f78e, f78g, f78i, f78h, f78k0, f78k1, f78m0, f78m1, f79, f80]) ?_
       refine z7L rfl rfl rfl rfl (by simp [z1i, z1h, hst, f78a, f78b, f78c, f78d, f78e, f78g, f78i, f78h, f78k0, f78k1, f78m0, f78m1, f79, f80]) ?_
       refine z2F rfl rfl rfl rfl (by simp [z1i, z1h, hst, f78a, f78b, f78c, f78d, f78e, f78g, f78i, f78h, f78k0, f78k1, f78m0, f78m1, f79, f80]; rfl) ?_
       refine z7L rfl rfl rfl rfl (by simp [z1i, z1h, hst, f78a, f78b, f78c, f78d, f78e, f78g, f78i, f78h, f78k0, f78k1, f78m0, f78m1, f79, f80]) ?_
       refine z7L rfl rfl rfl rfl (by simp [z1i, z1h, hst, f78a, f78b, f78c, f78d, f78e, f78g, f78i, f78h, f78k0, f78k1, f78m0, f78m1, f79, f80]) ?_
       refine z2F rfl rfl rfl rfl (by simp [z1i, z1h, hst, f78a, f78b, f78c, f78d, f78e, f78g, f78i, f78h, f78k0, f78k1, f78m0, f78m1, f79, f80]; rfl) ?_
       refine z7L rfl rfl rfl rfl (by simp [z1i, z1h, hst, f78a, f78b, f78c, f78d, f78e, f78g, f78i, f78h, f78k0, f78k1, f78m0, f78m1, f79, f80]) ?_
       refine z7L rfl rfl rfl rfl (by simp [z1i, z1h, hst, f78a, f78b, f78c, f78d, f78e, f78g, f78i, f78h, f78k0, f78k1, f78m0, f78m1, f79, f80]) ?_
       refine z2F rfl rfl rfl rfl (by simp [z1i, z1h, hst, f78a, f78b, f78c, f78d, f78e, f78g, f78i, f78h, f78k0, f78k1, f78m0, f78m1, f79, f80]; rfl) ?_
       refine z2F rfl rfl rfl rfl (by simp [z1i, z1h, hst, f78a, f78b, f78c, f78d, f78e, f78g, f78i, f78h, f78k0, f78k1, f78m0, f78m1, f79, f80]; rfl) ?_
       refine z7L rfl rfl rfl rfl (by simp [z1i, z1h, hst, f78a, f78b, f78c, f78d, f78e, f78g, f78i, f78h, f78k0, f78k1, f78m0, f78m1, f79, f80]) ?_
       refine z2F rfl rfl rfl rfl (by simp [z1i, z1h, hst, f78a, f78b, f78c, f78d, f78e, f78g, f78i, f78h, f78k0, f78k1, f78m0, f78m1, f79, f80]; rfl) ?_
       refine z2F rfl rfl rfl rfl (by simp [z1i, z1h, hst, f78a, f78b, f78c, f78d, f78e, f78g, f78i, f78h, f78k0, f78k1, f78m0, f78m1, f79, f80]; rfl) ?_
       refine z2F rfl rfl rfl rfl (by simp [z1i, z1h, hst, f78a, f78b, f78c, f78d, f78e, f78g, f78i, f78h, f78k0, f78k1, f78m0, f78m1, f79, f80]; rfl) ?_
       refine zlk rfl ?_
       refine zjr rfl (by simp [f78a, f78b, f78c, f78d, f78e, f78g, f78i, f78h, f78k0, f78k1, f78m0, f78m1, f79, f80]; rfl) ?_
       refine z0g (z0a (zq rfl ?_))
       obtain ⟨v53, f81, h10⟩ := z0b h9
       have f81k := z2n f81
       have f81e := fmA (a := fun x0 : CRow => T.sl x0.pre.length (x0.pre.map fun x1 => .sc (.int .i64 x1))) (b := fun x0 : CRow => T.sl x0.maps.length (x0.maps.map fun x1 => .sl x1.length (x1.map fun x2 => .sc (.int .i64 x2)))) f78d (⟨v51.pre ++ [IntKind.i64.wrap (v40 - 1)], v51.maps⟩ : CRow) rfl
       dsimp only at f81e
       rw [f81e] at f81k
       try simp at f81k
       by_cases c82 : v53 = true
       ·rw [if_pos c82] at h10
        obtain ⟨v54, f83, h11⟩ := z0b h10
        have f83k := z4a f83
        try simp at f83k
        refine zr rfl rfl rfl (by simp [f81k, c82, f83k]; rfl) ?_
        refine z0a (z0o rfl ?_)
        cases h11
        simp [c82]
       ·rw [if_neg c82] at h10
        refine zr rfl rfl rfl (by simp [f81k, c82]; rfl) ?_
        refine z0a (z0o rfl ?_)
        cases h10
        simp [c82]
      ·rw [if_neg c77] at h6
       have c77e := eq_false c77
       refine z0s rfl (by simp [c77e]) (zq rfl (zr rfl rfl rfl (by simp; rfl) ?_))
       refine z0a ?_
       by_cases c84 : v41 = 4
       ·rw [if_pos c84] at h6
        have c84e := eq_true c84
        refine z0p rfl (by simp [c84e]) ?_
        obtain ⟨v55, f85, h7⟩ := z0b h6
        obtain ⟨f85a, f85b, f85c, f85d, f85e⟩ := z0W f85
        have f85g := z1e (g := fun x : CRow => ([.sl x.pre.length (x.pre.map fun x0 => .sc (.int .i64 x0)), .os 1 x.maps.length (x.maps.map fun x0 => .os 1 x0.length (x0.map fun x1 => .sc (.int .i64 x1)))] : List T)) (m := 2) (fun _ => rfl) f85d
        have f85h := z1k (g := fun x : CRow => ([.sl x.pre.length (x.pre.map fun x0 => .sc (.int .i64 x0)), .os 1 x.maps.length (x.maps.map fun x0 => .os 1 x0.length (x0.map fun x1 => .sc (.int .i64 x1)))] : List T)) (m := 2) (fun _ => rfl) v36.1.rows
        have f85k0 := f85g.2.2.1 0 (by decide)
        have f85m0 := f85g.2.2.2 0 _ rfl
        have f85k1 := f85g.2.2.1 1 (by decide)
        have f85m1 := f85g.2.2.2 1 _ rfl
        obtain ⟨f85g, f85i, -⟩ := f85g
        try simp at f85i f85h f85k0 f85m0 f85k1 f85m1
        obtain ⟨v56, f86, h8⟩ := z0b h7
        obtain ⟨f86a, f86b, f86c, f86d, f86e⟩ := z0W f86
        simp only [Int.reduceToNat, Int.toNat_natCast] at f86c f86d f86e
        have f86j : v55.maps ≠ [] := by intro hh; rw [hh] at f86c; simp at f86c
        have f86l : 0 < v55.maps.length := by omega
        obtain ⟨v57, f87, h9⟩ := z0b h8
        obtain ⟨f87a, f87b, f87c, f87d, f87e⟩ := z0W f87
        simp only [Int.reduceToNat, Int.toNat_natCast] at f87c f87d f87e
        have f87j : v56 ≠ [] := by intro hh; rw [hh] at f87c; simp at f87c
        have f87l : 0 < v56.length := by omega
        refine zr rfl rfl rfl (by simp [f85a, f85b, f85c, f85d, f85e, f85g, f85i, f85h, f85k0, f85k1, f85m0, f85m1, f86a, f86b, f86c, f86d, f86e, f86j, f86l, f87a, f87b, f87c, f87d, f87e, f87j, f87l]; rfl) ?_
        refine z0g (z0a (zq rfl ?_))
        obtain ⟨v58, f88, h10⟩ := z0b h9
        have f88k := z2n f88
        have f88e := fmB (a := fun x0 : CRow => T.sl x0.pre.length (x0.pre.map fun x1 => .sc (.int .i64 x1))) (b := fun x0 : CRow => T.sl x0.maps.length (x0.maps.map fun x1 => .sl x1.length (x1.map fun x2 => .sc (.int .i64 x2)))) f85d (⟨v55.pre, (v55.maps.set (0 : Int).toNat (v56.set (0 : Int).toNat (IntKind.i64.wrap (v40 - 1))))⟩ : CRow) rfl
        dsimp only at f88e
        rw [f88e] at f88k
        try simp at f88k
        by_cases c89 : v58 = true
        ·rw [if_pos c89] at h10
         obtain ⟨v59, f90, h11⟩ := z0b h10
         have f90k := z4a f90
         try simp at f90k
         refine zr rfl rfl rfl (by simp [f85a, f85b, f85c, f85d, f85e, f85g, f85i, f85h, f85k0, f85k1, f85m0, f85m1, f88k, c89, f90k]; rfl) ?_
         refine z0a (z0o rfl ?_)
         cases h11
         simp [c89]
        ·rw [if_neg c89] at h10
         refine zr rfl rfl rfl (by simp [f85a, f85b, f85c, f85d, f85e, f85g, f85i, f85h, f85k0, f85k1, f85m0, f85m1, f88k, c89]; rfl) ?_
         refine z0a (z0o rfl ?_)
         cases h10
         simp [c89]
       ·rw [if_neg c84] at h6
        have c84e := eq_false c84
        refine z0s rfl (by simp [c84e]) (zq rfl (zr rfl rfl rfl (by simp; rfl) ?_))
        refine z0a ?_
        by_cases c91 : v41 = 5
        ·rw [if_pos c91] at h6
         have c91e := eq_true c91
         refine z0p rfl (by simp [c91e]) (zhv rfl rfl (by simp; rfl) ?_)
         obtain ⟨v60, f92, h7⟩ := z0b h6
         obtain ⟨f92a, f92b, f92c, f92d, f92e⟩ := z0W f92
         have f92g := z1e (g := fun x : CRow => ([.sl x.pre.length (x.pre.map fun x0 => .sc (.int .i64 x0)), .sl x.maps.length (x.maps.map fun x0 => .sl x0.length (x0.map fun x1 => .sc (.int .i64 x1)))] : List T)) (m := 2) (fun _ => rfl) f92d
         have f92h := z1k (g := fun x : CRow => ([.sl x.pre.length (x.pre.map fun x0 => .sc (.int .i64 x0)), .sl x.maps.length (x.maps.map fun x0 => .sl x0.length (x0.map fun x1 => .sc (.int .i64 x1)))] : List T)) (m := 2) (fun _ => rfl) v36.1.rows
         have f92k0 := f92g.2.2.1 0 (by decide)
         have f92m0 := f92g.2.2.2 0 _ rfl
         have f92k1 := f92g.2.2.1 1 (by decide)
         have f92m1 := f92g.2.2.2 1 _ rfl
         obtain ⟨f92g, f92i, -⟩ := f92g
         try simp at f92i f92h f92k0 f92m0 f92k1 f92m1
         obtain ⟨v61, f93, h8⟩ := z0b h7
         obtain ⟨f93a, f93b, f93c, -⟩ := z3O f93
         obtain ⟨f93d, f93g⟩ := z6x f93a f93b
         have f93e := z6h (g := fun x : List Int => (.sl x.length (x.map fun x0 => .sc (.int .i64 x0)) : T)) f93
         try simp at f93e
         have f93f := z6g f93
         try simp only [Int.reduceToNat, Int.toNat_natCast, Nat.sub_zero] at f93f
         refine z1o rfl rfl rfl rfl ?_; repeat' ((first | refine z0D rfl rfl fun Q' hQ => ?_ | refine z0A rfl fun Q' hQ => ?_); simp [f92a, f92b, f92c, f92d, f92e, f92g, f92i, f92h, f92k0, f92k1, f92m0, f92m1, f93a, f93b, f93c, f93d, f93g, f93e, f93f]; refine hQ.out _ ?_; clear hQ; clear Q')
         refine z0g (z0a (zq rfl ?_))
         obtain ⟨v63, f94, h9⟩ := z0b h8
         have f94k := z2n f94
         have f94e := fmB (a := fun x0 : CRow => T.sl x0.pre.length (x0.pre.map fun x1 => .sc (.int .i64 x1))) (b := fun x0 : CRow => T.sl x0.maps.length (x0.maps.map fun x1 => .sl x1.length (x1.map fun x2 => .sc (.int .i64 x2)))) f92d (⟨v60.pre, v61⟩ : CRow) rfl
         dsimp only at f94e
         rw [f94e] at f94k
         try simp at f94k
         by_cases c95 : v63 = true
         ·rw [if_pos c95] at h9
          obtain ⟨v64, f96, h10⟩ := z0b h9
          have f96k := z4a f96
          try simp at f96k
          refine zr rfl rfl rfl (by simp [f94k, c95, f96k]; rfl) ?_
          refine z0a (z0o rfl ?_)
          cases h10
          simp [c95]
         ·rw [if_neg c95] at h9
          refine zr rfl rfl rfl (by simp [f94k, c95]; rfl) ?_
          refine z0a (z0o rfl ?_)
          cases h9
          simp [c95]
        ·rw [if_neg c91] at h6
         have c91e := eq_false c91
         refine z0s rfl (by simp [c91e]) (zq rfl (zr rfl rfl rfl (by simp; rfl) ?_))
         refine z0a ?_
         by_cases c97 : v41 = 6
         ·rw [if_pos c97] at h6
          have c97e := eq_true c97
          refine z0p rfl (by simp [c97e]) ?_
          obtain ⟨f98, h7⟩ := z5l h6
          refine zr rfl rfl rfl (by simp [f98]; rfl) ?_
          refine z0g (z0a (zq rfl ?_))
          obtain ⟨v65, f99, h8⟩ := z0b h7
          have f99k := z2n f99
          try simp at f99k
          by_cases c100 : v65 = true
          ·rw [if_pos c100] at h8
           obtain ⟨v66, f101, h9⟩ := z0b h8
           have f101k := z4a f101
           try simp at f101k
           refine zr rfl rfl rfl (by simp [f99k, c100, f101k]; rfl) ?_
           refine z0a (z0o rfl ?_)
           cases h9
           simp [c100]
          ·rw [if_neg c100] at h8
           refine zr rfl rfl rfl (by simp [f99k, c100]; rfl) ?_
           refine z0a (z0o rfl ?_)
           cases h8
           simp [c100]
         ·rw [if_neg c97] at h6
          have c97e := eq_false c97
          refine z0s rfl (by simp [c97e]) (z0n rfl (z0g (z0a (zq rfl ?_))))
          obtain ⟨v67, f102, h7⟩ := z0b h6
          have f102k := z2n f102
          try simp at f102k
          by_cases c103 : v67 = true
          ·rw [if_pos c103] at h7
           obtain ⟨v68, f104, h8⟩ := z0b h7
           have f104k := z4a f104
           try simp at f104k
           refine zr rfl rfl rfl (by simp [f102k, c103, f104k]; rfl) ?_
           refine z0a (z0o rfl ?_)
           cases h8
           simp [c103]
          ·rw [if_neg c103] at h7
           refine zr rfl rfl rfl (by simp [f102k, c103]; rfl) ?_
           refine z0a (z0o rfl ?_)
           cases h7
           simp [c103]
end
end
section
open Go
structure Few (c : Casc) : Prop where
  s1 : c.sizes.length <= 100
  r1 : c.rows.length <= 100000
  row : ∀ r ∈ c.rows, r.pre.length <= 100 /\ r.maps.length <= 100 /\ ∀ m ∈ r.maps, m.length <= 100
theorem Few.cb {c : Casc} (h : Few c) : CB c := ⟨by have := h.s1; omega, by have := h.r1; omega, fun r hr => by
  obtain ⟨a, b, d⟩ := h.row r hr
  exact ⟨by omega, by omega, fun m hm => by have := d m hm; omega⟩⟩
theorem zhZ {c : Casc} (hB : Built c) : Few c /\ ∀ r ∈ c.rows, 1 <= r.maps.length /\ ∀ m ∈ r.maps, 1 <= m.length := by
  have hv := z4z c (zaq hB)
  have h1 := hB.s1
  have h2 := hB.rl
  have key : ∀ r ∈ c.rows, (r.pre.length <= 100 /\ r.maps.length <= 100 /\ ∀ m ∈ r.maps, m.length <= 100) /\ 1 <= r.maps.length /\ ∀ m ∈ r.maps, 1 <= m.length := fun r hr => by
    obtain ⟨i, hi, rfl⟩ := List.getElem_of_mem hr
    obtain ⟨f1, f2, f3, f4⟩ := z6b (hv.row i hi)
    have h3 := hv.l2
    have h4 := hv.l1
    have hm : ∀ m ∈ c.rows[i].maps, 1 <= m.length /\ m.length <= 100 := fun m hm => by
      obtain ⟨j, hj, rfl⟩ := List.getElem_of_mem hm
      obtain ⟨g1, -⟩ := f4 j hj
      rw [z0r _ hj, z0r _ f1] at g1
      have := hv.sz _ f1
      rw [z0r _ f1] at this
      omega
    exact ⟨⟨by omega, by omega, fun m h => (hm m h).2⟩, by omega, fun m h => (hm m h).1⟩
  exact ⟨⟨by omega, by omega, fun r hr => (key r hr).1⟩, fun r hr => (key r hr).2⟩
theorem Few.set {c : Casc} (h : Few c) {k : Nat} {r : CRow} (hr : r.pre.length <= 100 /\ r.maps.length <= 100 /\ ∀ m ∈ r.maps, m.length <= 100) : Few ⟨c.letters, c.sizes, c.rows.set k r⟩ :=
  ⟨h.s1, by simpa using h.r1, fun q hq => by
    rcases List.mem_or_eq_of_mem_set hq with e | rfl
    · exact h.row q e
    · exact hr⟩
theorem zll (a0 : List Int) (a1 a2 a3 : Int) : z1Z a0 a1 a2 a3 = some true := by
  unfold z1Z
  obtain ⟨t, e1, ht⟩ := zl1 a0
  rw [e1, Option.bind_some]
  obtain ⟨c, t2, e2, hB, ht2⟩ := zje ht
  rw [e2, Option.bind_some]
  obtain ⟨hF, hne⟩ := zhZ hB
  have hs := hB.s1
  obtain ⟨x, t3, e3, hx, ht3⟩ := ziB ht2 c (fun z hz => by have := hB.sz z hz; omega) (by omega)
  have hxl := zbn hx
  rw [e3, Option.bind_some]
  simp only
  by_cases c0 : (c.rows.length : Int) = 0
  · rw [if_pos c0]; rfl
  rw [if_neg c0]
  have hr1 := hF.r1
  have hrl := hB.rl
  obtain ⟨k, e4, k0, k1⟩ := z5z a2 (c.rows.length : Int) (by omega) (by omega)
  rw [e4, Option.bind_some]
  obtain ⟨v, e5, v0, v1⟩ := z5z a3 6 (by omega) (by omega)
  rw [e5, Option.bind_some]
  obtain ⟨h, e6, h0, h1⟩ := z5z a1 7 (by omega) (by omega)
  rw [e6, Option.bind_some]
  obtain ⟨k, rfl⟩ : ∃ j : Nat, k = (j : Int) := ⟨k.toNat, by omega⟩
  have hk : k < c.rows.length := by omega
  obtain ⟨p1, p2, p3⟩ := hF.row _ (List.getElem_mem hk)
  obtain ⟨q1, q2⟩ := hne _ (List.getElem_mem hk)
  have fin : ∀ (c' : Casc) (x' : List Int), Few c' -> x'.length < 1000000 -> ((z2l c' x' 0 ⟨#[97]⟩).bind fun b => if b = true then xKnown.bind fun v => some v else some false) = some true := fun c' x' hf hl => by
    rw [zjj c' hf.cb x' 0 _ hl, Option.bind_some, if_pos rfl]; rfl
  have hx0 : x.length < 1000000 := by omega
  by_cases d0 : h = 0
  · rw [if_pos d0]; exact fin _ _ ⟨hF.s1, hF.r1, hF.row⟩ hx0
  rw [if_neg d0]
  by_cases d1 : h = 1
  · rw [if_pos d1]
    obtain ⟨j, e7, j0, j1⟩ := z5z a2 (c.sizes.length : Int) (by omega) (by omega)
    obtain ⟨j, rfl⟩ : ∃ i : Nat, j = (i : Int) := ⟨j.toNat, by omega⟩
    have hj : j < c.sizes.length := by omega
    rw [e7, Option.bind_some, z0T hj, Option.bind_some]
    exact fin _ _ ⟨by simpa using hF.s1, hF.r1, hF.row⟩ hx0
  rw [if_neg d1]
  by_cases d2 : h = 2
  · rw [if_pos d2, z0T hk, Option.bind_some, z0R _ (by unfold z1g; omega)]
    refine fin _ _ ⟨hF.s1, by simp only [List.length_append, List.length_singleton]; omega, fun r hr => ?_⟩ hx0
    rcases List.mem_append.1 hr with e | e
    · exact hF.row r e
    · rw [List.mem_singleton.1 e]; exact ⟨p1, p2, p3⟩
  rw [if_neg d2]
  by_cases d3 : h = 3
  · rw [if_pos d3, z0T hk, Option.bind_some, z0R _ (by unfold z1g; omega), z0R _ (by unfold z1g; omega)]
    have hp : c.rows[k].pre.length < c.sizes.length := (z6b ((z4z c (zaq hB)).row k hk)).1
    exact fin _ _ (hF.set ⟨by simp only [List.length_append, List.length_singleton]; omega, p2, p3⟩) hx0
  rw [if_neg d3]
  by_cases d4 : h = 4
  · rw [if_pos d4, z0T hk, Option.bind_some]
    have w0 := z0T (xs := c.rows[k].maps) (k := 0) (by omega)
    rw [show ((0 : Nat) : Int) = 0 from rfl] at w0
    have w1 := z0T (xs := c.rows[k].maps[0]) (k := 0) (by have := q2 _ (List.getElem_mem (l := c.rows[k].maps) (n := 0) (by omega)); omega)
    rw [show ((0 : Nat) : Int) = 0 from rfl] at w1
    rw [w0, Option.bind_some, w1, Option.bind_some]
    refine fin _ _ (hF.set ⟨p1, by simpa using p2, fun m hm => ?_⟩) hx0
    rcases List.mem_or_eq_of_mem_set hm with e | rfl
    · exact p3 m e
    · rw [List.length_set]; exact p3 _ (List.getElem_mem _)
  rw [if_neg d4]
  by_cases d5 : h = 5
  · rw [if_pos d5, z0T hk, Option.bind_some]
    have w0 := zdO (xs := c.rows[k].maps) (k := 1) q1
    rw [show ((1 : Nat) : Int) = 1 from rfl] at w0
    rw [w0, Option.bind_some]
    exact fin _ _ (hF.set ⟨p1, by simp only [List.length_drop]; omega, fun m hm => p3 m (List.mem_of_mem_drop hm)⟩) hx0
  rw [if_neg d5]
  by_cases d6 : h = 6
  · rw [if_pos d6, z0R _ (by unfold z1g; omega)]
    exact fin _ _ hF (by simp only [List.length_append, List.length_singleton]; omega)
  rw [if_neg d6]
  exact fin _ _ hF hx0
theorem znR (a0 : List Int) (_ : a0.length <= maxLen) (_ : ∀ x ∈ a0, (Lit.int .i64 x).wf = true) (a1 : Int) (_ : (Lit.int .i64 a1).wf = true) (a2 : Int) (_ : (Lit.int .i64 a2).wf = true) (a3 : Int) (_ : (Lit.int .i64 a3).wf = true) : ∃ outs, L 8 [zlb a0, .sc (.int .i64 a1), .sc (.int .i64 a2), .sc (.int .i64 a3)] = some (bT true, outs) := ⟨_, z6A (zll a0 a1 a2 a3)⟩
end
end Go.Proofs.YthalofddjlhcjaaDoor
section
namespace Go.Proofs
open Go.Shelf
def Tryd.lays215_ren : Go.Shelf.Ren := ⟨fun | 215 => 81 | n => n, fun | 3 => 3 | 4 => 4 | n => n, fun | n => n⟩
theorem Tryd.lays215 : Go.Proofs.Lays.n215 Tryd.prog Tryd.lays215_ren := {
  mixed := by kernel_rfl
  f215 := Tryd.func81.trans (congrArg some (by kernel_rfl))
  t3 := Tryd.underlying3
  a3 := Tryd.isAgg3
  z3 := Tryd.sizeOf3
  v3 := Tryd.zeroValue3
  t4 := Tryd.underlying4
  a4 := Tryd.isAgg4
  z4 := Tryd.sizeOf4
  v4 := Tryd.zeroValue4 }
open Go.RowKit in
theorem Tryd.cmp_isNaN_int (x : Int) (w : World) :
    Calls Tryd.prog 81 #[.int .i64 x] w fun e w' => e = .returned (.bool false) /\ w' = w := Any.cmp_isNaN_int Tryd.lays215 x w
def Tryd.lays122_ren : Go.Shelf.Ren := ⟨fun | 122 => 72 | 215 => 81 | n => n, fun | 3 => 3 | 4 => 4 | n => n, fun | n => n⟩
theorem Tryd.lays122 : Go.Proofs.Lays.n122 Tryd.prog Tryd.lays122_ren := {
  mixed := by kernel_rfl
  f122 := Tryd.func72.trans (congrArg some (by kernel_rfl))
  f215 := Tryd.func81.trans (congrArg some (by kernel_rfl))
  t3 := Tryd.underlying3
  a3 := Tryd.isAgg3
  z3 := Tryd.sizeOf3
  v3 := Tryd.zeroValue3
  t4 := Tryd.underlying4
  a4 := Tryd.isAgg4
  z4 := Tryd.sizeOf4
  v4 := Tryd.zeroValue4 }
open Go.RowKit in
theorem Tryd.cmp_Compare_int (x y : Int) (w : World) :
    Calls Tryd.prog 72 #[.int .i64 x, .int .i64 y] w fun e w' => e = .returned (.int .i64 (Lib.compareInt x y)) /\ w' = w := Any.cmp_Compare_int Tryd.lays122 x y w
def Tryd.lays195_ren : Go.Shelf.Ren := ⟨fun | 195 => 86 | n => n, fun | 9 => 9 | 3 => 3 | 0 => 0 | 4 => 4 | n => n, fun | n => n⟩
theorem Tryd.lays195 : Go.Proofs.Lays.n195 Tryd.prog Tryd.lays195_ren := {
  mixed := by kernel_rfl
  f195 := Tryd.func86.trans (congrArg some (by kernel_rfl))
  t0 := Tryd.underlying0
  a0 := Tryd.isAgg0
  z0 := Tryd.sizeOf0
  v0 := Tryd.zeroValue0
  t3 := Tryd.underlying3
  a3 := Tryd.isAgg3
  z3 := Tryd.sizeOf3
  v3 := Tryd.zeroValue3
  t4 := Tryd.underlying4
  a4 := Tryd.isAgg4
  z4 := Tryd.sizeOf4
  v4 := Tryd.zeroValue4
  t9 := Tryd.underlying9
  a9 := Tryd.isAgg9
  z9 := Tryd.sizeOf9
  v9 := Tryd.zeroValue9 }
open Go.RowKit in
theorem Tryd.utf8_RuneCountInString (s : ByteArray) (w : World) (hs : s.size < 9223372036854775807) :
    Calls Tryd.prog 86 #[.string s] w fun e w' => e = .returned (.int .i64 (Lib.runeCount s)) /\ ∃ pos, w' = w.iter s pos := Any.utf8_RuneCountInString Tryd.lays195 s w hs
def Tryd.lays129_ren : Go.Shelf.Ren := ⟨fun | 129 => 98 | n => n, fun | 53 => 112 | 3 => 3 | 4 => 4 | 46 => 102 | 5 => 5 | 9 => 9 | n => n, fun | n => n⟩
theorem Tryd.lays129 : Go.Proofs.Lays.n129 Tryd.prog Tryd.lays129_ren := {
  mixed := by kernel_rfl
  f129 := Tryd.func98.trans (congrArg some (by kernel_rfl))
  t3 := Tryd.underlying3
  a3 := Tryd.isAgg3
  z3 := Tryd.sizeOf3
  v3 := Tryd.zeroValue3
  t4 := Tryd.underlying4
  a4 := Tryd.isAgg4
  z4 := Tryd.sizeOf4
  v4 := Tryd.zeroValue4
  t5 := Tryd.underlying5
  a5 := Tryd.isAgg5
  z5 := Tryd.sizeOf5
  v5 := Tryd.zeroValue5
  t9 := Tryd.underlying9
  a9 := Tryd.isAgg9
  z9 := Tryd.sizeOf9
  v9 := Tryd.zeroValue9
  t46 := Tryd.underlying102
  a46 := Tryd.isAgg102
  z46 := Tryd.sizeOf102
  v46 := Tryd.zeroValue102
  t53 := Tryd.underlying112
  a53 := Tryd.isAgg112
  z53 := Tryd.sizeOf112
  v53 := Tryd.zeroValue112 }
theorem Tryd.bits_Len64 (x : Int) (w : World) (h0 : 0 <= x) (h1 : x <= 18446744073709551615) :
    Calls Tryd.prog 98 #[.int .u64 x] w fun e w' => e = .returned (.int .i64 (Lib.bitLen x.toNat)) /\ w' = w := Any.bits_Len64 Tryd.lays129 x w h0 h1
def Tryd.lays317_ren : Go.Shelf.Ren := ⟨fun | 317 => 97 | n => n, fun | 3 => 3 | 46 => 102 | n => n, fun | n => n⟩
theorem Tryd.lays317 : Go.Proofs.Lays.n317 Tryd.prog Tryd.lays317_ren := {
  mixed := by kernel_rfl
  f317 := Tryd.func97.trans (congrArg some (by kernel_rfl))
  t3 := Tryd.underlying3
  a3 := Tryd.isAgg3
  z3 := Tryd.sizeOf3
  v3 := Tryd.zeroValue3
  t46 := Tryd.underlying102
  a46 := Tryd.isAgg102
  z46 := Tryd.sizeOf102
  v46 := Tryd.zeroValue102 }
open Go.Lib in
theorem Tryd.internal_strconv_log10Pow2 (x : Nat) (h : x <= 64) (w : World) :
    Calls Tryd.prog 97 #[.int .i64 x] w fun e w' => e = .returned (.int .i64 (Lib.l10 x)) /\ w' = w := Any.internal_strconv_log10Pow2 Tryd.lays317 x h w
def Tryd.lays318_ren : Go.Shelf.Ren := ⟨fun | 318 => 99 | n => n, fun | 3 => 3 | 4 => 4 | n => n, fun | n => n⟩
theorem Tryd.lays318 : Go.Proofs.Lays.n318 Tryd.prog Tryd.lays318_ren := {
  mixed := by kernel_rfl
  f318 := Tryd.func99.trans (congrArg some (by kernel_rfl))
  t3 := Tryd.underlying3
  a3 := Tryd.isAgg3
  z3 := Tryd.sizeOf3
  v3 := Tryd.zeroValue3
  t4 := Tryd.underlying4
  a4 := Tryd.isAgg4
  z4 := Tryd.sizeOf4
  v4 := Tryd.zeroValue4 }
open Go.Lib in
theorem Tryd.internal_strconv_bool2_int (b : Bool) (w : World) :
    Calls Tryd.prog 99 #[.bool b] w fun e w' => e = .returned (.int .i64 (if b then 1 else 0)) /\ w' = w := Any.internal_strconv_bool2_int Tryd.lays318 b w
def Tryd.lays283_ren : Go.Shelf.Ren := ⟨fun | 283 => 93 | n => n, fun | 3 => 3 | 9 => 9 | 4 => 4 | n => n, fun | n => n⟩
theorem Tryd.lays283 : Go.Proofs.Lays.n283 Tryd.prog Tryd.lays283_ren := {
  mixed := by kernel_rfl
  f283 := Tryd.func93.trans (congrArg some (by kernel_rfl))
  t3 := Tryd.underlying3
  a3 := Tryd.isAgg3
  z3 := Tryd.sizeOf3
  v3 := Tryd.zeroValue3
  t4 := Tryd.underlying4
  a4 := Tryd.isAgg4
  z4 := Tryd.sizeOf4
  v4 := Tryd.zeroValue4
  t9 := Tryd.underlying9
  a9 := Tryd.isAgg9
  z9 := Tryd.sizeOf9
  v9 := Tryd.zeroValue9 }
open Go.Lib in
theorem Tryd.internal_strconv_small (i : Nat) (h : i < 100) (w : World) :
    Calls Tryd.prog 93 #[.int .i64 i] w fun e w' => e = .returned (.string ⟨(Lib.decDigits i).toArray⟩) /\ w' = w := Any.internal_strconv_small Tryd.lays283 i h w
def Tryd.laysM284_ren : Go.Shelf.Ren := ⟨fun | 284 => 94 | 129 => 98 | 317 => 97 | 318 => 99 | n => n, fun | 53 => 112 | 3 => 3 | 212 => 127 | 0 => 0 | 4 => 4 | 46 => 102 | 5 => 5 | 9 => 9 | n => n, fun | 17 => 3 | n => n⟩
theorem Tryd.laysM284 : Go.Proofs.LaysM.n284 Tryd.prog Tryd.laysM284_ren := {
  mixed := by kernel_rfl
  f129 := Tryd.func98.trans (congrArg some (by kernel_rfl))
  f284 := Tryd.func94.trans (congrArg some (by kernel_rfl))
  f317 := Tryd.func97.trans (congrArg some (by kernel_rfl))
  f318 := Tryd.func99.trans (congrArg some (by kernel_rfl))
  t0 := Tryd.underlying0
  a0 := Tryd.isAgg0
  z0 := Tryd.sizeOf0
  v0 := Tryd.zeroValue0
  t3 := Tryd.underlying3
  a3 := Tryd.isAgg3
  z3 := Tryd.sizeOf3
  v3 := Tryd.zeroValue3
  t4 := Tryd.underlying4
  a4 := Tryd.isAgg4
  z4 := Tryd.sizeOf4
  v4 := Tryd.zeroValue4
  t5 := Tryd.underlying5
  a5 := Tryd.isAgg5
  z5 := Tryd.sizeOf5
  v5 := Tryd.zeroValue5
  t9 := Tryd.underlying9
  a9 := Tryd.isAgg9
  z9 := Tryd.sizeOf9
  v9 := Tryd.zeroValue9
  t46 := Tryd.underlying102
  a46 := Tryd.isAgg102
  z46 := Tryd.sizeOf102
  v46 := Tryd.zeroValue102
  t53 := Tryd.underlying112
  a53 := Tryd.isAgg112
  z53 := Tryd.sizeOf112
  v53 := Tryd.zeroValue112
  t212 := Tryd.underlying127
  a212 := Tryd.isAgg127
  z212 := Tryd.sizeOf127
  v212 := Tryd.zeroValue127
  g17 := by kernel_rfl
  i0 := by kernel_rfl
  i3 := by kernel_rfl
  i4 := by kernel_rfl
  i5 := by kernel_rfl
  i9 := by kernel_rfl
  i46 := by kernel_rfl
  i53 := by kernel_rfl
  i212 := by kernel_rfl
  m17 := by kernel_rfl }
open Go.Lib in
theorem Tryd.internal_strconv_numDigits (u : Nat) (h1 : 1 <= u) (h2 : u < 18446744073709551616) (w : World) (htab : Lib.TabIs Tryd.prog w "internal/strconv.uint64pow10" .u64 Lib.pow10Tab) :
    Calls Tryd.prog 94 #[.int .u64 u] w fun e w' => e = .returned (.int .i64 (Lib.nDigits u)) /\ w' = w := Any.internal_strconv_numDigits Tryd.laysM284 u h1 h2 w htab
def Tryd.lays285_ren : Go.Shelf.Ren := ⟨fun | 285 => 95 | n => n, fun | 37 => 54 | 53 => 112 | 3 => 3 | 4 => 4 | 51 => 114 | 9 => 9 | 5 => 5 | 0 => 0 | n => n, fun | n => n⟩
theorem Tryd.lays285 : Go.Proofs.Lays.n285 Tryd.prog Tryd.lays285_ren := {
  mixed := by kernel_rfl
  f285 := Tryd.func95.trans (congrArg some (by kernel_rfl))
  t0 := Tryd.underlying0
  a0 := Tryd.isAgg0
  z0 := Tryd.sizeOf0
  v0 := Tryd.zeroValue0
  t3 := Tryd.underlying3
  a3 := Tryd.isAgg3
  z3 := Tryd.sizeOf3
  v3 := Tryd.zeroValue3
  t4 := Tryd.underlying4
  a4 := Tryd.isAgg4
  z4 := Tryd.sizeOf4
  v4 := Tryd.zeroValue4
  t5 := Tryd.underlying5
  a5 := Tryd.isAgg5
  z5 := Tryd.sizeOf5
  v5 := Tryd.zeroValue5
  t9 := Tryd.underlying9
  a9 := Tryd.isAgg9
  z9 := Tryd.sizeOf9
  v9 := Tryd.zeroValue9
  t37 := Tryd.underlying54
  a37 := Tryd.isAgg54
  z37 := Tryd.sizeOf54
  v37 := Tryd.zeroValue54
  t51 := Tryd.underlying114
  a51 := Tryd.isAgg114
  z51 := Tryd.sizeOf114
  v51 := Tryd.zeroValue114
  t53 := Tryd.underlying112
  a53 := Tryd.isAgg112
  z53 := Tryd.sizeOf112
  v53 := Tryd.zeroValue112 }
open Go.RowKit Go.Sort Go.Lib in
theorem Tryd.internal_strconv_formatBase10 (blk off cap : Nat) (u : Nat) (d : Array UInt8) (w : World) (hH : Holds (fun (b : UInt8) => Value.int .u8 (b.toNat : Int)) w blk off d) (hu : u < 10 ^ d.size) (hu64 : u < 18446744073709551616) (hsz : d.size < 4611686018427387904) :
    Calls Tryd.prog 95 #[.slice (some ⟨blk, off, none⟩) d.size cap, .int .u64 u] w fun e w' =>
      e = .returned (.tuple #[]) /\ ∃ (n v' : Nat) (dk : Array UInt8), w' = (putRow (fun (b : UInt8) => Value.int .u8 (b.toNat : Int)) w blk off dk).drewN n /\ FmtInv d.size u 0 v' dk := Any.internal_strconv_formatBase10 Tryd.lays285 blk off cap u d w hH hu hu64 hsz
def Tryd.lays217_ren : Go.Shelf.Ren := ⟨fun | 217 => 82 | 266 => 90 | n => n, fun | 9 => 9 | 5 => 5 | 3 => 3 | n => n, fun | n => n⟩
theorem Tryd.lays217 : Go.Proofs.Lays.n217 Tryd.prog Tryd.lays217_ren := {
  mixed := by kernel_rfl
  f217 := Tryd.func82.trans (congrArg some (by kernel_rfl))
  f266 := Tryd.func90.trans (congrArg some (by kernel_rfl))
  t3 := Tryd.underlying3
  a3 := Tryd.isAgg3
  z3 := Tryd.sizeOf3
  v3 := Tryd.zeroValue3
  t5 := Tryd.underlying5
  a5 := Tryd.isAgg5
  z5 := Tryd.sizeOf5
  v5 := Tryd.zeroValue5
  t9 := Tryd.underlying9
  a9 := Tryd.isAgg9
  z9 := Tryd.sizeOf9
  v9 := Tryd.zeroValue9 }
open Go.RowKit Go.Lib in
theorem Tryd.stringslite_IndexByte (s : ByteArray) (c : Int) (w : World) :
    Calls Tryd.prog 82 #[.string s, .int .u8 c] w fun e w' => e = .returned (.int .i64 (Lib.indexByte s.data.toList c.toNat.toUInt8)) /\ w' = w := Any.stringslite_IndexByte Tryd.lays217 s c w
def Tryd.lays224_ren : Go.Shelf.Ren := ⟨fun | 224 => 84 | n => n, fun | 3 => 3 | n => n, fun | n => n⟩
theorem Tryd.lays224 : Go.Proofs.Lays.n224 Tryd.prog Tryd.lays224_ren := {
  mixed := by kernel_rfl
  f224 := Tryd.func84.trans (congrArg some (by kernel_rfl))
  t3 := Tryd.underlying3
  a3 := Tryd.isAgg3
  z3 := Tryd.sizeOf3
  v3 := Tryd.zeroValue3 }
open Go.RowKit Go.Lib in
theorem Tryd.bytealg_Cutover (n : Int) (h0 : 0 <= n) (h1 : n < 4611686018427387904) (w : World) :
    Calls Tryd.prog 84 #[.int .i64 n] w fun e w' => e = .returned (.int .i64 ((n + 16) / 8)) /\ w' = w := Any.bytealg_Cutover Tryd.lays224 n h0 h1 w
def Tryd.lays314_ren : Go.Shelf.Ren := ⟨fun | 314 => 91 | n => n, fun | 9 => 9 | 51 => 114 | 3 => 3 | 4 => 4 | 5 => 5 | 46 => 102 | n => n, fun | n => n⟩
theorem Tryd.lays314 : Go.Proofs.Lays.n314 Tryd.prog Tryd.lays314_ren := {
  mixed := by kernel_rfl
  f314 := Tryd.func91.trans (congrArg some (by kernel_rfl))
  t3 := Tryd.underlying3
  a3 := Tryd.isAgg3
  z3 := Tryd.sizeOf3
  v3 := Tryd.zeroValue3
  t4 := Tryd.underlying4
  a4 := Tryd.isAgg4
  z4 := Tryd.sizeOf4
  v4 := Tryd.zeroValue4
  t5 := Tryd.underlying5
  a5 := Tryd.isAgg5
  z5 := Tryd.sizeOf5
  v5 := Tryd.zeroValue5
  t9 := Tryd.underlying9
  a9 := Tryd.isAgg9
  z9 := Tryd.sizeOf9
  v9 := Tryd.zeroValue9
  t46 := Tryd.underlying102
  a46 := Tryd.isAgg102
  z46 := Tryd.sizeOf102
  v46 := Tryd.zeroValue102
  t51 := Tryd.underlying114
  a51 := Tryd.isAgg114
  z51 := Tryd.sizeOf114
  v51 := Tryd.zeroValue114 }
open Go.RowKit Go.Lib in
theorem Tryd.bytealg_hashStr (sep : ByteArray) (hs : sep.size < 4294967281) (w : World) :
    Calls Tryd.prog 91 #[.string sep] w fun e w' => e = .returned (.tuple #[.int .u32 (RK.H sep.data.toList % 4294967296), .int .u32 (16777619 ^ sep.size % 4294967296)]) /\ w' = w := Any.bytealg_hashStr Tryd.lays314 sep hs w
def Tryd.lays267_ren : Go.Shelf.Ren := ⟨fun | 267 => 85 | 314 => 91 | n => n, fun | 9 => 9 | 3 => 3 | 146 => 115 | 51 => 114 | 4 => 4 | 5 => 5 | 46 => 102 | n => n, fun | n => n⟩
theorem Tryd.lays267 : Go.Proofs.Lays.n267 Tryd.prog Tryd.lays267_ren := {
  mixed := by kernel_rfl
  f267 := Tryd.func85.trans (congrArg some (by kernel_rfl))
  f314 := Tryd.func91.trans (congrArg some (by kernel_rfl))
  t3 := Tryd.underlying3
  a3 := Tryd.isAgg3
  z3 := Tryd.sizeOf3
  v3 := Tryd.zeroValue3
  t4 := Tryd.underlying4
  a4 := Tryd.isAgg4
  z4 := Tryd.sizeOf4
  v4 := Tryd.zeroValue4
  t5 := Tryd.underlying5
  a5 := Tryd.isAgg5
  z5 := Tryd.sizeOf5
  v5 := Tryd.zeroValue5
  t9 := Tryd.underlying9
  a9 := Tryd.isAgg9
  z9 := Tryd.sizeOf9
  v9 := Tryd.zeroValue9
  t46 := Tryd.underlying102
  a46 := Tryd.isAgg102
  z46 := Tryd.sizeOf102
  v46 := Tryd.zeroValue102
  t51 := Tryd.underlying114
  a51 := Tryd.isAgg114
  z51 := Tryd.sizeOf114
  v51 := Tryd.zeroValue114
  t146 := Tryd.underlying115
  a146 := Tryd.isAgg115
  z146 := Tryd.sizeOf115
  v146 := Tryd.zeroValue115 }
open Go.RowKit Go.Lib in
theorem Tryd.bytealg_IndexRabinKarp (s sep : ByteArray) (h1 : 1 <= sep.size) (h2 : sep.size <= s.size) (hs : s.size < 4294967281) (w : World) :
    Calls Tryd.prog 85 #[.string s, .string sep] w fun e w' => e = .returned (.int .i64 (Lib.index s.data.toList sep.data.toList)) /\ w' = w := Any.bytealg_IndexRabinKarp Tryd.lays267 s sep h1 h2 hs w
def Tryd.lays219_ren : Go.Shelf.Ren := ⟨fun | 219 => 76 | 217 => 82 | 225 => 83 | 224 => 84 | 267 => 85 | 266 => 90 | 314 => 91 | n => n, fun | 9 => 9 | 3 => 3 | 4 => 4 | 5 => 5 | 46 => 102 | 146 => 115 | 51 => 114 | n => n, fun | 1 => 0 | n => n⟩
theorem Tryd.lays219 : Go.Proofs.Lays.n219 Tryd.prog Tryd.lays219_ren := {
  mixed := by kernel_rfl
  f217 := Tryd.func82.trans (congrArg some (by kernel_rfl))
  f219 := Tryd.func76.trans (congrArg some (by kernel_rfl))
  f224 := Tryd.func84.trans (congrArg some (by kernel_rfl))
  f225 := Tryd.func83.trans (congrArg some (by kernel_rfl))
  f266 := Tryd.func90.trans (congrArg some (by kernel_rfl))
  f267 := Tryd.func85.trans (congrArg some (by kernel_rfl))
  f314 := Tryd.func91.trans (congrArg some (by kernel_rfl))
  t3 := Tryd.underlying3
  a3 := Tryd.isAgg3
  z3 := Tryd.sizeOf3
  v3 := Tryd.zeroValue3
  t4 := Tryd.underlying4
  a4 := Tryd.isAgg4
  z4 := Tryd.sizeOf4
  v4 := Tryd.zeroValue4
  t5 := Tryd.underlying5
  a5 := Tryd.isAgg5
  z5 := Tryd.sizeOf5
  v5 := Tryd.zeroValue5
  t9 := Tryd.underlying9
  a9 := Tryd.isAgg9
  z9 := Tryd.sizeOf9
  v9 := Tryd.zeroValue9
  t46 := Tryd.underlying102
  a46 := Tryd.isAgg102
  z46 := Tryd.sizeOf102
  v46 := Tryd.zeroValue102
  t51 := Tryd.underlying114
  a51 := Tryd.isAgg114
  z51 := Tryd.sizeOf114
  v51 := Tryd.zeroValue114
  t146 := Tryd.underlying115
  a146 := Tryd.isAgg115
  z146 := Tryd.sizeOf115
  v146 := Tryd.zeroValue115
  g1 := by kernel_rfl }
open Go.RowKit Go.Lib in
theorem Tryd.stringslite_Index_one (s : ByteArray) (c : UInt8) (w : World) :
    Calls Tryd.prog 76 #[.string s, .string ⟨#[c]⟩] w fun e w' => e = .returned (.int .i64 (Lib.indexByte s.data.toList c)) /\ w' = w := Any.stringslite_Index_one Tryd.lays219 s c w
open Go.RowKit Go.Lib in
theorem Tryd.stringslite_Index (s sub : ByteArray) (m : Int) (w : World) (hs : s.size < 4294967281) (hm : w.cell? ⟨0, 0, none⟩ = some (.int .i64 m)) :
    Calls Tryd.prog 76 #[.string s, .string sub] w fun e w' => e = .returned (.int .i64 (Lib.index s.data.toList sub.data.toList)) /\ w' = w := Any.stringslite_Index Tryd.lays219 s sub m w hs hm
def Tryd.lays143_ren : Go.Shelf.Ren := ⟨fun | 143 => 79 | 219 => 76 | 217 => 82 | 225 => 83 | 224 => 84 | 267 => 85 | 266 => 90 | 314 => 91 | n => n, fun | 9 => 9 | 3 => 3 | 4 => 4 | 5 => 5 | 46 => 102 | 146 => 115 | 51 => 114 | n => n, fun | 1 => 0 | n => n⟩
theorem Tryd.lays143 : Go.Proofs.Lays.n143 Tryd.prog Tryd.lays143_ren := {
  mixed := by kernel_rfl
  f143 := Tryd.func79.trans (congrArg some (by kernel_rfl))
  f217 := Tryd.func82.trans (congrArg some (by kernel_rfl))
  f219 := Tryd.func76.trans (congrArg some (by kernel_rfl))
  f224 := Tryd.func84.trans (congrArg some (by kernel_rfl))
  f225 := Tryd.func83.trans (congrArg some (by kernel_rfl))
  f266 := Tryd.func90.trans (congrArg some (by kernel_rfl))
  f267 := Tryd.func85.trans (congrArg some (by kernel_rfl))
  f314 := Tryd.func91.trans (congrArg some (by kernel_rfl))
  t3 := Tryd.underlying3
  a3 := Tryd.isAgg3
  z3 := Tryd.sizeOf3
  v3 := Tryd.zeroValue3
  t4 := Tryd.underlying4
  a4 := Tryd.isAgg4
  z4 := Tryd.sizeOf4
  v4 := Tryd.zeroValue4
  t5 := Tryd.underlying5
  a5 := Tryd.isAgg5
  z5 := Tryd.sizeOf5
  v5 := Tryd.zeroValue5
  t9 := Tryd.underlying9
  a9 := Tryd.isAgg9
  z9 := Tryd.sizeOf9
  v9 := Tryd.zeroValue9
  t46 := Tryd.underlying102
  a46 := Tryd.isAgg102
  z46 := Tryd.sizeOf102
  v46 := Tryd.zeroValue102
  t51 := Tryd.underlying114
  a51 := Tryd.isAgg114
  z51 := Tryd.sizeOf114
  v51 := Tryd.zeroValue114
  t146 := Tryd.underlying115
  a146 := Tryd.isAgg115
  z146 := Tryd.sizeOf115
  v146 := Tryd.zeroValue115
  g1 := by kernel_rfl }
open Go.RowKit Go.Lib in
theorem Tryd.strings_Index_one (s : ByteArray) (c : UInt8) (w : World) :
    Calls Tryd.prog 79 #[.string s, .string ⟨#[c]⟩] w fun e w' => e = .returned (.int .i64 (Lib.indexByte s.data.toList c)) /\ w' = w := Any.strings_Index_one Tryd.lays143 s c w
open Go.RowKit Go.Lib in
theorem Tryd.strings_Index (s sub : ByteArray) (m : Int) (w : World) (hs : s.size < 4294967281) (hm : w.cell? ⟨0, 0, none⟩ = some (.int .i64 m)) :
    Calls Tryd.prog 79 #[.string s, .string sub] w fun e w' => e = .returned (.int .i64 (Lib.index s.data.toList sub.data.toList)) /\ w' = w := Any.strings_Index Tryd.lays143 s sub m w hs hm
def Tryd.lays220_ren : Go.Shelf.Ren := ⟨fun | 220 => 67 | 219 => 76 | 217 => 82 | 225 => 83 | 224 => 84 | 267 => 85 | 266 => 90 | 314 => 91 | n => n, fun | 9 => 9 | 4 => 4 | 3 => 3 | 5 => 5 | 46 => 102 | 146 => 115 | 51 => 114 | n => n, fun | 1 => 0 | n => n⟩
theorem Tryd.lays220 : Go.Proofs.Lays.n220 Tryd.prog Tryd.lays220_ren := {
  mixed := by kernel_rfl
  f217 := Tryd.func82.trans (congrArg some (by kernel_rfl))
  f219 := Tryd.func76.trans (congrArg some (by kernel_rfl))
  f220 := Tryd.func67.trans (congrArg some (by kernel_rfl))
  f224 := Tryd.func84.trans (congrArg some (by kernel_rfl))
  f225 := Tryd.func83.trans (congrArg some (by kernel_rfl))
  f266 := Tryd.func90.trans (congrArg some (by kernel_rfl))
  f267 := Tryd.func85.trans (congrArg some (by kernel_rfl))
  f314 := Tryd.func91.trans (congrArg some (by kernel_rfl))
  t3 := Tryd.underlying3
  a3 := Tryd.isAgg3
  z3 := Tryd.sizeOf3
  v3 := Tryd.zeroValue3
  t4 := Tryd.underlying4
  a4 := Tryd.isAgg4
  z4 := Tryd.sizeOf4
  v4 := Tryd.zeroValue4
  t5 := Tryd.underlying5
  a5 := Tryd.isAgg5
  z5 := Tryd.sizeOf5
  v5 := Tryd.zeroValue5
  t9 := Tryd.underlying9
  a9 := Tryd.isAgg9
  z9 := Tryd.sizeOf9
  v9 := Tryd.zeroValue9
  t46 := Tryd.underlying102
  a46 := Tryd.isAgg102
  z46 := Tryd.sizeOf102
  v46 := Tryd.zeroValue102
  t51 := Tryd.underlying114
  a51 := Tryd.isAgg114
  z51 := Tryd.sizeOf114
  v51 := Tryd.zeroValue114
  t146 := Tryd.underlying115
  a146 := Tryd.isAgg115
  z146 := Tryd.sizeOf115
  v146 := Tryd.zeroValue115
  g1 := by kernel_rfl }
open Go.RowKit Go.Lib in
theorem Tryd.stringslite_Cut (s sep : ByteArray) (m : Int) (w : World) (hs : s.size < 4294967281) (hm : w.cell? ⟨0, 0, none⟩ = some (.int .i64 m)) :
    Calls Tryd.prog 67 #[.string s, .string sep] w fun e w' => e = .returned (.tuple #[.string ⟨(Lib.cut s.data.toList sep.data.toList).1.toArray⟩, .string ⟨(Lib.cut s.data.toList sep.data.toList).2.1.toArray⟩, .bool (Lib.cut s.data.toList sep.data.toList).2.2]) /\ ∃ n, w' = w.drewN n := Any.stringslite_Cut Tryd.lays220 s sep m w hs hm
def Tryd.lays145_ren : Go.Shelf.Ren := ⟨fun | 145 => 48 | 220 => 67 | 219 => 76 | 217 => 82 | 225 => 83 | 224 => 84 | 267 => 85 | 266 => 90 | 314 => 91 | n => n, fun | 9 => 9 | 4 => 4 | 59 => 75 | 3 => 3 | 5 => 5 | 46 => 102 | 146 => 115 | 51 => 114 | n => n, fun | 1 => 0 | n => n⟩
theorem Tryd.lays145 : Go.Proofs.Lays.n145 Tryd.prog Tryd.lays145_ren := {
  mixed := by kernel_rfl
  f145 := Tryd.func48.trans (congrArg some (by kernel_rfl))
  f217 := Tryd.func82.trans (congrArg some (by kernel_rfl))
  f219 := Tryd.func76.trans (congrArg some (by kernel_rfl))
  f220 := Tryd.func67.trans (congrArg some (by kernel_rfl))
  f224 := Tryd.func84.trans (congrArg some (by kernel_rfl))
  f225 := Tryd.func83.trans (congrArg some (by kernel_rfl))
  f266 := Tryd.func90.trans (congrArg some (by kernel_rfl))
  f267 := Tryd.func85.trans (congrArg some (by kernel_rfl))
  f314 := Tryd.func91.trans (congrArg some (by kernel_rfl))
  t3 := Tryd.underlying3
  a3 := Tryd.isAgg3
  z3 := Tryd.sizeOf3
  v3 := Tryd.zeroValue3
  t4 := Tryd.underlying4
  a4 := Tryd.isAgg4
  z4 := Tryd.sizeOf4
  v4 := Tryd.zeroValue4
  t5 := Tryd.underlying5
  a5 := Tryd.isAgg5
  z5 := Tryd.sizeOf5
  v5 := Tryd.zeroValue5
  t9 := Tryd.underlying9
  a9 := Tryd.isAgg9
  z9 := Tryd.sizeOf9
  v9 := Tryd.zeroValue9
  t46 := Tryd.underlying102
  a46 := Tryd.isAgg102
  z46 := Tryd.sizeOf102
  v46 := Tryd.zeroValue102
  t51 := Tryd.underlying114
  a51 := Tryd.isAgg114
  z51 := Tryd.sizeOf114
  v51 := Tryd.zeroValue114
  t59 := Tryd.underlying75
  a59 := Tryd.isAgg75
  z59 := Tryd.sizeOf75
  v59 := Tryd.zeroValue75
  t146 := Tryd.underlying115
  a146 := Tryd.isAgg115
  z146 := Tryd.sizeOf115
  v146 := Tryd.zeroValue115
  g1 := by kernel_rfl }
open Go.RowKit Go.Lib in
theorem Tryd.strings_Cut (s sep : ByteArray) (m : Int) (w : World) (hs : s.size < 4294967281) (hm : w.cell? ⟨0, 0, none⟩ = some (.int .i64 m)) :
    Calls Tryd.prog 48 #[.string s, .string sep] w fun e w' => e = .returned (.tuple #[.string ⟨(Lib.cut s.data.toList sep.data.toList).1.toArray⟩, .string ⟨(Lib.cut s.data.toList sep.data.toList).2.1.toArray⟩, .bool (Lib.cut s.data.toList sep.data.toList).2.2]) /\ ∃ n, w' = w.drewN n := Any.strings_Cut Tryd.lays145 s sep m w hs hm
def Tryd.lays138_ren : Go.Shelf.Ren := ⟨fun | 138 => 78 | 195 => 86 | 218 => 88 | 143 => 79 | 219 => 76 | 217 => 82 | 225 => 83 | 224 => 84 | 267 => 85 | 266 => 90 | 314 => 91 | n => n, fun | 9 => 9 | 3 => 3 | 4 => 4 | 5 => 5 | 0 => 0 | 46 => 102 | 146 => 115 | 51 => 114 | n => n, fun | 1 => 0 | n => n⟩
theorem Tryd.lays138 : Go.Proofs.Lays.n138 Tryd.prog Tryd.lays138_ren := {
  mixed := by kernel_rfl
  f138 := Tryd.func78.trans (congrArg some (by kernel_rfl))
  f143 := Tryd.func79.trans (congrArg some (by kernel_rfl))
  f195 := Tryd.func86.trans (congrArg some (by kernel_rfl))
  f217 := Tryd.func82.trans (congrArg some (by kernel_rfl))
  f218 := Tryd.func88.trans (congrArg some (by kernel_rfl))
  f219 := Tryd.func76.trans (congrArg some (by kernel_rfl))
  f224 := Tryd.func84.trans (congrArg some (by kernel_rfl))
  f225 := Tryd.func83.trans (congrArg some (by kernel_rfl))
  f266 := Tryd.func90.trans (congrArg some (by kernel_rfl))
  f267 := Tryd.func85.trans (congrArg some (by kernel_rfl))
  f314 := Tryd.func91.trans (congrArg some (by kernel_rfl))
  t0 := Tryd.underlying0
  a0 := Tryd.isAgg0
  z0 := Tryd.sizeOf0
  v0 := Tryd.zeroValue0
  t3 := Tryd.underlying3
  a3 := Tryd.isAgg3
  z3 := Tryd.sizeOf3
  v3 := Tryd.zeroValue3
  t4 := Tryd.underlying4
  a4 := Tryd.isAgg4
  z4 := Tryd.sizeOf4
  v4 := Tryd.zeroValue4
  t5 := Tryd.underlying5
  a5 := Tryd.isAgg5
  z5 := Tryd.sizeOf5
  v5 := Tryd.zeroValue5
  t9 := Tryd.underlying9
  a9 := Tryd.isAgg9
  z9 := Tryd.sizeOf9
  v9 := Tryd.zeroValue9
  t46 := Tryd.underlying102
  a46 := Tryd.isAgg102
  z46 := Tryd.sizeOf102
  v46 := Tryd.zeroValue102
  t51 := Tryd.underlying114
  a51 := Tryd.isAgg114
  z51 := Tryd.sizeOf114
  v51 := Tryd.zeroValue114
  t146 := Tryd.underlying115
  a146 := Tryd.isAgg115
  z146 := Tryd.sizeOf115
  v146 := Tryd.zeroValue115
  g1 := by kernel_rfl }
open Go.RowKit Go.Lib in
theorem Tryd.strings_Count_one (s : ByteArray) (c : UInt8) (w : World) :
    Calls Tryd.prog 78 #[.string s, .string ⟨#[c]⟩] w fun e w' => e = .returned (.int .i64 (Lib.countByte s.data.toList c)) /\ w' = w := Any.strings_Count_one Tryd.lays138 s c w
open Go.RowKit Go.Lib in
theorem Tryd.strings_Count (s sub : ByteArray) (m : Int) (w : World) (hs : s.size < 4294967281) (hm : w.cell? ⟨0, 0, none⟩ = some (.int .i64 m)) (h2 : 2 <= sub.size) :
    Calls Tryd.prog 78 #[.string s, .string sub] w fun e w' => e = .returned (.int .i64 (Lib.countB s sub)) /\ w' = w := Any.strings_Count Tryd.lays138 s sub m w hs hm h2
def Tryd.laysM219_ren : Go.Shelf.Ren := ⟨fun | 219 => 76 | 217 => 82 | 225 => 83 | 224 => 84 | 267 => 85 | 266 => 90 | 314 => 91 | n => n, fun | 9 => 9 | 3 => 3 | 4 => 4 | 5 => 5 | 46 => 102 | 146 => 115 | 51 => 114 | n => n, fun | 1 => 0 | n => n⟩
theorem Tryd.laysM219 : Go.Proofs.LaysM.n219 Tryd.prog Tryd.laysM219_ren := {
  mixed := by kernel_rfl
  f217 := Tryd.func82.trans (congrArg some (by kernel_rfl))
  f219 := Tryd.func76.trans (congrArg some (by kernel_rfl))
  f224 := Tryd.func84.trans (congrArg some (by kernel_rfl))
  f225 := Tryd.func83.trans (congrArg some (by kernel_rfl))
  f266 := Tryd.func90.trans (congrArg some (by kernel_rfl))
  f267 := Tryd.func85.trans (congrArg some (by kernel_rfl))
  f314 := Tryd.func91.trans (congrArg some (by kernel_rfl))
  t3 := Tryd.underlying3
  a3 := Tryd.isAgg3
  z3 := Tryd.sizeOf3
  v3 := Tryd.zeroValue3
  t4 := Tryd.underlying4
  a4 := Tryd.isAgg4
  z4 := Tryd.sizeOf4
  v4 := Tryd.zeroValue4
  t5 := Tryd.underlying5
  a5 := Tryd.isAgg5
  z5 := Tryd.sizeOf5
  v5 := Tryd.zeroValue5
  t9 := Tryd.underlying9
  a9 := Tryd.isAgg9
  z9 := Tryd.sizeOf9
  v9 := Tryd.zeroValue9
  t46 := Tryd.underlying102
  a46 := Tryd.isAgg102
  z46 := Tryd.sizeOf102
  v46 := Tryd.zeroValue102
  t51 := Tryd.underlying114
  a51 := Tryd.isAgg114
  z51 := Tryd.sizeOf114
  v51 := Tryd.zeroValue114
  t146 := Tryd.underlying115
  a146 := Tryd.isAgg115
  z146 := Tryd.sizeOf115
  v146 := Tryd.zeroValue115
  g1 := by kernel_rfl
  i3 := by kernel_rfl
  i4 := by kernel_rfl
  i5 := by kernel_rfl
  i9 := by kernel_rfl
  i46 := by kernel_rfl
  i51 := by kernel_rfl
  i146 := by kernel_rfl
  m1 := by kernel_rfl
  s1_3 := fun w h => Go.Proofs.cell_of_shapedOpen_int (zero := #[.int .i64 0]) (t := 3) h (of_decide_eq_true (by kernel_rfl)) (by kernel_rfl) rfl (by kernel_rfl) (by kernel_rfl) Tryd.underlying3 }
open Go.RowKit Go.Lib in
theorem Tryd.stringslite_Index_shaped (s sub : ByteArray) (w : World) (h : w.ShapedOpen Tryd.prog) (hs : s.size < 4294967281) :
    Calls Tryd.prog 76 #[.string s, .string sub] w fun e w' => e = .returned (.int .i64 (Lib.index s.data.toList sub.data.toList)) /\ w' = w := Any.stringslite_Index_shaped Tryd.laysM219 s sub w h hs
def Tryd.laysM143_ren : Go.Shelf.Ren := ⟨fun | 143 => 79 | 219 => 76 | 217 => 82 | 225 => 83 | 224 => 84 | 267 => 85 | 266 => 90 | 314 => 91 | n => n, fun | 9 => 9 | 3 => 3 | 4 => 4 | 5 => 5 | 46 => 102 | 146 => 115 | 51 => 114 | n => n, fun | 1 => 0 | n => n⟩
theorem Tryd.laysM143 : Go.Proofs.LaysM.n143 Tryd.prog Tryd.laysM143_ren := {
  mixed := by kernel_rfl
  f143 := Tryd.func79.trans (congrArg some (by kernel_rfl))
  f217 := Tryd.func82.trans (congrArg some (by kernel_rfl))
  f219 := Tryd.func76.trans (congrArg some (by kernel_rfl))
  f224 := Tryd.func84.trans (congrArg some (by kernel_rfl))
  f225 := Tryd.func83.trans (congrArg some (by kernel_rfl))
  f266 := Tryd.func90.trans (congrArg some (by kernel_rfl))
  f267 := Tryd.func85.trans (congrArg some (by kernel_rfl))
  f314 := Tryd.func91.trans (congrArg some (by kernel_rfl))
  t3 := Tryd.underlying3
  a3 := Tryd.isAgg3
  z3 := Tryd.sizeOf3
  v3 := Tryd.zeroValue3
  t4 := Tryd.underlying4
  a4 := Tryd.isAgg4
  z4 := Tryd.sizeOf4
  v4 := Tryd.zeroValue4
  t5 := Tryd.underlying5
  a5 := Tryd.isAgg5
  z5 := Tryd.sizeOf5
  v5 := Tryd.zeroValue5
  t9 := Tryd.underlying9
  a9 := Tryd.isAgg9
  z9 := Tryd.sizeOf9
  v9 := Tryd.zeroValue9
  t46 := Tryd.underlying102
  a46 := Tryd.isAgg102
  z46 := Tryd.sizeOf102
  v46 := Tryd.zeroValue102
  t51 := Tryd.underlying114
  a51 := Tryd.isAgg114
  z51 := Tryd.sizeOf114
  v51 := Tryd.zeroValue114
  t146 := Tryd.underlying115
  a146 := Tryd.isAgg115
  z146 := Tryd.sizeOf115
  v146 := Tryd.zeroValue115
  g1 := by kernel_rfl
  i3 := by kernel_rfl
  i4 := by kernel_rfl
  i5 := by kernel_rfl
  i9 := by kernel_rfl
  i46 := by kernel_rfl
  i51 := by kernel_rfl
  i146 := by kernel_rfl
  m1 := by kernel_rfl
  s1_3 := fun w h => Go.Proofs.cell_of_shapedOpen_int (zero := #[.int .i64 0]) (t := 3) h (of_decide_eq_true (by kernel_rfl)) (by kernel_rfl) rfl (by kernel_rfl) (by kernel_rfl) Tryd.underlying3 }
open Go.RowKit Go.Lib in
theorem Tryd.strings_Index_shaped (s sub : ByteArray) (w : World) (h : w.ShapedOpen Tryd.prog) (hs : s.size < 4294967281) :
    Calls Tryd.prog 79 #[.string s, .string sub] w fun e w' => e = .returned (.int .i64 (Lib.index s.data.toList sub.data.toList)) /\ w' = w := Any.strings_Index_shaped Tryd.laysM143 s sub w h hs
def Tryd.laysM220_ren : Go.Shelf.Ren := ⟨fun | 220 => 67 | 219 => 76 | 217 => 82 | 225 => 83 | 224 => 84 | 267 => 85 | 266 => 90 | 314 => 91 | n => n, fun | 9 => 9 | 4 => 4 | 3 => 3 | 5 => 5 | 46 => 102 | 146 => 115 | 51 => 114 | n => n, fun | 1 => 0 | n => n⟩
theorem Tryd.laysM220 : Go.Proofs.LaysM.n220 Tryd.prog Tryd.laysM220_ren := {
  mixed := by kernel_rfl
  f217 := Tryd.func82.trans (congrArg some (by kernel_rfl))
  f219 := Tryd.func76.trans (congrArg some (by kernel_rfl))
  f220 := Tryd.func67.trans (congrArg some (by kernel_rfl))
  f224 := Tryd.func84.trans (congrArg some (by kernel_rfl))
  f225 := Tryd.func83.trans (congrArg some (by kernel_rfl))
  f266 := Tryd.func90.trans (congrArg some (by kernel_rfl))
  f267 := Tryd.func85.trans (congrArg some (by kernel_rfl))
  f314 := Tryd.func91.trans (congrArg some (by kernel_rfl))
  t3 := Tryd.underlying3
  a3 := Tryd.isAgg3
  z3 := Tryd.sizeOf3
  v3 := Tryd.zeroValue3
  t4 := Tryd.underlying4
  a4 := Tryd.isAgg4
  z4 := Tryd.sizeOf4
  v4 := Tryd.zeroValue4
  t5 := Tryd.underlying5
  a5 := Tryd.isAgg5
  z5 := Tryd.sizeOf5
  v5 := Tryd.zeroValue5
  t9 := Tryd.underlying9
  a9 := Tryd.isAgg9
  z9 := Tryd.sizeOf9
  v9 := Tryd.zeroValue9
  t46 := Tryd.underlying102
  a46 := Tryd.isAgg102
  z46 := Tryd.sizeOf102
  v46 := Tryd.zeroValue102
  t51 := Tryd.underlying114
  a51 := Tryd.isAgg114
  z51 := Tryd.sizeOf114
  v51 := Tryd.zeroValue114
  t146 := Tryd.underlying115
  a146 := Tryd.isAgg115
  z146 := Tryd.sizeOf115
  v146 := Tryd.zeroValue115
  g1 := by kernel_rfl
  i3 := by kernel_rfl
  i4 := by kernel_rfl
  i5 := by kernel_rfl
  i9 := by kernel_rfl
  i46 := by kernel_rfl
  i51 := by kernel_rfl
  i146 := by kernel_rfl
  m1 := by kernel_rfl
  s1_3 := fun w h => Go.Proofs.cell_of_shapedOpen_int (zero := #[.int .i64 0]) (t := 3) h (of_decide_eq_true (by kernel_rfl)) (by kernel_rfl) rfl (by kernel_rfl) (by kernel_rfl) Tryd.underlying3 }
open Go.RowKit Go.Lib in
theorem Tryd.stringslite_Cut_shaped (s sep : ByteArray) (w : World) (h : w.ShapedOpen Tryd.prog) (hs : s.size < 4294967281) :
    Calls Tryd.prog 67 #[.string s, .string sep] w fun e w' => e = .returned (.tuple #[.string ⟨(Lib.cut s.data.toList sep.data.toList).1.toArray⟩, .string ⟨(Lib.cut s.data.toList sep.data.toList).2.1.toArray⟩, .bool (Lib.cut s.data.toList sep.data.toList).2.2]) /\ ∃ n, w' = w.drewN n := Any.stringslite_Cut_shaped Tryd.laysM220 s sep w h hs
def Tryd.laysM145_ren : Go.Shelf.Ren := ⟨fun | 145 => 48 | 220 => 67 | 219 => 76 | 217 => 82 | 225 => 83 | 224 => 84 | 267 => 85 | 266 => 90 | 314 => 91 | n => n, fun | 9 => 9 | 4 => 4 | 59 => 75 | 3 => 3 | 5 => 5 | 46 => 102 | 146 => 115 | 51 => 114 | n => n, fun | 1 => 0 | n => n⟩
theorem Tryd.laysM145 : Go.Proofs.LaysM.n145 Tryd.prog Tryd.laysM145_ren := {
  mixed := by kernel_rfl
  f145 := Tryd.func48.trans (congrArg some (by kernel_rfl))
  f217 := Tryd.func82.trans (congrArg some (by kernel_rfl))
  f219 := Tryd.func76.trans (congrArg some (by kernel_rfl))
  f220 := Tryd.func67.trans (congrArg some (by kernel_rfl))
  f224 := Tryd.func84.trans (congrArg some (by kernel_rfl))
  f225 := Tryd.func83.trans (congrArg some (by kernel_rfl))
  f266 := Tryd.func90.trans (congrArg some (by kernel_rfl))
  f267 := Tryd.func85.trans (congrArg some (by kernel_rfl))
  f314 := Tryd.func91.trans (congrArg some (by kernel_rfl))
  t3 := Tryd.underlying3
  a3 := Tryd.isAgg3
  z3 := Tryd.sizeOf3
  v3 := Tryd.zeroValue3
  t4 := Tryd.underlying4
  a4 := Tryd.isAgg4
  z4 := Tryd.sizeOf4
  v4 := Tryd.zeroValue4
  t5 := Tryd.underlying5
  a5 := Tryd.isAgg5
  z5 := Tryd.sizeOf5
  v5 := Tryd.zeroValue5
  t9 := Tryd.underlying9
  a9 := Tryd.isAgg9
  z9 := Tryd.sizeOf9
  v9 := Tryd.zeroValue9
  t46 := Tryd.underlying102
  a46 := Tryd.isAgg102
  z46 := Tryd.sizeOf102
  v46 := Tryd.zeroValue102
  t51 := Tryd.underlying114
  a51 := Tryd.isAgg114
  z51 := Tryd.sizeOf114
  v51 := Tryd.zeroValue114
  t59 := Tryd.underlying75
  a59 := Tryd.isAgg75
  z59 := Tryd.sizeOf75
  v59 := Tryd.zeroValue75
  t146 := Tryd.underlying115
  a146 := Tryd.isAgg115
  z146 := Tryd.sizeOf115
  v146 := Tryd.zeroValue115
  g1 := by kernel_rfl
  i3 := by kernel_rfl
  i4 := by kernel_rfl
  i5 := by kernel_rfl
  i9 := by kernel_rfl
  i46 := by kernel_rfl
  i51 := by kernel_rfl
  i59 := by kernel_rfl
  i146 := by kernel_rfl
  m1 := by kernel_rfl
  s1_3 := fun w h => Go.Proofs.cell_of_shapedOpen_int (zero := #[.int .i64 0]) (t := 3) h (of_decide_eq_true (by kernel_rfl)) (by kernel_rfl) rfl (by kernel_rfl) (by kernel_rfl) Tryd.underlying3 }
open Go.RowKit Go.Lib in
theorem Tryd.strings_Cut_shaped (s sep : ByteArray) (w : World) (h : w.ShapedOpen Tryd.prog) (hs : s.size < 4294967281) :
    Calls Tryd.prog 48 #[.string s, .string sep] w fun e w' => e = .returned (.tuple #[.string ⟨(Lib.cut s.data.toList sep.data.toList).1.toArray⟩, .string ⟨(Lib.cut s.data.toList sep.data.toList).2.1.toArray⟩, .bool (Lib.cut s.data.toList sep.data.toList).2.2]) /\ ∃ n, w' = w.drewN n := Any.strings_Cut_shaped Tryd.laysM145 s sep w h hs
def Tryd.laysM138_ren : Go.Shelf.Ren := ⟨fun | 138 => 78 | 195 => 86 | 218 => 88 | 143 => 79 | 219 => 76 | 217 => 82 | 225 => 83 | 224 => 84 | 267 => 85 | 266 => 90 | 314 => 91 | n => n, fun | 9 => 9 | 3 => 3 | 4 => 4 | 5 => 5 | 0 => 0 | 46 => 102 | 146 => 115 | 51 => 114 | n => n, fun | 1 => 0 | n => n⟩
theorem Tryd.laysM138 : Go.Proofs.LaysM.n138 Tryd.prog Tryd.laysM138_ren := {
  mixed := by kernel_rfl
  f138 := Tryd.func78.trans (congrArg some (by kernel_rfl))
  f143 := Tryd.func79.trans (congrArg some (by kernel_rfl))
  f195 := Tryd.func86.trans (congrArg some (by kernel_rfl))
  f217 := Tryd.func82.trans (congrArg some (by kernel_rfl))
  f218 := Tryd.func88.trans (congrArg some (by kernel_rfl))
  f219 := Tryd.func76.trans (congrArg some (by kernel_rfl))
  f224 := Tryd.func84.trans (congrArg some (by kernel_rfl))
  f225 := Tryd.func83.trans (congrArg some (by kernel_rfl))
  f266 := Tryd.func90.trans (congrArg some (by kernel_rfl))
  f267 := Tryd.func85.trans (congrArg some (by kernel_rfl))
  f314 := Tryd.func91.trans (congrArg some (by kernel_rfl))
  t0 := Tryd.underlying0
  a0 := Tryd.isAgg0
  z0 := Tryd.sizeOf0
  v0 := Tryd.zeroValue0
  t3 := Tryd.underlying3
  a3 := Tryd.isAgg3
  z3 := Tryd.sizeOf3
  v3 := Tryd.zeroValue3
  t4 := Tryd.underlying4
  a4 := Tryd.isAgg4
  z4 := Tryd.sizeOf4
  v4 := Tryd.zeroValue4
  t5 := Tryd.underlying5
  a5 := Tryd.isAgg5
  z5 := Tryd.sizeOf5
  v5 := Tryd.zeroValue5
  t9 := Tryd.underlying9
  a9 := Tryd.isAgg9
  z9 := Tryd.sizeOf9
  v9 := Tryd.zeroValue9
  t46 := Tryd.underlying102
  a46 := Tryd.isAgg102
  z46 := Tryd.sizeOf102
  v46 := Tryd.zeroValue102
  t51 := Tryd.underlying114
  a51 := Tryd.isAgg114
  z51 := Tryd.sizeOf114
  v51 := Tryd.zeroValue114
  t146 := Tryd.underlying115
  a146 := Tryd.isAgg115
  z146 := Tryd.sizeOf115
  v146 := Tryd.zeroValue115
  g1 := by kernel_rfl
  i0 := by kernel_rfl
  i3 := by kernel_rfl
  i4 := by kernel_rfl
  i5 := by kernel_rfl
  i9 := by kernel_rfl
  i46 := by kernel_rfl
  i51 := by kernel_rfl
  i146 := by kernel_rfl
  m1 := by kernel_rfl
  s1_3 := fun w h => Go.Proofs.cell_of_shapedOpen_int (zero := #[.int .i64 0]) (t := 3) h (of_decide_eq_true (by kernel_rfl)) (by kernel_rfl) rfl (by kernel_rfl) (by kernel_rfl) Tryd.underlying3 }
open Go.RowKit Go.Lib in
theorem Tryd.strings_Count_shaped (s sub : ByteArray) (w : World) (h : w.ShapedOpen Tryd.prog) (hs : s.size < 4294967281) (h2 : 2 <= sub.size) :
    Calls Tryd.prog 78 #[.string s, .string sub] w fun e w' => e = .returned (.int .i64 (Lib.countB s sub)) /\ w' = w := Any.strings_Count_shaped Tryd.laysM138 s sub w h hs h2
def Tryd.laysM288_ren : Go.Shelf.Ren := ⟨fun | 288 => 89 | 283 => 93 | 284 => 94 | 285 => 95 | 286 => 96 | 129 => 98 | 317 => 97 | 318 => 99 | 319 => 100 | 320 => 101 | 337 => 102 | 338 => 103 | n => n, fun | 37 => 54 | 53 => 112 | 3 => 3 | 4 => 4 | 9 => 9 | 171 => 117 | 0 => 0 | 173 => 120 | 212 => 127 | 51 => 114 | 5 => 5 | 20 => 20 | 213 => 128 | 46 => 102 | 232 => 131 | 233 => 132 | n => n, fun | 17 => 3 | 18 => 4 | 19 => 5 | n => n⟩
theorem Tryd.laysM288 : Go.Proofs.LaysM.n288 Tryd.prog Tryd.laysM288_ren := {
  mixed := by kernel_rfl
  f129 := Tryd.func98.trans (congrArg some (by kernel_rfl))
  f283 := Tryd.func93.trans (congrArg some (by kernel_rfl))
  f284 := Tryd.func94.trans (congrArg some (by kernel_rfl))
  f285 := Tryd.func95.trans (congrArg some (by kernel_rfl))
  f286 := Tryd.func96.trans (congrArg some (by kernel_rfl))
  f288 := Tryd.func89.trans (congrArg some (by kernel_rfl))
  f317 := Tryd.func97.trans (congrArg some (by kernel_rfl))
  f318 := Tryd.func99.trans (congrArg some (by kernel_rfl))
  f319 := Tryd.func100.trans (congrArg some (by kernel_rfl))
  f320 := Tryd.func101.trans (congrArg some (by kernel_rfl))
  f337 := Tryd.func102.trans (congrArg some (by kernel_rfl))
  f338 := Tryd.func103.trans (congrArg some (by kernel_rfl))
  t0 := Tryd.underlying0
  a0 := Tryd.isAgg0
  z0 := Tryd.sizeOf0
  v0 := Tryd.zeroValue0
  t3 := Tryd.underlying3
  a3 := Tryd.isAgg3
  z3 := Tryd.sizeOf3
  v3 := Tryd.zeroValue3
  t4 := Tryd.underlying4
  a4 := Tryd.isAgg4
  z4 := Tryd.sizeOf4
  v4 := Tryd.zeroValue4
  t5 := Tryd.underlying5
  a5 := Tryd.isAgg5
  z5 := Tryd.sizeOf5
  v5 := Tryd.zeroValue5
  t9 := Tryd.underlying9
  a9 := Tryd.isAgg9
  z9 := Tryd.sizeOf9
  v9 := Tryd.zeroValue9
  t20 := Tryd.underlying20
  a20 := Tryd.isAgg20
  z20 := Tryd.sizeOf20
  v20 := Tryd.zeroValue20
  t37 := Tryd.underlying54
  a37 := Tryd.isAgg54
  z37 := Tryd.sizeOf54
  v37 := Tryd.zeroValue54
  t46 := Tryd.underlying102
  a46 := Tryd.isAgg102
  z46 := Tryd.sizeOf102
  v46 := Tryd.zeroValue102
  t51 := Tryd.underlying114
  a51 := Tryd.isAgg114
  z51 := Tryd.sizeOf114
  v51 := Tryd.zeroValue114
  t53 := Tryd.underlying112
  a53 := Tryd.isAgg112
  z53 := Tryd.sizeOf112
  v53 := Tryd.zeroValue112
  t171 := Tryd.underlying117
  a171 := Tryd.isAgg117
  z171 := Tryd.sizeOf117
  v171 := Tryd.zeroValue117
  t173 := Tryd.underlying120
  a173 := Tryd.isAgg120
  z173 := Tryd.sizeOf120
  v173 := Tryd.zeroValue120
  t212 := Tryd.underlying127
  a212 := Tryd.isAgg127
  z212 := Tryd.sizeOf127
  v212 := Tryd.zeroValue127
  t213 := Tryd.underlying128
  a213 := Tryd.isAgg128
  z213 := Tryd.sizeOf128
  t232 := Tryd.underlying131
  a232 := Tryd.isAgg131
  z232 := Tryd.sizeOf131
  v232 := Tryd.zeroValue131
  t233 := Tryd.underlying132
  a233 := Tryd.isAgg132
  z233 := Tryd.sizeOf132
  v233 := Tryd.zeroValue132
  g17 := by kernel_rfl
  g18 := by kernel_rfl
  g19 := by kernel_rfl
  i0 := by kernel_rfl
  i3 := by kernel_rfl
  i4 := by kernel_rfl
  i5 := by kernel_rfl
  i9 := by kernel_rfl
  i20 := by kernel_rfl
  i37 := by kernel_rfl
  i46 := by kernel_rfl
  i51 := by kernel_rfl
  i53 := by kernel_rfl
  i171 := by kernel_rfl
  i173 := by kernel_rfl
  i212 := by kernel_rfl
  i232 := by kernel_rfl
  i233 := by kernel_rfl
  m17 := by kernel_rfl
  m18 := by kernel_rfl
  m19 := by kernel_rfl }
open Go.RowKit Go.Sort Go.Lib in
theorem Tryd.internal_strconv_AppendUint_10_small (B n u : Nat) (hu : u < 100) (sv : Value) (xs : List Value) (w : World) (hown : w.ownsRow B 5 1 sv n xs) (hBw : B <= w.heap.size) (hlim : n + 20 <= 140737488355328) :
    Calls Tryd.prog 89 #[sv, .int .u64 u, .int .i64 10] w fun e w' => ∃ v', e = .returned v' /\ w'.ownsRow B 5 1 v' (n + (Lib.decDigits u).length) (xs ++ Lib.byteCells (Lib.decDigits u)) /\ Below B w w' /\ Lib.OthersKept 5 none w w' := Any.internal_strconv_AppendUint_10_small Tryd.laysM288 B n u hu sv xs w hown hBw hlim
open Go.RowKit Go.Sort Go.Lib in
theorem Tryd.internal_strconv_AppendUint_10_big (B n u : Nat) (hu : 100 <= u) (hu64 : u < 18446744073709551616) (sv : Value) (xs : List Value) (w : World) (hown : w.ownsRow B 5 1 sv n xs) (hBw : B <= w.heap.size) (hlim : n + 20 <= 140737488355328) (htab : Lib.TabIs Tryd.prog w "internal/strconv.uint64pow10" .u64 Lib.pow10Tab) :
    Calls Tryd.prog 89 #[sv, .int .u64 u, .int .i64 10] w fun e w' => ∃ v', e = .returned v' /\ w'.ownsRow B 5 1 v' (n + (Lib.decDigits u).length) (xs ++ Lib.byteCells (Lib.decDigits u)) /\ Below B w w' /\ Lib.OthersKept 5 none w w' := Any.internal_strconv_AppendUint_10_big Tryd.laysM288 B n u hu hu64 sv xs w hown hBw hlim htab
open Go.RowKit Go.Sort Go.Lib in
theorem Tryd.internal_strconv_AppendUint_10 (B n u : Nat) (hu64 : u < 18446744073709551616) (sv : Value) (xs : List Value) (w : World) (hown : w.ownsRow B 5 1 sv n xs) (hBw : B <= w.heap.size) (hlim : n + 20 <= 140737488355328) (htab : Lib.TabIs Tryd.prog w "internal/strconv.uint64pow10" .u64 Lib.pow10Tab) :
    Calls Tryd.prog 89 #[sv, .int .u64 u, .int .i64 10] w fun e w' => ∃ v', e = .returned v' /\ w'.ownsRow B 5 1 v' (n + (Lib.decDigits u).length) (xs ++ Lib.byteCells (Lib.decDigits u)) /\ Below B w w' /\ Lib.OthersKept 5 none w w' := Any.internal_strconv_AppendUint_10 Tryd.laysM288 B n u hu64 sv xs w hown hBw hlim htab
def Tryd.laysM249_ren : Go.Shelf.Ren := ⟨fun | 249 => 80 | 288 => 89 | 283 => 93 | 284 => 94 | 285 => 95 | 286 => 96 | 129 => 98 | 317 => 97 | 318 => 99 | 319 => 100 | 320 => 101 | 337 => 102 | 338 => 103 | n => n, fun | 37 => 54 | 2 => 2 | 3 => 3 | 53 => 112 | 4 => 4 | 9 => 9 | 171 => 117 | 0 => 0 | 173 => 120 | 212 => 127 | 51 => 114 | 5 => 5 | 20 => 20 | 213 => 128 | 46 => 102 | 232 => 131 | 233 => 132 | n => n, fun | 17 => 3 | 18 => 4 | 19 => 5 | n => n⟩
theorem Tryd.laysM249 : Go.Proofs.LaysM.n249 Tryd.prog Tryd.laysM249_ren := {
  mixed := by kernel_rfl
  f129 := Tryd.func98.trans (congrArg some (by kernel_rfl))
  f249 := Tryd.func80.trans (congrArg some (by kernel_rfl))
  f283 := Tryd.func93.trans (congrArg some (by kernel_rfl))
  f284 := Tryd.func94.trans (congrArg some (by kernel_rfl))
  f285 := Tryd.func95.trans (congrArg some (by kernel_rfl))
  f286 := Tryd.func96.trans (congrArg some (by kernel_rfl))
  f288 := Tryd.func89.trans (congrArg some (by kernel_rfl))
  f317 := Tryd.func97.trans (congrArg some (by kernel_rfl))
  f318 := Tryd.func99.trans (congrArg some (by kernel_rfl))
  f319 := Tryd.func100.trans (congrArg some (by kernel_rfl))
  f320 := Tryd.func101.trans (congrArg some (by kernel_rfl))
  f337 := Tryd.func102.trans (congrArg some (by kernel_rfl))
  f338 := Tryd.func103.trans (congrArg some (by kernel_rfl))
  t0 := Tryd.underlying0
  a0 := Tryd.isAgg0
  z0 := Tryd.sizeOf0
  v0 := Tryd.zeroValue0
  t2 := Tryd.underlying2
  a2 := Tryd.isAgg2
  z2 := Tryd.sizeOf2
  v2 := Tryd.zeroValue2
  t3 := Tryd.underlying3
  a3 := Tryd.isAgg3
  z3 := Tryd.sizeOf3
  v3 := Tryd.zeroValue3
  t4 := Tryd.underlying4
  a4 := Tryd.isAgg4
  z4 := Tryd.sizeOf4
  v4 := Tryd.zeroValue4
  t5 := Tryd.underlying5
  a5 := Tryd.isAgg5
  z5 := Tryd.sizeOf5
  v5 := Tryd.zeroValue5
  t9 := Tryd.underlying9
  a9 := Tryd.isAgg9
  z9 := Tryd.sizeOf9
  v9 := Tryd.zeroValue9
  t20 := Tryd.underlying20
  a20 := Tryd.isAgg20
  z20 := Tryd.sizeOf20
  v20 := Tryd.zeroValue20
  t37 := Tryd.underlying54
  a37 := Tryd.isAgg54
  z37 := Tryd.sizeOf54
  v37 := Tryd.zeroValue54
  t46 := Tryd.underlying102
  a46 := Tryd.isAgg102
  z46 := Tryd.sizeOf102
  v46 := Tryd.zeroValue102
  t51 := Tryd.underlying114
  a51 := Tryd.isAgg114
  z51 := Tryd.sizeOf114
  v51 := Tryd.zeroValue114
  t53 := Tryd.underlying112
  a53 := Tryd.isAgg112
  z53 := Tryd.sizeOf112
  v53 := Tryd.zeroValue112
  t171 := Tryd.underlying117
  a171 := Tryd.isAgg117
  z171 := Tryd.sizeOf117
  v171 := Tryd.zeroValue117
  t173 := Tryd.underlying120
  a173 := Tryd.isAgg120
  z173 := Tryd.sizeOf120
  v173 := Tryd.zeroValue120
  t212 := Tryd.underlying127
  a212 := Tryd.isAgg127
  z212 := Tryd.sizeOf127
  v212 := Tryd.zeroValue127
  t213 := Tryd.underlying128
  a213 := Tryd.isAgg128
  z213 := Tryd.sizeOf128
  t232 := Tryd.underlying131
  a232 := Tryd.isAgg131
  z232 := Tryd.sizeOf131
  v232 := Tryd.zeroValue131
  t233 := Tryd.underlying132
  a233 := Tryd.isAgg132
  z233 := Tryd.sizeOf132
  v233 := Tryd.zeroValue132
  g17 := by kernel_rfl
  g18 := by kernel_rfl
  g19 := by kernel_rfl
  i0 := by kernel_rfl
  i2 := by kernel_rfl
  i3 := by kernel_rfl
  i4 := by kernel_rfl
  i5 := by kernel_rfl
  i9 := by kernel_rfl
  i20 := by kernel_rfl
  i37 := by kernel_rfl
  i46 := by kernel_rfl
  i51 := by kernel_rfl
  i53 := by kernel_rfl
  i171 := by kernel_rfl
  i173 := by kernel_rfl
  i212 := by kernel_rfl
  i232 := by kernel_rfl
  i233 := by kernel_rfl
  m17 := by kernel_rfl
  m18 := by kernel_rfl
  m19 := by kernel_rfl }
open Go.RowKit Go.Sort Go.Lib in
theorem Tryd.internal_strconv_AppendInt_10 (B n : Nat) (i : Int) (h0 : -9223372036854775808 <= i) (h1 : i <= 9223372036854775807) (sv : Value) (xs : List Value) (w : World) (hown : w.ownsRow B 5 1 sv n xs) (hBw : B <= w.heap.size) (hlim : n + 21 <= 140737488355328) (htab : Lib.TabBelow Tryd.prog B w "internal/strconv.uint64pow10" .u64 Lib.pow10Tab) :
    Calls Tryd.prog 80 #[sv, .int .i64 i, .int .i64 10] w fun e w' => ∃ v', e = .returned v' /\ w'.ownsRow B 5 1 v' (n + (Lib.itoa i).length) (xs ++ Lib.byteCells (Lib.itoa i)) /\ Below B w w' /\ Lib.OthersKept 5 none w w' := Any.internal_strconv_AppendInt_10 Tryd.laysM249 B n i h0 h1 sv xs w hown hBw hlim htab
def Tryd.laysM176_ren : Go.Shelf.Ren := ⟨fun | 176 => 70 | 249 => 80 | 288 => 89 | 283 => 93 | 284 => 94 | 285 => 95 | 286 => 96 | 129 => 98 | 317 => 97 | 318 => 99 | 319 => 100 | 320 => 101 | 337 => 102 | 338 => 103 | n => n, fun | 37 => 54 | 2 => 2 | 3 => 3 | 53 => 112 | 4 => 4 | 9 => 9 | 171 => 117 | 0 => 0 | 173 => 120 | 212 => 127 | 51 => 114 | 5 => 5 | 20 => 20 | 213 => 128 | 46 => 102 | 232 => 131 | 233 => 132 | n => n, fun | 17 => 3 | 18 => 4 | 19 => 5 | n => n⟩
theorem Tryd.laysM176 : Go.Proofs.LaysM.n176 Tryd.prog Tryd.laysM176_ren := {
  mixed := by kernel_rfl
  f129 := Tryd.func98.trans (congrArg some (by kernel_rfl))
  f176 := Tryd.func70.trans (congrArg some (by kernel_rfl))
  f249 := Tryd.func80.trans (congrArg some (by kernel_rfl))
  f283 := Tryd.func93.trans (congrArg some (by kernel_rfl))
  f284 := Tryd.func94.trans (congrArg some (by kernel_rfl))
  f285 := Tryd.func95.trans (congrArg some (by kernel_rfl))
  f286 := Tryd.func96.trans (congrArg some (by kernel_rfl))
  f288 := Tryd.func89.trans (congrArg some (by kernel_rfl))
  f317 := Tryd.func97.trans (congrArg some (by kernel_rfl))
  f318 := Tryd.func99.trans (congrArg some (by kernel_rfl))
  f319 := Tryd.func100.trans (congrArg some (by kernel_rfl))
  f320 := Tryd.func101.trans (congrArg some (by kernel_rfl))
  f337 := Tryd.func102.trans (congrArg some (by kernel_rfl))
  f338 := Tryd.func103.trans (congrArg some (by kernel_rfl))
  t0 := Tryd.underlying0
  a0 := Tryd.isAgg0
  z0 := Tryd.sizeOf0
  v0 := Tryd.zeroValue0
  t2 := Tryd.underlying2
  a2 := Tryd.isAgg2
  z2 := Tryd.sizeOf2
  v2 := Tryd.zeroValue2
  t3 := Tryd.underlying3
  a3 := Tryd.isAgg3
  z3 := Tryd.sizeOf3
  v3 := Tryd.zeroValue3
  t4 := Tryd.underlying4
  a4 := Tryd.isAgg4
  z4 := Tryd.sizeOf4
  v4 := Tryd.zeroValue4
  t5 := Tryd.underlying5
  a5 := Tryd.isAgg5
  z5 := Tryd.sizeOf5
  v5 := Tryd.zeroValue5
  t9 := Tryd.underlying9
  a9 := Tryd.isAgg9
  z9 := Tryd.sizeOf9
  v9 := Tryd.zeroValue9
  t20 := Tryd.underlying20
  a20 := Tryd.isAgg20
  z20 := Tryd.sizeOf20
  v20 := Tryd.zeroValue20
  t37 := Tryd.underlying54
  a37 := Tryd.isAgg54
  z37 := Tryd.sizeOf54
  v37 := Tryd.zeroValue54
  t46 := Tryd.underlying102
  a46 := Tryd.isAgg102
  z46 := Tryd.sizeOf102
  v46 := Tryd.zeroValue102
  t51 := Tryd.underlying114
  a51 := Tryd.isAgg114
  z51 := Tryd.sizeOf114
  v51 := Tryd.zeroValue114
  t53 := Tryd.underlying112
  a53 := Tryd.isAgg112
  z53 := Tryd.sizeOf112
  v53 := Tryd.zeroValue112
  t171 := Tryd.underlying117
  a171 := Tryd.isAgg117
  z171 := Tryd.sizeOf117
  v171 := Tryd.zeroValue117
  t173 := Tryd.underlying120
  a173 := Tryd.isAgg120
  z173 := Tryd.sizeOf120
  v173 := Tryd.zeroValue120
  t212 := Tryd.underlying127
  a212 := Tryd.isAgg127
  z212 := Tryd.sizeOf127
  v212 := Tryd.zeroValue127
  t213 := Tryd.underlying128
  a213 := Tryd.isAgg128
  z213 := Tryd.sizeOf128
  t232 := Tryd.underlying131
  a232 := Tryd.isAgg131
  z232 := Tryd.sizeOf131
  v232 := Tryd.zeroValue131
  t233 := Tryd.underlying132
  a233 := Tryd.isAgg132
  z233 := Tryd.sizeOf132
  v233 := Tryd.zeroValue132
  g17 := by kernel_rfl
  g18 := by kernel_rfl
  g19 := by kernel_rfl
  i0 := by kernel_rfl
  i2 := by kernel_rfl
  i3 := by kernel_rfl
  i4 := by kernel_rfl
  i5 := by kernel_rfl
  i9 := by kernel_rfl
  i20 := by kernel_rfl
  i37 := by kernel_rfl
  i46 := by kernel_rfl
  i51 := by kernel_rfl
  i53 := by kernel_rfl
  i171 := by kernel_rfl
  i173 := by kernel_rfl
  i212 := by kernel_rfl
  i232 := by kernel_rfl
  i233 := by kernel_rfl
  m17 := by kernel_rfl
  m18 := by kernel_rfl
  m19 := by kernel_rfl }
open Go.RowKit Go.Sort Go.Lib in
theorem Tryd.strconv_AppendInt_10 (B n : Nat) (i : Int) (h0 : -9223372036854775808 <= i) (h1 : i <= 9223372036854775807) (sv : Value) (xs : List Value) (w : World) (hown : w.ownsRow B 5 1 sv n xs) (hBw : B <= w.heap.size) (hlim : n + 21 <= 140737488355328) (htab : Lib.TabBelow Tryd.prog B w "internal/strconv.uint64pow10" .u64 Lib.pow10Tab) :
    Calls Tryd.prog 70 #[sv, .int .i64 i, .int .i64 10] w fun e w' => ∃ v', e = .returned v' /\ w'.ownsRow B 5 1 v' (n + (Lib.itoa i).length) (xs ++ Lib.byteCells (Lib.itoa i)) /\ Below B w w' /\ Lib.OthersKept 5 none w w' := Any.strconv_AppendInt_10 Tryd.laysM176 B n i h0 h1 sv xs w hown hBw hlim htab
open Go.RowKit Go.Lib in
theorem Tryd.strings_Count_any (s sep : ByteArray) (m : Int) (w : World) (hs : s.size < 4294967281) (hm : w.cell? ⟨0, 0, none⟩ = some (.int .i64 m)) (h1 : 1 <= sep.size) :
    Calls Tryd.prog 78 #[.string s, .string sep] w fun e w' => e = .returned (.int .i64 (Lib.countB s sep)) /\ w' = w := Any.strings_Count_any Tryd.lays138 s sep m w hs hm h1
def Tryd.lays221_ren : Go.Shelf.Ren := ⟨fun | 221 => 68 | 268 => 77 | 138 => 78 | 143 => 79 | 195 => 86 | 197 => 87 | 218 => 88 | 219 => 76 | 260 => 92 | 217 => 82 | 225 => 83 | 224 => 84 | 267 => 85 | 266 => 90 | 314 => 91 | n => n, fun | 9 => 9 | 3 => 3 | 31 => 77 | 4 => 4 | 0 => 0 | 105 => 110 | 21 => 21 | 5 => 5 | 46 => 102 | 119 => 122 | 139 => 125 | 138 => 124 | 146 => 115 | 51 => 114 | n => n, fun | 1 => 0 | 3 => 1 | 4 => 2 | n => n⟩
theorem Tryd.lays221 : Go.Proofs.Lays.n221 Tryd.prog Tryd.lays221_ren := {
  mixed := by kernel_rfl
  f138 := Tryd.func78.trans (congrArg some (by kernel_rfl))
  f143 := Tryd.func79.trans (congrArg some (by kernel_rfl))
  f195 := Tryd.func86.trans (congrArg some (by kernel_rfl))
  f197 := Tryd.func87.trans (congrArg some (by kernel_rfl))
  f217 := Tryd.func82.trans (congrArg some (by kernel_rfl))
  f218 := Tryd.func88.trans (congrArg some (by kernel_rfl))
  f219 := Tryd.func76.trans (congrArg some (by kernel_rfl))
  f221 := Tryd.func68.trans (congrArg some (by kernel_rfl))
  f224 := Tryd.func84.trans (congrArg some (by kernel_rfl))
  f225 := Tryd.func83.trans (congrArg some (by kernel_rfl))
  f260 := Tryd.func92.trans (congrArg some (by kernel_rfl))
  f266 := Tryd.func90.trans (congrArg some (by kernel_rfl))
  f267 := Tryd.func85.trans (congrArg some (by kernel_rfl))
  f268 := Tryd.func77.trans (congrArg some (by kernel_rfl))
  f314 := Tryd.func91.trans (congrArg some (by kernel_rfl))
  t0 := Tryd.underlying0
  a0 := Tryd.isAgg0
  z0 := Tryd.sizeOf0
  v0 := Tryd.zeroValue0
  t3 := Tryd.underlying3
  a3 := Tryd.isAgg3
  z3 := Tryd.sizeOf3
  v3 := Tryd.zeroValue3
  t4 := Tryd.underlying4
  a4 := Tryd.isAgg4
  z4 := Tryd.sizeOf4
  v4 := Tryd.zeroValue4
  t5 := Tryd.underlying5
  a5 := Tryd.isAgg5
  z5 := Tryd.sizeOf5
  v5 := Tryd.zeroValue5
  t9 := Tryd.underlying9
  a9 := Tryd.isAgg9
  z9 := Tryd.sizeOf9
  v9 := Tryd.zeroValue9
  t21 := Tryd.underlying21
  a21 := Tryd.isAgg21
  z21 := Tryd.sizeOf21
  v21 := Tryd.zeroValue21
  t31 := Tryd.underlying77
  a31 := Tryd.isAgg77
  z31 := Tryd.sizeOf77
  v31 := Tryd.zeroValue77
  t46 := Tryd.underlying102
  a46 := Tryd.isAgg102
  z46 := Tryd.sizeOf102
  v46 := Tryd.zeroValue102
  t51 := Tryd.underlying114
  a51 := Tryd.isAgg114
  z51 := Tryd.sizeOf114
  v51 := Tryd.zeroValue114
  t105 := Tryd.underlying110
  a105 := Tryd.isAgg110
  z105 := Tryd.sizeOf110
  v105 := Tryd.zeroValue110
  t119 := Tryd.underlying122
  a119 := Tryd.isAgg122
  z119 := Tryd.sizeOf122
  t138 := Tryd.underlying124
  a138 := Tryd.isAgg124
  z138 := Tryd.sizeOf124
  v138 := Tryd.zeroValue124
  t139 := Tryd.underlying125
  a139 := Tryd.isAgg125
  z139 := Tryd.sizeOf125
  v139 := Tryd.zeroValue125
  t146 := Tryd.underlying115
  a146 := Tryd.isAgg115
  z146 := Tryd.sizeOf115
  v146 := Tryd.zeroValue115
  g1 := by kernel_rfl
  g3 := by kernel_rfl
  g4 := by kernel_rfl }
open Go.RowKit Go.Lib in
theorem Tryd.strings_genSplit (s sep : ByteArray) (sv : Nat) (n : Int) (N : Nat) (m : Int) (w : World) (hs : s.size < 4294967281) (hm : w.cell? ⟨0, 0, none⟩ = some (.int .i64 m)) (h1 : 1 <= sep.size) (hsv : sv <= sep.size) (hn0 : n ≠ 0) (hn63 : n <= 9223372036854775807) (hN : (N : Int) = min (if n < 0 then (Lib.countB s sep : Int) + 1 else n) ((s.size : Int) + 1)) :
    Calls Tryd.prog 68 #[.string s, .string sep, .int .i64 sv, .int .i64 n] w fun e w' =>
      e = .returned (.slice (some ⟨w.heap.size, 0, none⟩) (Lib.splitB sep sv (N - 1) s).length N) /\ w' = w.alloc (.cells (Lib.cellsOf (Lib.splitB sep sv (N - 1) s) N) 9) := Any.strings_genSplit Tryd.lays221 (by kernel_rfl) s sep sv n N m w hs hm h1 hsv hn0 hn63 hN
def Tryd.lays146_ren : Go.Shelf.Ren := ⟨fun | 146 => 49 | 221 => 68 | 268 => 77 | 138 => 78 | 143 => 79 | 195 => 86 | 197 => 87 | 218 => 88 | 219 => 76 | 260 => 92 | 217 => 82 | 225 => 83 | 224 => 84 | 267 => 85 | 266 => 90 | 314 => 91 | n => n, fun | 9 => 9 | 31 => 77 | 3 => 3 | 4 => 4 | 0 => 0 | 105 => 110 | 21 => 21 | 5 => 5 | 46 => 102 | 119 => 122 | 139 => 125 | 138 => 124 | 146 => 115 | 51 => 114 | n => n, fun | 1 => 0 | 3 => 1 | 4 => 2 | n => n⟩
theorem Tryd.lays146 : Go.Proofs.Lays.n146 Tryd.prog Tryd.lays146_ren := {
  mixed := by kernel_rfl
  f138 := Tryd.func78.trans (congrArg some (by kernel_rfl))
  f143 := Tryd.func79.trans (congrArg some (by kernel_rfl))
  f146 := Tryd.func49.trans (congrArg some (by kernel_rfl))
  f195 := Tryd.func86.trans (congrArg some (by kernel_rfl))
  f197 := Tryd.func87.trans (congrArg some (by kernel_rfl))
  f217 := Tryd.func82.trans (congrArg some (by kernel_rfl))
  f218 := Tryd.func88.trans (congrArg some (by kernel_rfl))
  f219 := Tryd.func76.trans (congrArg some (by kernel_rfl))
  f221 := Tryd.func68.trans (congrArg some (by kernel_rfl))
  f224 := Tryd.func84.trans (congrArg some (by kernel_rfl))
  f225 := Tryd.func83.trans (congrArg some (by kernel_rfl))
  f260 := Tryd.func92.trans (congrArg some (by kernel_rfl))
  f266 := Tryd.func90.trans (congrArg some (by kernel_rfl))
  f267 := Tryd.func85.trans (congrArg some (by kernel_rfl))
  f268 := Tryd.func77.trans (congrArg some (by kernel_rfl))
  f314 := Tryd.func91.trans (congrArg some (by kernel_rfl))
  t0 := Tryd.underlying0
  a0 := Tryd.isAgg0
  z0 := Tryd.sizeOf0
  v0 := Tryd.zeroValue0
  t3 := Tryd.underlying3
  a3 := Tryd.isAgg3
  z3 := Tryd.sizeOf3
  v3 := Tryd.zeroValue3
  t4 := Tryd.underlying4
  a4 := Tryd.isAgg4
  z4 := Tryd.sizeOf4
  v4 := Tryd.zeroValue4
  t5 := Tryd.underlying5
  a5 := Tryd.isAgg5
  z5 := Tryd.sizeOf5
  v5 := Tryd.zeroValue5
  t9 := Tryd.underlying9
  a9 := Tryd.isAgg9
  z9 := Tryd.sizeOf9
  v9 := Tryd.zeroValue9
  t21 := Tryd.underlying21
  a21 := Tryd.isAgg21
  z21 := Tryd.sizeOf21
  v21 := Tryd.zeroValue21
  t31 := Tryd.underlying77
  a31 := Tryd.isAgg77
  z31 := Tryd.sizeOf77
  v31 := Tryd.zeroValue77
  t46 := Tryd.underlying102
  a46 := Tryd.isAgg102
  z46 := Tryd.sizeOf102
  v46 := Tryd.zeroValue102
  t51 := Tryd.underlying114
  a51 := Tryd.isAgg114
  z51 := Tryd.sizeOf114
  v51 := Tryd.zeroValue114
  t105 := Tryd.underlying110
  a105 := Tryd.isAgg110
  z105 := Tryd.sizeOf110
  v105 := Tryd.zeroValue110
  t119 := Tryd.underlying122
  a119 := Tryd.isAgg122
  z119 := Tryd.sizeOf122
  t138 := Tryd.underlying124
  a138 := Tryd.isAgg124
  z138 := Tryd.sizeOf124
  v138 := Tryd.zeroValue124
  t139 := Tryd.underlying125
  a139 := Tryd.isAgg125
  z139 := Tryd.sizeOf125
  v139 := Tryd.zeroValue125
  t146 := Tryd.underlying115
  a146 := Tryd.isAgg115
  z146 := Tryd.sizeOf115
  v146 := Tryd.zeroValue115
  g1 := by kernel_rfl
  g3 := by kernel_rfl
  g4 := by kernel_rfl }
open Go.RowKit Go.Lib in
theorem Tryd.strings_Split (s sep : ByteArray) (m : Int) (w : World) (hs : s.size < 4294967281) (hm : w.cell? ⟨0, 0, none⟩ = some (.int .i64 m)) (h1 : 1 <= sep.size) :
    Calls Tryd.prog 49 #[.string s, .string sep] w fun e w' =>
      e = .returned (.slice (some ⟨w.heap.size, 0, none⟩) (Lib.countB s sep + 1) (Lib.countB s sep + 1)) /\ w' = w.alloc (.cells ((Lib.splitB sep 0 (Lib.countB s sep) s).map Value.string).toArray 9) := Any.strings_Split Tryd.lays146 (by kernel_rfl) s sep m w hs hm h1
def Tryd.laysM146_ren : Go.Shelf.Ren := ⟨fun | 146 => 49 | 221 => 68 | 268 => 77 | 138 => 78 | 143 => 79 | 195 => 86 | 197 => 87 | 218 => 88 | 219 => 76 | 260 => 92 | 217 => 82 | 225 => 83 | 224 => 84 | 267 => 85 | 266 => 90 | 314 => 91 | n => n, fun | 9 => 9 | 31 => 77 | 3 => 3 | 4 => 4 | 0 => 0 | 105 => 110 | 21 => 21 | 5 => 5 | 46 => 102 | 119 => 122 | 139 => 125 | 138 => 124 | 146 => 115 | 51 => 114 | n => n, fun | 1 => 0 | 3 => 1 | 4 => 2 | n => n⟩
theorem Tryd.laysM146 : Go.Proofs.LaysM.n146 Tryd.prog Tryd.laysM146_ren := {
  mixed := by kernel_rfl
  f138 := Tryd.func78.trans (congrArg some (by kernel_rfl))
  f143 := Tryd.func79.trans (congrArg some (by kernel_rfl))
  f146 := Tryd.func49.trans (congrArg some (by kernel_rfl))
  f195 := Tryd.func86.trans (congrArg some (by kernel_rfl))
  f197 := Tryd.func87.trans (congrArg some (by kernel_rfl))
  f217 := Tryd.func82.trans (congrArg some (by kernel_rfl))
  f218 := Tryd.func88.trans (congrArg some (by kernel_rfl))
  f219 := Tryd.func76.trans (congrArg some (by kernel_rfl))
  f221 := Tryd.func68.trans (congrArg some (by kernel_rfl))
  f224 := Tryd.func84.trans (congrArg some (by kernel_rfl))
  f225 := Tryd.func83.trans (congrArg some (by kernel_rfl))
  f260 := Tryd.func92.trans (congrArg some (by kernel_rfl))
  f266 := Tryd.func90.trans (congrArg some (by kernel_rfl))
  f267 := Tryd.func85.trans (congrArg some (by kernel_rfl))
  f268 := Tryd.func77.trans (congrArg some (by kernel_rfl))
  f314 := Tryd.func91.trans (congrArg some (by kernel_rfl))
  t0 := Tryd.underlying0
  a0 := Tryd.isAgg0
  z0 := Tryd.sizeOf0
  v0 := Tryd.zeroValue0
  t3 := Tryd.underlying3
  a3 := Tryd.isAgg3
  z3 := Tryd.sizeOf3
  v3 := Tryd.zeroValue3
  t4 := Tryd.underlying4
  a4 := Tryd.isAgg4
  z4 := Tryd.sizeOf4
  v4 := Tryd.zeroValue4
  t5 := Tryd.underlying5
  a5 := Tryd.isAgg5
  z5 := Tryd.sizeOf5
  v5 := Tryd.zeroValue5
  t9 := Tryd.underlying9
  a9 := Tryd.isAgg9
  z9 := Tryd.sizeOf9
  v9 := Tryd.zeroValue9
  t21 := Tryd.underlying21
  a21 := Tryd.isAgg21
  z21 := Tryd.sizeOf21
  v21 := Tryd.zeroValue21
  t31 := Tryd.underlying77
  a31 := Tryd.isAgg77
  z31 := Tryd.sizeOf77
  v31 := Tryd.zeroValue77
  t46 := Tryd.underlying102
  a46 := Tryd.isAgg102
  z46 := Tryd.sizeOf102
  v46 := Tryd.zeroValue102
  t51 := Tryd.underlying114
  a51 := Tryd.isAgg114
  z51 := Tryd.sizeOf114
  v51 := Tryd.zeroValue114
  t105 := Tryd.underlying110
  a105 := Tryd.isAgg110
  z105 := Tryd.sizeOf110
  v105 := Tryd.zeroValue110
  t119 := Tryd.underlying122
  a119 := Tryd.isAgg122
  z119 := Tryd.sizeOf122
  t138 := Tryd.underlying124
  a138 := Tryd.isAgg124
  z138 := Tryd.sizeOf124
  v138 := Tryd.zeroValue124
  t139 := Tryd.underlying125
  a139 := Tryd.isAgg125
  z139 := Tryd.sizeOf125
  v139 := Tryd.zeroValue125
  t146 := Tryd.underlying115
  a146 := Tryd.isAgg115
  z146 := Tryd.sizeOf115
  v146 := Tryd.zeroValue115
  g1 := by kernel_rfl
  g3 := by kernel_rfl
  g4 := by kernel_rfl
  i0 := by kernel_rfl
  i3 := by kernel_rfl
  i4 := by kernel_rfl
  i5 := by kernel_rfl
  i9 := by kernel_rfl
  i21 := by kernel_rfl
  i31 := by kernel_rfl
  i46 := by kernel_rfl
  i51 := by kernel_rfl
  i105 := by kernel_rfl
  i138 := by kernel_rfl
  i139 := by kernel_rfl
  i146 := by kernel_rfl
  m1 := by kernel_rfl
  s1_3 := fun w h => Go.Proofs.cell_of_shapedOpen_int (zero := #[.int .i64 0]) (t := 3) h (of_decide_eq_true (by kernel_rfl)) (by kernel_rfl) rfl (by kernel_rfl) (by kernel_rfl) Tryd.underlying3
  m3 := by kernel_rfl
  m4 := by kernel_rfl }
open Go.RowKit Go.Lib in
theorem Tryd.strings_Split_shaped (s sep : ByteArray) (w : World) (h : w.ShapedOpen Tryd.prog) (hs : s.size < 4294967281) (h1 : 1 <= sep.size) :
    Calls Tryd.prog 49 #[.string s, .string sep] w fun e w' =>
      e = .returned (.slice (some ⟨w.heap.size, 0, none⟩) (Lib.countB s sep + 1) (Lib.countB s sep + 1)) /\ w' = w.alloc (.cells ((Lib.splitB sep 0 (Lib.countB s sep) s).map Value.string).toArray 9) := Any.strings_Split_shaped Tryd.laysM146 s sep w h hs h1
def Tryd.lays197_ren : Go.Shelf.Ren := ⟨fun | 197 => 87 | 260 => 92 | n => n, fun | 9 => 9 | 21 => 21 | 3 => 3 | 4 => 4 | 5 => 5 | 105 => 110 | 119 => 122 | 0 => 0 | 46 => 102 | 139 => 125 | 138 => 124 | n => n, fun | 3 => 1 | 4 => 2 | n => n⟩
theorem Tryd.lays197 : Go.Proofs.Lays.n197 Tryd.prog Tryd.lays197_ren := {
  mixed := by kernel_rfl
  f197 := Tryd.func87.trans (congrArg some (by kernel_rfl))
  f260 := Tryd.func92.trans (congrArg some (by kernel_rfl))
  t0 := Tryd.underlying0
  a0 := Tryd.isAgg0
  z0 := Tryd.sizeOf0
  v0 := Tryd.zeroValue0
  t3 := Tryd.underlying3
  a3 := Tryd.isAgg3
  z3 := Tryd.sizeOf3
  v3 := Tryd.zeroValue3
  t4 := Tryd.underlying4
  a4 := Tryd.isAgg4
  z4 := Tryd.sizeOf4
  v4 := Tryd.zeroValue4
  t5 := Tryd.underlying5
  a5 := Tryd.isAgg5
  z5 := Tryd.sizeOf5
  v5 := Tryd.zeroValue5
  t9 := Tryd.underlying9
  a9 := Tryd.isAgg9
  z9 := Tryd.sizeOf9
  v9 := Tryd.zeroValue9
  t21 := Tryd.underlying21
  a21 := Tryd.isAgg21
  z21 := Tryd.sizeOf21
  v21 := Tryd.zeroValue21
  t46 := Tryd.underlying102
  a46 := Tryd.isAgg102
  z46 := Tryd.sizeOf102
  v46 := Tryd.zeroValue102
  t105 := Tryd.underlying110
  a105 := Tryd.isAgg110
  z105 := Tryd.sizeOf110
  v105 := Tryd.zeroValue110
  t119 := Tryd.underlying122
  a119 := Tryd.isAgg122
  z119 := Tryd.sizeOf122
  t138 := Tryd.underlying124
  a138 := Tryd.isAgg124
  z138 := Tryd.sizeOf124
  v138 := Tryd.zeroValue124
  t139 := Tryd.underlying125
  a139 := Tryd.isAgg125
  z139 := Tryd.sizeOf125
  v139 := Tryd.zeroValue125
  g3 := by kernel_rfl
  g4 := by kernel_rfl }
open Go.RowKit Go.Lib in
theorem Tryd.utf8_DecodeRuneInString_ascii (s : ByteArray) (x : UInt8) (w : World) (h0 : s.data.toList[0]? = some x) (hx : x.toNat < 128) :
    Calls Tryd.prog 87 #[.string s] w fun e w' => e = .returned (.tuple #[.int .i32 x.toNat, .int .i64 1]) /\ w' = w := Any.utf8_DecodeRuneInString_ascii Tryd.lays197 s x w h0 hx
open Go.RowKit Go.Lib in
theorem Tryd.utf8_RuneCountInString_ascii (s : ByteArray) (w : World) (hs : s.size < 4294967281) (hascii : ∀ (j : Nat) b, s.data.toList[j]? = some b -> b.toNat < 128) :
    Calls Tryd.prog 86 #[.string s] w fun e w' => e = .returned (.int .i64 s.size) /\ w' = w.iter s s.size := Any.utf8_RuneCountInString_ascii Tryd.lays195 s w hs hascii
def Tryd.lays268_ren : Go.Shelf.Ren := ⟨fun | 268 => 77 | 195 => 86 | 197 => 87 | 260 => 92 | n => n, fun | 9 => 9 | 3 => 3 | 31 => 77 | 4 => 4 | 105 => 110 | 21 => 21 | 0 => 0 | 5 => 5 | 119 => 122 | 46 => 102 | 139 => 125 | 138 => 124 | n => n, fun | 3 => 1 | 4 => 2 | n => n⟩
theorem Tryd.lays268 : Go.Proofs.Lays.n268 Tryd.prog Tryd.lays268_ren := {
  mixed := by kernel_rfl
  f195 := Tryd.func86.trans (congrArg some (by kernel_rfl))
  f197 := Tryd.func87.trans (congrArg some (by kernel_rfl))
  f260 := Tryd.func92.trans (congrArg some (by kernel_rfl))
  f268 := Tryd.func77.trans (congrArg some (by kernel_rfl))
  t0 := Tryd.underlying0
  a0 := Tryd.isAgg0
  z0 := Tryd.sizeOf0
  v0 := Tryd.zeroValue0
  t3 := Tryd.underlying3
  a3 := Tryd.isAgg3
  z3 := Tryd.sizeOf3
  v3 := Tryd.zeroValue3
  t4 := Tryd.underlying4
  a4 := Tryd.isAgg4
  z4 := Tryd.sizeOf4
  v4 := Tryd.zeroValue4
  t5 := Tryd.underlying5
  a5 := Tryd.isAgg5
  z5 := Tryd.sizeOf5
  v5 := Tryd.zeroValue5
  t9 := Tryd.underlying9
  a9 := Tryd.isAgg9
  z9 := Tryd.sizeOf9
  v9 := Tryd.zeroValue9
  t21 := Tryd.underlying21
  a21 := Tryd.isAgg21
  z21 := Tryd.sizeOf21
  v21 := Tryd.zeroValue21
  t31 := Tryd.underlying77
  a31 := Tryd.isAgg77
  z31 := Tryd.sizeOf77
  v31 := Tryd.zeroValue77
  t46 := Tryd.underlying102
  a46 := Tryd.isAgg102
  z46 := Tryd.sizeOf102
  v46 := Tryd.zeroValue102
  t105 := Tryd.underlying110
  a105 := Tryd.isAgg110
  z105 := Tryd.sizeOf110
  v105 := Tryd.zeroValue110
  t119 := Tryd.underlying122
  a119 := Tryd.isAgg122
  z119 := Tryd.sizeOf122
  t138 := Tryd.underlying124
  a138 := Tryd.isAgg124
  z138 := Tryd.sizeOf124
  v138 := Tryd.zeroValue124
  t139 := Tryd.underlying125
  a139 := Tryd.isAgg125
  z139 := Tryd.sizeOf125
  v139 := Tryd.zeroValue125
  g3 := by kernel_rfl
  g4 := by kernel_rfl }
open Go.RowKit Go.Lib in
theorem Tryd.strings_explode_all (s : ByteArray) (n : Int) (w : World) (hn : n < 0) (hs : s.size < 4294967281) (hascii : ∀ (j : Nat) b, s.data.toList[j]? = some b -> b.toNat < 128) :
    Calls Tryd.prog 77 #[.string s, .int .i64 n] w fun e w' =>
      e = .returned (.slice (some ⟨(w.iter s s.size).heap.size, 0, none⟩) s.size s.size) /\ w' = (w.iter s s.size).alloc (.cells ((Lib.charsB s).map Value.string).toArray 9) := Any.strings_explode_all Tryd.lays268 (by kernel_rfl) s n w hn hs hascii
open Go.RowKit Go.Lib in
theorem Tryd.strings_genSplit_chars (s sep : ByteArray) (sv n : Int) (w : World) (h0 : sep.size = 0) (hn : n < 0) (hs : s.size < 4294967281) (hascii : ∀ (j : Nat) b, s.data.toList[j]? = some b -> b.toNat < 128) :
    Calls Tryd.prog 68 #[.string s, .string sep, .int .i64 sv, .int .i64 n] w fun e w' =>
      e = .returned (.slice (some ⟨(w.iter s s.size).heap.size, 0, none⟩) s.size s.size) /\ w' = (w.iter s s.size).alloc (.cells ((Lib.charsB s).map Value.string).toArray 9) := Any.strings_genSplit_chars Tryd.lays221 (by kernel_rfl) s sep sv n w h0 hn hs hascii
open Go.RowKit Go.Lib in
theorem Tryd.strings_Split_chars (s sep : ByteArray) (w : World) (h0 : sep.size = 0) (hs : s.size < 4294967281) (hascii : ∀ (j : Nat) b, s.data.toList[j]? = some b -> b.toNat < 128) :
    Calls Tryd.prog 49 #[.string s, .string sep] w fun e w' =>
      e = .returned (.slice (some ⟨(w.iter s s.size).heap.size, 0, none⟩) s.size s.size) /\ w' = (w.iter s s.size).alloc (.cells ((Lib.charsB s).map Value.string).toArray 9) := Any.strings_Split_chars Tryd.lays146 (by kernel_rfl) s sep w h0 hs hascii
def Tryd.lays260_ren : Go.Shelf.Ren := ⟨fun | 260 => 92 | n => n, fun | 9 => 9 | 21 => 21 | 3 => 3 | 4 => 4 | 5 => 5 | 119 => 122 | 0 => 0 | 46 => 102 | 139 => 125 | 138 => 124 | n => n, fun | 3 => 1 | 4 => 2 | n => n⟩
theorem Tryd.lays260 : Go.Proofs.Lays.n260 Tryd.prog Tryd.lays260_ren := {
  mixed := by kernel_rfl
  f260 := Tryd.func92.trans (congrArg some (by kernel_rfl))
  t0 := Tryd.underlying0
  a0 := Tryd.isAgg0
  z0 := Tryd.sizeOf0
  v0 := Tryd.zeroValue0
  t3 := Tryd.underlying3
  a3 := Tryd.isAgg3
  z3 := Tryd.sizeOf3
  v3 := Tryd.zeroValue3
  t4 := Tryd.underlying4
  a4 := Tryd.isAgg4
  z4 := Tryd.sizeOf4
  v4 := Tryd.zeroValue4
  t5 := Tryd.underlying5
  a5 := Tryd.isAgg5
  z5 := Tryd.sizeOf5
  v5 := Tryd.zeroValue5
  t9 := Tryd.underlying9
  a9 := Tryd.isAgg9
  z9 := Tryd.sizeOf9
  v9 := Tryd.zeroValue9
  t21 := Tryd.underlying21
  a21 := Tryd.isAgg21
  z21 := Tryd.sizeOf21
  v21 := Tryd.zeroValue21
  t46 := Tryd.underlying102
  a46 := Tryd.isAgg102
  z46 := Tryd.sizeOf102
  v46 := Tryd.zeroValue102
  t119 := Tryd.underlying122
  a119 := Tryd.isAgg122
  z119 := Tryd.sizeOf122
  t138 := Tryd.underlying124
  a138 := Tryd.isAgg124
  z138 := Tryd.sizeOf124
  v138 := Tryd.zeroValue124
  t139 := Tryd.underlying125
  a139 := Tryd.isAgg125
  z139 := Tryd.sizeOf125
  v139 := Tryd.zeroValue125
  g3 := by kernel_rfl
  g4 := by kernel_rfl }
open Go.RowKit Go.Lib in
theorem Tryd.utf8_decodeRuneInStringSlow (s : ByteArray) (w : World) (hT : Lib.Utf8Tabs 1 2 w) :
    Calls Tryd.prog 92 #[.string s] w fun e w' => e = .returned (.tuple #[.int .i32 (Lib.decodeGo s).1, .int .i64 (Lib.decodeGo s).2]) /\ Below w.heap.size w w' := Any.utf8_decodeRuneInStringSlow Tryd.lays260 s w hT
open Go.RowKit Go.Lib in
theorem Tryd.utf8_DecodeRuneInString (s : ByteArray) (w : World) (hT : Lib.Utf8Tabs 1 2 w) :
    Calls Tryd.prog 87 #[.string s] w fun e w' => e = .returned (.tuple #[.int .i32 (Lib.decodeGo s).1, .int .i64 (Lib.decodeGo s).2]) /\ Below w.heap.size w w' := Any.utf8_DecodeRuneInString Tryd.lays197 s w hT
def Tryd.laysNm215_ren : Go.Shelf.Ren := ⟨fun | 15 => 33 | n => n, fun | 22 => 22 | 3 => 3 | 4 => 4 | n => n, fun | n => n⟩
theorem Tryd.laysNm215 : Go.Proofs.Lays2.n15 Tryd.prog Tryd.laysNm215_ren := {
  mixed := by kernel_rfl
  f15 := Tryd.func33.trans (congrArg some (by kernel_rfl))
  t3 := Tryd.underlying3
  a3 := Tryd.isAgg3
  z3 := Tryd.sizeOf3
  v3 := Tryd.zeroValue3
  t4 := Tryd.underlying4
  a4 := Tryd.isAgg4
  z4 := Tryd.sizeOf4
  v4 := Tryd.zeroValue4
  t22 := Tryd.underlying22
  a22 := Tryd.isAgg22
  z22 := Tryd.sizeOf22
  v22 := Tryd.zeroValue22
  i3 := by kernel_rfl }
open Go.RowKit Go.Lib in
theorem Tryd.slices_Clone_int (b off n c : Nat) (zs : List Int) (w : World) (hz : n <= zs.length) (hbig : n * 8 <= 140737488355328) (hc : ∀ j, j < zs.length -> w.cell? ⟨b, off + j, none⟩ = some (.int .i64 (zs.getD j 0))) :
    Calls Tryd.prog 33 #[.slice (some ⟨b, off, none⟩) n c] w fun e w' => ∃ v', e = .returned v' /\ w'.ownsRow w.heap.size 3 1 v' n ((zs.take n).map (Value.int .i64)) /\ v' ≠ .slice none 0 0 /\ Below w.heap.size w w' := Any.slices_Clone_int Tryd.laysNm215 b off n c zs w hz hbig hc
open Go.RowKit Go.Lib in
theorem Tryd.slices_Clone_int_nil (n c : Nat) (w : World) :
    Calls Tryd.prog 33 #[.slice none n c] w fun e w' => e = .returned (.slice none 0 0) /\ w' = w := Any.slices_Clone_int_nil Tryd.laysNm215 n c w
open Go.RowKit Go.Lib in
theorem Tryd.slices_Clone_int_zero (a : Addr) (c : Nat) (w : World) :
    Calls Tryd.prog 33 #[.slice (some a) 0 c] w fun e w' => ∃ v', e = .returned v' /\ w'.ownsRow w.heap.size 3 1 v' 0 [] /\ v' ≠ .slice none 0 0 /\ Below w.heap.size w w' := Any.slices_Clone_int_zero Tryd.laysNm215 a c w
def Tryd.laysNm237_ren : Go.Shelf.Ren := ⟨fun | 37 => 81 | n => n, fun | 3 => 3 | 4 => 4 | n => n, fun | n => n⟩
theorem Tryd.laysNm237 : Go.Proofs.Lays2.n37 Tryd.prog Tryd.laysNm237_ren := {
  mixed := by kernel_rfl
  f37 := Tryd.func81.trans (congrArg some (by kernel_rfl))
  t3 := Tryd.underlying3
  a3 := Tryd.isAgg3
  z3 := Tryd.sizeOf3
  v3 := Tryd.zeroValue3
  t4 := Tryd.underlying4
  a4 := Tryd.isAgg4
  z4 := Tryd.sizeOf4
  v4 := Tryd.zeroValue4 }
open Go.RowKit Go.Lib in
theorem Tryd.cmp_isNaN_int2 (x : Int) (w : World) :
    Calls Tryd.prog 81 #[.int .i64 x] w fun e w' => e = .returned (.bool false) /\ w' = w := Any.cmp_isNaN_int2 Tryd.laysNm237 x w
def Tryd.laysSlE041_f33_ren : Go.Shelf.Ren := ⟨fun | 41 => 33 | n => n, fun | 22 => 22 | 23 => 3 | 4 => 4 | n => n, fun | n => n⟩
theorem Tryd.laysSlE041_f33 : Go.Proofs.SlLaysE0.n41 Tryd.prog Tryd.laysSlE041_f33_ren := {
  mixed := by kernel_rfl
  f41 := ⟨Tryd.f33.name, by decide, Tryd.func33.trans (congrArg some (by kernel_rfl))⟩
  t4 := Tryd.underlying4
  a4 := Tryd.isAgg4
  z4 := Tryd.sizeOf4
  v4 := Tryd.zeroValue4
  t22 := Tryd.underlying22
  a22 := Tryd.isAgg22
  z22 := Tryd.sizeOf22
  v22 := Tryd.zeroValue22 }
open Go.RowKit Go.Lib in
theorem Tryd.slices_Clone (i0 : TypeInfo) (z : Value) (size bytes : Nat) (hi : Tryd.prog.info? 3 = some i0) (hz0 : i0.zero = some z) (hz1 : i0.size = size) (hz2 : i0.bytes = bytes) (hzs : z.cells.size = size) (hsz : 0 < size) (z23 : ∀ w, (Go.sizeOf 3).run Tryd.prog w = .ok size w) (b off n c : Nat) (news : List Value) (w : World) (hl : news.length = n * size) (hn : n <= maxLen) (hbig : n * bytes <= 140737488355328) (hc : ∀ j u, news[j]? = some u -> w.cell? ⟨b, off + j, none⟩ = some u) (h1 : ∀ u ∈ news, u.oneCell' = true) :
    Calls Tryd.prog 33 #[.slice (some ⟨b, off, none⟩) n c] w fun e w' => ∃ v', e = .returned v' /\ w'.ownsRow w.heap.size 3 size v' n news /\ v' ≠ .slice none 0 0 /\ Below w.heap.size w w' := AnyE.slices_Clone Tryd.laysSlE041_f33 i0 z size bytes hi hz0 hz1 hz2 hzs hsz z23 b off n c news w hl hn hbig hc h1
open Go.RowKit Go.Lib in
theorem Tryd.slices_Clone_nil (n c : Nat) (w : World) :
    Calls Tryd.prog 33 #[.slice none n c] w fun e w' => e = .returned (.slice none 0 0) /\ w' = w := AnyE.slices_Clone_nil Tryd.laysSlE041_f33 n c w
end Go.Proofs
end
namespace Go.Proofs.YthalofddjlhcjaaDoor
section
open Go Go.RowKit
set_option maxRecDepth 100000
set_option maxHeartbeats 4000000
theorem zcZ : ∀ {cs : List T} {xs : List Int}, ze2 cs = some xs -> cs = xs.map fun x => .sc (.int .i64 x)
  | [], xs, h => by simp [ze2] at h; subst h; rfl
  | c :: cs, xs, h => by
    unfold ze2 at h
    split at h
    · rename_i he; cases he
    · rename_i x l he
      cases he
      simp only [Option.map_eq_some_iff] at h
      obtain ⟨ys, hy, rfl⟩ := h
      simp [← zcZ hy]
    · cases h
def zl2 (B : Nat) (K : Nat -> z0e) (b : Nat) : z0e := if B <= b then [0] else K b
theorem zgD {w w' : World} {K : Nat -> z0e} (h : Below w.heap.size w w') : Step w K w' (zl2 w.heap.size K) :=
  ⟨h.os, h.tape, h.output, h.size, fun b hb _ => ⟨by unfold zl2; rw [if_neg (by omega)], h.block b hb⟩, .olds fun b hb => h.block b hb⟩
theorem zjS {w : World} {K : Nat -> z0e} {B : Nat} {e : TypeId} {v : Value} {n : Nat} {xs : List Int} (hn : xs.length = n) (h : w.ownsRow B e 1 v n (xs.map (Value.int .i64))) : TRep w (zl2 B K) [0] v (zcK xs) := by
  obtain ⟨h1, h2⟩ := h
  subst hn
  rcases h2 with ⟨rfl, h0⟩ | ⟨g, cap, cur, rfl, hb, hg, hc1, hc2, hs, ht⟩
  · have : xs = [] := List.eq_nil_of_length_eq_zero h0
    subst this
    exact .nil _ _
  · refine .own [0] g xs.length cap 1 _ cur e (0, 0) (fun j => .int .i64 (xs.getD j 0)) (fun i _ => by simp) (by simp) (by unfold zl2; rw [if_pos hb]) hg hs (by simp) (by omega) hc1 hc2 (fun j hj => ?_) (fun j t ht => ?_)
    · have hj' : j < xs.length := by simpa using hj
      have h3 : (cur.toList.take (xs.length * 1))[j]? = (xs.map (Value.int .i64))[j]? := by rw [ht]
      rw [List.getElem?_take_of_lt (by omega), List.getElem?_map, List.getElem?_eq_getElem hj'] at h3
      simp only [Option.map_some, Array.getElem?_toList] at h3
      rw [h3, List.getD, List.getElem?_eq_getElem hj']
      rfl
    · simp only [List.getElem?_map, Option.map_eq_some_iff] at ht
      obtain ⟨x, hx, rfl⟩ := ht
      simp only [List.getD, hx]
      exact .sc _ _ rfl
theorem z8d {I : World -> (Nat -> z0e) -> Prop} {f : FuncId} {fn : Func} (hf : Tryd.prog.funcs[f]? = some fn) (hb : ∃ c, fn.body = some c) (hn : fn.name ≠ "runtime.NumGoroutine") {g : ByteArray -> UInt8 -> Int}
    (hc : ∀ (s : ByteArray) (c : UInt8) (w : World), Calls Tryd.prog f #[.string s, .string ⟨#[c]⟩] w fun e w' => e = .returned (.int .i64 (g s c)) /\ w' = w) (s b : ByteArray) (c : UInt8) (h : b.data.toList = [c]) :
    CallOk Tryd.prog I f [.sc (.string s), .sc (.string b)] (.sc (.int .i64 (g s c))) [.dead, .dead] := by
  obtain ⟨cd, hb⟩ := hb
  have eb : b = ⟨#[c]⟩ := by
    obtain ⟨d⟩ := b
    congr 1
    exact Array.toList_inj.1 (by simpa using h)
  subst eb
  refine ⟨fun vals w => ?_, fun w K vals hs ha hI => ?_⟩
  · simp [callFunc, program, Sem.run, hf, hn, hb]
  · obtain ⟨v, u, rfl⟩ : ∃ v u, vals = #[v, u] := by
      obtain ⟨l⟩ := vals
      match l, hs with
      | [v, u], _ => exact ⟨v, u, rfl⟩
    have h1 : TRep w K [] v (.sc (.string s)) := ha 0 _ rfl
    have h2 : TRep w K [] u (.sc (.string ⟨#[c]⟩)) := ha 1 _ rfl
    rw [h1.sc_eq, h2.sc_eq]
    refine (hc s c w).mono fun e w' ⟨he, hw⟩ => ?_
    subst hw
    refine ⟨_, K, he, .sc _ _ rfl, fun i t hi hio => ?_, Step.refl _ _⟩
    match i, hi with
    | 0, hi => cases hi; cases hio
    | 1, hi => cases hi; cases hio
theorem zgO {I : World -> (Nat -> z0e) -> Prop} : z5m Tryd.prog I xtC := by
  intro f args r outs h
  unfold xtC at h
  split at h
  case isFalse =>
    split at h
    · rename_i hf
      unfold zjn at h
      split at h
      case h_2 => cases h
      rename_i s b
      split at h
      case h_2 => cases h
      rename_i c hcc
      cases h
      rcases hf with rfl | rfl
      · exact z8d (g := fun s c => Lib.indexByte s.data.toList c) (fn := Tryd.f76) Tryd.func76 ⟨_, rfl⟩ (by decide) (fun s c w => Tryd.stringslite_Index_one s c w) s b c hcc
      · exact z8d (g := fun s c => Lib.indexByte s.data.toList c) (fn := Tryd.f79) Tryd.func79 ⟨_, rfl⟩ (by decide) (fun s c w => Tryd.strings_Index_one s c w) s b c hcc
    · split at h
      case isFalse => cases h
      rename_i hf
      subst hf
      unfold zjo at h
      split at h
      case h_2 => cases h
      rename_i s b
      split at h
      case h_2 => cases h
      rename_i c hcc
      cases h
      exact z8d (g := fun s c => ((Lib.countByte s.data.toList c : Nat) : Int)) (fn := Tryd.f78) Tryd.func78 ⟨_, rfl⟩ (by decide) (fun s c w => Tryd.strings_Count_one s c w) s b c hcc
  rename_i hf
  subst hf
  unfold zen at h
  split at h
  case h_2 => cases h
  rename_i n cs
  split at h
  case h_2 => cases h
  rename_i xs hxs
  split at h
  case isFalse => cases h
  rename_i hc
  obtain ⟨hl, hb⟩ := hc
  obtain ⟨rfl, rfl⟩ : zcK xs = r /\ [T.dead] = outs := by simpa using h
  have hcs := zcZ hxs
  subst hcs
  clear hxs h
  subst hl
  refine ⟨fun vals w => ?_, fun w K vals hs ha hI => ?_⟩
  · have hb : ∃ c, Tryd.f33.body = some c := ⟨_, rfl⟩
    obtain ⟨c, hb⟩ := hb
    have hname : Tryd.f33.name ≠ "runtime.NumGoroutine" := by decide
    simp [callFunc, program, Sem.run, Tryd.func33, hname, hb]
  · obtain ⟨v, rfl⟩ : ∃ v, vals = #[v] := by
      obtain ⟨l⟩ := vals
      match l, hs with
      | [v], _ => exact ⟨v, rfl⟩
    have hv := ha 0 _ rfl
    have hv : TRep w K [] v (zlb xs) := hv
    have fin : ∀ e w', (∃ v', e = Ending.returned v' /\ w'.ownsRow w.heap.size 3 1 v' xs.length (xs.map (Value.int .i64)) /\ Below w.heap.size w w') -> ∃ v' K', e = Ending.returned v' /\ TRep w' K' [0] v' (zcK xs) /\ (∀ i t, [zlb xs][i]? = some t -> z1S t = true -> ∃ t', [T.dead][i]? = some t' /\ TRep w' K' (col i) (#[v].getD i undef) t') /\ Step w K w' K' := by
      rintro e w' ⟨v', he, ho, hbl⟩
      refine ⟨v', zl2 w.heap.size K, he, zjS rfl ho, fun i t hi hio => ?_, zgD hbl⟩
      match i, hi with
      | 0, hi => cases hi; cases hio
    generalize hT : zlb xs = t at hv
    cases hv with
    | emp c a cap hcap =>
      have : xs = [] := by
        have : xs.length = 0 := by injection hT
        exact List.eq_nil_of_length_eq_zero this
      subst this
      cases a with
      | none => exact (Tryd.slices_Clone_int_nil 0 cap w).mono fun e w' ⟨he, hw⟩ => fin e w' ⟨_, he, ⟨by simp, .inl ⟨rfl, rfl⟩⟩, hw ▸ Below.refl _ _⟩
      | some a => exact (Tryd.slices_Clone_int_zero a cap w).mono fun e w' ⟨v', he, ho, _, hb⟩ => fin e w' ⟨v', he, ho, hb⟩
    | fro c g o n cap cs F hK hg hn hcap hF hh =>
      injection hT with e1 e2
      subst e1
      subst e2
      refine (Tryd.slices_Clone_int g o xs.length cap xs w (Nat.le_refl _) hb (fun j hj => ?_)).mono fun e w' ⟨v', he, ho, _, hbl⟩ => fin e w' ⟨v', he, ?_, hbl⟩
      · have h1 := hF j (by simpa using hj)
        rw [h1]
        have h2 := hh j (.sc (.int .i64 (xs.getD j 0))) (by simp [List.getD, hj])
        rw [h2.sc_eq]
      · rw [List.take_of_length_le (Nat.le_refl _)] at ho
        exact ho
    | _ => cases hT
end
section
structure StOk (ops : Array Oper) (t : SchT) (L : Array Bool) (d : Nat) (ns : List Nat) : Prop where
  ord : z1Y .any ops true t L = true
  dep : t.depth = d
  nx : ∀ z ∈ t.nexts, z ∈ ns
structure BrOk (ops : Array Oper) (t : SchT) (L : Array Bool) (d : Nat) (ns hs : List Nat) : Prop where
  ord : z1Y .any ops false t L = true
  dep : t.depth = d
  nx : ∀ z ∈ t.nexts, z ∈ ns
  hd : ∀ i ∈ hs, i ∈ t.heads
theorem zkK {ops : Array Oper} {L : Array Bool} (h : decide (Region.ready .any ops L = []) = true) : StOk ops .nil L 0 [] := ⟨by simp only [z1Y, h, Bool.and_true], rfl, fun z hz => by simp [SchT.nexts] at hz⟩
theorem znE {ops : Array Oper} {k m : Nat} {rest : SchT} {L L' : Array Bool} {d : Nat} {ns : List Nat} (h : StOk ops rest L' d ns) (hL : L.setIfInBounds k true = L')
    (hc : ((m == 0 || m == 3) && (Region.ready .any ops L).contains k && Region.free .any ops L k && !(ns.contains k) && (m == 3 || ns.all fun z => (zko .any ops ops.size [z]).contains k)) = true) : StOk ops (.op k m rest) L (d + 1) ns := by
  simp only [Bool.and_eq_true, Bool.or_eq_true, Bool.not_eq_true', beq_iff_eq] at hc
  obtain ⟨⟨⟨⟨h1, h2⟩, h3⟩, h4⟩, h5⟩ := hc
  have hm2 : ¬ m = 2 := by omega
  have hk : k ∉ ns := by simpa using h4
  refine ⟨?_, by simp only [SchT.depth, h.dep], fun z hz => h.nx z (by simpa only [SchT.nexts, if_neg hm2] using hz)⟩
  simp only [z1Y]
  rw [if_pos (by simpa using h1), hL, h.ord, h2, h3]
  have h6 : rest.nexts.contains k = false := by
    rw [Bool.eq_false_iff]
    intro hh
    exact hk (h.nx k (by simpa using hh))
  rw [h6]
  simp only [Bool.not_false, Bool.and_self, Bool.true_and, Bool.and_true, Bool.or_eq_true, beq_iff_eq]
  rcases h5 with h5 | h5
  · exact .inl h5
  · exact .inr (List.all_eq_true.2 fun z hz => List.all_eq_true.1 h5 z (h.nx z hz))
theorem znF {ops : Array Oper} {k m : Nat} {rest : SchT} {L L' : Array Bool} {d : Nat} {ns ns' : List Nat} (h : StOk ops rest L' d ns) (hL : L.setIfInBounds k true = L')
    (hc : ((m == 1 || m == 2) && decide (Region.ready .any ops L = [k])) = true) (hn : (if m = 2 then [k] else ns) = ns') : StOk ops (.op k m rest) L (d + 1) ns' := by
  subst hn
  simp only [Bool.and_eq_true, Bool.or_eq_true, beq_iff_eq] at hc
  obtain ⟨h1, h2⟩ := hc
  refine ⟨?_, by simp only [SchT.depth, h.dep], fun z hz => ?_⟩
  · simp only [z1Y]
    rw [if_neg (by omega), hL, h.ord, h2]
    simp [h1]
  · simp only [SchT.nexts] at hz
    split at hz
    · rename_i e; rw [if_pos e]; exact hz
    · rename_i e; rw [if_neg e]; exact h.nx z hz
theorem zpu {ops : Array Oper} {k m : Nat} {rest : SchT} {L L' : Array Bool} {d : Nat} {ns ns' : List Nat} (h : StOk ops rest L' d ns) (hL : L.setIfInBounds k true = L')
    (hc : ((m == 1 || m == 2) && (Region.ready .any ops L).contains k) = true) (hn : (if m = 2 then [k] else ns) = ns') : BrOk ops (.op k m rest) L (d + 1) ns' [k] := by
  subst hn
  simp only [Bool.and_eq_true, Bool.or_eq_true, beq_iff_eq] at hc
  obtain ⟨h1, h2⟩ := hc
  refine ⟨?_, by simp only [SchT.depth, h.dep], fun z hz => ?_, fun i hi => by simpa [SchT.heads] using hi⟩
  · simp only [z1Y]
    rw [if_neg (by simp), hL, h.ord, h2]
    simp [h1]
  · simp only [SchT.nexts] at hz
    split at hz
    · rename_i e; rw [if_pos e]; exact hz
    · rename_i e; rw [if_neg e]; exact h.nx z hz
theorem z7O {ops : Array Oper} {a b : SchT} {L : Array Bool} {d : Nat} {n1 n2 h1 h2 : List Nat} (ha : BrOk ops a L d n1 h1) (hb : BrOk ops b L d n2 h2) : BrOk ops (.alt a b) L d (n1 ++ n2) (h1 ++ h2) := by
  refine ⟨?_, by simp only [SchT.depth, ha.dep], fun z hz => ?_, fun i hi => ?_⟩
  · simp only [z1Y, ha.ord, hb.ord, ha.dep, hb.dep]; simp
  · simp only [SchT.nexts, List.mem_append] at hz ⊢
    exact hz.imp (ha.nx z) (hb.nx z)
  · simp only [SchT.heads, List.mem_append] at hi ⊢
    exact hi.imp (ha.hd i) (hb.hd i)
theorem zkL {ops : Array Oper} {a b : SchT} {L : Array Bool} {d : Nat} {ns ns' hs : List Nat} (h : BrOk ops (.alt a b) L d ns hs) (hc : ((Region.ready .any ops L).all fun i => hs.contains i) = true) (hn : (ns.all fun z => ns'.contains z) = true) : StOk ops (.alt a b) L d ns' := by
  refine ⟨?_, h.dep, fun z hz => by simpa using List.all_eq_true.1 hn z (h.nx z hz)⟩
  have := h.ord
  simp only [z1Y, Bool.and_eq_true, decide_eq_true_eq] at this ⊢
  obtain ⟨⟨⟨h1, h2⟩, h3⟩, h4⟩ := this
  refine ⟨⟨⟨?_, h2⟩, h3⟩, h4⟩
  simp only [Bool.not_true, Bool.false_or, decide_eq_true_eq]
  intro i hi
  have := List.all_eq_true.1 hc i hi
  exact h.hd i (by simpa using this)
def zas : Nat -> Nat -> List Bool
  | 0, _ => []
  | n + 1, k => (k % 2 == 1) :: zas n (k / 2)
def mB (n k : Nat) : Array Bool := ⟨zas n k⟩
theorem zfp : ∀ n k, (zas n k).length = n
  | 0, _ => rfl
  | n + 1, k => by simp [zas, zfp n]
theorem zc0 : ∀ n k i (h : i < (zas n k).length), (zas n k)[i] = k.testBit i
  | 0, k, i, h => by simp [zas] at h
  | n + 1, k, 0, h => by simp only [zas, List.getElem_cons_zero, Nat.testBit_zero]; rfl
  | n + 1, k, i + 1, h => by
    simp only [zas, List.getElem_cons_succ]
    rw [zc0 n (k / 2) i, Nat.testBit_succ]
theorem zhg {n a k : Nat} : (mB n a).setIfInBounds k true = mB n (a ||| 2 ^ k) := by
  apply Array.ext
  · simp [mB, zfp]
  · intro i h1 h2
    have e1 : i < (zas n a).length := by simpa [mB] using h1
    have e2 : i < (zas n (a ||| 2 ^ k)).length := by simpa [mB] using h2
    have b1 := zc0 n a i e1
    have b2 := zc0 n (a ||| 2 ^ k) i e2
    rw [Array.getElem_setIfInBounds]
    simp only [mB, List.getElem_toArray] at b1 b2 ⊢
    rw [b1, b2, Nat.testBit_or, Nat.testBit_two_pow]
    · by_cases h : k = i
      · simp [h]
      · simp [h]
    · simpa [mB] using e1
theorem sq {ops : Array Oper} {k m n a : Nat} {rest : SchT} {d : Nat} {ns : List Nat} (h : StOk ops rest (mB n (a ||| 2 ^ k)) d ns)
    (hc : ((m == 0 || m == 3) && (Region.ready .any ops (mB n a)).contains k && Region.free .any ops (mB n a) k && !(ns.contains k) && (m == 3 || ns.all fun z => (zko .any ops ops.size [z]).contains k)) = true := by kernel_rfl) : StOk ops (.op k m rest) (mB n a) (d + 1) ns := znE h zhg hc
theorem se {ops : Array Oper} {k m n a : Nat} {rest : SchT} {d : Nat} {ns ns' : List Nat} (h : StOk ops rest (mB n (a ||| 2 ^ k)) d ns)
    (hc : ((m == 1 || m == 2) && decide (Region.ready .any ops (mB n a) = [k])) = true := by kernel_rfl) (hn : (if m = 2 then [k] else ns) = ns' := by rfl) : StOk ops (.op k m rest) (mB n a) (d + 1) ns' := znF h zhg hc hn
theorem be {ops : Array Oper} {k m n a : Nat} {rest : SchT} {d : Nat} {ns ns' : List Nat} (h : StOk ops rest (mB n (a ||| 2 ^ k)) d ns)
    (hc : ((m == 1 || m == 2) && (Region.ready .any ops (mB n a)).contains k) = true := by kernel_rfl) (hn : (if m = 2 then [k] else ns) = ns' := by rfl) : BrOk ops (.op k m rest) (mB n a) (d + 1) ns' [k] := zpu h zhg hc hn
theorem sa {ops : Array Oper} {a b : SchT} {L : Array Bool} {d : Nat} {ns ns' hs : List Nat} (h : BrOk ops (.alt a b) L d ns hs) (hc : ((Region.ready .any ops L).all fun i => hs.contains i) = true := by kernel_rfl) (hn : (ns.all fun z => ns'.contains z) = true := by rfl) : StOk ops (.alt a b) L d ns' := zkL h hc hn
def zdR (cf : Cfg) (sk : Nat -> Bool) : Code -> Bool
  | .region id ops draw => sk id || (!draw || (match cf.dt id with | some t => z7X ops t | none => (match cf.dr id with | some sch => zhB ops sch | none => true)))
  | .seq a b => zdR cf sk a && zdR cf sk b
  | .cond _ x y => zdR cf sk x && zdR cf sk y
  | .block _ c => zdR cf sk c
  | .loop c => zdR cf sk c
  | .scope c => zdR cf sk c
  | _ => true
def z3v (i : Nat) : Code -> List (Array Oper)
  | .region id ops _ => if Nat.beq id i then [ops] else []
  | .seq a b => z3v i a ++ z3v i b
  | .cond _ x y => z3v i x ++ z3v i y
  | .block _ c => z3v i c
  | .loop c => z3v i c
  | .scope c => z3v i c
  | _ => []
noncomputable def zdI (i : Nat) (c : Code) : Array Oper := match z3v i c with | x :: _ => x | [] => #[]
theorem z9m {cf : Cfg} {sk : Nat -> Bool} : ∀ (c : Code), zdR cf sk c = true -> (∀ i, sk i = true -> ∃ t, cf.dt i = some t /\ ∀ o ∈ z3v i c, z7X o t = true) -> okC cf c = true
  | .region id ops draw, h, hs => by
    simp only [zdR, Bool.or_eq_true] at h
    simp only [okC, Bool.or_eq_true]
    rcases h with h | h
    · right
      obtain ⟨t, h1, h2⟩ := hs id h
      rw [h1]
      exact h2 ops (by simp [z3v])
    · exact h
  | .seq a b, h, hs => by
    simp only [zdR, Bool.and_eq_true] at h
    simp only [okC, Bool.and_eq_true]
    exact ⟨z9m a h.1 fun i hi => by obtain ⟨t, h1, h2⟩ := hs i hi; exact ⟨t, h1, fun o ho => h2 o (by simp only [z3v, List.mem_append]; exact .inl ho)⟩,
      z9m b h.2 fun i hi => by obtain ⟨t, h1, h2⟩ := hs i hi; exact ⟨t, h1, fun o ho => h2 o (by simp only [z3v, List.mem_append]; exact .inr ho)⟩⟩
  | .cond _ a b, h, hs => by
    simp only [zdR, Bool.and_eq_true] at h
    simp only [okC, Bool.and_eq_true]
    exact ⟨z9m a h.1 fun i hi => by obtain ⟨t, h1, h2⟩ := hs i hi; exact ⟨t, h1, fun o ho => h2 o (by simp only [z3v, List.mem_append]; exact .inl ho)⟩,
      z9m b h.2 fun i hi => by obtain ⟨t, h1, h2⟩ := hs i hi; exact ⟨t, h1, fun o ho => h2 o (by simp only [z3v, List.mem_append]; exact .inr ho)⟩⟩
  | .block _ c, h, hs => by simp only [okC]; exact z9m c (by simpa only [zdR] using h) (by simpa only [z3v] using hs)
  | .loop c, h, hs => by simp only [okC]; exact z9m c (by simpa only [zdR] using h) (by simpa only [z3v] using hs)
  | .scope c, h, hs => by simp only [okC]; exact z9m c (by simpa only [zdR] using h) (by simpa only [z3v] using hs)
  | .skip, _, _ => rfl
  | .label .., _, _ => rfl
  | .exit .., _, _ => rfl
  | .ret, _, _ => rfl
  | .rangeFunc .., _, _ => rfl
  | .goto _, _, _ => rfl
  | .refuse _, _, _ => rfl
theorem zjH {c : Code} {i : Nat} {t : SchT} {n : Nat} {ns : List Nat} {L : Array Bool} (hr : (z3v i c).length = 1) (hs : StOk (zdI i c) t L n ns) (hL : L = Array.replicate (zdI i c).toList.length false) (hd : (decide (n = (zdI i c).toList.length) && Region.noSelect (zdI i c)) = true) : ∀ o ∈ z3v i c, z7X o t = true := by
  intro o ho
  obtain ⟨x, hx⟩ : ∃ x, z3v i c = [x] := List.length_eq_one_iff.1 hr
  have e : zdI i c = x := by unfold zdI; rw [hx]
  rw [hx] at ho
  obtain rfl : o = x := by simpa using ho
  rw [e] at hs hL hd
  subst hL
  simp only [Bool.and_eq_true, decide_eq_true_eq] at hd
  unfold z7X
  simp only [Bool.and_eq_true, decide_eq_true_eq]
  exact ⟨⟨hs.dep.trans hd.1, hd.2⟩, hs.ord⟩
theorem zjV {P : Program} {f : FuncId} {cf : Cfg} {fn : Func} {c : Code} (l : List Nat) (hf : P.funcs[f]? = some fn) (hb : fn.body = some c) (hn : (fn.name != "runtime.NumGoroutine") = true) (h2 : zdR cf l.contains c = true)
    (ht : ∀ i ∈ l, ∃ t, cf.dt i = some t /\ ∀ o ∈ z3v i c, z7X o t = true) : z4o P f cf = true := by
  unfold z4o
  simp only [hf, hb, hn, Bool.true_and]
  exact z9m c h2 fun j hj => ht j (by simpa using hj)
end
section
open Go Go.RowKit
set_option maxRecDepth 100000
set_option maxHeartbeats 4000000
theorem zkf {w : World} {K : Nat -> z0e} {c : z0e} {v : Value} {t : T} (h : TRep w K c v t) : TRep w K c v (dlT t) := by
  cases h with
  | vr c g cs arr e fz F hfz hc0 hK hg hl hF hh =>
    refine .vr _ g _ arr e fz F hfz hc0 hK hg (by simpa using hl) (fun j hj => hF j (by simpa using hj)) fun j t ht => ?_
    simp only [List.getElem?_map, Option.map_eq_some_iff] at ht
    obtain ⟨t0, ht0, rfl⟩ := ht
    have := hh j t0 ht0
    cases t0 <;> first | exact this | exact .dead _ _
  | sc _ _ h => exact .sc _ _ h
  | dead => exact .dead _ _
  | agg _ a b c d e f => exact .agg _ a b c d e f
  | tup _ a b c d e f => exact .tup _ a b c d e f
  | emp _ a b c => exact .emp _ a b c
  | fro _ a b c d e f g h i j k l => exact .fro _ a b c d e f g h i j k l
  | nil _ a => exact .nil _ a
  | own _ a b c d e f g h i j k l m n o p q r s t => exact .own _ a b c d e f g h i j k l m n o p q r s t
  | vo _ a b c d => exact .vo _ a b c d
  | pr _ a b c d e f g h => exact .pr _ a b c d e f g h
  | mr _ a b c d e f g h => exact .mr _ a b c d e f g h
  | mp _ a b c d e f g h i => exact .mp _ a b c d e f g h i
  | ms _ a b c d e f g h i j k => exact .ms _ a b c d e f g h i j k
  | mt _ a b c d e f g h i j k l => exact .mt _ a b c d e f g h i j k l
  | cl _ a b c d e f g => exact .cl _ a b c d e f g
theorem zfx {I : World -> (Nat -> z0e) -> Prop} {C : z0m} (hI : EnvS I) (hC : z5m Tryd.prog I C) {args : List T} {r : T} {outs : List T} (h : zkB C args = some (r, outs)) : CallOk Tryd.prog I 13 args r outs := by
  unfold zkB at h
  rw [Option.map_eq_some_iff] at h
  obtain ⟨⟨r0, o0⟩, h1, h2⟩ := h
  cases h2
  have hm : Tryd.prog.follows .mixedOrders = true := by kernel_rfl
  obtain ⟨c, hb⟩ : ∃ c, Tryd.f13.body = some c := ⟨_, rfl⟩
  have hok : okC zlm c = true := by
    have e : (match Tryd.f13.body with | some c => okC zlm c | none => true) = true := by kernel_rfl
    rw [hb] at e; exact e
  have hk := zjt hI hC hm Tryd.func13 hb (by decide) hok h1
  refine ⟨hk.enter, fun w K vals hs ha hIw => (hk.calls w K vals hs ha hIw).mono fun e w' hh => ?_⟩
  obtain ⟨v, K', a, b, c, d⟩ := hh
  refine ⟨v, K', a, b, fun i t hi hio => ?_, d⟩
  obtain ⟨t', f1, f2⟩ := c i t hi hio
  exact ⟨dlT t', by simp [f1], zkf f2⟩
theorem zgN {I : World -> (Nat -> z0e) -> Prop} (hI : EnvS I) : ∀ C, z5m Tryd.prog I C -> z5m Tryd.prog I (xtF C) := by
  intro C hC f args r outs h
  unfold xtF at h
  split at h
  case isTrue hf => subst hf; exact zfx hI hC h
  exact zgO _ _ _ _ h
theorem znC : ∀ C, z5m Tryd.prog (fun _ _ => True) C -> z5m Tryd.prog (fun _ _ => True) (xtF C) := zgN EnvS.none
end
section
open Go
set_option maxRecDepth 100000
noncomputable abbrev z0Z : Array Oper := (zdI 16 cd8)
theorem zfB : StOk z0Z zcc (mB 17 131071) 0 [] := zkK (by kernel_rfl)
theorem zfC : StOk z0Z zcd (mB 17 65535) 1 [16] := se zfB
theorem zfD : StOk z0Z zce (mB 17 32767) 2 [16] := sq zfC
theorem zaP : StOk z0Z z9N (mB 17 16383) 3 [16] := sq zfD
theorem zfE : StOk z0Z zcf (mB 17 16381) 4 [16] := se zaP
theorem z8O : StOk z0Z z8l (mB 17 8191) 4 [13] := se zaP
theorem zaQ : StOk z0Z z9O (mB 17 8189) 5 [13] := sa (z7O (be z8O) (be zfE))
theorem z8P : StOk z0Z z8m (mB 17 7167) 5 [10] := se z8O
theorem zaR : StOk z0Z z9P (mB 17 4095) 5 [13] := se z8O
theorem zaS : StOk z0Z z9Q (mB 17 7165) 6 [10] := sa (z7O (be z8P) (be zaQ))
theorem zfF : StOk z0Z zcg (mB 17 4093) 6 [13] := sa (z7O (be zaR) (be zaQ))
theorem zaT : StOk z0Z z9R (mB 17 7159) 6 [10] := se z8P
theorem zaU : StOk z0Z z9S (mB 17 3071) 6 [10] := sa (z7O (be zaR) (be z8P))
theorem zfG : StOk z0Z zch (mB 17 7157) 7 [10] := sa (z7O (be zaT) (be zaS))
theorem zfH : StOk z0Z zci (mB 17 3069) 7 [10] := sa (z7O (be zaU) (z7O (be zfF) (be zaS)))
theorem zfI : StOk z0Z zcj (mB 17 3063) 7 [10] := sa (z7O (be zaU) (be zaT))
theorem zgW : StOk z0Z zeo (mB 17 3061) 8 [10] := sa (z7O (be zfI) (z7O (be zfH) (be zfG)))
theorem zgX : StOk z0Z zep (mB 17 1013) 9 [10] := sq zgW
theorem zgY : StOk z0Z zeq (mB 17 501) 10 [10] := sq zgX
theorem zgZ : StOk z0Z zer (mB 17 245) 11 [10] := sq zgY
theorem zh0 : StOk z0Z zes (mB 17 117) 12 [10] := sq zgZ
theorem zh1 : StOk z0Z zet (mB 17 53) 13 [10] := sq zh0
theorem zh2 : StOk z0Z zeu (mB 17 21) 14 [10] := sq zh1
theorem zh3 : StOk z0Z zev (mB 17 5) 15 [10] := sq zh2
theorem zh4 : StOk z0Z zew (mB 17 1) 16 [10] := sq zh3
theorem zh5 : StOk z0Z zex (mB 17 0) 17 [10] := sq zh4
set_option maxHeartbeats 0 in
theorem zoH : z4o Tryd.prog 8 cf8 = true := zjV [16] fn8 bd8 rfl (by kernel_rfl) (by simp only [List.forall_mem_cons]; exact ⟨⟨_, rfl, zjH (by kernel_rfl) zh5 (by kernel_rfl) (by kernel_rfl)⟩, fun _ h => by cases h⟩)
theorem zmI : z4o Tryd.prog 11 cf11 = true := by kernel_rfl
theorem zmH : z4o Tryd.prog 12 cf12 = true := by kernel_rfl
theorem zmG : z4o Tryd.prog 15 cf15 = true := by kernel_rfl
theorem zmF : z4o Tryd.prog 16 cf16 = true := by kernel_rfl
theorem zmE : z4o Tryd.prog 17 cf17 = true := by kernel_rfl
theorem zmD : z4o Tryd.prog 18 cf18 = true := by kernel_rfl
theorem zmC : z4o Tryd.prog 19 cf19 = true := by kernel_rfl
theorem zmB : z4o Tryd.prog 24 cf24 = true := by kernel_rfl
theorem zmA : z4o Tryd.prog 28 cf28 = true := by kernel_rfl
theorem zmz : z4o Tryd.prog 29 cf29 = true := by kernel_rfl
theorem zmy : z4o Tryd.prog 30 cf30 = true := by kernel_rfl
theorem zmx : z4o Tryd.prog 31 cf31 = true := by kernel_rfl
theorem zmw : z4o Tryd.prog 32 cf32 = true := by kernel_rfl
theorem zmv : z4o Tryd.prog 34 cf34 = true := by kernel_rfl
theorem zmu : z4o Tryd.prog 35 cf35 = true := by kernel_rfl
theorem zmt : z4o Tryd.prog 36 cf36 = true := by kernel_rfl
theorem zms : z4o Tryd.prog 38 cf38 = true := by kernel_rfl
theorem zmr : z4o Tryd.prog 39 cf39 = true := by kernel_rfl
theorem zmq : z4o Tryd.prog 40 cf40 = true := by kernel_rfl
theorem zmp : z4o Tryd.prog 43 cf43 = true := by kernel_rfl
theorem zmo : z4o Tryd.prog 44 cf44 = true := by kernel_rfl
theorem zmn : z4o Tryd.prog 45 cf45 = true := by kernel_rfl
theorem zmm : z4o Tryd.prog 46 cf46 = true := by kernel_rfl
theorem zml : z4o Tryd.prog 47 cf47 = true := by kernel_rfl
theorem zmk : z4o Tryd.prog 54 cf54 = true := by kernel_rfl
theorem zmj : z4o Tryd.prog 55 cf55 = true := by kernel_rfl
theorem zmi : z4o Tryd.prog 56 cf56 = true := by kernel_rfl
theorem zmh : z4o Tryd.prog 57 cf57 = true := by kernel_rfl
theorem zmg : z4o Tryd.prog 58 cf58 = true := by kernel_rfl
theorem zmf : z4o Tryd.prog 59 cf59 = true := by kernel_rfl
theorem zme : z4o Tryd.prog 60 cf60 = true := by kernel_rfl
theorem zmd : z4o Tryd.prog 61 cf61 = true := by kernel_rfl
theorem zmc : z4o Tryd.prog 62 cf62 = true := by kernel_rfl
theorem zmb : z4o Tryd.prog 63 cf63 = true := by kernel_rfl
theorem zma : z4o Tryd.prog 64 cf64 = true := by kernel_rfl
theorem zm9 : z4o Tryd.prog 65 cf65 = true := by kernel_rfl
theorem zm8 : z4o Tryd.prog 66 cf66 = true := by kernel_rfl
theorem zm7 : z4o Tryd.prog 70 cf70 = true := by kernel_rfl
theorem zm6 : z4o Tryd.prog 71 cf71 = true := by kernel_rfl
theorem zm5 : z4o Tryd.prog 72 cf72 = true := by kernel_rfl
theorem zm4 : z4o Tryd.prog 73 cf73 = true := by kernel_rfl
theorem zm3 : z4o Tryd.prog 74 cf74 = true := by kernel_rfl
theorem zm2 : z4o Tryd.prog 75 cf75 = true := by kernel_rfl
theorem zm1 : z4o Tryd.prog 80 cf80 = true := by kernel_rfl
theorem zm0 : z4o Tryd.prog 81 cf81 = true := by kernel_rfl
theorem zlZ : z4o Tryd.prog 89 cf89 = true := by kernel_rfl
theorem zlY : z4o Tryd.prog 93 cf93 = true := by kernel_rfl
theorem z1K {p : Prop} [Decidable p] {a c : Cfg} {r : Option Cfg} {G : Prop} (h : (if p then some a else r) = some c) (h1 : p -> a = c -> G) (h2 : r = some c -> G) : G := by
  split at h
  · rename_i hp; exact h1 hp (Option.some.inj h)
  · exact h2 h
theorem zoJ : ∀ f c, z1A f = some c -> z4o Tryd.prog f c = true := by
  intro f c h
  unfold z1A at h
  refine z1K h (fun e h => by rw [e, ← h]; exact zoH) fun h => ?_
  refine z1K h (fun e h => by rw [e, ← h]; exact zmI) fun h => ?_
  refine z1K h (fun e h => by rw [e, ← h]; exact zmH) fun h => ?_
  refine z1K h (fun e h => by rw [e, ← h]; exact zmG) fun h => ?_
  refine z1K h (fun e h => by rw [e, ← h]; exact zmF) fun h => ?_
  refine z1K h (fun e h => by rw [e, ← h]; exact zmE) fun h => ?_
  refine z1K h (fun e h => by rw [e, ← h]; exact zmD) fun h => ?_
  refine z1K h (fun e h => by rw [e, ← h]; exact zmC) fun h => ?_
  refine z1K h (fun e h => by rw [e, ← h]; exact zmB) fun h => ?_
  refine z1K h (fun e h => by rw [e, ← h]; exact zmA) fun h => ?_
  refine z1K h (fun e h => by rw [e, ← h]; exact zmz) fun h => ?_
  refine z1K h (fun e h => by rw [e, ← h]; exact zmy) fun h => ?_
  refine z1K h (fun e h => by rw [e, ← h]; exact zmx) fun h => ?_
  refine z1K h (fun e h => by rw [e, ← h]; exact zmw) fun h => ?_
  refine z1K h (fun e h => by rw [e, ← h]; exact zmv) fun h => ?_
  refine z1K h (fun e h => by rw [e, ← h]; exact zmu) fun h => ?_
  refine z1K h (fun e h => by rw [e, ← h]; exact zmt) fun h => ?_
  refine z1K h (fun e h => by rw [e, ← h]; exact zms) fun h => ?_
  refine z1K h (fun e h => by rw [e, ← h]; exact zmr) fun h => ?_
  refine z1K h (fun e h => by rw [e, ← h]; exact zmq) fun h => ?_
  refine z1K h (fun e h => by rw [e, ← h]; exact zmp) fun h => ?_
  refine z1K h (fun e h => by rw [e, ← h]; exact zmo) fun h => ?_
  refine z1K h (fun e h => by rw [e, ← h]; exact zmn) fun h => ?_
  refine z1K h (fun e h => by rw [e, ← h]; exact zmm) fun h => ?_
  refine z1K h (fun e h => by rw [e, ← h]; exact zml) fun h => ?_
  refine z1K h (fun e h => by rw [e, ← h]; exact zmk) fun h => ?_
  refine z1K h (fun e h => by rw [e, ← h]; exact zmj) fun h => ?_
  refine z1K h (fun e h => by rw [e, ← h]; exact zmi) fun h => ?_
  refine z1K h (fun e h => by rw [e, ← h]; exact zmh) fun h => ?_
  refine z1K h (fun e h => by rw [e, ← h]; exact zmg) fun h => ?_
  refine z1K h (fun e h => by rw [e, ← h]; exact zmf) fun h => ?_
  refine z1K h (fun e h => by rw [e, ← h]; exact zme) fun h => ?_
  refine z1K h (fun e h => by rw [e, ← h]; exact zmd) fun h => ?_
  refine z1K h (fun e h => by rw [e, ← h]; exact zmc) fun h => ?_
  refine z1K h (fun e h => by rw [e, ← h]; exact zmb) fun h => ?_
  refine z1K h (fun e h => by rw [e, ← h]; exact zma) fun h => ?_
  refine z1K h (fun e h => by rw [e, ← h]; exact zm9) fun h => ?_
  refine z1K h (fun e h => by rw [e, ← h]; exact zm8) fun h => ?_
  refine z1K h (fun e h => by rw [e, ← h]; exact zm7) fun h => ?_
  refine z1K h (fun e h => by rw [e, ← h]; exact zm6) fun h => ?_
  refine z1K h (fun e h => by rw [e, ← h]; exact zm5) fun h => ?_
  refine z1K h (fun e h => by rw [e, ← h]; exact zm4) fun h => ?_
  refine z1K h (fun e h => by rw [e, ← h]; exact zm3) fun h => ?_
  refine z1K h (fun e h => by rw [e, ← h]; exact zm2) fun h => ?_
  refine z1K h (fun e h => by rw [e, ← h]; exact zm1) fun h => ?_
  refine z1K h (fun e h => by rw [e, ← h]; exact zm0) fun h => ?_
  refine z1K h (fun e h => by rw [e, ← h]; exact zlZ) fun h => ?_
  refine z1K h (fun e h => by rw [e, ← h]; exact zlY) fun h => ?_
  cases h
end
section
open Go.RowKit
def zah (P : Program) : Nat -> TypeId -> Bool
  | 0, _ => false
  | m + 1, t =>
    match P.underlying t with
    | some (.slice e) => P.cellsOf e != 0 && zah P m e
    | some (.pointer e) => zah P m e
    | some (.struct fs) => fs.toList.all fun f => zah P m f.type
    | some (.array _ e) => zah P m e
    | some (.map _ e) => zah P m e
    | _ => true
section
variable {H : Type} {enc : TypeId × Value -> H} {P : Program} {w : World} {base : Nat}
theorem zay {m : Nat} {r r' : TypeId -> List Value -> Option (DataW H × List MemPlace)}
    (hr : ∀ t cs x, zah P m t = true -> r t cs = some x -> r' t cs = some x) {t : TypeId} {cs : List Value} {x : DataW H × List MemPlace} (hf : zah P (m + 1) t = true)
    (h : DataW.trodStep enc P w base (fun _ => true) true r t cs = some x) : DataW.trodStep enc P w base (fun b => decide (b < w.heap.size)) true r' t cs = some x := by
  unfold DataW.trodStep at h ⊢
  unfold zah at hf
  split at h
  case h_1 => exact h
  case h_2 => exact h
  case h_3 => exact h
  case h_4 => exact h
  case h_5 => exact h
  case h_6 e a hu =>
    rw [hu] at hf
    simp only [Option.map_eq_some_iff, Option.bind_eq_some_iff] at h ⊢
    obtain ⟨y, ⟨cs', hc, hy⟩, rfl⟩ := h
    exact ⟨y, ⟨cs', hc, hr _ _ _ hf hy⟩, rfl⟩
  case h_7 => exact h
  case h_8 e a len cap hu =>
    rw [hu] at hf
    simp only [Bool.and_eq_true, bne_iff_ne, ne_eq] at hf
    obtain ⟨hcell, hfe⟩ := hf
    simp only at h ⊢
    split at h
    · rename_i hc
      rw [if_pos hc]
      simp only [Option.map_eq_some_iff, Option.bind_eq_some_iff, if_true] at h ⊢
      obtain ⟨elems, he, rest, hrest, rfl⟩ := h
      have one : ∀ (i : Nat) (y : DataW H × List MemPlace), (w.cells? base (a.add (i * P.cellsOf e)) (P.cellsOf e)).bind (r e) = some y -> (w.cells? base (a.add (i * P.cellsOf e)) (P.cellsOf e)).bind (r' e) = some y := by
        intro i y hv
        simp only [Option.bind_eq_some_iff] at hv ⊢
        obtain ⟨cs', hc', hy'⟩ := hv
        exact ⟨cs', hc', hr _ _ _ hfe hy'⟩
      refine ⟨elems, mapM_carry he (fun i y _ _ hy => one i y hy), rest, ?_, rfl⟩
      by_cases hb : a.block < w.heap.size
      · rw [if_pos (by simpa using hb)]
        exact mapM_carry hrest (fun j y _ _ hy => one (len + j) y hy)
      · rw [if_neg (by simpa using hb)]
        have hz : cap - len = 0 := by
          rcases Nat.eq_zero_or_pos (cap - len) with h0 | h0
          · exact h0
          · exfalso
            have hl : rest.length = cap - len := by simpa using mapM_some_length hrest
            have h1 := mapM_some_get hrest 0 0 (by simp [h0])
            obtain ⟨y, hy⟩ : ∃ y, rest[0]? = some y := ⟨rest[0], List.getElem?_eq_getElem (by omega)⟩
            rw [hy] at h1
            simp only [Option.bind_eq_some_iff] at h1
            obtain ⟨cs', hc', _⟩ := h1
            have h2 := World.cells?_block hc' (by omega)
            have h3 : (a.add ((len + 0) * P.cellsOf e)).block = a.block := by unfold Addr.add; split <;> rfl
            omega
        rw [hz] at hrest
        simpa using hrest
    · cases h
  case h_9 fs _ hu =>
    rw [hu] at hf
    split at h
    · rename_i hc
      rw [if_pos hc]
      simp only [Option.map_eq_some_iff] at h ⊢
      obtain ⟨xs, hx, rfl⟩ := h
      exact ⟨xs, mapM_carry hx (fun f y hin _ hv => hr _ _ _ (List.all_eq_true.1 hf f hin) hv), rfl⟩
    · cases h
  case h_10 n e _ hu =>
    rw [hu] at hf
    split at h
    · rename_i hc
      rw [if_pos hc]
      simp only [Option.map_eq_some_iff] at h ⊢
      obtain ⟨xs, hx, rfl⟩ := h
      exact ⟨xs, mapM_carry hx (fun f y _ _ hv => hr _ _ _ hf hv), rfl⟩
    · cases h
  case h_11 => exact h
  case h_12 => exact h
  case h_13 => exact h
  case h_14 k e b hu =>
    rw [hu] at hf
    split at h
    · rename_i es clock hb
      split at h
      · rename_i hc
        simp only [Option.bind_eq_some_iff] at h
        obtain ⟨entries, he, hd⟩ := h
        split at hd
        · rename_i hris
          have hx := Option.some.inj hd
          subst hx
          simp only [if_pos hc, Option.bind_eq_some_iff]
          refine ⟨entries, mapM_carry he (fun x y _ hy hv => ?_), by simp [hris]⟩
          simp only [Option.bind_eq_some_iff] at hv ⊢
          obtain ⟨key, hk, hz⟩ := hv
          refine ⟨key, hk, ?_⟩
          split at hz
          · rename_i hfm
            rw [if_pos hfm]
            simp only [Option.map_eq_some_iff] at hz ⊢
            obtain ⟨q, hq, rfl⟩ := hz
            exact ⟨q, hr _ _ _ hf hq, rfl⟩
          · cases hz
        · cases hd
      · cases h
    · cases h
  case h_15 => exact h
  case h_16 => exact h
  case h_17 => exact h
  case h_18 => exact h
  case h_19 => exact h
  case h_20 => exact h
  case h_21 => cases h
theorem zfz : ∀ (n m : Nat) (t : TypeId) (cs : List Value) (x : DataW H × List MemPlace), zah P m t = true ->
    DataW.trod enc P w base (fun _ => true) true n t cs = some x -> DataW.trod enc P w base (fun b => decide (b < w.heap.size)) true n t cs = some x := by
  intro n
  induction n with
  | zero => intro m t cs x _ h; simp [DataW.trod] at h
  | succ n ih =>
    intro m t cs x hf h
    cases m with
    | zero => simp [zah] at hf
    | succ m =>
      rw [DataW.trod_step] at h ⊢
      exact zay (m := m) (fun t cs x hf hx => ih m t cs x hf hx) hf h
theorem zcp {w' : World} (hb : Below w.heap.size w w') {p : MemPlace} (hp : p.block < w.heap.size) : w.sameAt w' p := by
  cases p with
  | cell b off => exact hb.cell (p := ⟨b, off, none⟩) hp
  | map b => exact hb.block b hp
theorem z8k {w' : World} (m : Nat) (hb : Below w.heap.size w w') : ∀ {ts : List TypeId} {vs : List Value} {ds : List (DataW H)} {ps : List MemPlace}, (ts.all (zah P m)) = true ->
    DataW.TrodAll enc P w 0 (fun _ => true) true ts vs ds ps -> DataW.TrodAll enc P w' 0 (fun b => decide (b < w.heap.size)) true ts vs ds ps
  | [], [], [], ps, _, h => h
  | t :: ts, v :: vs, d :: ds, ps, hf, ⟨p, q, ⟨n, h1⟩, h2, e⟩ => by
    simp only [List.all_cons, Bool.and_eq_true] at hf
    have h3 := zfz n m t _ _ hf.1 h1
    exact ⟨p, q, ⟨n, DataW.trod_carry n _ _ _ h3 (fun z hz => zcp hb (DataW.trod_lt n _ _ _ h3 z hz))⟩, z8k m hb hf.2 h2, e⟩
  | [], _ :: _, _, _, _, h => by cases h
  | [], [], _ :: _, _, _, h => by cases h
  | _ :: _, [], _, _, _, h => by cases h
  | _ :: _, _ :: _, [], _, _, h => by cases h
end
section
variable {H : Type} {enc : TypeId × Value -> H} {P : Program} {w : World} {r : Reach} {b0 : Nat}
open Go.ChangeShapes Go.WideShapes
open Go.Deep (open_bools)
theorem zio (a : Addr) (j : Nat) : (a.add j).block = a.block := by unfold Addr.add; split <;> rfl
end
end
section
open Go.ChangeShapes Go.WideShapes Go.RowKit
def KZ : Nat -> z0e := fun _ => []
theorem zhE {P : Program} {Xc : z0m -> z0m} {cf : FuncId -> Option Cfg} {f : FuncId} {args : List T} {outs : List T} (hX : ∀ C, z5m P (fun _ _ => True) C -> z5m P (fun _ _ => True) (Xc C)) (hm : P.follows .mixedOrders = true) (hf : ∀ f c, cf f = some c -> z4o P f c = true)
    (h : Lim P Xc cf f args = some (.sc (.bool true), outs)) (hio : args.all (fun t => !z1S t) = true) (W : World) (vals : Array Value) (hs : vals.size = args.length)
    (ha : ∀ i t, args[i]? = some t -> TRep W KZ [] (vals.getD i undef) t) : Calls P f vals W fun e W' => e = .returned (.bool true) /\ Below W.heap.size W W' := by
  have hc := zl8 (I := fun _ _ => True) EnvS.none hX hm hf h
  refine (hc.calls W KZ vals hs (fun i t hi => ?_) trivial).mono fun e W' ⟨v, K', he, hv, _, hst⟩ => ?_
  · have h1 := List.all_eq_true.1 hio t (List.mem_of_getElem? hi)
    unfold zbl
    rw [if_neg (by simpa using h1)]
    exact ha i t hi
  · generalize hT : T.sc (.bool true) = t at hv
    cases hv with
    | sc c v hb => cases hT; exact ⟨he, hst.os, hst.tape, hst.output, hst.size, fun b hb => (hst.old b hb (.inl rfl)).2⟩
    | _ => cases hT
section
variable {H : Type} {enc : TypeId × Value -> H} {P : Program} {w : World} {r : Reach} {b0 : Nat}
theorem zhz {t e : TypeId} {v : Value} {d : DataW H} {ps : List MemPlace} (ht : P.underlying t = some (.slice e)) (he : P.underlying e = some (.int .i64)) (hc : P.cellsOf e = 1)
    (hval : Value.okWide P w r b0 t v) (hd : DataW.Trod enc P w 0 (fun _ => true) true t v d ps) :
    ∃ xs : List Int, TRep w KZ [] v (.sl xs.length (xs.map fun x => .sc (.int .i64 x))) /\ xs.length <= maxLen /\ ∀ x ∈ xs, (Lit.int .i64 x).wf = true := by
  obtain ⟨ga, n, cap, rfl⟩ := okWide_slice ht hval
  obtain ⟨fuel, hf⟩ := hd
  rcases open_ints ht he hc hf with ⟨hcs, _⟩ | ⟨a, len', cap', zs, hcs, _, hl, hm, hz, _, hcell, hwz⟩
  · simp [Value.cells] at hcs
    obtain ⟨rfl, rfl, rfl⟩ := hcs
    exact ⟨[], .emp _ _ _ (by decide), by decide, fun x hx => by cases hx⟩
  · simp [Value.cells] at hcs
    obtain ⟨rfl, rfl, rfl⟩ := hcs
    simp only [if_true] at hz
    refine ⟨zs.take n, ?_, by simp; omega, fun x hx => hwz x (List.mem_of_mem_take hx)⟩
    have hln : (zs.take n).length = n := by simp; omega
    rw [hln]
    by_cases h0 : n = 0
    · subst h0
      simp only [List.take_zero, List.map_nil]
      exact .emp _ _ _ hm
    · have hc0 := hcell 0 (by omega)
      have hb := World.block_lt_of_cell? w _ hc0
      rw [zio] at hb
      have hsp : a.spot = none := by
        have : a.add 0 = a := by simp [Addr.add]
        rw [this] at hc0
        unfold World.cell? at hc0
        split at hc0
        · split at hc0
          · cases hc0
          · rename_i hh
            simpa using hh
        · cases hc0
      obtain ⟨g, o, sp⟩ := a
      simp only at hsp
      subst hsp
      refine .fro [] g o n cap _ (fun j => .int .i64 (zs.getD j 0)) rfl hb hl hm (fun j hj => ?_) (fun j t hj => ?_)
      · have h1 := hcell j (by simp at hj; omega)
        have e : (⟨g, o, none⟩ : Addr).add j = ⟨g, o + j, none⟩ := by
          unfold Addr.add
          split
          · rename_i h; subst h; rfl
          · rfl
        rw [e] at h1
        exact h1
      · simp only [List.getElem?_map, Option.map_eq_some_iff] at hj
        obtain ⟨x, hx, rfl⟩ := hj
        have hjn : j < n := by
          have := (List.getElem?_eq_some_iff.1 hx).1
          simp at this; omega
        rw [List.getElem?_take_of_lt hjn] at hx
        simp only [List.getD, hx]
        exact .sc _ _ rfl
end
end
end Go.Proofs.YthalofddjlhcjaaDoor
section
/- Proved here: the law CascadeChanged returns true for every input, and its arguments read afterwards as before; the row's listed tables are tied to the program's text by the given tie. No other condition. -/
namespace Go.Proofs.YthalofddjlhcjaaDoor.cascadeChanged
open Go.ChangeShapes Go.WideShapes Go.ChangeAt Go.RowKit
open Go.ChangeMaps (open_string shut_string)
theorem own : ownKnob Tryd.prog.godebug = none := by kernel_rfl
set_option maxRecDepth 100000 in
theorem zjb (H : Type) (enc : TypeId × Value -> H) (W : World) (base : Nat) (args : Array Value) (ds gs : List (DataW H)) (before : List MemPlace)
    (hval0 : ∀ (j : Nat) t v, Tryd.f8.params[j]? = some t -> args[j]? = some v -> Value.okWide Tryd.prog W .any base t v)
    (hW : DataW.Whole enc Tryd.prog Tryd.f8.params.toList Rows.cascadeChangedSpec.vars false W args.toList ds gs before) :
    Calls Tryd.prog 8 args W fun e W' => ∃ v, e = .returned v /\ Rows.cascadeChangedSpec.post enc Tryd.prog Tryd.f8 false true false false W args v W' := by
  have hW' := hW
  obtain ⟨p, q, hA0, hV, rfl, hfz, hnd⟩ := hW
  have hval := hval0
  have hA : DataW.TrodAll enc Tryd.prog W 0 (fun _ => true) true Tryd.f8.params.toList args.toList ds p := hA0
  rw [Tryd.params8] at hA hval
  obtain ⟨v0, vs0, d0, ds0, p0, q0, hargs, rfl, rfl, h0, r0⟩ := trodAll_cons hA
  obtain ⟨v1, vs1, d1, ds1, p1, q1, rfl, rfl, rfl, h1, r1⟩ := trodAll_cons r0
  obtain ⟨v2, vs2, d2, ds2, p2, q2, rfl, rfl, rfl, h2, r2⟩ := trodAll_cons r1
  obtain ⟨v3, vs3, d3, ds3, p3, q3, rfl, rfl, rfl, h3, r3⟩ := trodAll_cons r2
  obtain ⟨rfl, rfl, rfl⟩ := trodAll_nil r3
  obtain rfl : args = #[v0, v1, v2, v3] := by cases args; simp_all
  obtain ⟨rfl, rfl⟩ := trodVars_none hV
  obtain ⟨a0, t0, w0, z0⟩ := zhz Tryd.underlying22 Tryd.underlying3 (by kernel_rfl) (hval 0 22 v0 rfl rfl) h0
  obtain ⟨a1, rfl, rfl, rfl, w1⟩ := open_int Tryd.underlying3 (hval 1 3 v1 rfl rfl) h1
  obtain ⟨a2, rfl, rfl, rfl, w2⟩ := open_int Tryd.underlying3 (hval 2 3 v2 rfl rfl) h2
  obtain ⟨a3, rfl, rfl, rfl, w3⟩ := open_int Tryd.underlying3 (hval 3 3 v3 rfl rfl) h3
  obtain ⟨outs, hlaw⟩ := znR a0 w0 z0 a1 w1 a2 w2 a3 w3
  refine (zhE znC (by kernel_rfl) zoJ hlaw rfl W _ rfl (fun i t hi => ?_)).mono fun e W' ⟨he, bel⟩ => ?_
  · match i, hi with
    | 0, hi => cases hi; exact t0
    | 1, hi => cases hi; exact .sc _ _ rfl
    | 2, hi => cases hi; exact .sc _ _ rfl
    | 3, hi => cases hi; exact .sc _ _ rfl
  · subst he
    exact ⟨_, rfl, _, _, _, [], _, [], hW', trodAll_mk1 (shut_bool Tryd.underlying4 _), z8k 12 bel (by kernel_rfl) hA0, rfl, bel.frame _, fun h => by cases h⟩
noncomputable def zac (os : Os) : World :=
  { World.holding Tryd.prog os ⟨#[], #[], []⟩ with heap := ((((World.holding Tryd.prog os ⟨#[], #[], []⟩).heap.modify 4 fun | .cells _ t frozen => .cells #[.int .u8 0, .int .u8 1, .int .u8 28, .int .u8 2, .int .u8 29, .int .u8 14, .int .u8 24, .int .u8 3, .int .u8 30, .int .u8 22, .int .u8 20, .int .u8 15, .int .u8 25, .int .u8 17, .int .u8 4, .int .u8 8, .int .u8 31, .int .u8 27, .int .u8 13, .int .u8 23, .int .u8 21, .int .u8 19, .int .u8 16, .int .u8 7, .int .u8 26, .int .u8 12, .int .u8 18, .int .u8 6, .int .u8 11, .int .u8 5, .int .u8 10, .int .u8 9] t frozen | o => o).modify 5 fun | .cells _ t frozen => .cells #[.int .u8 0, .int .u8 1, .int .u8 56, .int .u8 2, .int .u8 57, .int .u8 49, .int .u8 28, .int .u8 3, .int .u8 61, .int .u8 58, .int .u8 42, .int .u8 50, .int .u8 38, .int .u8 29, .int .u8 17, .int .u8 4, .int .u8 62, .int .u8 47, .int .u8 59, .int .u8 36, .int .u8 45, .int .u8 43, .int .u8 51, .int .u8 22, .int .u8 53, .int .u8 39, .int .u8 33, .int .u8 30, .int .u8 24, .int .u8 18, .int .u8 12, .int .u8 5, .int .u8 63, .int .u8 55, .int .u8 48, .int .u8 27, .int .u8 60, .int .u8 41, .int .u8 37, .int .u8 16, .int .u8 46, .int .u8 35, .int .u8 44, .int .u8 21, .int .u8 52, .int .u8 32, .int .u8 23, .int .u8 11, .int .u8 54, .int .u8 26, .int .u8 40, .int .u8 15, .int .u8 34, .int .u8 20, .int .u8 31, .int .u8 10, .int .u8 25, .int .u8 14, .int .u8 19, .int .u8 9, .int .u8 13, .int .u8 8, .int .u8 7, .int .u8 6] t frozen | o => o).modify 3 fun | .cells _ t frozen => .cells #[.int .u64 1, .int .u64 10, .int .u64 100, .int .u64 1000, .int .u64 10000, .int .u64 100000, .int .u64 1000000, .int .u64 10000000, .int .u64 100000000, .int .u64 1000000000, .int .u64 10000000000, .int .u64 100000000000, .int .u64 1000000000000, .int .u64 10000000000000, .int .u64 100000000000000, .int .u64 1000000000000000, .int .u64 10000000000000000, .int .u64 100000000000000000, .int .u64 1000000000000000000, .int .u64 10000000000000000000] t frozen | o => o) }
theorem ziS (os : Os) : laidMet Tryd.prog Rows.cascadeChangedRow.laid ((zac os).forCall (fun _ _ => 0) ⟨#[], #[.slice none 0 0, .int .i64 0, .int .i64 0, .int .i64 0], []⟩).memory :=
  laidMet_of_run' 8 (by kernel_rfl) (by kernel_rfl)
theorem zlM (os : Os) {H : Type} (enc : TypeId × Value -> H) : ∃ places, DataW.whole enc Tryd.prog ((zac os).forCall (fun _ _ => 0) ⟨#[], #[.slice none 0 0, .int .i64 0, .int .i64 0, .int .i64 0], []⟩).memory Tryd.f8.params.toList Rows.cascadeChangedSpec.vars false (#[.slice none 0 0, .int .i64 0, .int .i64 0, .int .i64 0] : Array Value).toList 8 = some ([.nil, .lit (.int .i64 0), .lit (.int .i64 0), .lit (.int .i64 0)], [], places) :=
  ⟨[], by kernel_rfl⟩
set_option maxRecDepth 100000 in
theorem zla (os : Os) (started : os.Started) (H : Type) (enc : TypeId × Value -> H) (F : Stop.Interp) :
    ReturnsInHanded {} Tryd.checked os 8 .any ((OpenSpec.ofChange Rows.cascadeChangedSpec).preRow enc Tryd.prog Tryd.f8 Rows.cascadeChangedRow.domain false Rows.cascadeChangedRow.laid) (((OpenSpec.ofChange Rows.cascadeChangedSpec).at F).post enc Tryd.prog Tryd.f8 false true false false) := by
  obtain ⟨places, hx⟩ := zlM os enc
  refine returnsInHanded_of_row (C := Tryd.checked) (s := (OpenSpec.ofChange Rows.cascadeChangedSpec)) own started (by kernel_rfl) Tryd.func8
    (witness_row_at (enc := enc) (C := Tryd.checked) false (zac os) #[.slice none 0 0, .int .i64 0, .int .i64 0, .int .i64 0] rfl (by kernel_rfl) (by kernel_rfl) (by kernel_rfl)
      (OpenSpec.preRow_of_cond 8 hx (by kernel_rfl) (fun k hk => by cases hk) (by kernel_rfl) (ziS os))) ?_
  intro W base args ds gs before hval hW _ _ _ hL _ _
  exact zjb H enc W base args ds gs before hval hW
theorem znL : Rows.CascadeChangedSaid :=
  OpenClaim.holds_of_cond 8 Tryd.f8 rfl rfl rfl rfl rfl rfl rfl ⟨rfl, rfl, rfl, rfl, rfl⟩ rfl rfl rfl rfl rfl (by kernel_rfl) Tryd.func8 (by kernel_rfl)
    (of_decide_eq_true (by kernel_rfl)) (by unfold Func.isWrapper; first | (rw [if_pos (by decide +kernel)]; kernel_rfl) | (rw [if_neg (by decide +kernel)]; exact ⟨rfl, rfl⟩))
    (fun os started H enc _ F => by rw [OpenClaim.pre_eq_preRow]; exact zla os started H enc F)
theorem zlO (f : FuncId) (fn : Func) (hf : Tryd.pinned.checked.prog.funcNamed "semigroup/semigrouplaw26.CascadeChanged" = some f) (hfn : Tryd.pinned.checked.prog.funcs[f]? = some fn) :
    false = Tryd.pinned.checked.prog.looks [] /\ ∀ (j : Nat) t, fn.params[j]? = some t -> Tryd.pinned.checked.prog.wantsStandIn t = false := by
  obtain rfl : f = 8 := Option.some.inj ((show Tryd.prog.funcNamed "semigroup/semigrouplaw26.CascadeChanged" = some 8 by kernel_rfl).symm.trans hf) |>.symm
  obtain rfl : fn = Tryd.f8 := (Option.some.inj (Tryd.func8.symm.trans hfn)).symm
  refine ⟨by kernel_rfl, fun j t ht => ?_⟩
  rw [Tryd.params8] at ht
  have ht2 : t = 22 ∨ t = 3 := by simpa using Array.mem_of_getElem? ht
  rcases ht2 with h | h
  · exact (congrArg (fun t => Tryd.pinned.checked.prog.wantsStandIn t) h).trans (show Tryd.pinned.checked.prog.wantsStandIn 22 = false by kernel_rfl)
  · exact (congrArg (fun t => Tryd.pinned.checked.prog.wantsStandIn t) h).trans (show Tryd.pinned.checked.prog.wantsStandIn 3 = false by kernel_rfl)
theorem proved : Rows.CascadeChangedCardSaid :=
  Claim7.holds_tied_plain_at .later [] _ _ _ _ znL (fun _ h => by cases h) (by kernel_rfl) (fun _ h => by cases h) cascadeChanged_row_tie rfl ⟨rfl, rfl⟩ (by kernel_rfl) rfl zlO (by kernel_rfl)
#print axioms proved
end Go.Proofs.YthalofddjlhcjaaDoor.cascadeChanged
end

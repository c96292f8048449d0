/- Proved here: the law ImagesHeights returns true for every input, and its arguments read afterwards as before. No condition. -/
import Derived.Test.YtbnnipkanechoaaB5
import Derived.Test.YtbnnipkanechoaaRows
import Derived.Test.YtbnnipkanechoaaChecked
import Derived.WalkKit
import Derived.ProofKit
import Derived.OpenShut
import Derived.ShutString
import Derived.ChangeOld
import Derived.Below
import Derived.Deep.DeepHandedRow
set_option linter.unusedVariables false
set_option linter.unusedSimpArgs false
section
namespace Go.Proofs.Ytbnnipkanechoaa
open Go
noncomputable section
set_option maxRecDepth 100000
set_option maxHeartbeats 1000000
def z3h (v26 : Imgs × Int) (v27 : Int) (v29 : Int × Int) : Int → Option (Int ⊕ Bool)
  | w34 =>
  if w34 < (v26.1.sets.length : Int) then
    (atI v26.1.sets w34).bind fun v39 =>
    if v39 = v29.1 then
      if v29.2 = 0 then
        (atI v26.1.height w34).bind fun v40 =>
        (atI v26.1.height v27).bind fun v41 =>
        if v40 ≤ v41 then
          (zjg).bind fun v42 =>
          z0Y <|
          some v42
        else
          z0Y <|
          some false
      else
        z0Y <|
        some false
    else
      z0Z (IntKind.i64.wrap (w34 + 1))
  else
    z0Y <|
    some false
def z3g (v26 : Imgs × Int) (v27 : Int) (v29 : Int × Int) : Int → Fr
  | w34 => ⟨93, [(8, .one (.a 8 [] (0))), (10, .one (.t none (.sc (.int .i64 v27)))), (11, .one (.t none (.sc (.int .i64 v29.1)))), (12, .one (.t none (.sc (.int .i64 v29.2)))), (64, .one (.t none (.sl v26.1.sets.length (v26.1.sets.map fun x0 => .sc (.int .i64 x0))))), (65, .one (.t none (.sc (.int .i64 (v26.1.sets.length : Int))))), (66, .one (.t none (.sc (.int .i64 w34))))], [(8, .vr [.sl v26.1.sets.length (v26.1.sets.map fun x0 => .sc (.int .i64 x0)), .sl v26.1.class_.length (v26.1.class_.map fun x0 => .sc (.int .i64 x0)), .sl v26.1.height.length (v26.1.height.map fun x0 => .sc (.int .i64 x0)), .sl v26.1.tiles.length (v26.1.tiles.map fun x0 => .sl x0.length (x0.map fun x1 => .sc (.int .i64 x1))), .sl v26.1.words.length (v26.1.words.map fun x0 => .sc (.string x0)), .sl v26.1.back.length (v26.1.back.map fun x0 => .sc (.string x0))])]⟩
def z4i (a0 : List Int) (a1 : Int) : Option (Bool) :=
  (z7B a0).bind fun v22 =>
  (z2D v22).bind fun v23 =>
  (z2M v23.2 v23.1 5).bind fun v24 =>
  (z4K v24.2 v24.1.letters 6).bind fun v25 =>
  (z6A v24.1).bind fun v26 =>
  if v26.2 = 0 then
    if (v26.1.sets.length : Int) = 0 then
      some false
    else
      if (v26.1.height.length : Int) = (v26.1.sets.length : Int) then
        (z8S a1 (v26.1.sets.length : Int)).bind fun v27 =>
        (atI v26.1.sets v27).bind fun v28 =>
        (z2q v24.1 v28 v25.1).bind fun v29 =>
        z1q (z3h v26 v27 v29) LFm 0
      else
        some false
  else
    some false
theorem z7M {a0 : List Int} {a1 : Int} {r : Bool} (h0 : z4i a0 a1 = some r) : L 6 [.sl a0.length (a0.map fun x0 => .sc (.int .i64 x0)), .sc (.int .i64 a1)] = some (.sc (.bool r), [.dead, .dead]) := by
  simp only [z4i] at h0
  refine z3M zvu fn6 (z1B bd6 ⟨of_decide_eq_true rfl, of_decide_eq_true rfl⟩ ?_)
  simp only [z1M, z1G, z1E, z1Q, z3Q]
  refine zq rfl (zr rfl rfl rfl (by simp; rfl) ?_)
  refine z0a (zq rfl ?_)
  obtain ⟨v22, f36, h1⟩ := z0c h0
  have f36k := z9K f36
  try simp at f36k
  refine zr rfl rfl rfl (by simp [f36k]; rfl) ?_
  refine z0a (zq rfl ?_)
  obtain ⟨v23, f37, h2⟩ := z0c h1
  have f37k := z4F f37
  try simp at f37k
  obtain ⟨v24, f38, h3⟩ := z0c h2
  have f38k := z5N f38
  try simp at f38k
  refine zr rfl rfl rfl (by simp [f37k, f38k]; rfl) ?_
  refine z0a (zq rfl ?_)
  obtain ⟨v25, f39, h4⟩ := z0c h3
  have f39k := zbA f39
  try simp at f39k
  refine zr rfl rfl rfl (by simp [f39k]; rfl) ?_
  refine z0a (zq rfl (zlv rfl rfl (by simp; rfl) ?_))
  obtain ⟨v26, f40, h5⟩ := z0c h4
  have f40k := z8e f40
  try simp at f40k
  refine zr rfl rfl rfl (by simp [f40k]; rfl) ?_
  refine z0a (zq rfl (zq rfl ?_))
  by_cases c41 : v26.2 = 0
  ·rw [if_pos c41] at h5
   have c41e := eq_true c41
   by_cases c42 : (v26.1.sets.length : Int) = 0
   ·rw [if_pos c42] at h5
    have c42e := eq_true c42
    have c42s : v26.1.sets = [] := by simpa [List.length_pos_iff] using c42
    refine zr rfl rfl rfl (by simp [c41e, c42e, c42s]; rfl) ?_
    refine z0a (z0v rfl (by simp) (zq rfl (zr rfl rfl rfl (by simp; rfl) ?_)))
    refine z0a (z1o rfl (z0e ?_))
    cases h5
    simp
   ·rw [if_neg c42] at h5
    have c42e := eq_false c42
    have c42s : v26.1.sets ≠ [] := by simpa [List.length_pos_iff] using c42
    refine zr rfl rfl rfl (by simp [c41e, c42e, c42s]; rfl) ?_
    refine z0a ?_
    by_cases c43 : (v26.1.height.length : Int) = (v26.1.sets.length : Int)
    ·rw [if_pos c43] at h5
     have c43e := eq_true c43
     refine z0t rfl (by simp [c43e]) (z0g rfl (z0a (zq rfl ?_)))
     obtain ⟨v27, f44, h6⟩ := z0c h5
     have f44k := zdn f44
     try simp at f44k
     refine zr rfl rfl rfl (by simp [f44k]; rfl) ?_
     refine z0a (zq rfl ?_)
     obtain ⟨v28, f45, h7⟩ := z1e h6
     obtain ⟨v29, f46, h8⟩ := z0c h7
     have f46k := z3p f46
     try simp at f46k
     refine z1g rfl rfl rfl rfl ?_; repeat' ((first | refine z0p rfl rfl fun Q' hQ => ?_ | refine z0m rfl fun Q' hQ => ?_); simp [f45, f46k]; refine hQ.out _ ?_; clear hQ; clear Q')
     refine z0a (zq rfl (zq rfl (zr rfl rfl rfl (by simp; rfl) ?_)))
     refine z0a (zb rfl (z0X h8 (z3g v26 v27 v29) rfl rfl (by simp [z3g]) fun s o1 h9 hr1 => ?_))
     obtain ⟨w34, hs1⟩ : ∃ y, y = s := ⟨_, rfl⟩
     subst hs1
     simp only [z3h] at h9
     simp only [z3g]
     refine zq rfl (zr rfl rfl rfl (by simp; rfl) ?_)
     refine z0a (zq rfl ?_)
     by_cases c63 : w34 < (v26.1.sets.length : Int)
     ·rw [if_pos c63] at h9
      refine z0v rfl (by simp [c63]) (z0g rfl (z0a (zq rfl (zb rfl (zq rfl ?_)))))
      obtain ⟨v39, f64, h10⟩ := z1e h9
      refine zr rfl rfl rfl (by simp [f64]; rfl) ?_
      refine z0a (zq rfl (zr rfl rfl rfl (by simp; rfl) ?_))
      refine z0a ?_
      by_cases c65 : v39 = v29.1
      ·rw [if_pos c65] at h10
       have c65e := eq_true c65
       refine z0v rfl (by simp [c65e]) (zq rfl ?_)
       by_cases c66 : v29.2 = 0
       ·rw [if_pos c66] at h10
        have c66e := eq_true c66
        obtain ⟨v40, f67, h11⟩ := z1e h10
        obtain ⟨v41, f68, h12⟩ := z1e h11
        by_cases c69 : v40 ≤ v41
        ·rw [if_pos c69] at h12
         obtain ⟨v42, f70, h13⟩ := z0c h12
         have f70k := zcc f70
         try simp at f70k
         refine z1g rfl rfl rfl rfl ?_; repeat' (first | (refine z0p rfl rfl fun Q' hQ => ?_; simp [c66e, f67, f68, c69, f70k]; refine hQ.out _ ?_; clear hQ; clear Q') | (refine z1d rfl rfl fun Q1 Q2 h1 h2 => ?_; simp [c66e, f67, f68, c69, f70k, z1K]; (first | refine h1.out ?_ | refine h2.out ?_); clear h1 h2; clear Q1 Q2; intro Q' hQ; simp [c66e, f67, f68, c69, f70k]; refine hQ.out _ ?_; clear hQ; clear Q') | (refine z0m rfl fun Q' hQ => ?_; simp [c66e, f67, f68, c69, f70k]; refine hQ.out _ ?_; clear hQ; clear Q'))
         refine z0a (z1o rfl (z0n (z0e ?_)))
         obtain ⟨rr1, h14, ho1⟩ := z0b h13
         have hs1 := hr1 _ ho1
         subst hs1
         refine z1n ho1 (z0n (z0e ?_))
         cases h14
         simp
        ·rw [if_neg c69] at h12
         refine z1g rfl rfl rfl rfl ?_; repeat' (first | (refine z0p rfl rfl fun Q' hQ => ?_; simp [c66e, f67, f68, c69]; refine hQ.out _ ?_; clear hQ; clear Q') | (refine z1d rfl rfl fun Q1 Q2 h1 h2 => ?_; simp [c66e, f67, f68, c69, z1K]; (first | refine h1.out ?_ | refine h2.out ?_); clear h1 h2; clear Q1 Q2; intro Q' hQ; simp [c66e, f67, f68, c69]; refine hQ.out _ ?_; clear hQ; clear Q') | (refine z0m rfl fun Q' hQ => ?_; simp [c66e, f67, f68, c69]; refine hQ.out _ ?_; clear hQ; clear Q'))
         refine z0a (z1o rfl (z0n (z0e ?_)))
         obtain ⟨rr1, h13, ho1⟩ := z0b h12
         have hs1 := hr1 _ ho1
         subst hs1
         refine z1n ho1 (z0n (z0e ?_))
         cases h13
         simp
       ·rw [if_neg c66] at h10
        have c66e := eq_false c66
        refine z1g rfl rfl rfl rfl ?_; repeat' (first | (refine z0p rfl rfl fun Q' hQ => ?_; simp [c66e]; refine hQ.out _ ?_; clear hQ; clear Q') | (refine z1d rfl rfl fun Q1 Q2 h1 h2 => ?_; simp [c66e, z1K]; (first | refine h1.out ?_ | refine h2.out ?_); clear h1 h2; clear Q1 Q2; intro Q' hQ; simp [c66e]; refine hQ.out _ ?_; clear hQ; clear Q') | (refine z0m rfl fun Q' hQ => ?_; simp [c66e]; refine hQ.out _ ?_; clear hQ; clear Q'))
        refine z0a (z1o rfl (z0n (z0e ?_)))
        obtain ⟨rr1, h11, ho1⟩ := z0b h10
        have hs1 := hr1 _ ho1
        subst hs1
        refine z1n ho1 (z0n (z0e ?_))
        cases h11
        simp
      ·rw [if_neg c65] at h10
       have c65e := eq_false c65
       refine z0t rfl (by simp [c65e]) (z0g rfl (z0l (z0a (zr rfl rfl rfl (by simp; rfl) ?_))))
       have ho := z0d h10
       refine z0i ho ?_
       simp [z3g]
     ·rw [if_neg c63] at h9
      refine z0t rfl (by simp [c63]) (z1t rfl (z0T ?_))
      obtain ⟨rr1, h10, ho1⟩ := z0b h9
      have hs1 := hr1 _ ho1
      subst hs1
      refine z0y ho1 (z0f rfl (z0a (zq rfl (zr rfl rfl rfl (by simp; rfl) ?_))))
      refine z0a (z1o rfl ?_)
      cases h10
      simp
    ·rw [if_neg c43] at h5
     have c43e := eq_false c43
     refine z0v rfl (by simp [c43e]) (zq rfl (zr rfl rfl rfl (by simp; rfl) ?_))
     refine z0a (z1o rfl (z0e ?_))
     cases h5
     simp
  ·rw [if_neg c41] at h5
   have c41e := eq_false c41
   refine zr rfl rfl rfl (by simp [c41e]; rfl) ?_
   refine z0a (z0v rfl (by simp) (zq rfl (zr rfl rfl rfl (by simp; rfl) ?_)))
   refine z0a (z1o rfl (z0e ?_))
   cases h5
   simp
end
end Go.Proofs.Ytbnnipkanechoaa
end
section
namespace Go.Proofs.Ytbnnipkanechoaa
open Go
set_option maxRecDepth 100000
theorem zlG (l : List Int) (w0 : l.length ≤ maxLen) (z0 : ∀ x ∈ l, (Lit.int .i64 x).wf = true) (a : Int) (w1 : (Lit.int .i64 a).wf = true) : ∃ outs, L 6 [.sl l.length (l.map fun x => .sc (.int .i64 x)), .sc (.int .i64 a)] = some (bT true, outs) := by
  obtain ⟨t0, e0, h0⟩ := zne l
  obtain ⟨m, t1, e1, m1, m2, h1⟩ := zbB h0
  obtain ⟨d, t2, n, e2, hd, hn, h2⟩ := zob h1 m 5 ⟨m1, m2⟩ (by omega)
  obtain ⟨w, t3, e3, hw1, hw2, h3⟩ := zpS h2 (m : Int) 6 (by omega) (by omega)
  have h128 : 2 ^ n ≤ 128 := Nat.pow_le_pow_right (n := 2) (by omega) hn
  have hS := zdb hd
  have hSl := z1L hS.nd hS.lt
  have h1S := hS.one 0 (by have := hd.n1; omega)
  have hpos := List.length_pos_of_mem h1S
  have hb := zko hd hS
  obtain ⟨k, e4, k0, k1⟩ := zdo a ((z4q d m n).length : Int) (by omega) (by omega)
  obtain ⟨k, rfl⟩ := Int.eq_ofNat_of_zero_le k0
  have hk : k < (z4q d m n).length := by omega
  have hkm := z1r hk
  have hkl := hS.lt _ hkm
  have hwl : zoh m w.data.toList := fun c hc => by
    obtain ⟨i, hi, rfl⟩ := List.getElem_of_mem hc
    have hi' : i < w.size := by rw [Array.length_toList] at hi; exact hi
    have := hw1 i hi'
    rw [zdQ hi', List.getD, List.getElem?_eq_getElem hi, Option.getD_some] at this
    omega
  have hwb : zfm m w := ⟨by omega, hwl⟩
  have hsS := zhb hS hwl hkm
  have hidx := z9k hsS
  have hget := z5w hsS
  have happ : zhW d m n (((z4q d m n).getD k 0 : Nat) : Int) w = (((z6j d ((z4q d m n).getD k 0) w.data.toList : Nat) : Int), 0) := by
    unfold zhW
    rw [if_pos ⟨⟨by omega, by omega⟩, hwb⟩, Int.toNat_natCast]
  have hle : z9N d m n (z4q d m n) ((z4q d m n).idxOf (z6j d ((z4q d m n).getD k 0) w.data.toList)) ≤ z9N d m n (z4q d m n) k := by
    refine zfP hb (fun i k hi hk hz h => zhS hd hn hi hk hz h) hidx hk ?_
    refine (z4l hd hS hk).2 ⟨w.data.toList, hwl, ?_⟩
    rw [hget]; exact za9 _
  have key : z4i l a = some true := by
    unfold z4i
    have e2' : z2M t1 (m : Int) 5 = some (d, t2) := e2
    rw [e0, Option.bind_some, e1, Option.bind_some]
    simp only
    rw [e2', Option.bind_some]
    simp only
    rw [hd.lt, e3, Option.bind_some, zqy hd hn, Option.bind_some]
    simp only [z5p]
    rw [if_pos trivial]
    refine (if_neg (by rw [z0G]; omega)).trans ?_
    refine (if_pos (by rw [z0G]; simp [zqH])).trans ?_
    rw [z0G, e4, Option.bind_some, z3z hk, Option.bind_some, zkv hd (by omega), Option.bind_some, happ]
    refine z2f (s := (0 : Int)) ((z4q d m n).idxOf (z6j d ((z4q d m n).getD k 0) w.data.toList)) (fun q => (q : Int)) rfl (by simp only [LFm]; omega) (fun q hq => ?_) ?_
    · have hne : (z4q d m n).getD q 0 ≠ z6j d ((z4q d m n).getD k 0) w.data.toList := fun e => by
        have := z8f hS.nd (show q < (z4q d m n).length by omega)
        rw [e] at this; omega
      simp only [z3h]
      rw [if_pos (by rw [z0G]; omega), z3z (by omega), Option.bind_some, if_neg (by omega), z3n (by omega)]
    · simp only [z3h]
      rw [if_pos (by rw [z0G]; omega), z3z hidx, Option.bind_some, hget, if_pos rfl, if_pos trivial, zqH, z3k hidx, Option.bind_some, z3k hk, Option.bind_some, if_pos (by omega)]
      rfl
  exact ⟨_, z7M key⟩
end Go.Proofs.Ytbnnipkanechoaa
end
section
/- Proved here: the law ImagesHeights returns true for every input, and its arguments read afterwards as before. No condition. -/
namespace Go.Proofs.Ytbnnipkanechoaa.imagesHeights
open Go.ChangeShapes Go.WideShapes Go.ChangeAt Go.RowKit
open Go.ChangeMaps (open_string shut_string)
theorem own : ownKnob Try.prog.godebug = none := by kernel_rfl
set_option maxRecDepth 100000 in
theorem zau (H : Type) (enc : TypeId × Value → H) (W : World) (base : Nat) (args : Array Value) (ds gs : List (DataW H)) (before : List MemPlace)
    (hval0 : ∀ (j : Nat) t v, Try.f6.params[j]? = some t → args[j]? = some v → Value.okWide Try.prog W .any base t v)
    (hW : DataW.Whole enc Try.prog Try.f6.params.toList Rows.imagesHeightsSpec.vars false W args.toList ds gs before) :
    Calls Try.prog 6 args W fun e W' => ∃ v, e = .returned v ∧ Rows.imagesHeightsSpec.post enc Try.prog Try.f6 false true false false W args v W' := by
  have hW' := hW
  obtain ⟨p, q, hA0, hV, rfl, hfz, hnd⟩ := hW
  have hval := hval0
  have hA : DataW.TrodAll enc Try.prog W 0 (fun _ => true) true Try.f6.params.toList args.toList ds p := hA0
  rw [Try.params6] at hA hval
  obtain ⟨v0, vs0, d0, ds0, p0, q0, hargs, rfl, rfl, h0, r0⟩ := trodAll_cons hA
  obtain ⟨v1, vs1, d1, ds1, p1, q1, rfl, rfl, rfl, h1, r1⟩ := trodAll_cons r0
  obtain ⟨rfl, rfl, rfl⟩ := trodAll_nil r1
  obtain rfl : args = #[v0, v1] := by cases args; simp_all
  obtain ⟨rfl, rfl⟩ := trodVars_none hV
  obtain ⟨a0, t0, w0, z0⟩ := zdl Try.underlying22 Try.underlying3 (by kernel_rfl) (hval 0 22 v0 rfl rfl) h0
  obtain ⟨a1, rfl, rfl, rfl, w1⟩ := open_int Try.underlying3 (hval 1 3 v1 rfl rfl) h1
  obtain ⟨outs, hlaw⟩ := zlG a0 w0 z0 a1 w1
  refine (zdp zcb (by kernel_rfl) zuh hlaw rfl W _ rfl (fun i t hi => ?_)).mono fun e W' ⟨he, bel⟩ => ?_
  · match i, hi with
    | 0, hi => cases hi; exact t0
    | 1, hi => cases hi; exact .sc _ _ rfl
  · subst he
    exact ⟨_, rfl, _, _, _, [], _, [], hW', trodAll_mk1 (shut_bool Try.underlying4 _), z5S 12 bel (by kernel_rfl) hA0, rfl, bel.frame _, fun h => by cases h⟩
theorem z3r {a b : Bool} (ha : a = true) (hb : b = true) : (a && b) = true := by rw [ha, hb]; rfl
set_option maxHeartbeats 4000000 in
theorem znL : joinedFacts Try.checked.prog 6 Try.f6 Rows.imagesHeightsSpec Rows.imagesHeightsRow = true :=
  (z3r (z3r (z3r (z3r (z3r (z3r (z3r (z3r (z3r (z3r (z3r (z3r (z3r (z3r (z3r (z3r (z3r (z3r (z3r (z3r (z3r (z3r (z3r (z3r (z3r (z3r (z3r (z3r (z3r (z3r (z3r (by as_aux_lemma => kernel_rfl)
    (by as_aux_lemma => kernel_rfl))
    (by as_aux_lemma => kernel_rfl))
    (by as_aux_lemma => kernel_rfl))
    (by as_aux_lemma => kernel_rfl))
    (by as_aux_lemma => kernel_rfl))
    (by as_aux_lemma => kernel_rfl))
    (by as_aux_lemma => kernel_rfl))
    (by as_aux_lemma => kernel_rfl))
    (by as_aux_lemma => kernel_rfl))
    (by as_aux_lemma => kernel_rfl))
    (by as_aux_lemma => kernel_rfl))
    (by as_aux_lemma => kernel_rfl))
    (by as_aux_lemma => kernel_rfl))
    (by as_aux_lemma => kernel_rfl))
    (by as_aux_lemma => kernel_rfl))
    (by as_aux_lemma => kernel_rfl))
    (by as_aux_lemma => kernel_rfl))
    (by as_aux_lemma => kernel_rfl))
    (by as_aux_lemma => kernel_rfl))
    (by as_aux_lemma => kernel_rfl))
    (by as_aux_lemma => kernel_rfl))
    (by as_aux_lemma => kernel_rfl))
    (by as_aux_lemma => kernel_rfl))
    (by as_aux_lemma => kernel_rfl))
    (by as_aux_lemma => kernel_rfl))
    (by as_aux_lemma => kernel_rfl))
    (by as_aux_lemma => kernel_rfl))
    (by as_aux_lemma => kernel_rfl))
    (by as_aux_lemma => kernel_rfl))
    (by as_aux_lemma => kernel_rfl))
    (by as_aux_lemma => kernel_rfl))
set_option maxRecDepth 100000 in
theorem zht (os : Os) (started : os.Started) (H : Type) (enc : TypeId × Value → H) :
    ReturnsInHanded {} Try.checked os 6 .any (Rows.imagesHeightsSpec.pre6 enc Try.prog Try.f6 Rows.imagesHeightsRow.domain false) (Rows.imagesHeightsSpec.post enc Try.prog Try.f6 false true false false) := by
  refine returnsInHanded_of_change (C := Try.checked) (by kernel_rfl) started (by kernel_rfl) Try.func6
    (ChangeSpec.witness6 (enc := enc) (C := Try.checked) false ⟨#[], #[.slice none 0 0, .int .i64 0], []⟩ 8 (by kernel_rfl) (by kernel_rfl) (by kernel_rfl) (by kernel_rfl)) ?_
  intro W base args ds gs before hval0 hW hcnd _
  exact zau H enc W base args ds gs before hval0 hW
theorem zr4 : Rows.imagesHeightsRow.holds Try.pinned (OpenSpec.ofChange Rows.imagesHeightsSpec) :=
  OpenClaim.holds_of_wide 6 Try.f6 rfl rfl rfl rfl rfl rfl rfl ⟨rfl, rfl, rfl, rfl, rfl⟩ rfl rfl rfl rfl rfl (by kernel_rfl) Try.func6 znL
    (of_decide_eq_true (by kernel_rfl)) (by unfold Func.isWrapper; first | (rw [if_pos (by decide +kernel)]; kernel_rfl) | (rw [if_neg (by decide +kernel)]; exact ⟨rfl, rfl⟩))
    (fun os started H enc _ => zht os started H enc)
theorem proved : Rows.ImagesHeightsSaid :=
  zr4
#print axioms proved
end Go.Proofs.Ytbnnipkanechoaa.imagesHeights
end

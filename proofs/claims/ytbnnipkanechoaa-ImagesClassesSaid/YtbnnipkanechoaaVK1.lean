/- Proved here: the law ImagesClasses returns true for every input, and its arguments read afterwards as before. No condition. -/
import Derived.Test.YtbnnipkanechoaaB5
import Derived.Test.YtbnnipkanechoaaRows
import Derived.Test.YtbnnipkanechoaaChecked
import Derived.WalkKit
import Derived.ProofKit
import Derived.OpenShut
import Derived.ShutString
import Derived.ChangeOld
import Derived.Below
import Derived.Deep.DeepHandedRow
set_option linter.unusedVariables false
set_option linter.unusedSimpArgs false
section
namespace Go.Proofs.Ytbnnipkanechoaa
open Go
set_option maxRecDepth 100000
theorem zos {A K : Nat} (h : z6D A K) : szN A + szN (K ^^^ A) = szN K := by
  rw [z7e, z7e, z7e]
  have hb := z1Z.1 h
  have : ∀ k, z4O (fun q => A.testBit q) k + z4O (fun q => (K ^^^ A).testBit q) k = z4O (fun q => K.testBit q) k := by
    intro k
    induction k with
    | zero => simp [z4O]
    | succ k ih =>
      have h1 := hb k
      simp only [z4O]
      have h2 : (K ^^^ A).testBit k = (K.testBit k ^^ A.testBit k) := Nat.testBit_xor ..
      have h3 : ∀ a b c : Bool, (a = true → b = true) → c = (b ^^ a) → (if a = true then 1 else 0) + (if c = true then 1 else 0) = (if b = true then 1 else 0) := by decide
      have := h3 _ _ _ h1 h2
      omega
  exact this 7
theorem zpt {A K : Nat} (h : z6D A K) : A ||| (K ^^^ A) = K := by
  apply Nat.eq_of_testBit_eq
  intro q
  have h1 := z1Z.1 h q
  rw [Nat.testBit_or, Nat.testBit_xor]
  revert h1
  cases A.testBit q <;> cases K.testBit q <;> simp
theorem zmI {A K : Nat} (h : z6D A K) : A ≤ K := by
  unfold z6D at h; rw [← h]; exact Nat.and_le_right
theorem zou (A B : Nat) : z6D A (A ||| B) := z1Z.2 fun q hq => by rw [Nat.testBit_or, hq]; rfl
theorem zju (A B : Nat) : z6D B (A ||| B) := z1Z.2 fun q hq => by rw [Nat.testBit_or, hq, Bool.or_true]
theorem zhl {A B : Nat} (h : z6D A B) : A ||| B = B := z6F (z1Z.2 fun q hq => by
  rw [Nat.testBit_or, Bool.or_eq_true] at hq
  exact hq.elim (z1Z.1 h q) id) (zju A B)
theorem zqU {A B K : Nat} (h1 : z6D A K) (h2 : z6D B K) : z6D (A ||| B) K := z1Z.2 fun q hq => by
  rw [Nat.testBit_or, Bool.or_eq_true] at hq
  exact hq.elim (z1Z.1 h1 q) (z1Z.1 h2 q)
structure Lead (d : DFA) (m n K I : Nat) (w : List UInt8) : Prop where
  hw : zoh m w
  hK : K < 2 ^ n
  hI : I < 2 ^ n
  run : z6j d K w = I
  sz : szN I = szN K
theorem ziO {d : DFA} {m n : Nat} (hd : DfaOk d m n) (hn : n ≤ 7) {K I : Nat} {w : List UInt8} (h : Lead d m n K I w) {A : Nat} (hA : z6D A K) : szN (z6j d A w) = szN A := by
  have h128 : 2 ^ n ≤ 128 := Nat.pow_le_pow_right (n := 2) (by omega) hn
  have hAK := zmI hA
  have hK := h.hK
  have hB : z6D (K ^^^ A) K := by
    have := zpt hA
    rw [← this]; rw [this]; rw [← this]
    exact (by rw [this]; exact (by
      refine z1Z.2 fun q hq => ?_
      rw [Nat.testBit_xor] at hq
      have h1 := z1Z.1 hA q
      revert hq h1
      cases A.testBit q <;> cases K.testBit q <;> simp))
  have hBl := zmI hB
  have e1 := zmY hd (x := A) (y := K ^^^ A) h.hw
  rw [zpt hA, h.run] at e1
  have l1 := zdf hd (s := A) (w := w) (by omega) h.hw
  have l2 := zdf hd (s := K ^^^ A) (w := w) (by omega) h.hw
  have s1 := zrZ (x := z6j d A w) (y := z6j d (K ^^^ A) w) (by omega) (by omega)
  rw [← e1, h.sz] at s1
  have s2 := zbu hd hn (s := K ^^^ A) (by omega) h.hw
  have s3 := zbu hd hn (s := A) (by omega) h.hw
  have s4 := zos hA
  omega
theorem zfK {d : DFA} {m n : Nat} (hd : DfaOk d m n) (hn : n ≤ 7) {K I : Nat} {w : List UInt8} (h : Lead d m n K I w) {A B : Nat} (hA : z6D A K) (hB : z6D B K) (hs : z6D (z6j d A w) (z6j d B w)) : z6D A B := by
  have h128 : 2 ^ n ≤ 128 := Nat.pow_le_pow_right (n := 2) (by omega) hn
  have hK := h.hK
  have hAB := zqU hA hB
  have hl := zmI hAB
  have e1 := ziO hd hn h hAB
  rw [zmY hd h.hw, zhl hs, ziO hd hn h hB] at e1
  have := zpX (a := B) (b := A ||| B) (by omega) (zju A B) (by omega)
  rw [this]
  exact zou A B
theorem zjN {d : DFA} {m n : Nat} (hd : DfaOk d m n) (hn : n ≤ 7) {K I : Nat} {w : List UInt8} (h : Lead d m n K I w) {A B : Nat} (hA : z6D A K) (hB : z6D B K) (he : z6j d A w = z6j d B w) : A = B :=
  z6F (zfK hd hn h hA hB (by rw [he]; exact za9 _)) (zfK hd hn h hB hA (by rw [he]; exact za9 _))
theorem zot {α β : Type} {l : List α} {r : List β} {f : α → β} (hl : (l.map f).Nodup) (hs : ∀ x ∈ l.map f, x ∈ r) (hle : r.length ≤ l.length) {u : β} (hu : u ∈ r) : u ∈ l.map f := by
  refine Classical.byContradiction fun hn => ?_
  have := zds (l := u :: l.map f) (r := r) (List.nodup_cons.2 ⟨hn, hl⟩) fun x hx => by
    rcases List.mem_cons.1 hx with rfl | hx
    · exact hu
    · exact hs x hx
  rw [List.length_cons, List.length_map] at this
  omega
theorem zhn {α β : Type} {l : List α} {f : α → β} (hl : l.Nodup) (hf : ∀ x ∈ l, ∀ y ∈ l, f x = f y → x = y) : (l.map f).Nodup := by
  induction l with
  | nil => simp
  | cons a l ih =>
    rw [List.nodup_cons] at hl
    rw [List.map_cons, List.nodup_cons]
    refine ⟨fun h => ?_, ih hl.2 fun x hx y hy => hf x (List.mem_cons_of_mem _ hx) y (List.mem_cons_of_mem _ hy)⟩
    obtain ⟨x, hx, he⟩ := List.mem_map.1 h
    have := hf x (List.mem_cons_of_mem _ hx) a (List.mem_cons_self ..) he
    exact hl.1 (this ▸ hx)
section
variable {d : DFA} {m n : Nat} {S : List Nat} (hd : DfaOk d m n) (hn : n ≤ 7) (hS : SetsP d m n S)
include hd hn hS
theorem ziT {k i : Nat} (hk : k < S.length) (hi : i < S.length) {w : List UInt8} (h : Lead d m n (S.getD k 0) (S.getD i 0) w) :
    (∀ j ∈ z7Q S k, S.idxOf (z6j d (S.getD j 0) w) ∈ z7Q S i ∧ S.getD (S.idxOf (z6j d (S.getD j 0) w)) 0 = z6j d (S.getD j 0) w) ∧ ((z7Q S k).map fun j => S.idxOf (z6j d (S.getD j 0) w)).Nodup := by
  have h128 : 2 ^ n ≤ 128 := Nat.pow_le_pow_right (n := 2) (by omega) hn
  have hmem : ∀ j, j < S.length → z6j d (S.getD j 0) w ∈ S := fun j hj => zhb hS h.hw (z1r hj)
  refine ⟨fun j hj => ?_, zhn (List.Pairwise.filter _ List.nodup_range) fun x hx y hy e => ?_⟩
  · obtain ⟨h1, h2, h3⟩ := z5g.1 hj
    have hg := z5w (hmem j h1)
    refine ⟨z5g.2 ⟨z9k (hmem j h1), fun e => ?_, ?_⟩, hg⟩
    · rw [e] at hg
      have s1 := ziO hd hn h h3
      rw [← hg, h.sz] at s1
      have := zpX (a := S.getD j 0) (b := S.getD k 0) (by have := h.hK; omega) h3 (by omega)
      exact h2 (zbE hS.nd h1 hk this)
    · rw [hg, ← h.run]
      exact zft hd h.hw h3
  · obtain ⟨h1, h2, h3⟩ := z5g.1 hx
    obtain ⟨k1, k2, k3⟩ := z5g.1 hy
    have e2 : z6j d (S.getD x 0) w = z6j d (S.getD y 0) w := by
      rw [← z5w (hmem x h1), ← z5w (hmem y k1)]
      exact congrArg (fun q => S.getD q 0) e
    exact zbE hS.nd h1 k1 (zjN hd hn h h3 k3 e2)
theorem zqj {k i : Nat} (hk : k < S.length) (hi : i < S.length) {w : List UInt8} (h : Lead d m n (S.getD k 0) (S.getD i 0) w) : (z7Q S k).length ≤ (z7Q S i).length := by
  obtain ⟨h1, h2⟩ := ziT hd hn hS hk hi h
  have := zds h2 (r := z7Q S i) fun x hx => by
    obtain ⟨j, hj, rfl⟩ := List.mem_map.1 hx
    exact (h1 j hj).1
  simpa using this
theorem zmE {k i : Nat} (hk : k < S.length) (hi : i < S.length) {w v : List UInt8} (h : Lead d m n (S.getD k 0) (S.getD i 0) w) (h' : Lead d m n (S.getD i 0) (S.getD k 0) v) {t : Nat} (ht : t ∈ z4U S k) : S.idxOf (z6j d (S.getD t 0) w) ∈ z4U S i := by
  obtain ⟨h1, h2⟩ := ziT hd hn hS hk hi h
  obtain ⟨t1, t2, t3⟩ := zd9 ht
  have hz : szN (S.getD i 0) ≠ 1 := by rw [h.sz]; exact t3
  refine (zfn hz).2 ⟨(h1 t t1).1, zfo.2 fun u hu hne hs => ?_⟩
  have hsur := zot (l := z7Q S k) (r := z7Q S i) h2 (fun x hx => by
    obtain ⟨j, hj, rfl⟩ := List.mem_map.1 hx
    exact (h1 j hj).1) (zqj hd hn hS hi hk h') hu
  obtain ⟨j, hj, rfl⟩ := List.mem_map.1 hsur
  rw [(h1 t t1).2, (h1 j hj).2] at hs
  have hsub := zfK hd hn h (z5g.1 t1).2.2 (z5g.1 hj).2.2 hs
  exact zfo.1 t2 j hj (fun e => hne (by rw [e])) hsub
theorem zpV {k i : Nat} (hk : k < S.length) (hi : i < S.length) {w v : List UInt8} (h : Lead d m n (S.getD k 0) (S.getD i 0) w) (h' : Lead d m n (S.getD i 0) (S.getD k 0) v) : (z4U S k).length = (z4U S i).length := by
  have one : ∀ {k i : Nat} (hk : k < S.length) (hi : i < S.length) {w v : List UInt8} (h : Lead d m n (S.getD k 0) (S.getD i 0) w) (h' : Lead d m n (S.getD i 0) (S.getD k 0) v), (z4U S k).length ≤ (z4U S i).length := fun {k i} hk hi {w v} h h' => by
    obtain ⟨h1, h2⟩ := ziT hd hn hS hk hi h
    have hnd : ((z4U S k).map fun j => S.idxOf (z6j d (S.getD j 0) w)).Nodup := zhn (za8 S k) fun x hx y hy e => by
      obtain ⟨x1, _, _⟩ := zd9 hx
      obtain ⟨y1, _, _⟩ := zd9 hy
      have e2 : z6j d (S.getD x 0) w = z6j d (S.getD y 0) w := by
        rw [← (h1 x x1).2, ← (h1 y y1).2]; exact congrArg (fun q => S.getD q 0) e
      exact zbE hS.nd (z5g.1 x1).1 (z5g.1 y1).1 (zjN hd hn h (z5g.1 x1).2.2 (z5g.1 y1).2.2 e2)
    have := zds hnd (r := z4U S i) fun x hx => by
      obtain ⟨j, hj, rfl⟩ := List.mem_map.1 hx
      exact zmE hd hn hS hk hi h h' hj
    simpa using this
  exact Nat.le_antisymm (one hk hi h h') (one hi hk h' h)
theorem zkb {k i : Nat} (hk : k < S.length) (hi : i < S.length) (he : z2G d m n S i k = true) : szN (S.getD i 0) = szN (S.getD k 0) ∧ S.getD i 0 ∈ (z1H d m n (S.getD k 0)).1 := by
  have h128 : 2 ^ n ≤ 128 := Nat.pow_le_pow_right (n := 2) (by omega) hn
  simp only [z2G, Bool.and_eq_true] at he
  obtain ⟨w, w1, w2⟩ := (z4l hd hS hk).1 he.1
  obtain ⟨v, v1, v2⟩ := (z4l hd hS hi).1 he.2
  have hkl := hS.lt _ (z1r hk)
  have hil := hS.lt _ (z1r hi)
  have a1 := ziw w2
  have a2 := zbu hd hn hkl w1
  have a3 := ziw v2
  have a4 := zbu hd hn hil v1
  refine ⟨by omega, ?_⟩
  have hrl := zdf hd hkl w1
  have := zpX (by omega) w2 (by omega)
  rw [this]
  exact zdg hd hkl w1 (zbv hd hkl)
omit hn hS in
theorem zga {s x : Nat} (hs : s < 2 ^ n) (hx : x ∈ (z1H d m n s).1) : zoh m (z5G (z1H d m n s) x).data.toList ∧ (z5G (z1H d m n s) x).size ≤ 2 ^ n ∧ z6j d s (z5G (z1H d m n s) x).data.toList = x := by
  have hi := z6v hd hs
  have hl := z1L hi.nd hi.lt
  have hlt := z9k hx
  obtain ⟨o1, o2, o3⟩ := hi.ok _ hlt
  unfold z5G
  exact ⟨o2, by omega, by rw [o3, z5w hx]⟩
end
end Go.Proofs.Ytbnnipkanechoaa
end
section
namespace Go.Proofs.Ytbnnipkanechoaa
open Go
noncomputable section
set_option maxRecDepth 100000
set_option maxHeartbeats 1000000
def z2n (v332 : Imgs × Int) (w576 : Int) (v593 : Int × Int) (v594 : List Int) : Bool × Int → Option ((Bool × Int) ⊕ (Int ⊕ ((Int × (List (Int × Int))) ⊕ Bool)))
  | (w597, w598) =>
  if w598 < (v594.length : Int) then
    (atI v594 w598).bind fun v601 =>
    if w597 = true then
      z0Z (true, IntKind.i64.wrap (w598 + 1))
    else
      if 0 ≤ v601 then
        if v601 < (v332.1.sets.length : Int) then
          (atI v332.1.sets v601).bind fun v602 =>
          z0Z (decide (v602 = v593.1), IntKind.i64.wrap (w598 + 1))
        else
          z0Z (false, IntKind.i64.wrap (w598 + 1))
      else
        z0Z (false, IntKind.i64.wrap (w598 + 1))
  else
    z0Y <|
    if w597 = true then
      z0Z (IntKind.i64.wrap (w576 + 1))
    else
      z0Y <|
      z0Y <|
      some false
def z1J (v331 : DFA × Tape) (v332 : Imgs × Int) (w440 : Int) (w441 : List (Int × Int)) (v561 : List Int) (w576 : Int) (v593 : Int × Int) (v594 : List Int) : Bool × Int → Fr
  | (w597, w598) => ⟨252, [(4, .one (.ea none [.sc (.int .i64 v331.1.letters), .sc (.int .i64 v331.1.start), .sl v331.1.final.length (v331.1.final.map fun x0 => .sc (.bool x0)), .sl v331.1.next.length (v331.1.next.map fun x0 => .sl x0.length (x0.map fun x1 => .sc (.int .i64 x1)))] 0)), (5, .one (.a 5 [] (0))), (7, .one (.t none (.sc (.int .i64 (v332.1.sets.length : Int))))), (8, .one (.h 8 [])), (9, .one (.t none (.sc (.int .i64 w440)))), (20, .one (.t none (.sc (.int .i64 v593.1)))), (22, .one (.t none (.sc (.bool w597)))), (78, .one (.t none (.sl v332.1.sets.length (v332.1.sets.map fun x0 => .sc (.int .i64 x0))))), (79, .one (.t none (.sc (.int .i64 (v332.1.sets.length : Int))))), (80, .one (.t none (.sc (.int .i64 w440)))), (189, .one (.t none (.sl v561.length (v561.map fun x0 => .sc (.int .i64 x0))))), (190, .one (.t none (.sc (.int .i64 (v561.length : Int))))), (191, .one (.t none (.sc (.int .i64 w576)))), (221, .one (.t none (.sl v594.length (v594.map fun x0 => .sc (.int .i64 x0))))), (222, .one (.t none (.sc (.int .i64 (v594.length : Int))))), (223, .one (.t none (.sc (.int .i64 w598))))], [(5, .vr [.sl v332.1.sets.length (v332.1.sets.map fun x0 => .sc (.int .i64 x0)), .sl v332.1.class_.length (v332.1.class_.map fun x0 => .sc (.int .i64 x0)), .sl v332.1.height.length (v332.1.height.map fun x0 => .sc (.int .i64 x0)), .sl v332.1.tiles.length (v332.1.tiles.map fun x0 => .sl x0.length (x0.map fun x1 => .sc (.int .i64 x1))), .sl v332.1.words.length (v332.1.words.map fun x0 => .sc (.string x0)), .sl v332.1.back.length (v332.1.back.map fun x0 => .sc (.string x0))]), (8, .mp (some .i64) (w441.map fun x0 => (.int .i64 x0.1, .int .i64 x0.2)))]⟩
def z2o (v331 : DFA × Tape) (v332 : Imgs × Int) (w440 : Int) (w441 : List (Int × Int)) (v561 : List Int) : Int → Option (Int ⊕ ((Int × (List (Int × Int))) ⊕ Bool))
  | w576 =>
  if w576 < (v561.length : Int) then
    (atI v561 w576).bind fun v590 =>
    if v590 < 0 then
      z0Y <|
      z0Y <|
      some false
    else
      if (v332.1.sets.length : Int) ≤ v590 then
        z0Y <|
        z0Y <|
        some false
      else
        (atI v332.1.sets v590).bind fun v591 =>
        (atI v332.1.words w440).bind fun v592 =>
        (z2q v331.1 v591 v592).bind fun v593 =>
        (atI v332.1.tiles w440).bind fun v594 =>
        z1q (z2n v332 w576 v593 v594) LFm (false, 0)
  else
    z0Y <|
    z0Z (IntKind.i64.wrap (w440 + 1), w441)
def z3i (v331 : DFA × Tape) (v332 : Imgs × Int) (w440 : Int) (w441 : List (Int × Int)) (v561 : List Int) : Int → Fr
  | w576 => ⟨252, [(4, .one (.ea none [.sc (.int .i64 v331.1.letters), .sc (.int .i64 v331.1.start), .sl v331.1.final.length (v331.1.final.map fun x0 => .sc (.bool x0)), .sl v331.1.next.length (v331.1.next.map fun x0 => .sl x0.length (x0.map fun x1 => .sc (.int .i64 x1)))] 0)), (5, .one (.a 5 [] (0))), (7, .one (.t none (.sc (.int .i64 (v332.1.sets.length : Int))))), (8, .one (.h 8 [])), (9, .one (.t none (.sc (.int .i64 w440)))), (78, .one (.t none (.sl v332.1.sets.length (v332.1.sets.map fun x0 => .sc (.int .i64 x0))))), (79, .one (.t none (.sc (.int .i64 (v332.1.sets.length : Int))))), (80, .one (.t none (.sc (.int .i64 w440)))), (189, .one (.t none (.sl v561.length (v561.map fun x0 => .sc (.int .i64 x0))))), (190, .one (.t none (.sc (.int .i64 (v561.length : Int))))), (191, .one (.t none (.sc (.int .i64 w576))))], [(5, .vr [.sl v332.1.sets.length (v332.1.sets.map fun x0 => .sc (.int .i64 x0)), .sl v332.1.class_.length (v332.1.class_.map fun x0 => .sc (.int .i64 x0)), .sl v332.1.height.length (v332.1.height.map fun x0 => .sc (.int .i64 x0)), .sl v332.1.tiles.length (v332.1.tiles.map fun x0 => .sl x0.length (x0.map fun x1 => .sc (.int .i64 x1))), .sl v332.1.words.length (v332.1.words.map fun x0 => .sc (.string x0)), .sl v332.1.back.length (v332.1.back.map fun x0 => .sc (.string x0))]), (8, .mp (some .i64) (w441.map fun x0 => (.int .i64 x0.1, .int .i64 x0.2)))]⟩
def z4Y (v332 : Imgs × Int) (w629 : Int) (v646 : Int × Int) (v647 : List Int) : Bool × Int → Option ((Bool × Int) ⊕ (Int ⊕ ((Int × (List (Int × Int))) ⊕ Bool)))
  | (w650, w651) =>
  if w651 < (v647.length : Int) then
    (atI v647 w651).bind fun v654 =>
    if w650 = true then
      z0Z (true, IntKind.i64.wrap (w651 + 1))
    else
      if 0 ≤ v654 then
        if v654 < (v332.1.sets.length : Int) then
          (atI v332.1.sets v654).bind fun v655 =>
          z0Z (decide (v655 = v646.1), IntKind.i64.wrap (w651 + 1))
        else
          z0Z (false, IntKind.i64.wrap (w651 + 1))
      else
        z0Z (false, IntKind.i64.wrap (w651 + 1))
  else
    z0Y <|
    if w650 = true then
      z0Z (IntKind.i64.wrap (w629 + 1))
    else
      z0Y <|
      z0Y <|
      some false
def z1D (v331 : DFA × Tape) (v332 : Imgs × Int) (w440 : Int) (w441 : List (Int × Int)) (v550 : Int) (v614 : List Int) (w629 : Int) (v646 : Int × Int) (v647 : List Int) : Bool × Int → Fr
  | (w650, w651) => ⟨252, [(4, .one (.ea none [.sc (.int .i64 v331.1.letters), .sc (.int .i64 v331.1.start), .sl v331.1.final.length (v331.1.final.map fun x0 => .sc (.bool x0)), .sl v331.1.next.length (v331.1.next.map fun x0 => .sl x0.length (x0.map fun x1 => .sc (.int .i64 x1)))] 0)), (5, .one (.a 5 [] (0))), (7, .one (.t none (.sc (.int .i64 (v332.1.sets.length : Int))))), (8, .one (.h 8 [])), (9, .one (.t none (.sc (.int .i64 w440)))), (20, .one (.t none (.sc (.int .i64 v646.1)))), (22, .one (.t none (.sc (.bool w650)))), (78, .one (.t none (.sl v332.1.sets.length (v332.1.sets.map fun x0 => .sc (.int .i64 x0))))), (79, .one (.t none (.sc (.int .i64 (v332.1.sets.length : Int))))), (80, .one (.t none (.sc (.int .i64 w440)))), (189, .one (.t none (.sl v614.length (v614.map fun x0 => .sc (.int .i64 x0))))), (190, .one (.t none (.sc (.int .i64 (v614.length : Int))))), (191, .one (.t none (.sc (.int .i64 w629)))), (221, .one (.t none (.sl v647.length (v647.map fun x0 => .sc (.int .i64 x0))))), (222, .one (.t none (.sc (.int .i64 (v647.length : Int))))), (223, .one (.t none (.sc (.int .i64 w651))))], [(5, .vr [.sl v332.1.sets.length (v332.1.sets.map fun x0 => .sc (.int .i64 x0)), .sl v332.1.class_.length (v332.1.class_.map fun x0 => .sc (.int .i64 x0)), .sl v332.1.height.length (v332.1.height.map fun x0 => .sc (.int .i64 x0)), .sl v332.1.tiles.length (v332.1.tiles.map fun x0 => .sl x0.length (x0.map fun x1 => .sc (.int .i64 x1))), .sl v332.1.words.length (v332.1.words.map fun x0 => .sc (.string x0)), .sl v332.1.back.length (v332.1.back.map fun x0 => .sc (.string x0))]), (8, .mp (some .i64) ((zf1 v550 w440 w441).map fun x0 => (.int .i64 x0.1, .int .i64 x0.2)))]⟩
def z4Z (v331 : DFA × Tape) (v332 : Imgs × Int) (w440 : Int) (w441 : List (Int × Int)) (v550 : Int) (v614 : List Int) : Int → Option (Int ⊕ ((Int × (List (Int × Int))) ⊕ Bool))
  | w629 =>
  if w629 < (v614.length : Int) then
    (atI v614 w629).bind fun v643 =>
    if v643 < 0 then
      z0Y <|
      z0Y <|
      some false
    else
      if (v332.1.sets.length : Int) ≤ v643 then
        z0Y <|
        z0Y <|
        some false
      else
        (atI v332.1.sets v643).bind fun v644 =>
        (atI v332.1.words w440).bind fun v645 =>
        (z2q v331.1 v644 v645).bind fun v646 =>
        (atI v332.1.tiles w440).bind fun v647 =>
        z1q (z4Y v332 w629 v646 v647) LFm (false, 0)
  else
    z0Y <|
    z0Z (IntKind.i64.wrap (w440 + 1), zf1 v550 w440 w441)
def z3a (v331 : DFA × Tape) (v332 : Imgs × Int) (w440 : Int) (w441 : List (Int × Int)) (v550 : Int) (v614 : List Int) : Int → Fr
  | w629 => ⟨252, [(4, .one (.ea none [.sc (.int .i64 v331.1.letters), .sc (.int .i64 v331.1.start), .sl v331.1.final.length (v331.1.final.map fun x0 => .sc (.bool x0)), .sl v331.1.next.length (v331.1.next.map fun x0 => .sl x0.length (x0.map fun x1 => .sc (.int .i64 x1)))] 0)), (5, .one (.a 5 [] (0))), (7, .one (.t none (.sc (.int .i64 (v332.1.sets.length : Int))))), (8, .one (.h 8 [])), (9, .one (.t none (.sc (.int .i64 w440)))), (78, .one (.t none (.sl v332.1.sets.length (v332.1.sets.map fun x0 => .sc (.int .i64 x0))))), (79, .one (.t none (.sc (.int .i64 (v332.1.sets.length : Int))))), (80, .one (.t none (.sc (.int .i64 w440)))), (189, .one (.t none (.sl v614.length (v614.map fun x0 => .sc (.int .i64 x0))))), (190, .one (.t none (.sc (.int .i64 (v614.length : Int))))), (191, .one (.t none (.sc (.int .i64 w629))))], [(5, .vr [.sl v332.1.sets.length (v332.1.sets.map fun x0 => .sc (.int .i64 x0)), .sl v332.1.class_.length (v332.1.class_.map fun x0 => .sc (.int .i64 x0)), .sl v332.1.height.length (v332.1.height.map fun x0 => .sc (.int .i64 x0)), .sl v332.1.tiles.length (v332.1.tiles.map fun x0 => .sl x0.length (x0.map fun x1 => .sc (.int .i64 x1))), .sl v332.1.words.length (v332.1.words.map fun x0 => .sc (.string x0)), .sl v332.1.back.length (v332.1.back.map fun x0 => .sc (.string x0))]), (8, .mp (some .i64) ((zf1 v550 w440 w441).map fun x0 => (.int .i64 x0.1, .int .i64 x0.2)))]⟩
def z3v (v331 : DFA × Tape) (v332 : Imgs × Int) : Int × (List (Int × Int)) → Option ((Int × (List (Int × Int))) ⊕ Bool)
  | (w440, w441) =>
  if w440 < (v332.1.sets.length : Int) then
    (atI v332.1.sets w440).bind fun v549 =>
    (atI v332.1.class_ w440).bind fun v550 =>
    if ((zdB v550 w441).isSome) = true then
      (atI v332.1.sets ((zdB v550 w441).getD 0)).bind fun v552 =>
      (atI v332.1.words w440).bind fun v553 =>
      (z2q v331.1 v552 v553).bind fun v554 =>
      (atI v332.1.back w440).bind fun v555 =>
      (z2q v331.1 v549 v555).bind fun v556 =>
      if v554.2 = 0 then
        if v556.2 = 0 then
          if v554.1 = v549 then
            if v556.1 = v552 then
              (atI v332.1.height w440).bind fun v558 =>
              (atI v332.1.height ((zdB v550 w441).getD 0)).bind fun v559 =>
              if v558 = v559 then
                (atI v332.1.tiles w440).bind fun v560 =>
                (atI v332.1.tiles ((zdB v550 w441).getD 0)).bind fun v561 =>
                if (v560.length : Int) = (v561.length : Int) then
                  z1q (z2o v331 v332 w440 w441 v561) LFm 0
                else
                  z0Y <|
                  some false
              else
                z0Y <|
                some false
            else
              z0Y <|
              some false
          else
            z0Y <|
            some false
        else
          z0Y <|
          some false
      else
        z0Y <|
        some false
    else
      (atI v332.1.sets ((zdB v550 (zf1 v550 w440 w441)).getD 0)).bind fun v605 =>
      (atI v332.1.words w440).bind fun v606 =>
      (z2q v331.1 v605 v606).bind fun v607 =>
      (atI v332.1.back w440).bind fun v608 =>
      (z2q v331.1 v549 v608).bind fun v609 =>
      if v607.2 = 0 then
        if v609.2 = 0 then
          if v607.1 = v549 then
            if v609.1 = v605 then
              (atI v332.1.height w440).bind fun v611 =>
              (atI v332.1.height ((zdB v550 (zf1 v550 w440 w441)).getD 0)).bind fun v612 =>
              if v611 = v612 then
                (atI v332.1.tiles w440).bind fun v613 =>
                (atI v332.1.tiles ((zdB v550 (zf1 v550 w440 w441)).getD 0)).bind fun v614 =>
                if (v613.length : Int) = (v614.length : Int) then
                  z1q (z4Z v331 v332 w440 w441 v550 v614) LFm 0
                else
                  z0Y <|
                  some false
              else
                z0Y <|
                some false
            else
              z0Y <|
              some false
          else
            z0Y <|
            some false
        else
          z0Y <|
          some false
      else
        z0Y <|
        some false
  else
    z0Y <|
    (zjg).bind fun v656 =>
    some v656
def z2A (v331 : DFA × Tape) (v332 : Imgs × Int) : Int × (List (Int × Int)) → Fr
  | (w440, w441) => ⟨252, [(4, .one (.ea none [.sc (.int .i64 v331.1.letters), .sc (.int .i64 v331.1.start), .sl v331.1.final.length (v331.1.final.map fun x0 => .sc (.bool x0)), .sl v331.1.next.length (v331.1.next.map fun x0 => .sl x0.length (x0.map fun x1 => .sc (.int .i64 x1)))] 0)), (5, .one (.a 5 [] (0))), (7, .one (.t none (.sc (.int .i64 (v332.1.sets.length : Int))))), (8, .one (.h 8 [])), (78, .one (.t none (.sl v332.1.sets.length (v332.1.sets.map fun x0 => .sc (.int .i64 x0))))), (79, .one (.t none (.sc (.int .i64 (v332.1.sets.length : Int))))), (80, .one (.t none (.sc (.int .i64 w440))))], [(5, .vr [.sl v332.1.sets.length (v332.1.sets.map fun x0 => .sc (.int .i64 x0)), .sl v332.1.class_.length (v332.1.class_.map fun x0 => .sc (.int .i64 x0)), .sl v332.1.height.length (v332.1.height.map fun x0 => .sc (.int .i64 x0)), .sl v332.1.tiles.length (v332.1.tiles.map fun x0 => .sl x0.length (x0.map fun x1 => .sc (.int .i64 x1))), .sl v332.1.words.length (v332.1.words.map fun x0 => .sc (.string x0)), .sl v332.1.back.length (v332.1.back.map fun x0 => .sc (.string x0))]), (8, .mp (some .i64) (w441.map fun x0 => (.int .i64 x0.1, .int .i64 x0.2)))]⟩
def z4j (a0 : List Int) : Option (Bool) :=
  (z7B a0).bind fun v329 =>
  (z2D v329).bind fun v330 =>
  (z2M v330.2 v330.1 5).bind fun v331 =>
  (z6A v331.1).bind fun v332 =>
  if v332.2 = 0 then
    if (v332.1.class_.length : Int) = (v332.1.sets.length : Int) then
      if (v332.1.height.length : Int) = (v332.1.sets.length : Int) then
        if (v332.1.words.length : Int) = (v332.1.sets.length : Int) then
          if (v332.1.back.length : Int) = (v332.1.sets.length : Int) then
            if (v332.1.tiles.length : Int) = (v332.1.sets.length : Int) then
              z1q (z3v v331 v332) LFm (0, ([] : List (Int × Int)))
            else
              some false
          else
            some false
        else
          some false
      else
        some false
    else
      some false
  else
    some false
theorem z7N {a0 : List Int} {r : Bool} (h0 : z4j a0 = some r) : L 5 [.sl a0.length (a0.map fun x0 => .sc (.int .i64 x0))] = some (.sc (.bool r), [.dead]) := by
  simp only [z4j] at h0
  refine z3M zvv fn5 (z1B bd5 ⟨of_decide_eq_true rfl, of_decide_eq_true rfl⟩ ?_)
  simp only [z1M, z1G, z1E, z1Q, z3Q]
  refine zq rfl (zr rfl rfl rfl (by simp; rfl) ?_)
  refine z0a (zq rfl ?_)
  obtain ⟨v329, f570, h1⟩ := z0c h0
  have f570k := z9K f570
  try simp at f570k
  refine zr rfl rfl rfl (by simp [f570k]; rfl) ?_
  refine z0a (zq rfl ?_)
  obtain ⟨v330, f571, h2⟩ := z0c h1
  have f571k := z4F f571
  try simp at f571k
  obtain ⟨v331, f572, h3⟩ := z0c h2
  have f572k := z5N f572
  try simp at f572k
  refine zr rfl rfl rfl (by simp [f571k, f572k]; rfl) ?_
  refine z0a (zq rfl (zlv rfl rfl (by simp; rfl) ?_))
  obtain ⟨v332, f573, h4⟩ := z0c h3
  have f573k := z8e f573
  try simp at f573k
  refine zr rfl rfl rfl (by simp [f573k]; rfl) ?_
  refine z0a (zq rfl (zr rfl rfl rfl (by simp; rfl) ?_))
  refine z0a (zq rfl (zq rfl ?_))
  by_cases c574 : v332.2 = 0
  ·rw [if_pos c574] at h4
   have c574e := eq_true c574
   by_cases c575 : (v332.1.class_.length : Int) = (v332.1.sets.length : Int)
   ·rw [if_pos c575] at h4
    have c575e := eq_true c575
    by_cases c576 : (v332.1.height.length : Int) = (v332.1.sets.length : Int)
    ·rw [if_pos c576] at h4
     have c576e := eq_true c576
     by_cases c577 : (v332.1.words.length : Int) = (v332.1.sets.length : Int)
     ·rw [if_pos c577] at h4
      have c577e := eq_true c577
      by_cases c578 : (v332.1.back.length : Int) = (v332.1.sets.length : Int)
      ·rw [if_pos c578] at h4
       have c578e := eq_true c578
       refine zr rfl rfl rfl (by simp [c574e, c575e, c576e, c577e, c578e]; rfl) ?_
       refine z0a ?_
       by_cases c579 : (v332.1.tiles.length : Int) = (v332.1.sets.length : Int)
       ·rw [if_pos c579] at h4
        have c579e := eq_true c579
        refine z0t rfl (by simp [c579e]) (z0g rfl (z0a (zq rfl (zr rfl rfl rfl (by simp; rfl) ?_))))
        refine z0a (zq rfl (zq rfl (zr rfl rfl rfl (by simp; rfl) ?_)))
        refine z0a (zb rfl (z0X h4 (z2A v331 v332) rfl rfl (by simp [z2A]) fun s o1 h5 hr1 => ?_))
        obtain ⟨w440, w441⟩ := s
        simp only [z3v] at h5
        simp only [z2A]
        refine zq rfl (zr rfl rfl rfl (by simp; rfl) ?_)
        refine z0a (zq rfl ?_)
        by_cases c952 : w440 < (v332.1.sets.length : Int)
        ·rw [if_pos c952] at h5
         refine z0v rfl (by simp [c952]) (z0g rfl (z0a (zq rfl (zb rfl (zq rfl ?_)))))
         obtain ⟨v549, f953, h6⟩ := z1e h5
         refine zr rfl rfl rfl (by simp [f953]; rfl) ?_
         refine z0a (zq rfl (zq rfl ?_))
         obtain ⟨v550, f954, h7⟩ := z1e h6
         refine zr rfl rfl rfl (by simp [f954]; rfl) ?_
         refine z0a (zq rfl (zr rfl rfl rfl (by simp; rfl) ?_))
         refine z0a ?_
         by_cases c955 : ((zdB v550 w441).isSome) = true
         ·rw [if_pos c955] at h7
          refine z0t rfl (by simp [c955]) (z0g rfl (z0a (zq rfl (zr rfl rfl rfl (by simp [f954]; rfl) ?_))))
          refine z0a (zq rfl ?_)
          obtain ⟨v552, f956, h8⟩ := z1e h7
          obtain ⟨v553, f957, h9⟩ := z1e h8
          obtain ⟨v554, f958, h10⟩ := z0c h9
          have f958k := z3p f958
          try simp at f958k
          refine z1g rfl rfl rfl rfl ?_; repeat' ((first | refine z0p rfl rfl fun Q' hQ => ?_ | refine z0m rfl fun Q' hQ => ?_); simp [f956, f957, f958k]; refine hQ.out _ ?_; clear hQ; clear Q')
          refine z0a (zq rfl ?_)
          obtain ⟨v555, f959, h11⟩ := z1e h10
          obtain ⟨v556, f960, h12⟩ := z0c h11
          have f960k := z3p f960
          try simp at f960k
          refine z1g rfl rfl rfl rfl ?_; repeat' ((first | refine z0p rfl rfl fun Q' hQ => ?_ | refine z0m rfl fun Q' hQ => ?_); simp [f959, f960k]; refine hQ.out _ ?_; clear hQ; clear Q')
          refine z0a (zq rfl (zq rfl ?_))
          by_cases c961 : v554.2 = 0
          ·rw [if_pos c961] at h12
           have c961e := eq_true c961
           by_cases c962 : v556.2 = 0
           ·rw [if_pos c962] at h12
            have c962e := eq_true c962
            by_cases c963 : v554.1 = v549
            ·rw [if_pos c963] at h12
             have c963e := eq_true c963
             by_cases c964 : v556.1 = v552
             ·rw [if_pos c964] at h12
              have c964e := eq_true c964
              obtain ⟨v558, f965, h13⟩ := z1e h12
              obtain ⟨v559, f966, h14⟩ := z1e h13
              by_cases c967 : v558 = v559
              ·rw [if_pos c967] at h14
               have c967e := eq_true c967
               obtain ⟨v560, f968, h15⟩ := z1e h14
               obtain ⟨v561, f969, h16⟩ := z1e h15
               refine z1g rfl rfl rfl rfl ?_; repeat' (first | (refine z0p rfl rfl fun Q' hQ => ?_; simp [c961e, c962e, c963e, f956, c964e, f965, f966, c967e, f968, f969]; refine hQ.out _ ?_; clear hQ; clear Q') | (refine z1d rfl rfl fun Q1 Q2 h1 h2 => ?_; simp [c961e, c962e, c963e, f956, c964e, f965, f966, c967e, f968, f969, z1K]; (first | refine h1.out ?_ | refine h2.out ?_); clear h1 h2; clear Q1 Q2; intro Q' hQ; simp [c961e, c962e, c963e, f956, c964e, f965, f966, c967e, f968, f969]; refine hQ.out _ ?_; clear hQ; clear Q') | (refine z0m rfl fun Q' hQ => ?_; simp [c961e, c962e, c963e, f956, c964e, f965, f966, c967e, f968, f969]; refine hQ.out _ ?_; clear hQ; clear Q'))
               refine z0a ?_
               by_cases c970 : (v560.length : Int) = (v561.length : Int)
               ·rw [if_pos c970] at h16
                have c970e := eq_true c970
                refine z0t rfl (by simp [c970e]) (z0g rfl (z0a (zq rfl (zr rfl rfl rfl (by simp [f969]; rfl) ?_))))
                refine z0a (zb rfl (z0X h16 (z3i v331 v332 w440 w441 v561) rfl rfl (by simp [z3i]) fun s o2 h17 hr2 => ?_))
                obtain ⟨w576, hs2⟩ : ∃ y, y = s := ⟨_, rfl⟩
                subst hs2
                simp only [z2o] at h17
                simp only [z3i]
                refine zq rfl (zr rfl rfl rfl (by simp; rfl) ?_)
                refine z0a (zq rfl ?_)
                by_cases c1023 : w576 < (v561.length : Int)
                ·rw [if_pos c1023] at h17
                 refine z0v rfl (by simp [c1023]) (z0g rfl (z0a (zq rfl (zb rfl (zq rfl ?_)))))
                 obtain ⟨v590, f1024, h18⟩ := z1e h17
                 refine zr rfl rfl rfl (by simp [f1024]; rfl) ?_
                 refine z0a (zq rfl (zq rfl ?_))
                 by_cases c1025 : v590 < 0
                 ·rw [if_pos c1025] at h18
                  refine zr rfl rfl rfl (by simp [c1025]; rfl) ?_
                  refine z0a (z0v rfl (by simp) (zq rfl (zr rfl rfl rfl (by simp; rfl) ?_)))
                  refine z0a (z1o rfl (z0e (z0n (z0e ?_))))
                  obtain ⟨rr2, h19, ho2⟩ := z0b h18
                  have hs2 := hr2 _ ho2
                  subst hs2
                  refine z1n ho2 (z0n (z0n (z0e ?_)))
                  obtain ⟨rr1, h20, ho1⟩ := z0b h19
                  have hs1 := hr1 _ ho1
                  subst hs1
                  refine z1n ho1 (z0n (z0e ?_))
                  cases h20
                  simp
                 ·rw [if_neg c1025] at h18
                  refine zr rfl rfl rfl (by simp [c1025]; rfl) ?_
                  refine z0a ?_
                  by_cases c1026 : (v332.1.sets.length : Int) ≤ v590
                  ·rw [if_pos c1026] at h18
                   refine z0v rfl (by simp [c1026]) (zq rfl (zr rfl rfl rfl (by simp; rfl) ?_))
                   refine z0a (z1o rfl (z0e (z0n (z0e ?_))))
                   obtain ⟨rr2, h19, ho2⟩ := z0b h18
                   have hs2 := hr2 _ ho2
                   subst hs2
                   refine z1n ho2 (z0n (z0n (z0e ?_)))
                   obtain ⟨rr1, h20, ho1⟩ := z0b h19
                   have hs1 := hr1 _ ho1
                   subst hs1
                   refine z1n ho1 (z0n (z0e ?_))
                   cases h20
                   simp
                  ·rw [if_neg c1026] at h18
                   refine z0t rfl (by simp [c1026]) (z0g rfl (z0a (zq rfl ?_)))
                   obtain ⟨v591, f1027, h19⟩ := z1e h18
                   obtain ⟨v592, f1028, h20⟩ := z1e h19
                   obtain ⟨v593, f1029, h21⟩ := z0c h20
                   have f1029k := z3p f1029
                   try simp at f1029k
                   refine z1g rfl rfl rfl rfl ?_; repeat' ((first | refine z0p rfl rfl fun Q' hQ => ?_ | refine z0m rfl fun Q' hQ => ?_); simp [f1027, f1028, f1029k]; refine hQ.out _ ?_; clear hQ; clear Q')
                   refine z0a (zq rfl (zr rfl rfl rfl (by simp; rfl) ?_))
                   refine z0a (zq rfl (zq rfl ?_))
                   obtain ⟨v594, f1030, h22⟩ := z1e h21
                   refine zr rfl rfl rfl (by simp [f1030]; rfl) ?_
                   refine z0a (zb rfl (z0X h22 (z1J v331 v332 w440 w441 v561 w576 v593 v594) rfl rfl (by simp [z1J]) fun s o3 h23 hr3 => ?_))
                   obtain ⟨w597, w598⟩ := s
                   simp only [z2n] at h23
                   simp only [z1J]
                   refine zq rfl (zr rfl rfl rfl (by simp; rfl) ?_)
                   refine z0a (zq rfl ?_)
                   by_cases c1042 : w598 < (v594.length : Int)
                   ·rw [if_pos c1042] at h23
                    refine z0v rfl (by simp [c1042]) (z0g rfl (z0a (zq rfl (zb rfl (zq rfl ?_)))))
                    obtain ⟨v601, f1043, h24⟩ := z1e h23
                    refine zr rfl rfl rfl (by simp [f1043]; rfl) ?_
                    refine z0a ?_
                    by_cases c1044 : w597 = true
                    ·rw [if_pos c1044] at h24
                     refine zr rfl rfl rfl (by simp [c1044]; rfl) ?_
                     refine z0l (z0a (zr rfl rfl rfl (by simp; rfl) ?_))
                     have ho := z0d h24
                     refine z0i ho ?_
                     simp [z1J, c1044]
                    ·rw [if_neg c1044] at h24
                     by_cases c1045 : 0 ≤ v601
                     ·rw [if_pos c1045] at h24
                      by_cases c1046 : v601 < (v332.1.sets.length : Int)
                      ·rw [if_pos c1046] at h24
                       obtain ⟨v602, f1047, h25⟩ := z1e h24
                       refine zr rfl rfl rfl (by simp [c1044, c1045, c1046, f1047]; rfl) ?_
                       refine z0l (z0a (zr rfl rfl rfl (by simp; rfl) ?_))
                       have ho := z0d h25
                       refine z0i ho ?_
                       simp [z1J, c1044]
                      ·rw [if_neg c1046] at h24
                       refine zr rfl rfl rfl (by simp [c1044, c1045, c1046]; rfl) ?_
                       refine z0l (z0a (zr rfl rfl rfl (by simp; rfl) ?_))
                       have ho := z0d h24
                       refine z0i ho ?_
                       simp [z1J, c1044]
                     ·rw [if_neg c1045] at h24
                      refine zr rfl rfl rfl (by simp [c1044, c1045]; rfl) ?_
                      refine z0l (z0a (zr rfl rfl rfl (by simp; rfl) ?_))
                      have ho := z0d h24
                      refine z0i ho ?_
                      simp [z1J, c1044]
                   ·rw [if_neg c1042] at h23
                    refine z0t rfl (by simp [c1042]) (z1t rfl (z0T ?_))
                    obtain ⟨rr3, h24, ho3⟩ := z0b h23
                    have hs3 := hr3 _ ho3
                    subst hs3
                    refine z0y ho3 (z0f rfl (z0a (zq rfl (zr rfl rfl rfl (by simp; rfl) ?_))))
                    refine z0a ?_
                    by_cases c1048 : w597 = true
                    ·rw [if_pos c1048] at h24
                     refine z0t rfl (by simp [c1048]) (z0g rfl (z0l (z0a (zr rfl rfl rfl (by simp; rfl) ?_))))
                     have ho := z0d h24
                     refine z0i ho ?_
                     simp [z3i, c1048]
                    ·rw [if_neg c1048] at h24
                     refine z0v rfl (by simp [c1048]) (zq rfl (zr rfl rfl rfl (by simp; rfl) ?_))
                     refine z0a (z1o rfl (z0n (z0e ?_)))
                     obtain ⟨rr2, h25, ho2⟩ := z0b h24
                     have hs2 := hr2 _ ho2
                     subst hs2
                     refine z1n ho2 (z0n (z0n (z0e ?_)))
                     obtain ⟨rr1, h26, ho1⟩ := z0b h25
                     have hs1 := hr1 _ ho1
                     subst hs1
                     refine z1n ho1 (z0n (z0e ?_))
                     cases h26
                     simp [c1048]
                ·rw [if_neg c1023] at h17
                 refine z0t rfl (by simp [c1023]) (z1t rfl (z0T ?_))
                 obtain ⟨rr2, h18, ho2⟩ := z0b h17
                 have hs2 := hr2 _ ho2
                 subst hs2
                 refine z0y ho2 (z0f rfl (z0l (z0a (zr rfl rfl rfl (by simp; rfl) ?_))))
                 have ho := z0d h18
                 refine z0i ho ?_
                 simp [z2A]
               ·rw [if_neg c970] at h16
                have c970e := eq_false c970
                refine z0v rfl (by simp [c970e]) (zq rfl (zr rfl rfl rfl (by simp; rfl) ?_))
                refine z0a (z1o rfl (z0e (z0n (z0e ?_))))
                obtain ⟨rr1, h17, ho1⟩ := z0b h16
                have hs1 := hr1 _ ho1
                subst hs1
                refine z1n ho1 (z0n (z0e ?_))
                cases h17
                simp [c955]
              ·rw [if_neg c967] at h14
               have c967e := eq_false c967
               refine z1g rfl rfl rfl rfl ?_; repeat' (first | (refine z0p rfl rfl fun Q' hQ => ?_; simp [c961e, c962e, c963e, f956, c964e, f965, f966, c967e]; refine hQ.out _ ?_; clear hQ; clear Q') | (refine z1d rfl rfl fun Q1 Q2 h1 h2 => ?_; simp [c961e, c962e, c963e, f956, c964e, f965, f966, c967e, z1K]; (first | refine h1.out ?_ | refine h2.out ?_); clear h1 h2; clear Q1 Q2; intro Q' hQ; simp [c961e, c962e, c963e, f956, c964e, f965, f966, c967e]; refine hQ.out _ ?_; clear hQ; clear Q') | (refine z0m rfl fun Q' hQ => ?_; simp [c961e, c962e, c963e, f956, c964e, f965, f966, c967e]; refine hQ.out _ ?_; clear hQ; clear Q'))
               refine z0a (z0v rfl (by simp) (zq rfl (zr rfl rfl rfl (by simp; rfl) ?_)))
               refine z0a (z1o rfl (z0e (z0n (z0e ?_))))
               obtain ⟨rr1, h15, ho1⟩ := z0b h14
               have hs1 := hr1 _ ho1
               subst hs1
               refine z1n ho1 (z0n (z0e ?_))
               cases h15
               simp [c955]
             ·rw [if_neg c964] at h12
              have c964e := eq_false c964
              refine z1g rfl rfl rfl rfl ?_; repeat' (first | (refine z0p rfl rfl fun Q' hQ => ?_; simp [c961e, c962e, c963e, f956, c964e]; refine hQ.out _ ?_; clear hQ; clear Q') | (refine z1d rfl rfl fun Q1 Q2 h1 h2 => ?_; simp [c961e, c962e, c963e, f956, c964e, z1K]; (first | refine h1.out ?_ | refine h2.out ?_); clear h1 h2; clear Q1 Q2; intro Q' hQ; simp [c961e, c962e, c963e, f956, c964e]; refine hQ.out _ ?_; clear hQ; clear Q') | (refine z0m rfl fun Q' hQ => ?_; simp [c961e, c962e, c963e, f956, c964e]; refine hQ.out _ ?_; clear hQ; clear Q'))
              refine z0a (z0v rfl (by simp) (zq rfl (zr rfl rfl rfl (by simp; rfl) ?_)))
              refine z0a (z1o rfl (z0e (z0n (z0e ?_))))
              obtain ⟨rr1, h13, ho1⟩ := z0b h12
              have hs1 := hr1 _ ho1
              subst hs1
              refine z1n ho1 (z0n (z0e ?_))
              cases h13
              simp [c955]
            ·rw [if_neg c963] at h12
             have c963e := eq_false c963
             refine z1g rfl rfl rfl rfl ?_; repeat' (first | (refine z0p rfl rfl fun Q' hQ => ?_; simp [c961e, c962e, c963e]; refine hQ.out _ ?_; clear hQ; clear Q') | (refine z1d rfl rfl fun Q1 Q2 h1 h2 => ?_; simp [c961e, c962e, c963e, z1K]; (first | refine h1.out ?_ | refine h2.out ?_); clear h1 h2; clear Q1 Q2; intro Q' hQ; simp [c961e, c962e, c963e]; refine hQ.out _ ?_; clear hQ; clear Q') | (refine z0m rfl fun Q' hQ => ?_; simp [c961e, c962e, c963e]; refine hQ.out _ ?_; clear hQ; clear Q'))
             refine z0a (z0v rfl (by simp) (zq rfl (zr rfl rfl rfl (by simp; rfl) ?_)))
             refine z0a (z1o rfl (z0e (z0n (z0e ?_))))
             obtain ⟨rr1, h13, ho1⟩ := z0b h12
             have hs1 := hr1 _ ho1
             subst hs1
             refine z1n ho1 (z0n (z0e ?_))
             cases h13
             simp [c955]
           ·rw [if_neg c962] at h12
            have c962e := eq_false c962
            refine z1g rfl rfl rfl rfl ?_; repeat' (first | (refine z0p rfl rfl fun Q' hQ => ?_; simp [c961e, c962e]; refine hQ.out _ ?_; clear hQ; clear Q') | (refine z1d rfl rfl fun Q1 Q2 h1 h2 => ?_; simp [c961e, c962e, z1K]; (first | refine h1.out ?_ | refine h2.out ?_); clear h1 h2; clear Q1 Q2; intro Q' hQ; simp [c961e, c962e]; refine hQ.out _ ?_; clear hQ; clear Q') | (refine z0m rfl fun Q' hQ => ?_; simp [c961e, c962e]; refine hQ.out _ ?_; clear hQ; clear Q'))
            refine z0a (z0v rfl (by simp) (zq rfl (zr rfl rfl rfl (by simp; rfl) ?_)))
            refine z0a (z1o rfl (z0e (z0n (z0e ?_))))
            obtain ⟨rr1, h13, ho1⟩ := z0b h12
            have hs1 := hr1 _ ho1
            subst hs1
            refine z1n ho1 (z0n (z0e ?_))
            cases h13
            simp [c955]
          ·rw [if_neg c961] at h12
           have c961e := eq_false c961
           refine z1g rfl rfl rfl rfl ?_; repeat' (first | (refine z0p rfl rfl fun Q' hQ => ?_; simp [c961e]; refine hQ.out _ ?_; clear hQ; clear Q') | (refine z1d rfl rfl fun Q1 Q2 h1 h2 => ?_; simp [c961e, z1K]; (first | refine h1.out ?_ | refine h2.out ?_); clear h1 h2; clear Q1 Q2; intro Q' hQ; simp [c961e]; refine hQ.out _ ?_; clear hQ; clear Q') | (refine z0m rfl fun Q' hQ => ?_; simp [c961e]; refine hQ.out _ ?_; clear hQ; clear Q'))
           refine z0a (z0v rfl (by simp) (zq rfl (zr rfl rfl rfl (by simp; rfl) ?_)))
           refine z0a (z1o rfl (z0e (z0n (z0e ?_))))
           obtain ⟨rr1, h13, ho1⟩ := z0b h12
           have hs1 := hr1 _ ho1
           subst hs1
           refine z1n ho1 (z0n (z0e ?_))
           cases h13
           simp [c955]
         ·rw [if_neg c955] at h7
          have c955s : (zdB v550 w441) = none := by simpa using c955
          refine z0v rfl (by simp [c955, c955s]) (zr rfl rfl rfl (by simp [f954]; rfl) ?_)
          refine z0a (zq rfl (zr rfl rfl rfl (by simp [f954]; rfl) ?_))
          refine z0a (zq rfl ?_)
          obtain ⟨v605, f1049, h8⟩ := z1e h7
          obtain ⟨v606, f1050, h9⟩ := z1e h8
          obtain ⟨v607, f1051, h10⟩ := z0c h9
          have f1051k := z3p f1051
          try simp at f1051k
          refine z1g rfl rfl rfl rfl ?_; repeat' ((first | refine z0p rfl rfl fun Q' hQ => ?_ | refine z0m rfl fun Q' hQ => ?_); simp [f1049, f1050, f1051k]; refine hQ.out _ ?_; clear hQ; clear Q')
          refine z0a (zq rfl ?_)
          obtain ⟨v608, f1052, h11⟩ := z1e h10
          obtain ⟨v609, f1053, h12⟩ := z0c h11
          have f1053k := z3p f1053
          try simp at f1053k
          refine z1g rfl rfl rfl rfl ?_; repeat' ((first | refine z0p rfl rfl fun Q' hQ => ?_ | refine z0m rfl fun Q' hQ => ?_); simp [f1052, f1053k]; refine hQ.out _ ?_; clear hQ; clear Q')
          refine z0a (zq rfl (zq rfl ?_))
          by_cases c1054 : v607.2 = 0
          ·rw [if_pos c1054] at h12
           have c1054e := eq_true c1054
           by_cases c1055 : v609.2 = 0
           ·rw [if_pos c1055] at h12
            have c1055e := eq_true c1055
            by_cases c1056 : v607.1 = v549
            ·rw [if_pos c1056] at h12
             have c1056e := eq_true c1056
             by_cases c1057 : v609.1 = v605
             ·rw [if_pos c1057] at h12
              have c1057e := eq_true c1057
              obtain ⟨v611, f1058, h13⟩ := z1e h12
              obtain ⟨v612, f1059, h14⟩ := z1e h13
              by_cases c1060 : v611 = v612
              ·rw [if_pos c1060] at h14
               have c1060e := eq_true c1060
               obtain ⟨v613, f1061, h15⟩ := z1e h14
               obtain ⟨v614, f1062, h16⟩ := z1e h15
               refine z1g rfl rfl rfl rfl ?_; repeat' (first | (refine z0p rfl rfl fun Q' hQ => ?_; simp [c1054e, c1055e, c1056e, f1049, c1057e, f1058, f1059, c1060e, f1061, f1062]; refine hQ.out _ ?_; clear hQ; clear Q') | (refine z1d rfl rfl fun Q1 Q2 h1 h2 => ?_; simp [c1054e, c1055e, c1056e, f1049, c1057e, f1058, f1059, c1060e, f1061, f1062, z1K]; (first | refine h1.out ?_ | refine h2.out ?_); clear h1 h2; clear Q1 Q2; intro Q' hQ; simp [c1054e, c1055e, c1056e, f1049, c1057e, f1058, f1059, c1060e, f1061, f1062]; refine hQ.out _ ?_; clear hQ; clear Q') | (refine z0m rfl fun Q' hQ => ?_; simp [c1054e, c1055e, c1056e, f1049, c1057e, f1058, f1059, c1060e, f1061, f1062]; refine hQ.out _ ?_; clear hQ; clear Q'))
               refine z0a ?_
               by_cases c1063 : (v613.length : Int) = (v614.length : Int)
               ·rw [if_pos c1063] at h16
                have c1063e := eq_true c1063
                refine z0t rfl (by simp [c1063e]) (z0g rfl (z0a (zq rfl (zr rfl rfl rfl (by simp [f1062]; rfl) ?_))))
                refine z0a (zb rfl (z0X h16 (z3a v331 v332 w440 w441 v550 v614) rfl rfl (by simp [z3a]) fun s o4 h17 hr4 => ?_))
                obtain ⟨w629, hs4⟩ : ∃ y, y = s := ⟨_, rfl⟩
                subst hs4
                simp only [z4Z] at h17
                simp only [z3a]
                refine zq rfl (zr rfl rfl rfl (by simp; rfl) ?_)
                refine z0a (zq rfl ?_)
                by_cases c1116 : w629 < (v614.length : Int)
                ·rw [if_pos c1116] at h17
                 refine z0v rfl (by simp [c1116]) (z0g rfl (z0a (zq rfl (zb rfl (zq rfl ?_)))))
                 obtain ⟨v643, f1117, h18⟩ := z1e h17
                 refine zr rfl rfl rfl (by simp [f1117]; rfl) ?_
                 refine z0a (zq rfl (zq rfl ?_))
                 by_cases c1118 : v643 < 0
                 ·rw [if_pos c1118] at h18
                  refine zr rfl rfl rfl (by simp [c1118]; rfl) ?_
                  refine z0a (z0v rfl (by simp) (zq rfl (zr rfl rfl rfl (by simp; rfl) ?_)))
                  refine z0a (z1o rfl (z0e (z0n (z0e ?_))))
                  obtain ⟨rr4, h19, ho4⟩ := z0b h18
                  have hs4 := hr4 _ ho4
                  subst hs4
                  refine z1n ho4 (z0n (z0n (z0e ?_)))
                  obtain ⟨rr1, h20, ho1⟩ := z0b h19
                  have hs1 := hr1 _ ho1
                  subst hs1
                  refine z1n ho1 (z0n (z0e ?_))
                  cases h20
                  simp
                 ·rw [if_neg c1118] at h18
                  refine zr rfl rfl rfl (by simp [c1118]; rfl) ?_
                  refine z0a ?_
                  by_cases c1119 : (v332.1.sets.length : Int) ≤ v643
                  ·rw [if_pos c1119] at h18
                   refine z0v rfl (by simp [c1119]) (zq rfl (zr rfl rfl rfl (by simp; rfl) ?_))
                   refine z0a (z1o rfl (z0e (z0n (z0e ?_))))
                   obtain ⟨rr4, h19, ho4⟩ := z0b h18
                   have hs4 := hr4 _ ho4
                   subst hs4
                   refine z1n ho4 (z0n (z0n (z0e ?_)))
                   obtain ⟨rr1, h20, ho1⟩ := z0b h19
                   have hs1 := hr1 _ ho1
                   subst hs1
                   refine z1n ho1 (z0n (z0e ?_))
                   cases h20
                   simp
                  ·rw [if_neg c1119] at h18
                   refine z0t rfl (by simp [c1119]) (z0g rfl (z0a (zq rfl ?_)))
                   obtain ⟨v644, f1120, h19⟩ := z1e h18
                   obtain ⟨v645, f1121, h20⟩ := z1e h19
                   obtain ⟨v646, f1122, h21⟩ := z0c h20
                   have f1122k := z3p f1122
                   try simp at f1122k
                   refine z1g rfl rfl rfl rfl ?_; repeat' ((first | refine z0p rfl rfl fun Q' hQ => ?_ | refine z0m rfl fun Q' hQ => ?_); simp [f1120, f1121, f1122k]; refine hQ.out _ ?_; clear hQ; clear Q')
                   refine z0a (zq rfl (zr rfl rfl rfl (by simp; rfl) ?_))
                   refine z0a (zq rfl (zq rfl ?_))
                   obtain ⟨v647, f1123, h22⟩ := z1e h21
                   refine zr rfl rfl rfl (by simp [f1123]; rfl) ?_
                   refine z0a (zb rfl (z0X h22 (z1D v331 v332 w440 w441 v550 v614 w629 v646 v647) rfl rfl (by simp [z1D]) fun s o5 h23 hr5 => ?_))
                   obtain ⟨w650, w651⟩ := s
                   simp only [z4Y] at h23
                   simp only [z1D]
                   refine zq rfl (zr rfl rfl rfl (by simp; rfl) ?_)
                   refine z0a (zq rfl ?_)
                   by_cases c1135 : w651 < (v647.length : Int)
                   ·rw [if_pos c1135] at h23
                    refine z0v rfl (by simp [c1135]) (z0g rfl (z0a (zq rfl (zb rfl (zq rfl ?_)))))
                    obtain ⟨v654, f1136, h24⟩ := z1e h23
                    refine zr rfl rfl rfl (by simp [f1136]; rfl) ?_
                    refine z0a ?_
                    by_cases c1137 : w650 = true
                    ·rw [if_pos c1137] at h24
                     refine zr rfl rfl rfl (by simp [c1137]; rfl) ?_
                     refine z0l (z0a (zr rfl rfl rfl (by simp; rfl) ?_))
                     have ho := z0d h24
                     refine z0i ho ?_
                     simp [z1D, c1137]
                    ·rw [if_neg c1137] at h24
                     by_cases c1138 : 0 ≤ v654
                     ·rw [if_pos c1138] at h24
                      by_cases c1139 : v654 < (v332.1.sets.length : Int)
                      ·rw [if_pos c1139] at h24
                       obtain ⟨v655, f1140, h25⟩ := z1e h24
                       refine zr rfl rfl rfl (by simp [c1137, c1138, c1139, f1140]; rfl) ?_
                       refine z0l (z0a (zr rfl rfl rfl (by simp; rfl) ?_))
                       have ho := z0d h25
                       refine z0i ho ?_
                       simp [z1D, c1137]
                      ·rw [if_neg c1139] at h24
                       refine zr rfl rfl rfl (by simp [c1137, c1138, c1139]; rfl) ?_
                       refine z0l (z0a (zr rfl rfl rfl (by simp; rfl) ?_))
                       have ho := z0d h24
                       refine z0i ho ?_
                       simp [z1D, c1137]
                     ·rw [if_neg c1138] at h24
                      refine zr rfl rfl rfl (by simp [c1137, c1138]; rfl) ?_
                      refine z0l (z0a (zr rfl rfl rfl (by simp; rfl) ?_))
                      have ho := z0d h24
                      refine z0i ho ?_
                      simp [z1D, c1137]
                   ·rw [if_neg c1135] at h23
                    refine z0t rfl (by simp [c1135]) (z1t rfl (z0T ?_))
                    obtain ⟨rr5, h24, ho5⟩ := z0b h23
                    have hs5 := hr5 _ ho5
                    subst hs5
                    refine z0y ho5 (z0f rfl (z0a (zq rfl (zr rfl rfl rfl (by simp; rfl) ?_))))
                    refine z0a ?_
                    by_cases c1141 : w650 = true
                    ·rw [if_pos c1141] at h24
                     refine z0t rfl (by simp [c1141]) (z0g rfl (z0l (z0a (zr rfl rfl rfl (by simp; rfl) ?_))))
                     have ho := z0d h24
                     refine z0i ho ?_
                     simp [z3a, c1141]
                    ·rw [if_neg c1141] at h24
                     refine z0v rfl (by simp [c1141]) (zq rfl (zr rfl rfl rfl (by simp; rfl) ?_))
                     refine z0a (z1o rfl (z0n (z0e ?_)))
                     obtain ⟨rr4, h25, ho4⟩ := z0b h24
                     have hs4 := hr4 _ ho4
                     subst hs4
                     refine z1n ho4 (z0n (z0n (z0e ?_)))
                     obtain ⟨rr1, h26, ho1⟩ := z0b h25
                     have hs1 := hr1 _ ho1
                     subst hs1
                     refine z1n ho1 (z0n (z0e ?_))
                     cases h26
                     simp [c1141]
                ·rw [if_neg c1116] at h17
                 refine z0t rfl (by simp [c1116]) (z1t rfl (z0T ?_))
                 obtain ⟨rr4, h18, ho4⟩ := z0b h17
                 have hs4 := hr4 _ ho4
                 subst hs4
                 refine z0y ho4 (z0f rfl (z0l (z0a (zr rfl rfl rfl (by simp; rfl) ?_))))
                 have ho := z0d h18
                 refine z0i ho ?_
                 simp [z2A]
               ·rw [if_neg c1063] at h16
                have c1063e := eq_false c1063
                refine z0v rfl (by simp [c1063e]) (zq rfl (zr rfl rfl rfl (by simp; rfl) ?_))
                refine z0a (z1o rfl (z0e (z0n (z0e ?_))))
                obtain ⟨rr1, h17, ho1⟩ := z0b h16
                have hs1 := hr1 _ ho1
                subst hs1
                refine z1n ho1 (z0n (z0e ?_))
                cases h17
                simp [c955, c955s]
              ·rw [if_neg c1060] at h14
               have c1060e := eq_false c1060
               refine z1g rfl rfl rfl rfl ?_; repeat' (first | (refine z0p rfl rfl fun Q' hQ => ?_; simp [c1054e, c1055e, c1056e, f1049, c1057e, f1058, f1059, c1060e]; refine hQ.out _ ?_; clear hQ; clear Q') | (refine z1d rfl rfl fun Q1 Q2 h1 h2 => ?_; simp [c1054e, c1055e, c1056e, f1049, c1057e, f1058, f1059, c1060e, z1K]; (first | refine h1.out ?_ | refine h2.out ?_); clear h1 h2; clear Q1 Q2; intro Q' hQ; simp [c1054e, c1055e, c1056e, f1049, c1057e, f1058, f1059, c1060e]; refine hQ.out _ ?_; clear hQ; clear Q') | (refine z0m rfl fun Q' hQ => ?_; simp [c1054e, c1055e, c1056e, f1049, c1057e, f1058, f1059, c1060e]; refine hQ.out _ ?_; clear hQ; clear Q'))
               refine z0a (z0v rfl (by simp) (zq rfl (zr rfl rfl rfl (by simp; rfl) ?_)))
               refine z0a (z1o rfl (z0e (z0n (z0e ?_))))
               obtain ⟨rr1, h15, ho1⟩ := z0b h14
               have hs1 := hr1 _ ho1
               subst hs1
               refine z1n ho1 (z0n (z0e ?_))
               cases h15
               simp [c955, c955s]
             ·rw [if_neg c1057] at h12
              have c1057e := eq_false c1057
              refine z1g rfl rfl rfl rfl ?_; repeat' (first | (refine z0p rfl rfl fun Q' hQ => ?_; simp [c1054e, c1055e, c1056e, f1049, c1057e]; refine hQ.out _ ?_; clear hQ; clear Q') | (refine z1d rfl rfl fun Q1 Q2 h1 h2 => ?_; simp [c1054e, c1055e, c1056e, f1049, c1057e, z1K]; (first | refine h1.out ?_ | refine h2.out ?_); clear h1 h2; clear Q1 Q2; intro Q' hQ; simp [c1054e, c1055e, c1056e, f1049, c1057e]; refine hQ.out _ ?_; clear hQ; clear Q') | (refine z0m rfl fun Q' hQ => ?_; simp [c1054e, c1055e, c1056e, f1049, c1057e]; refine hQ.out _ ?_; clear hQ; clear Q'))
              refine z0a (z0v rfl (by simp) (zq rfl (zr rfl rfl rfl (by simp; rfl) ?_)))
              refine z0a (z1o rfl (z0e (z0n (z0e ?_))))
              obtain ⟨rr1, h13, ho1⟩ := z0b h12
              have hs1 := hr1 _ ho1
              subst hs1
              refine z1n ho1 (z0n (z0e ?_))
              cases h13
              simp [c955, c955s]
            ·rw [if_neg c1056] at h12
             have c1056e := eq_false c1056
             refine z1g rfl rfl rfl rfl ?_; repeat' (first | (refine z0p rfl rfl fun Q' hQ => ?_; simp [c1054e, c1055e, c1056e]; refine hQ.out _ ?_; clear hQ; clear Q') | (refine z1d rfl rfl fun Q1 Q2 h1 h2 => ?_; simp [c1054e, c1055e, c1056e, z1K]; (first | refine h1.out ?_ | refine h2.out ?_); clear h1 h2; clear Q1 Q2; intro Q' hQ; simp [c1054e, c1055e, c1056e]; refine hQ.out _ ?_; clear hQ; clear Q') | (refine z0m rfl fun Q' hQ => ?_; simp [c1054e, c1055e, c1056e]; refine hQ.out _ ?_; clear hQ; clear Q'))
             refine z0a (z0v rfl (by simp) (zq rfl (zr rfl rfl rfl (by simp; rfl) ?_)))
             refine z0a (z1o rfl (z0e (z0n (z0e ?_))))
             obtain ⟨rr1, h13, ho1⟩ := z0b h12
             have hs1 := hr1 _ ho1
             subst hs1
             refine z1n ho1 (z0n (z0e ?_))
             cases h13
             simp [c955, c955s]
           ·rw [if_neg c1055] at h12
            have c1055e := eq_false c1055
            refine z1g rfl rfl rfl rfl ?_; repeat' (first | (refine z0p rfl rfl fun Q' hQ => ?_; simp [c1054e, c1055e]; refine hQ.out _ ?_; clear hQ; clear Q') | (refine z1d rfl rfl fun Q1 Q2 h1 h2 => ?_; simp [c1054e, c1055e, z1K]; (first | refine h1.out ?_ | refine h2.out ?_); clear h1 h2; clear Q1 Q2; intro Q' hQ; simp [c1054e, c1055e]; refine hQ.out _ ?_; clear hQ; clear Q') | (refine z0m rfl fun Q' hQ => ?_; simp [c1054e, c1055e]; refine hQ.out _ ?_; clear hQ; clear Q'))
            refine z0a (z0v rfl (by simp) (zq rfl (zr rfl rfl rfl (by simp; rfl) ?_)))
            refine z0a (z1o rfl (z0e (z0n (z0e ?_))))
            obtain ⟨rr1, h13, ho1⟩ := z0b h12
            have hs1 := hr1 _ ho1
            subst hs1
            refine z1n ho1 (z0n (z0e ?_))
            cases h13
            simp [c955, c955s]
          ·rw [if_neg c1054] at h12
           have c1054e := eq_false c1054
           refine z1g rfl rfl rfl rfl ?_; repeat' (first | (refine z0p rfl rfl fun Q' hQ => ?_; simp [c1054e]; refine hQ.out _ ?_; clear hQ; clear Q') | (refine z1d rfl rfl fun Q1 Q2 h1 h2 => ?_; simp [c1054e, z1K]; (first | refine h1.out ?_ | refine h2.out ?_); clear h1 h2; clear Q1 Q2; intro Q' hQ; simp [c1054e]; refine hQ.out _ ?_; clear hQ; clear Q') | (refine z0m rfl fun Q' hQ => ?_; simp [c1054e]; refine hQ.out _ ?_; clear hQ; clear Q'))
           refine z0a (z0v rfl (by simp) (zq rfl (zr rfl rfl rfl (by simp; rfl) ?_)))
           refine z0a (z1o rfl (z0e (z0n (z0e ?_))))
           obtain ⟨rr1, h13, ho1⟩ := z0b h12
           have hs1 := hr1 _ ho1
           subst hs1
           refine z1n ho1 (z0n (z0e ?_))
           cases h13
           simp [c955, c955s]
        ·rw [if_neg c952] at h5
         refine z0t rfl (by simp [c952]) (z1t rfl (z0T ?_))
         obtain ⟨rr1, h6, ho1⟩ := z0b h5
         have hs1 := hr1 _ ho1
         subst hs1
         refine z0y ho1 (z0f rfl (z0a (zq rfl ?_)))
         obtain ⟨v656, f1142, h7⟩ := z0c h6
         have f1142k := zcc f1142
         try simp at f1142k
         refine zr rfl rfl rfl (by simp [f1142k]; rfl) ?_
         refine z0a (z1o rfl ?_)
         cases h7
         simp
       ·rw [if_neg c579] at h4
        have c579e := eq_false c579
        refine z0v rfl (by simp [c579e]) (zq rfl (zr rfl rfl rfl (by simp; rfl) ?_))
        refine z0a (z1o rfl (z0e ?_))
        cases h4
        simp
      ·rw [if_neg c578] at h4
       have c578e := eq_false c578
       refine zr rfl rfl rfl (by simp [c574e, c575e, c576e, c577e, c578e]; rfl) ?_
       refine z0a (z0v rfl (by simp) (zq rfl (zr rfl rfl rfl (by simp; rfl) ?_)))
       refine z0a (z1o rfl (z0e ?_))
       cases h4
       simp
     ·rw [if_neg c577] at h4
      have c577e := eq_false c577
      refine zr rfl rfl rfl (by simp [c574e, c575e, c576e, c577e]; rfl) ?_
      refine z0a (z0v rfl (by simp) (zq rfl (zr rfl rfl rfl (by simp; rfl) ?_)))
      refine z0a (z1o rfl (z0e ?_))
      cases h4
      simp
    ·rw [if_neg c576] at h4
     have c576e := eq_false c576
     refine zr rfl rfl rfl (by simp [c574e, c575e, c576e]; rfl) ?_
     refine z0a (z0v rfl (by simp) (zq rfl (zr rfl rfl rfl (by simp; rfl) ?_)))
     refine z0a (z1o rfl (z0e ?_))
     cases h4
     simp
   ·rw [if_neg c575] at h4
    have c575e := eq_false c575
    refine zr rfl rfl rfl (by simp [c574e, c575e]; rfl) ?_
    refine z0a (z0v rfl (by simp) (zq rfl (zr rfl rfl rfl (by simp; rfl) ?_)))
    refine z0a (z1o rfl (z0e ?_))
    cases h4
    simp
  ·rw [if_neg c574] at h4
   have c574e := eq_false c574
   refine zr rfl rfl rfl (by simp [c574e]; rfl) ?_
   refine z0a (z0v rfl (by simp) (zq rfl (zr rfl rfl rfl (by simp; rfl) ?_)))
   refine z0a (z1o rfl (z0e ?_))
   cases h4
   simp
end
end Go.Proofs.Ytbnnipkanechoaa
end
section
namespace Go.Proofs.Ytbnnipkanechoaa
open Go
set_option maxRecDepth 100000
def mpF : List Nat → Nat → List (Int × Int)
  | [], _ => []
  | f :: l, c => (((c : Nat) : Int), ((f : Nat) : Int)) :: mpF l (c + 1)
theorem ziU : ∀ (l : List Nat) (c0 c : Nat), c0 ≤ c → c < c0 + l.length → zdB ((c : Nat) : Int) (mpF l c0) = some ((l.getD (c - c0) 0 : Nat) : Int)
  | [], c0, c, h1, h2 => by rw [List.length_nil] at h2; omega
  | f :: l, c0, c, h1, h2 => by
    rw [List.length_cons] at h2
    simp only [mpF, zdB]
    by_cases e : c0 = c
    · subst e; rw [if_pos rfl, Nat.sub_self, List.getD_cons_zero]
    · rw [if_neg (by omega), ziU l (c0 + 1) c (by omega) (by omega), show c - c0 = (c - (c0 + 1)) + 1 by omega, List.getD_cons_succ]
theorem zny : ∀ (l : List Nat) (c0 c : Nat), c0 + l.length ≤ c → zdB ((c : Nat) : Int) (mpF l c0) = none
  | [], c0, c, h => rfl
  | f :: l, c0, c, h => by
    rw [List.length_cons] at h
    simp only [mpF, zdB]
    rw [if_neg (by omega), zny l (c0 + 1) c (by omega)]
theorem zmW (v : Nat) : ∀ (l : List Nat) (c0 c : Nat), c = c0 + l.length → zf1 ((c : Nat) : Int) ((v : Nat) : Int) (mpF l c0) = mpF (l ++ [v]) c0
  | [], c0, c, h => by
    rw [List.length_nil] at h; subst h; rfl
  | f :: l, c0, c, h => by
    rw [List.length_cons] at h
    simp only [mpF, zf1, List.cons_append]
    rw [if_neg (by omega), zmW v l (c0 + 1) c (by omega)]
theorem znF {N : Nat} {e : Nat → Nat → Bool} (he : EqvN N e) {i : Nat} (hi : i < N) :
    (z6n e N i < (z1A e i).length ∧ (z1A e i).getD (z6n e N i) 0 = (z1A e N).getD (z6n e N i) 0 ∧ z1A e (i + 1) = z1A e i) ∨
    (z6n e N i = (z1A e i).length ∧ (z1A e N).getD (z6n e N i) 0 = i ∧ z1A e (i + 1) = z1A e i ++ [i]) := by
  have hc := zpJ he hi
  by_cases h : (z1A e i).any (e i) = true
  · left
    obtain ⟨x, hx, hp⟩ := List.any_eq_true.1 h
    have hlt : z6n e N i < (z1A e i).length := by rw [← hc]; exact List.findIdx_lt_length_of_exists ⟨x, hx, hp⟩
    refine ⟨hlt, ?_, by rw [z1A, if_pos h]⟩
    obtain ⟨R, hR⟩ := zdD e (i := i) N (by omega)
    rw [hR, List.getD, List.getD, List.getElem?_append_left hlt]
  · right
    have hlt : z6n e N i = (z1A e i).length := by
      rw [← hc]
      exact List.findIdx_eq_length.2 fun x hx => by
        cases hh : e i x with
        | false => rfl
        | true => exact absurd (List.any_eq_true.2 ⟨x, hx, hh⟩) h
    refine ⟨hlt, ?_, by rw [z1A, if_neg h]⟩
    obtain ⟨R, hR⟩ := zdD e (i := i + 1) N (by omega)
    rw [hR, z1A, if_neg h, hlt, List.getD, List.append_assoc, List.getElem?_append_right (Nat.le_refl _), Nat.sub_self]
    rfl
def zqk (S ts : List Nat) (x : Nat) : Nat → Bool
  | 0 => false
  | k + 1 => zqk S ts x k || decide (S.getD (ts.getD k 0) 0 = x)
theorem zhE {S ts : List Nat} {x q : Nat} (h : S.getD (ts.getD q 0) 0 = x) : ∀ k, q < k → zqk S ts x k = true
  | 0, hk => by omega
  | k + 1, hk => by
    simp only [zqk, Bool.or_eq_true, decide_eq_true_eq]
    by_cases e : q = k
    · subst e; exact .inr h
    · exact .inl (zhE h k (by omega))
section
variable {d : DFA} {m n : Nat} {S : List Nat} (hd : DfaOk d m n) (hn : n ≤ 7) (hS : SetsP d m n S)
include hd hn hS
theorem zpR {w : ByteArray} (hw : zoh m w.data.toList) (hs : w.size ≤ 2 ^ n) : zfm m w := by
  have _u := hd
  have _u := hS
  have h128 : 2 ^ n ≤ 128 := Nat.pow_le_pow_right (n := 2) (by omega) hn
  exact ⟨by omega, hw⟩
theorem zhX {w : ByteArray} (hw : zoh m w.data.toList) (hs : w.size ≤ 2 ^ n) {k : Nat} (hk : k < S.length) : z2q d ((S.getD k 0 : Nat) : Int) w = some (((z6j d (S.getD k 0) w.data.toList : Nat) : Int), 0) := by
  have := hS.lt _ (z1r hk)
  rw [zkv hd (by omega), zhW, if_pos ⟨⟨by omega, by omega⟩, zpR hd hn hS hw hs⟩, Int.toNat_natCast]
theorem zsd {k i x : Nat} (hi : i < S.length) (hx : x ∈ z4U S i) (w : Int) (w0 : 0 ≤ w) (w1 : w < 4611686018427387904) (v : Int) :
    z1q (z2n (z5p d m n S, 0) w (((S.getD x 0 : Nat) : Int), v) (toI (z4U S i))) LFm (false, 0) = z0Z (w + 1) := by
  have _u := hd
  have h128 : 2 ^ n ≤ 128 := Nat.pow_le_pow_right (n := 2) (by omega) hn
  have hSl := z1L hS.nd hS.lt
  have htl : (z4U S i).length ≤ S.length := z1L (za8 S i) fun t ht => (z6s hn hS hi ht).2.1
  obtain ⟨w, rfl⟩ := Int.eq_ofNat_of_zero_le w0
  refine z2f (s := (false, (0 : Int))) (z4U S i).length (fun q => (zqk S (z4U S i) (S.getD x 0) q, (q : Int))) rfl (by simp only [LFm]; omega) (fun q hq => ?_) ?_
  · obtain ⟨q1, q2, q3, q4⟩ := z6s hn hS hi (z1r hq)
    have e1 : atI (z5p d m n S).sets (((z4U S i).getD q 0 : Nat) : Int) = some ((S.getD ((z4U S i).getD q 0) 0 : Nat) : Int) := z3z q2
    have e4 : (z5p d m n S).sets.length = S.length := z0G S
    simp only [z2n]
    rw [if_pos (by rw [z0G]; omega), z3z hq, Option.bind_some]
    cases hb : zqk S (z4U S i) (S.getD x 0) q with
    | true =>
      rw [if_pos rfl, z3n (by omega)]
      simp only [zqk, hb, Bool.true_or]
      try rfl
    | false =>
      rw [if_neg (by simp), if_pos (by omega), e4, if_pos (by omega), e1, Option.bind_some, z3n (by omega)]
      simp only [zqk, hb, Bool.false_or]
      rw [show decide (((S.getD ((z4U S i).getD q 0) 0 : Nat) : Int) = ((S.getD x 0 : Nat) : Int)) = decide (S.getD ((z4U S i).getD q 0) 0 = S.getD x 0) from decide_eq_decide.2 (by omega)]
      try rfl
  · obtain ⟨p, hp, rfl⟩ := List.getElem_of_mem hx
    have := zhE (S := S) (ts := z4U S i) (x := S.getD (z4U S i)[p] 0) (q := p) (by rw [List.getD_eq_getElem?_getD (l := z4U S i), List.getElem?_eq_getElem hp, Option.getD_some]) (z4U S i).length hp
    simp only [z2n]
    rw [if_neg (by rw [z0G]; omega), this, if_pos rfl, z3n (by omega)]
    rfl
theorem zjs {k i : Nat} (hk : k < S.length) (hi : i < S.length) {v : List UInt8} (h : Lead d m n (S.getD k 0) (S.getD i 0) (zfj d m n S i).data.toList) (hs : (zfj d m n S i).size ≤ 2 ^ n) (h' : Lead d m n (S.getD i 0) (S.getD k 0) v) (M : List (Int × Int)) (t : Tape) :
    z1q (z2o (d, t) (z5p d m n S, 0) ((i : Nat) : Int) M (toI (z4U S k))) LFm 0 = z0Z (((i + 1 : Nat) : Int), M) := by
  have h128 : 2 ^ n ≤ 128 := Nat.pow_le_pow_right (n := 2) (by omega) hn
  have hSl := z1L hS.nd hS.lt
  have htl : (z4U S k).length ≤ S.length := z1L (za8 S k) fun t ht => (z6s hn hS hk ht).2.1
  refine z2f (s := (0 : Int)) (z4U S k).length (fun q => (q : Int)) rfl (by simp only [LFm]; omega) (fun q hq => ?_) ?_
  · have hm := z1r hq
    obtain ⟨q1, q2, q3, q4⟩ := z6s hn hS hk hm
    have hto := zmE hd hn hS hk hi h h' hm
    have hg := z5w (zhb hS h.hw (z1r q2))
    have hin := zsd hd hn hS (k := k) hi hto (q : Int) (by omega) (by omega) 0
    rw [hg] at hin
    have e1 : atI (z5p d m n S).sets (((z4U S k).getD q 0 : Nat) : Int) = some ((S.getD ((z4U S k).getD q 0) 0 : Nat) : Int) := z3z q2
    have e2 : atI (z5p d m n S).words (i : Int) = some (zfj d m n S i) := z3k hi
    have e3 : atI (z5p d m n S).tiles (i : Int) = some (toI (z4U S i)) := z3k hi
    have e4 : (z5p d m n S).sets.length = S.length := z0G S
    simp only [z2o]
    rw [if_pos (by rw [z0G]; omega), z3z hq, Option.bind_some, if_neg (by omega), e4, if_neg (by omega), e1, Option.bind_some, e2, Option.bind_some, zhX hd hn hS h.hw hs q2, Option.bind_some, e3, Option.bind_some, hin]
    try rfl
  · simp only [z2o]
    rw [if_neg (by rw [z0G]; omega), z3n (by omega)]
    try rfl
end
theorem zlH (l : List Int) (w0 : l.length ≤ maxLen) (z0 : ∀ x ∈ l, (Lit.int .i64 x).wf = true) : ∃ outs, L 5 [.sl l.length (l.map fun x => .sc (.int .i64 x))] = some (bT true, outs) := by
  obtain ⟨t0, e0, h0⟩ := zne l
  obtain ⟨m, t1, e1, m1, m2, h1⟩ := zbB h0
  obtain ⟨d, t2, n, e2, hd, hn, h2⟩ := zob h1 m 5 ⟨m1, m2⟩ (by omega)
  have h128 : 2 ^ n ≤ 128 := Nat.pow_le_pow_right (n := 2) (by omega) hn
  have hS := zdb hd
  have hSl := z1L hS.nd hS.lt
  have hb := zko hd hS
  have he := zhL hd hS
  have hbot : ∀ i k, i < (z4q d m n).length → k < (z4q d m n).length → zo1 (z4q d m n) k = true → z6h d m n (z4q d m n) i k = true → zo1 (z4q d m n) i = true := fun i k hi hk hz h => zhS hd hn hi hk hz h
  have key : z4j l = some true := by
    unfold z4j
    have e2' : z2M t1 (m : Int) 5 = some (d, t2) := e2
    rw [e0, Option.bind_some, e1, Option.bind_some]
    simp only
    rw [e2', Option.bind_some]
    simp only
    rw [zqy hd hn, Option.bind_some]
    generalize z4q d m n = S at *
    rw [if_pos rfl]
    have l1 : (z5p d m n S).sets.length = S.length := z0G S
    have l2 : (z5p d m n S).class_.length = S.length := by simp [z5p, zp6]
    have l3 : (z5p d m n S).height.length = S.length := by simp [z5p, zqH]
    have l4 : (z5p d m n S).words.length = S.length := by simp [z5p]
    have l5 : (z5p d m n S).back.length = S.length := by simp [z5p]
    have l6 : (z5p d m n S).tiles.length = S.length := by simp [z5p]
    refine (if_pos (by simp only [l1, l2])).trans ?_
    refine (if_pos (by simp only [l1, l3])).trans ?_
    refine (if_pos (by simp only [l1, l4])).trans ?_
    refine (if_pos (by simp only [l1, l5])).trans ?_
    refine (if_pos (by simp only [l1, l6])).trans ?_
    refine z2f (s := ((0 : Int), ([] : List (Int × Int)))) S.length (fun i => ((i : Int), mpF (z1A (z2G d m n S) i) 0)) rfl (by simp only [LFm]; omega) (fun i hi => ?_) ?_
    · obtain ⟨c1, c2⟩ := zdN he hi
      have hfi : (z1A (z2G d m n S) S.length).getD (z6n (z2G d m n S) S.length i) 0 < S.length := zdE _ _ _ (z1r c1)
      have hfo : znG d m n S i = (z1A (z2G d m n S) S.length).getD (z6n (z2G d m n S) S.length i) 0 := rfl
      rw [← hfo] at c2 hfi
      have hcs := znF he hi
      rw [← hfo] at hcs
      generalize hk : znG d m n S i = k at *
      have c3 := he.symm _ _ hi hfi c2
      obtain ⟨z1, z2⟩ := zkb hd hn hS hfi hi c2
      obtain ⟨z3, z4⟩ := zkb hd hn hS hi hfi c3
      have hkl := hS.lt _ (z1r hfi)
      have hil := hS.lt _ (z1r hi)
      obtain ⟨a1, a2, a3⟩ := zga hd hkl z2
      obtain ⟨b1, b2, b3⟩ := zga hd hil z4
      have ew : z5G (z1H d m n (S.getD k 0)) (S.getD i 0) = zfj d m n S i := by unfold zfj; rw [hk]
      have eb : z5G (z1H d m n (S.getD i 0)) (S.getD k 0) = zol d m n S i := by unfold zol; rw [hk]
      rw [ew] at a1 a2 a3
      rw [eb] at b1 b2 b3
      have ld : Lead d m n (S.getD k 0) (S.getD i 0) (zfj d m n S i).data.toList := ⟨a1, hkl, hil, a3, z1⟩
      have ld' : Lead d m n (S.getD i 0) (S.getD k 0) (zol d m n S i).data.toList := ⟨b1, hil, hkl, b3, z1.symm⟩
      have hh : z9N d m n S i = z9N d m n S k := by
        simp only [z2G, Bool.and_eq_true] at c2
        exact Nat.le_antisymm (zfP hb hbot hi hfi c2.1) (zfP hb hbot hfi hi c2.2)
      have htl := zpV hd hn hS hfi hi ld ld'
      have p1 : ∀ {j}, j < S.length → atI (z5p d m n S).sets ((j : Nat) : Int) = some ((S.getD j 0 : Nat) : Int) := fun h => z3z h
      have p2 : atI (z5p d m n S).class_ (i : Int) = some ((z6n (z2G d m n S) S.length i : Nat) : Int) := z3k hi
      have p3 : ∀ {j}, j < S.length → atI (z5p d m n S).height ((j : Nat) : Int) = some ((z9N d m n S j : Nat) : Int) := fun h => z3k h
      have p4 : atI (z5p d m n S).words (i : Int) = some (zfj d m n S i) := z3k hi
      have p5 : atI (z5p d m n S).back (i : Int) = some (zol d m n S i) := z3k hi
      have p6 : ∀ {j}, j < S.length → atI (z5p d m n S).tiles ((j : Nat) : Int) = some (toI (z4U S j)) := fun h => z3k h
      simp only [z3v]
      rw [if_pos (by omega), p1 hi, Option.bind_some, p2, Option.bind_some]
      rcases hcs with ⟨q1, q2, q3⟩ | ⟨q1, q2, q3⟩
      · have g := ziU (z1A (z2G d m n S) i) 0 _ (Nat.zero_le _) (by rw [Nat.zero_add]; exact q1)
        rw [Nat.sub_zero, q2] at g
        rw [g, if_pos (by rfl), Option.getD_some, p1 hfi, Option.bind_some, p4, Option.bind_some, zhX hd hn hS a1 a2 hfi, Option.bind_some, p5, Option.bind_some, zhX hd hn hS b1 b2 hi, Option.bind_some]
        simp only [a3, b3]
        rw [if_pos trivial, if_pos trivial, if_pos trivial, if_pos trivial, p3 hi, Option.bind_some, p3 hfi, Option.bind_some, hh, if_pos rfl, p6 hi, Option.bind_some, p6 hfi, Option.bind_some, z0G, z0G, if_pos (by omega), zjs hd hn hS hfi hi ld a2 ld' _ t2, q3]
      · have g := zny (z1A (z2G d m n S) i) 0 (z6n (z2G d m n S) S.length i) (by omega)
        have g1 := zmW i (z1A (z2G d m n S) i) 0 (z6n (z2G d m n S) S.length i) (by omega)
        have g2 := ziU (z1A (z2G d m n S) i ++ [i]) 0 (z6n (z2G d m n S) S.length i) (Nat.zero_le _) (by simp; omega)
        rw [Nat.sub_zero, q1, List.getD, List.getElem?_append_right (Nat.le_refl _), Nat.sub_self, ← q1] at g2
        have g2 : zdB ((z6n (z2G d m n S) S.length i : Nat) : Int) (mpF (z1A (z2G d m n S) i ++ [i]) 0) = some ((k : Nat) : Int) := by rw [g2, q2]; rfl
        rw [g, if_neg (by simp), g1, g2, Option.getD_some, p1 hfi, Option.bind_some, p4, Option.bind_some, zhX hd hn hS a1 a2 hfi, Option.bind_some, p5, Option.bind_some, zhX hd hn hS b1 b2 hi, Option.bind_some]
        simp only [a3, b3]
        rw [if_pos trivial, if_pos trivial, if_pos trivial, if_pos trivial, p3 hi, Option.bind_some, p3 hfi, Option.bind_some, hh, if_pos rfl, p6 hi, Option.bind_some, p6 hfi, Option.bind_some, z0G, z0G, if_pos (by omega)]
        refine Eq.trans ?_ ((zjs hd hn hS hfi hi ld a2 ld' (mpF (z1A (z2G d m n S) i ++ [i]) 0) t2).trans (by rw [q3]))
        rw [← g1]
        rfl
    · simp only [z3v]
      rw [if_neg (by omega)]
      rfl
  exact ⟨_, z7N key⟩
end Go.Proofs.Ytbnnipkanechoaa
end
section
/- Proved here: the law ImagesClasses returns true for every input, and its arguments read afterwards as before. No condition. -/
namespace Go.Proofs.Ytbnnipkanechoaa.imagesClasses
open Go.ChangeShapes Go.WideShapes Go.ChangeAt Go.RowKit
open Go.ChangeMaps (open_string shut_string)
theorem own : ownKnob Try.prog.godebug = none := by kernel_rfl
set_option maxRecDepth 100000 in
theorem zau (H : Type) (enc : TypeId × Value → H) (W : World) (base : Nat) (args : Array Value) (ds gs : List (DataW H)) (before : List MemPlace)
    (hval0 : ∀ (j : Nat) t v, Try.f5.params[j]? = some t → args[j]? = some v → Value.okWide Try.prog W .any base t v)
    (hW : DataW.Whole enc Try.prog Try.f5.params.toList Rows.imagesClassesSpec.vars false W args.toList ds gs before) :
    Calls Try.prog 5 args W fun e W' => ∃ v, e = .returned v ∧ Rows.imagesClassesSpec.post enc Try.prog Try.f5 false true false false W args v W' := by
  have hW' := hW
  obtain ⟨p, q, hA0, hV, rfl, hfz, hnd⟩ := hW
  have hval := hval0
  have hA : DataW.TrodAll enc Try.prog W 0 (fun _ => true) true Try.f5.params.toList args.toList ds p := hA0
  rw [Try.params5] at hA hval
  obtain ⟨v0, vs0, d0, ds0, p0, q0, hargs, rfl, rfl, h0, r0⟩ := trodAll_cons hA
  obtain ⟨rfl, rfl, rfl⟩ := trodAll_nil r0
  obtain rfl : args = #[v0] := by cases args; simp_all
  obtain ⟨rfl, rfl⟩ := trodVars_none hV
  obtain ⟨a0, t0, w0, z0⟩ := zdl Try.underlying22 Try.underlying3 (by kernel_rfl) (hval 0 22 v0 rfl rfl) h0
  obtain ⟨outs, hlaw⟩ := zlH a0 w0 z0
  refine (zdp zcb (by kernel_rfl) zuh hlaw rfl W _ rfl (fun i t hi => ?_)).mono fun e W' ⟨he, bel⟩ => ?_
  · match i, hi with
    | 0, hi => cases hi; exact t0
  · subst he
    exact ⟨_, rfl, _, _, _, [], _, [], hW', trodAll_mk1 (shut_bool Try.underlying4 _), z5S 12 bel (by kernel_rfl) hA0, rfl, bel.frame _, fun h => by cases h⟩
theorem z3r {a b : Bool} (ha : a = true) (hb : b = true) : (a && b) = true := by rw [ha, hb]; rfl
set_option maxHeartbeats 4000000 in
theorem znL : joinedFacts Try.checked.prog 5 Try.f5 Rows.imagesClassesSpec Rows.imagesClassesRow = true :=
  (z3r (z3r (z3r (z3r (z3r (z3r (z3r (z3r (z3r (z3r (z3r (z3r (z3r (z3r (z3r (z3r (z3r (z3r (z3r (z3r (z3r (z3r (z3r (z3r (z3r (z3r (z3r (z3r (z3r (z3r (z3r (by as_aux_lemma => kernel_rfl)
    (by as_aux_lemma => kernel_rfl))
    (by as_aux_lemma => kernel_rfl))
    (by as_aux_lemma => kernel_rfl))
    (by as_aux_lemma => kernel_rfl))
    (by as_aux_lemma => kernel_rfl))
    (by as_aux_lemma => kernel_rfl))
    (by as_aux_lemma => kernel_rfl))
    (by as_aux_lemma => kernel_rfl))
    (by as_aux_lemma => kernel_rfl))
    (by as_aux_lemma => kernel_rfl))
    (by as_aux_lemma => kernel_rfl))
    (by as_aux_lemma => kernel_rfl))
    (by as_aux_lemma => kernel_rfl))
    (by as_aux_lemma => kernel_rfl))
    (by as_aux_lemma => kernel_rfl))
    (by as_aux_lemma => kernel_rfl))
    (by as_aux_lemma => kernel_rfl))
    (by as_aux_lemma => kernel_rfl))
    (by as_aux_lemma => kernel_rfl))
    (by as_aux_lemma => kernel_rfl))
    (by as_aux_lemma => kernel_rfl))
    (by as_aux_lemma => kernel_rfl))
    (by as_aux_lemma => kernel_rfl))
    (by as_aux_lemma => kernel_rfl))
    (by as_aux_lemma => kernel_rfl))
    (by as_aux_lemma => kernel_rfl))
    (by as_aux_lemma => kernel_rfl))
    (by as_aux_lemma => kernel_rfl))
    (by as_aux_lemma => kernel_rfl))
    (by as_aux_lemma => kernel_rfl))
    (by as_aux_lemma => kernel_rfl))
set_option maxRecDepth 100000 in
theorem zht (os : Os) (started : os.Started) (H : Type) (enc : TypeId × Value → H) :
    ReturnsInHanded {} Try.checked os 5 .any (Rows.imagesClassesSpec.pre6 enc Try.prog Try.f5 Rows.imagesClassesRow.domain false) (Rows.imagesClassesSpec.post enc Try.prog Try.f5 false true false false) := by
  refine returnsInHanded_of_change (C := Try.checked) (by kernel_rfl) started (by kernel_rfl) Try.func5
    (ChangeSpec.witness6 (enc := enc) (C := Try.checked) false ⟨#[], #[.slice none 0 0], []⟩ 8 (by kernel_rfl) (by kernel_rfl) (by kernel_rfl) (by kernel_rfl)) ?_
  intro W base args ds gs before hval0 hW hcnd _
  exact zau H enc W base args ds gs before hval0 hW
theorem zr4 : Rows.imagesClassesRow.holds Try.pinned (OpenSpec.ofChange Rows.imagesClassesSpec) :=
  OpenClaim.holds_of_wide 5 Try.f5 rfl rfl rfl rfl rfl rfl rfl ⟨rfl, rfl, rfl, rfl, rfl⟩ rfl rfl rfl rfl rfl (by kernel_rfl) Try.func5 znL
    (of_decide_eq_true (by kernel_rfl)) (by unfold Func.isWrapper; first | (rw [if_pos (by decide +kernel)]; kernel_rfl) | (rw [if_neg (by decide +kernel)]; exact ⟨rfl, rfl⟩))
    (fun os started H enc _ => zht os started H enc)
theorem proved : Rows.ImagesClassesSaid :=
  zr4
#print axioms proved
end Go.Proofs.Ytbnnipkanechoaa.imagesClasses
end

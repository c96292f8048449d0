/- Proved here: a part of the proof of the law at hand, in one text: no condition. -/
import Derived.Test.YtodliknibbafeaaGreatMCL5
set_option linter.unusedVariables false
set_option linter.unusedSimpArgs false
namespace Go.Proofs.YtodliknibbafeaaGreat
section
open Go
set_option maxRecDepth 100000
theorem zch {l : List (List Nat)} {i : Nat} (h : i < l.length) : l.getD i [] ∈ l := by
  rw [List.getD, List.getElem?_eq_getElem h, Option.getD_some]; exact List.getElem_mem h
def z6L (f g : List Nat) : List Nat := f.map fun y => g.getD y 0
structure PermL (L : Nat) (p : List Nat) : Prop where
  len : p.length = L
  nd : p.Nodup
  lt : ∀ x ∈ p, x < L
theorem zjw (L : Nat) : PermL L (List.range L) := ⟨by simp, List.nodup_range, fun x hx => List.mem_range.1 hx⟩
theorem zqu {f g : List Nat} {i : Nat} (h : i < f.length) : (z6L f g).getD i 0 = g.getD (f.getD i 0) 0 := by
  simp [z6L, List.getD, h]
theorem z9W (f g : List Nat) : (z6L f g).length = f.length := by simp [z6L]
theorem zmL {L : Nat} {f g : List Nat} (hf : PermL L f) (hg : PermL L g) : PermL L (z6L f g) := by
  refine ⟨by rw [z9W, hf.len], z7v hf.nd fun x hx y hy e => ?_, fun x hx => ?_⟩
  · exact z7e hg.nd (by have := hf.lt x hx; have := hg.len; omega) (by have := hf.lt y hy; have := hg.len; omega) e
  · obtain ⟨y, hy, rfl⟩ := List.mem_map.1 hx
    exact hg.lt _ (z0r (by have := hf.lt y hy; have := hg.len; omega))
theorem ziQ {L : Nat} {g : List Nat} (hg : PermL L g) : z6L (List.range L) g = g := by
  refine List.ext_getElem (by rw [z9W, List.length_range, hg.len]) fun i h1 h2 => ?_
  simp [z6L, List.getD, h2]
theorem zdf {L : Nat} {f g h : List Nat} (hf : PermL L f) (hg : PermL L g) : z6L (z6L f g) h = z6L f (z6L g h) := by
  unfold z6L
  rw [List.map_map]
  refine List.map_congr_left fun y hy => ?_
  have : y < g.length := by have := hf.lt y hy; have := hg.len; omega
  simp [List.getD, this]
inductive RchG (L : Nat) (P : List (List Nat)) : List Nat -> Prop
  | one : RchG L P (List.range L)
  | step (e g) (h : RchG L P e) (hg : g ∈ P) : RchG L P (z6L e g)
theorem z3X {L : Nat} {P : List (List Nat)} (hP : ∀ g ∈ P, PermL L g) {e : List Nat} (h : RchG L P e) : PermL L e := by
  induction h with
  | one => exact zjw L
  | step e g _ hg ih => exact zmL ih (hP g hg)
theorem zlN {L : Nat} {P : List (List Nat)} (hP : ∀ g ∈ P, PermL L g) {e f : List Nat} (he : RchG L P e) (hf : RchG L P f) : RchG L P (z6L e f) := by
  induction hf with
  | one =>
    have h := z3X hP he
    have : z6L e (List.range L) = e := by
      refine List.ext_getElem (z9W _ _) fun i h1 h2 => ?_
      have := h.lt e[i] (List.getElem_mem h2)
      simp [z6L, List.getD, this]
    rw [this]; exact he
  | step e' g hf' hg ih =>
    rw [← zdf (z3X hP he) (z3X hP hf')]
    exact .step _ _ ih hg
theorem zfx {L : Nat} {P : List (List Nat)} (hP : ∀ g ∈ P, PermL L g) {g : List Nat} (hg : g ∈ P) : RchG L P g := by
  have := RchG.step _ g (.one (L := L) (P := P)) hg
  rwa [ziQ (hP g hg)] at this
theorem z5G {L : Nat} {P Q : List (List Nat)} (h : ∀ g ∈ Q, g ∈ P) {e : List Nat} (he : RchG L Q e) : RchG L P e := by
  induction he with
  | one => exact .one
  | step e g _ hg ih => exact .step _ _ ih (h g hg)
theorem zqt {L : Nat} {e : List Nat} (h : PermL L e) : z6L e (List.range L) = e := by
  refine List.ext_getElem (z9W _ _) fun i h1 h2 => ?_
  have := h.lt e[i] (List.getElem_mem h2)
  simp [z6L, List.getD, this]
theorem zk5 {L : Nat} {U E : List (List Nat)} (hU : ∀ g ∈ U, PermL L g) (hE : ∀ e ∈ E, PermL L e) (hc : ∀ e ∈ E, ∀ g ∈ U, z6L e g ∈ E) {x g : List Nat} (hx : x ∈ E) (hg : RchG L U g) : z6L x g ∈ E := by
  induction hg with
  | one => rw [zqt (hE x hx)]; exact hx
  | step g' u hg' hu ih =>
    rw [← zdf (hE x hx) (z3X hU hg')]
    exact hc _ ih u hu
theorem zkh {f g : List Nat} (hl : f.length <= 1000) (h : ∀ x ∈ f, x < g.length) : z4c (toI f) (toI g) = some (toI (z6L f g)) := by
  have e0 : toI (z6L f g) = (List.range f.length).map fun k => ((g.getD (f.getD k 0) 0 : Nat) : Int) := by
    refine List.ext_getElem (by simp [toI, z6L]) fun i h1 h2 => ?_
    have hi : i < f.length := by simpa [toI, z6L] using h1
    simp [toI, z6L, List.getD, hi]
  unfold z4c
  rw [z0d, z0q _ (by unfold z1g; omega), Int.toNat_natCast, e0]
  refine z0L (s := ((0 : Int), List.replicate f.length (0 : Int))) f.length (fun k => ((k : Int), zdZ f.length (fun k => ((g.getD (f.getD k 0) 0 : Nat) : Int)) (fun _ => 0) k)) (by rw [zgU]; congr 1; exact (List.ext_getElem (by simp) fun i h1 h2 => by simp)) (by simp only [LFm]; omega) (fun k hk => ?_) ?_
  · have hx := h _ (z0r hk)
    simp only [z4p]
    rw [if_pos (by rw [z0d]; omega), z2c hk, Option.bind_some, z2c hx, Option.bind_some, zc0 hk, Option.bind_some, z1b (by omega), Int.toNat_natCast, z8W (f := fun k => ((g.getD (f.getD k 0) 0 : Nat) : Int)) hk]
  · simp only [z4p]
    rw [if_neg (by rw [z0d]; omega), zgT]
theorem zed {p : List Nat} (hl : p.length <= 1000) (hp : ∀ x ∈ p, x < 256) : z4S (toI p) = some (z1J (toI p)) := by
  unfold z4S
  rw [z0d, z0q _ (by unfold z1g; omega), Int.toNat_natCast]
  have e0 : toI p = (List.range p.length).map fun k => ((p.getD k 0 : Nat) : Int) := by
    refine List.ext_getElem (by simp [toI]) fun i h1 h2 => ?_
    have hi : i < p.length := by simpa [toI] using h1
    simp [toI, List.getD, hi]
  refine z0L (s := ((0 : Int), List.replicate p.length (0 : Int))) p.length (fun k => ((k : Int), zdZ p.length (fun k => ((p.getD k 0 : Nat) : Int)) (fun _ => 0) k)) (by rw [zgU]; congr 1; exact (List.ext_getElem (by simp) fun i h1 h2 => by simp)) (by simp only [LFm]; omega) (fun k hk => ?_) ?_
  · have hx := hp _ (z0r hk)
    have hw : IntKind.u8.wrap ((p.getD k 0 : Nat) : Int) = ((p.getD k 0 : Nat) : Int) := by rw [IntKind.wrap_u8]; omega
    simp only [z5z]
    rw [if_pos (by rw [z0d]; omega), z2c hk, Option.bind_some, zc0 hk, Option.bind_some, z1b (by omega), Int.toNat_natCast, hw, z8W (f := fun k => ((p.getD k 0 : Nat) : Int)) hk]
  · simp only [z5z]
    rw [if_neg (by rw [z0d]; omega), zgT, ← e0]
theorem zmn : ∀ {p q : List Nat}, (∀ x ∈ p, x < 256) -> (∀ x ∈ q, x < 256) -> z1J (toI p) = z1J (toI q) -> p = q := by
  have key : ∀ {p q : List Nat}, (∀ x ∈ p, x < 256) -> (∀ x ∈ q, x < 256) -> (toI p).map (fun z : Int => UInt8.ofNat z.toNat) = (toI q).map (fun z : Int => UInt8.ofNat z.toNat) -> p = q := by
    intro p
    induction p with
    | nil =>
      intro q _ _ h
      cases q with
      | nil => rfl
      | cons b q => simp [toI] at h
    | cons a p ih =>
      intro q hp hq h
      cases q with
      | nil => simp [toI] at h
      | cons b q =>
        simp only [toI, List.map_cons, List.cons.injEq] at h
        have ha := hp a (List.mem_cons_self ..)
        have hb := hq b (List.mem_cons_self ..)
        have g1 := congrArg UInt8.toNat h.1
        simp only [Int.toNat_natCast, UInt8.toNat_ofNat'] at g1
        have : a = b := by omega
        subst this
        rw [ih (fun k hk => hp k (List.mem_cons_of_mem _ hk)) (fun k hk => hq k (List.mem_cons_of_mem _ hk)) h.2]
  intro p q hp hq h
  refine key hp hq ?_
  have := congrArg ByteArray.data h
  simpa [z1J] using this
theorem zoq {L : Nat} (h1 : 1 <= L) (h2 : L <= 32) : z4h (L : Int) = some (toI (List.range L)) := by
  unfold z4h
  rw [if_neg (by omega), if_neg (by omega), z0q _ (by unfold z1g; omega), Int.toNat_natCast]
  have e0 : toI (List.range L) = (List.range L).map fun k : Nat => (k : Int) := rfl
  refine z0L (s := ((0 : Int), List.replicate L (0 : Int))) L (fun k => ((k : Int), zdZ L (fun k => (k : Int)) (fun _ => 0) k)) (by rw [zgU]; congr 1; exact (List.ext_getElem (by simp) fun i h1 h2 => by simp)) (by simp only [LFm]; omega) (fun k hk => ?_) ?_
  · simp only [z3T]
    rw [if_pos (by omega), zc0 hk, Option.bind_some, z1b (by omega), Int.toNat_natCast, z8W (f := fun k => (k : Int)) hk]
  · simp only [z3T]
    rw [if_neg (by omega), zgT, e0]
theorem zeJ {L : Nat} {p : List Nat} (h : PermL L p) (h1 : 1 <= L) (h2 : L <= 32) : z4M (toI p) = some true := by
  have hl := h.len
  unfold z4M
  rw [z0d, if_neg (by omega), if_neg (by omega)]
  refine z0L (s := (0 : Int)) p.length (fun k => (k : Int)) rfl (by simp only [LFm]; omega) (fun k hk => ?_) ?_
  · have := h.lt _ (z0r hk)
    simp only [z4Y]
    rw [z0d, if_pos (by omega), z2c hk, Option.bind_some, if_neg (by omega), if_neg (by omega), z1b (by omega)]
  · simp only [z4Y]
    rw [z0d, if_neg (by omega)]
theorem zki {l : List Int} (h : l.Nodup) (hl : l.length <= 1000) : z1L l = some l := by
  unfold z1L
  by_cases h0 : (l.length : Int) < 2
  · rw [if_pos h0]
  · rw [if_neg h0]
    refine z0L (s := (1 : Int)) (l.length - 1) (fun k => ((k + 1 : Nat) : Int)) rfl (by simp only [LFm]; omega) (fun k hk => ?_) ?_
    · have w : IntKind.i64.wrap (((k + 1 : Nat) : Int) - 1) = (k : Int) := by rw [z1Z (by omega) (by omega)]; omega
      simp only [z1Q]
      rw [if_pos (by omega), z0Q (show k + 1 < l.length by omega), Option.bind_some, w, z0Q (show k < l.length by omega), Option.bind_some, if_neg, z1b (by omega)]
      intro e
      have := (List.getElem_inj h).1 e
      omega
    · simp only [z1Q]
      rw [if_neg (by omega)]
theorem zjN {L : Nat} {p : List Nat} (h : PermL L p) (h1 : 1 <= L) (h2 : L <= 32) : z2J (toI p) = some true := by
  have hl := h.len
  have hne : toI p ≠ [] := fun e => by have := congrArg List.length e; rw [z0d, List.length_nil] at this; omega
  have hnd : ((toI p).mergeSort fun x y => decide (x <= y)).Nodup := (List.mergeSort_perm _ _).nodup_iff.2 (List.Pairwise.map _ (fun a b (hab : a ≠ b) => by intro e; exact hab (by omega)) h.nd)
  have hlen : ((toI p).mergeSort fun x y => decide (x <= y)).length = p.length := by rw [List.length_mergeSort, z0d]
  unfold z2J
  rw [zeJ h h1 h2, Option.bind_some, if_pos rfl]
  unfold z7R z6R
  rw [zeJ h h1 h2, Option.bind_some, if_pos rfl]
  unfold zcU zcT
  rw [z0d, if_pos (by omega), Option.bind_some, if_pos ⟨hne, by rw [z0d]; omega⟩, Option.bind_some, zki hnd (by omega), Option.bind_some, Option.bind_some, hlen, Option.bind_some]
  simp
theorem zlR {L : Nat} {P : List (List Nat)} (hP : ∀ g ∈ P, PermL L g) (h1 : 1 <= L) (h2 : L <= 32) (hl : P.length <= 100000) : z3d (P.map toI) (L : Int) = some true := by
  unfold z3d
  refine z0L (s := (0 : Int)) P.length (fun k => (k : Int)) rfl (by simp only [LFm]; omega) (fun k hk => ?_) ?_
  · have hk' := hP _ (List.getElem_mem hk)
    have hat : atI (P.map toI) (k : Int) = some (toI P[k]) := by rw [z0Q (by simpa using hk)]; simp
    simp only [z3c]
    rw [if_pos (by rw [List.length_map]; omega), hat, Option.bind_some, z0d, if_pos (by rw [hk'.len]), zjN hk' h1 h2, Option.bind_some, if_pos rfl, z1b (by omega)]
  · simp only [z3c]
    rw [if_neg (by rw [List.length_map]; omega)]
def z8q : List (List Nat) -> List (ByteArray × Bool) := List.foldl (fun mp q => z9u (z1J (toI q)) true mp) []
theorem zjr (Q : List (List Nat)) (p : List Nat) : z8q (Q ++ [p]) = z9u (z1J (toI p)) true (z8q Q) := by
  unfold z8q; rw [List.foldl_append]; rfl
theorem zfp {p : List Nat} (hb : ∀ k ∈ p, k < 256) {Q : List (List Nat)} (hQ : ∀ q ∈ Q, ∀ k ∈ q, k < 256) : ((z9P (z1J (toI p)) (z8q Q)).getD false) = true ↔ p ∈ Q := by
  have key : ∀ (Q : List (List Nat)) (mp : List (ByteArray × Bool)), (∀ q ∈ Q, ∀ k ∈ q, k < 256) -> (((z9P (z1J (toI p)) (Q.foldl (fun mp q => z9u (z1J (toI q)) true mp) mp)).getD false) = true ↔ (p ∈ Q ∨ ((z9P (z1J (toI p)) mp).getD false) = true)) := by
    intro Q
    induction Q with
    | nil => intro mp _; simp
    | cons q Q ih =>
      intro mp hQ
      rw [List.foldl_cons, ih _ (fun x hx => hQ x (List.mem_cons_of_mem _ hx)), z9O, List.mem_cons]
      have hq := hQ q (List.mem_cons_self ..)
      by_cases e : q = p
      · subst e
        rw [if_pos rfl]; simp
      · have : ¬ z1J (toI q) = z1J (toI p) := fun h => e (zmn hq hb h)
        rw [if_neg this]
        constructor
        · rintro (h | h)
          · exact .inl (.inr h)
          · exact .inr h
        · rintro ((h | h) | h)
          · exact absurd h.symm e
          · exact .inl h
          · exact .inr h
  have := key Q [] hQ
  rw [show z8q Q = Q.foldl (fun mp q => z9u (z1J (toI q)) true mp) [] from rfl, this]
  simp [z9P]
structure GInv (L : Nat) (P E : List (List Nat)) : Prop where
  nd : E.Nodup
  rc : ∀ e ∈ E, RchG L P e
  on : List.range L ∈ E
section
variable {L : Nat} {P : List (List Nat)} (hP : ∀ g ∈ P, PermL L g) (h1 : 1 <= L) (h2 : L <= 32) (hB : ∀ l : List (List Nat), l.Nodup -> (∀ e ∈ l, RchG L P e) -> l.length <= 2000)
include hP h1 h2 hB
theorem z9w {e : List Nat} (h : RchG L P e) : ∀ k ∈ e, k < 256 := fun k hk => by
  have _u := h1
  have _v := hB
  have := (z3X hP h).lt k hk; omega
theorem zrs {E U : List (List Nat)} {f : List Nat} (hE : GInv L (U ++ [f]) E) (hU : ∀ g ∈ U ++ [f], g ∈ P) (hUl : U.length <= 100000) {i : Nat} (hi : i < E.length) :
    ∃ X, GInv L (U ++ [f]) (E ++ X) /\ (∀ g ∈ U ++ [f], z6L (E.getD i []) g ∈ E ++ X) /\ z0m (z3e (U.map toI) (toI f) (i : Int)) LFm (0, E.map toI, z8q E) = z0e (((i + 1 : Nat) : Int), (E ++ X).map toI, z8q (E ++ X)) := by
  refine Exists.elim (z1E (b := z3e (U.map toI) (toI f) (i : Int)) (fun z => ∃ (k : Nat) (X : List (List Nat)), k <= U.length + 1 /\ z = ((k : Int), (E ++ X).map toI, z8q (E ++ X)) /\ GInv L (U ++ [f]) (E ++ X) /\ ∀ j, j < k -> z6L (E.getD i []) ((U ++ [f]).getD j []) ∈ E ++ X) (fun z => U.length + 1 - z.1.toNat)
    (fun r => ∃ X, r = .inl (((i + 1 : Nat) : Int), (E ++ X).map toI, z8q (E ++ X)) /\ GInv L (U ++ [f]) (E ++ X) /\ ∀ j, j < U.length + 1 -> z6L (E.getD i []) ((U ++ [f]).getD j []) ∈ E ++ X) ?_ LFm (0, E.map toI, z8q E) ⟨0, [], by omega, by simp, by rw [List.append_nil]; exact hE, fun j hj => by omega⟩ (by simp only [LFm]; omega)) fun r h => ?_
  · rintro z ⟨k, X, hk, rfl, hX, hc⟩
    have hrp : ∀ e ∈ E ++ X, RchG L P e := fun e he => z5G hU (hX.rc e he)
    have hsz := hB _ hX.nd hrp
    rw [List.length_append] at hsz
    have hlen : ((E ++ X).map toI).length = E.length + X.length := by rw [List.length_map, List.length_append]
    simp only [z3e]
    rw [List.length_map]
    by_cases hk1 : k < U.length + 1
    · left
      have hg : (U ++ [f]).getD k [] ∈ U ++ [f] := zch (by rw [List.length_append, List.length_singleton]; exact hk1)
      have hgp := hP _ (hU _ hg)
      have hat1 : atI (U.map toI ++ [toI f]) (k : Int) = some (toI ((U ++ [f]).getD k [])) := by
        have e : U.map toI ++ [toI f] = (U ++ [f]).map toI := by simp
        rw [e, z0Q (by simp; omega)]
        simp only [List.getElem_map]
        rw [List.getD, List.getElem?_eq_getElem (by simp; omega), Option.getD_some]
      have hei : E.getD i [] ∈ E ++ X := List.mem_append.2 (.inl (zch hi))
      have hep := z3X hP (hrp _ hei)
      have hat2 : atI ((E ++ X).map toI) (i : Int) = some (toI (E.getD i [])) := by
        rw [z0Q (by simp; omega)]
        simp only [List.getElem_map]
        rw [List.getElem_append_left hi, List.getD, List.getElem?_eq_getElem hi, Option.getD_some]
      have hcu : RchG L (U ++ [f]) (z6L (E.getD i []) ((U ++ [f]).getD k [])) := .step _ _ (hX.rc _ hei) hg
      have hcr := z5G hU hcu
      have hcp := z3X hP hcr
      have hc256 := z9w hP h1 h2 hB hcr
      have hcomp : z4c (toI (E.getD i [])) (toI ((U ++ [f]).getD k [])) = some (toI (z6L (E.getD i []) ((U ++ [f]).getD k []))) := zkh (by rw [hep.len]; omega) (fun x hx => by have := hep.lt x hx; rw [hgp.len]; exact this)
      rw [if_pos (by omega), hat1, Option.bind_some, hat2, Option.bind_some, hcomp, Option.bind_some, zed (by rw [hcp.len]; omega) hc256, Option.bind_some]
      have hsg := zfp hc256 (Q := E ++ X) (fun q hq => z9w hP h1 h2 hB (hrp q hq))
      generalize hcE : z6L (E.getD i []) ((U ++ [f]).getD k []) = c at *
      by_cases hin : c ∈ E ++ X
      · rw [if_pos (hsg.2 hin), z1b (by omega)]
        refine ⟨_, rfl, ⟨k + 1, X, by omega, rfl, hX, fun j hj => ?_⟩, by simp only; omega⟩
        by_cases e : j = k
        · subst e; rw [hcE]; exact hin
        · exact hc j (by omega)
      · have hX' : GInv L (U ++ [f]) (E ++ (X ++ [c])) := by
          rw [← List.append_assoc]
          refine ⟨List.nodup_append.2 ⟨hX.nd, by simp, fun a ha b hb => ?_⟩, fun e he => ?_, List.mem_append.2 (.inl hX.on)⟩
          · obtain rfl := List.mem_singleton.1 hb
            rintro rfl; exact hin ha
          · rcases List.mem_append.1 he with he | he
            · exact hX.rc e he
            · obtain rfl := List.mem_singleton.1 he; exact hcu
        rw [if_neg (fun e => hin (hsg.1 e)), z0q _ (by unfold z1s; rw [hlen]; omega), z1b (by omega)]
        refine ⟨_, rfl, ⟨k + 1, X ++ [c], by omega, ?_, hX', fun j hj => ?_⟩, by simp only; omega⟩
        · rw [← List.append_assoc, zjr, List.map_append (f := toI) (l₁ := E ++ X)]; rfl
        · rw [← List.append_assoc]
          by_cases e : j = k
          · subst e; exact List.mem_append.2 (.inr (by rw [hcE]; simp))
          · exact List.mem_append.2 (.inl (hc j (by omega)))
    · right
      have hk2 : k = U.length + 1 := by omega
      rw [if_neg (by omega), if_neg (by rw [hlen]; omega), z1b (by omega)]
      exact ⟨_, rfl, X, rfl, hX, fun j hj => hc j (by omega)⟩
  · obtain ⟨h3, X, rfl, hX, hc⟩ := h
    refine ⟨X, hX, fun g hg => ?_, h3⟩
    obtain ⟨j, hj, rfl⟩ := List.getElem_of_mem hg
    have := hc j (by simpa using hj)
    have e : (U ++ [f]).getD j [] = (U ++ [f])[j] := by rw [List.getD, List.getElem?_eq_getElem hj, Option.getD_some]
    rwa [e] at this
theorem zsh {E U : List (List Nat)} {f : List Nat} {w : Nat} (hw : w < 100000) (hE : GInv L (U ++ [f]) E) (hU : ∀ g ∈ U ++ [f], g ∈ P) (hUl : U.length <= 100000) :
    ∃ X, GInv L (U ++ [f]) (E ++ X) /\ (∀ e ∈ E ++ X, ∀ g ∈ U ++ [f], z6L e g ∈ E ++ X) /\ z0m (z3f (w : Int) (U.map toI) (toI f)) LFm (0, E.map toI, z8q E) = z0e (((w + 1 : Nat) : Int), (E ++ X).map toI, z8q (E ++ X), (U ++ [f]).map toI) := by
  refine Exists.elim (z1E (b := z3f (w : Int) (U.map toI) (toI f)) (fun z => ∃ (i : Nat) (X : List (List Nat)), i <= (E ++ X).length /\ z = ((i : Int), (E ++ X).map toI, z8q (E ++ X)) /\ GInv L (U ++ [f]) (E ++ X) /\ ∀ j, j < i -> ∀ g ∈ U ++ [f], z6L ((E ++ X).getD j []) g ∈ E ++ X) (fun z => 2001 - z.1.toNat)
    (fun r => ∃ X, r = .inl (((w + 1 : Nat) : Int), (E ++ X).map toI, z8q (E ++ X), (U ++ [f]).map toI) /\ GInv L (U ++ [f]) (E ++ X) /\ ∀ j, j < (E ++ X).length -> ∀ g ∈ U ++ [f], z6L ((E ++ X).getD j []) g ∈ E ++ X) ?_ LFm (0, E.map toI, z8q E) ⟨0, [], by simp, by simp, by rw [List.append_nil]; exact hE, fun j hj => by omega⟩ (by simp only [LFm]; omega)) fun r h => ?_
  · rintro z ⟨i, X, hi, rfl, hX, hc⟩
    have hsz := hB _ hX.nd (fun e he => z5G hU (hX.rc e he))
    simp only [z3f]
    rw [List.length_map]
    by_cases hi1 : i < (E ++ X).length
    · left
      obtain ⟨Y, y1, y2, y3⟩ := zrs hP h1 h2 hB hX hU hUl hi1
      rw [if_pos (by omega), y3]
      have e : E ++ X ++ Y = E ++ (X ++ Y) := List.append_assoc ..
      rw [e] at y1 y2
      have hsz2 := hB _ y1.nd (fun e he => z5G hU (y1.rc e he))
      refine ⟨_, rfl, ⟨i + 1, X ++ Y, by rw [← e, List.length_append]; omega, by rw [e], y1, fun j hj g hg => ?_⟩, by simp only; omega⟩
      by_cases ej : j = i
      · subst ej
        have := y2 g hg
        rwa [show (E ++ (X ++ Y)).getD j [] = (E ++ X).getD j [] by rw [← e, List.getD, List.getD, List.getElem?_append_left hi1]]
      · have := hc j (by omega) g hg
        rw [show (E ++ (X ++ Y)).getD j [] = (E ++ X).getD j [] by rw [← e, List.getD, List.getD, List.getElem?_append_left (by omega)], ← e]
        exact List.mem_append.2 (.inl this)
    · right
      have hi2 : i = (E ++ X).length := by omega
      rw [if_neg (by omega), z1b (by omega)]
      refine ⟨_, rfl, X, by simp, hX, fun j hj => hc j (by omega)⟩
  · obtain ⟨h3, X, rfl, hX, hc⟩ := h
    refine ⟨X, hX, fun e he g hg => ?_, h3⟩
    obtain ⟨j, hj, rfl⟩ := List.getElem_of_mem he
    have := hc j hj g hg
    have e : (E ++ X).getD j [] = (E ++ X)[j] := by rw [List.getD, List.getElem?_eq_getElem hj, Option.getD_some]
    rwa [e] at this
theorem zrP (hne : P ≠ []) (hl : P.length <= 10000) : ∃ E : List (List Nat), z3F (P.map toI) = some (E.map toI, 0) /\ E.Nodup /\ ∀ e, e ∈ E ↔ RchG L P e := by
  have hpos := List.length_pos_iff.2 hne
  have hP0 := hP _ (List.getElem_mem hpos)
  have hat0 : atI (P.map toI) 0 = some (toI P[0]) := by
    have := z0Q (xs := P.map toI) (k := 0) (by simpa using hpos)
    simpa using this
  have h256 : ∀ k ∈ List.range L, k < 256 := fun k hk => by have := List.mem_range.1 hk; omega
  unfold z3F
  rw [if_neg (by rw [List.length_map]; omega), hat0, Option.bind_some, z0d, hP0.len, zlR hP h1 h2 (by omega), Option.bind_some, if_pos rfl, zoq h1 h2, Option.bind_some, zed (by simp; omega) h256, Option.bind_some]
  refine Exists.elim (z1E (b := z3K (P.map toI)) (fun z => ∃ (k : Nat) (E U : List (List Nat)), k <= P.length /\ z = ((k : Int), E.map toI, z8q E, U.map toI) /\ GInv L U E /\ U.length <= k /\ (∀ g ∈ U, g ∈ P) /\ (∀ e ∈ E, ∀ g ∈ U, z6L e g ∈ E) /\ ∀ j, j < k -> P.getD j [] ∈ E) (fun z => P.length + 1 - z.1.toNat)
    (fun r => ∃ E : List (List Nat), r = (E.map toI, 0) /\ E.Nodup /\ ∀ e, e ∈ E ↔ RchG L P e) ?_ LFm (0, [toI (List.range L)], z9u (z1J (toI (List.range L))) true ([] : List (ByteArray × Bool)), []) ⟨0, [List.range L], [], by omega, rfl, ⟨by simp, fun e he => by obtain rfl := List.mem_singleton.1 he; exact .one, by simp⟩, by simp, by simp, by simp, fun j hj => by omega⟩ (by simp only [LFm]; omega)) fun r h => ?_
  · rintro z ⟨k, E, U, hk, rfl, hE, hUl, hU, hcl, hin⟩
    have hrp : ∀ e ∈ E, RchG L P e := fun e he => z5G hU (hE.rc e he)
    have hsz := hB _ hE.nd hrp
    simp only [z3K]
    rw [List.length_map]
    by_cases hk1 : k < P.length
    · left
      have hg := zch hk1
      have hgp := hP _ hg
      have hat1 : atI (P.map toI) (k : Int) = some (toI (P.getD k [])) := by
        rw [z0Q (by simpa using hk1)]
        simp [List.getD, hk1]
      have hg256 := z9w hP h1 h2 hB (zfx hP hg)
      have hsg := zfp hg256 (Q := E) (fun q hq => z9w hP h1 h2 hB (hrp q hq))
      rw [if_pos (by omega), hat1, Option.bind_some, zed (by rw [hgp.len]; omega) hg256, Option.bind_some]
      by_cases hm : P.getD k [] ∈ E
      · rw [if_pos (hsg.2 hm), z1b (by omega)]
        refine ⟨_, rfl, ⟨k + 1, E, U, by omega, rfl, hE, by omega, hU, hcl, fun j hj => ?_⟩, by simp only; omega⟩
        by_cases e : j = k
        · rw [e]; exact hm
        · exact hin j (by omega)
      · rw [if_neg (fun e => hm (hsg.1 e)), z0q _ (by unfold z1s; rw [List.length_map]; omega)]
        have hUf : ∀ g ∈ U ++ [P.getD k []], g ∈ P := fun g h => by
          rcases List.mem_append.1 h with h | h
          · exact hU g h
          · rw [List.mem_singleton.1 h]; exact hg
        have hE2 : GInv L (U ++ [P.getD k []]) E := ⟨hE.nd, fun e he => z5G (fun g hg => List.mem_append.2 (.inl hg)) (hE.rc e he), hE.on⟩
        obtain ⟨X, x1, x2, x3⟩ := zsh hP h1 h2 hB (w := k) (by omega) hE2 hUf (by omega)
        rw [x3]
        refine ⟨_, rfl, ⟨k + 1, E ++ X, U ++ [P.getD k []], by omega, rfl, x1, by simp; omega, hUf, x2, fun j hj => ?_⟩, by simp only; omega⟩
        · by_cases e : j = k
          · rw [e]
            have := x2 _ x1.on (P.getD k []) (by simp)
            rwa [ziQ hgp] at this
          · exact List.mem_append.2 (.inl (hin j (by omega)))
    · right
      have hk2 : k = P.length := by omega
      rw [if_neg (by omega)]
      have hne2 : E.map toI ≠ [] := fun e => by
        have := hE.on
        rw [List.map_eq_nil_iff] at e
        rw [e] at this; simp at this
      unfold zj8
      rw [if_pos ⟨hne2, by rw [List.length_map]; omega⟩, Option.bind_some]
      have hp := z8c (E.map toI)
      have hback : ∀ e : List Nat, (toI e).map Int.toNat = e := fun e => by
        unfold toI; rw [List.map_map]
        have : (Int.toNat ∘ fun x : Nat => (x : Int)) = id := by funext x; simp
        rw [this, List.map_id]
      have hp2 : ((zah (E.map toI)).map fun x => x.map Int.toNat).Perm E := by
        have := hp.map fun x => x.map Int.toNat
        rw [List.map_map] at this
        have e : ((fun x : List Int => x.map Int.toNat) ∘ toI) = id := by funext x; exact hback x
        rwa [e, List.map_id] at this
      have hPU : ∀ g ∈ U, PermL L g := fun g hg => hP g (hU g hg)
      refine ⟨_, rfl, (zah (E.map toI)).map fun x => x.map Int.toNat, ?_, hp2.nodup_iff.2 hE.nd, fun e => ?_⟩
      · rw [List.map_map]
        congr 1
        refine (List.map_id' _).symm.trans (List.map_congr_left fun x hx => ?_)
        obtain ⟨e, he, rfl⟩ := List.mem_map.1 (hp.mem_iff.1 hx)
        show toI e = toI ((toI e).map Int.toNat)
        rw [hback]
      · rw [hp2.mem_iff]
        refine ⟨hrp e, fun h => ?_⟩
        induction h with
        | one => exact hE.on
        | step e g _ hg ih =>
          obtain ⟨j, hj, rfl⟩ := List.getElem_of_mem hg
          have hm := hin j (by omega)
          rw [List.getD, List.getElem?_eq_getElem hj, Option.getD_some] at hm
          exact zk5 hPU (fun x hx => z3X hP (hrp x hx)) hcl ih (hE.rc _ hm)
  · obtain ⟨h3, E, rfl, e1, e2⟩ := h
    exact ⟨E, h3, e1, e2⟩
end
end
section
open Go
set_option maxRecDepth 100000
theorem zqe {d : DFA} {m n : Nat} {S : List Nat} {k : Nat} (h : 0 < z7C d m n S k) : szN (S.getD k 0) ≠ 1 := fun e => by
  have hz : zpj S k = true := by unfold zpj; rw [decide_eq_true e]
  unfold z7C zqf at h
  cases hN : S.length with
  | zero => rw [hN] at h; simp [zqg] at h
  | succ N => rw [hN] at h; simp only [zqg] at h; rw [if_pos hz] at h; omega
def zkt (n : Nat) : List Nat -> Nat
  | [] => 0
  | x :: l => x + n * zkt n l
theorem zmG {n : Nat} : ∀ {l : List Nat}, (∀ x ∈ l, x < n) -> zkt n l < n ^ l.length
  | [], _ => by simp [zkt]
  | x :: l, h => by
    have h1 := h x (List.mem_cons_self ..)
    have h2 := zmG (l := l) (fun y hy => h y (List.mem_cons_of_mem _ hy))
    rw [zkt, List.length_cons, Nat.pow_succ]
    have : n * zkt n l + n <= n ^ l.length * n := by
      have := Nat.mul_le_mul_left n h2
      rw [Nat.mul_succ] at this
      rwa [Nat.mul_comm (n ^ l.length)]
    omega
theorem ziK {n : Nat} : ∀ {l r : List Nat}, (∀ x ∈ l, x < n) -> (∀ x ∈ r, x < n) -> l.length = r.length -> zkt n l = zkt n r -> l = r
  | [], [], _, _, _, _ => rfl
  | [], _ :: _, _, _, h, _ => by simp at h
  | _ :: _, [], _, _, h, _ => by simp at h
  | x :: l, y :: r, hl, hr, hlen, h => by
    have h1 := hl x (List.mem_cons_self ..)
    have h2 := hr y (List.mem_cons_self ..)
    rw [zkt, zkt] at h
    have e1 : x = y := by
      have := congrArg (· % n) h
      simpa [Nat.add_mul_mod_self_left, Nat.mod_eq_of_lt h1, Nat.mod_eq_of_lt h2] using this
    subst e1
    have e2 : zkt n l = zkt n r := Nat.eq_of_mul_eq_mul_left (show 0 < n by omega) (by omega)
    rw [ziK (fun z hz => hl z (List.mem_cons_of_mem _ hz)) (fun z hz => hr z (List.mem_cons_of_mem _ hz)) (by simpa using hlen) e2]
section
variable {d : DFA} {m n : Nat} {S : List Nat} (hd : DfaOk d m n) (hn : n <= 7) (hS : SetsP d m n S)
include hd hn hS
theorem zoj {k : Nat} (hk : k < S.length) : Lead d m n (S.getD k 0) (S.getD k 0) [] := by
  have _u := hd
  have _v := hn
  exact ⟨fun c hc => by simp at hc, hS.lt _ (z0r hk), hS.lt _ (z0r hk), rfl, rfl⟩
theorem zo2 {k : Nat} (hk : k < S.length) : z2R d [] (z1O S k) = List.range (z1O S k).length := by
  obtain ⟨h1, h2⟩ := z6B hd hn hS hk
  refine List.ext_getElem (by simp [z2R]) fun i i1 i2 => ?_
  have hi : i < (z1O S k).length := by simpa [z2R] using i1
  simp only [z2R, List.getElem_map, List.getElem_range, z4m]
  have hm : (z1O S k)[i] ∈ z1O S k := List.getElem_mem hi
  have e := z3C hm
  have e2 : (z1O S k).getD i 0 = (z1O S k)[i] := by rw [List.getD, List.getElem?_eq_getElem hi, Option.getD_some]
  exact z7e h1 (z6g hm) hi (by rw [e, e2])
theorem zo3 {k : Nat} (hk : k < S.length) {w v : List UInt8} (h1 : Lead d m n (S.getD k 0) (S.getD k 0) w) : z6L (z2R d w (z1O S k)) (z2R d v (z1O S k)) = z2R d (w ++ v) (z1O S k) := by
  have hr := zgC hd hn hS hk h1
  unfold z6L
  rw [show z2R d w (z1O S k) = (z1O S k).map fun t => (z1O S k).idxOf (z4m d t w) from rfl, List.map_map]
  refine List.map_congr_left fun t ht => ?_
  have hm := hr t ht
  show (z2R d v (z1O S k)).getD ((z1O S k).idxOf (z4m d t w)) 0 = (z1O S k).idxOf (z4m d t (w ++ v))
  rw [zlS (z6g hm), z3C hm, ← z5P]
def z8t (d : DFA) (m n : Nat) (S : List Nat) (c : Nat) : List (List Nat) := (zeA d m n S (z1O S (z1I d m n S c)) c S.length).2
theorem zg1 {c : Nat} {g : List Nat} (hg : g ∈ z8t d m n S c) : ∃ w, Lead d m n (S.getD (z1I d m n S c) 0) (S.getD (z1I d m n S c) 0) w /\ g = z2R d w (z1O S (z1I d m n S c)) := by
  have hI := zn9 hd hn hS (c := c) S.length (Nat.le_refl _)
  obtain ⟨j, hj, rfl⟩ := List.getElem_of_mem hg
  obtain ⟨l1, l2, l3⟩ := z9M hI (j := j) (by rw [hI.len]; exact hj)
  have hj' : j < (zeA d m n S (z1O S (z1I d m n S c)) c S.length).2.length := hj
  rw [List.getD, List.getElem?_eq_getElem hj', Option.getD_some] at l3
  exact ⟨_, l1, l3⟩
theorem zmc {k : Nat} (hk : k < S.length) {w : List UInt8} (h : Lead d m n (S.getD k 0) (S.getD k 0) w) : PermL (z1O S k).length (z2R d w (z1O S k)) := by
  obtain ⟨p1, p2, _⟩ := z8f hd hn hS hk h
  exact ⟨z9B _ _ _, p1, p2⟩
theorem zg0 {c : Nat} (hcl : c < (z6H d m n S).length) : ∀ g ∈ z8t d m n S c, PermL (z1O S (z1I d m n S c)).length g := fun g hg => by
  obtain ⟨w, h, rfl⟩ := zg1 hd hn hS hg
  exact zmc hd hn hS (z3x hd hn hS hcl).2 h
theorem zjv {c : Nat} (hcl : c < (z6H d m n S).length) {e : List Nat} (h : RchG (z1O S (z1I d m n S c)).length (z8t d m n S c) e) : ∃ w, Lead d m n (S.getD (z1I d m n S c) 0) (S.getD (z1I d m n S c) 0) w /\ e = z2R d w (z1O S (z1I d m n S c)) := by
  have hk := (z3x hd hn hS hcl).2
  induction h with
  | one => exact ⟨[], zoj hd hn hS hk, (zo2 hd hn hS hk).symm⟩
  | step e g _ hg ih =>
    obtain ⟨w, h1, rfl⟩ := ih
    obtain ⟨v, h2, rfl⟩ := zg1 hd hn hS hg
    exact ⟨w ++ v, z8j h1 h2, zo3 hd hn hS hk h1⟩
theorem zgQ {k : Nat} (hk : k < S.length) {w v : List UInt8} (hw : zgZ m w) (hv : zgZ m v) (h : zcR d n w = zcR d n v) : z2R d w (z1O S k) = z2R d v (z1O S k) := by
  obtain ⟨_, h2⟩ := z6B hd hn hS hk
  refine List.map_congr_left fun t ht => ?_
  have ha : ∀ i, i < n -> zcD d i w = zcD d i v := fun i hi => by
    have := congrArg (fun l => l.getD i 0) h
    simpa [zcR, List.getD, hi] using this
  have e : z4m d t w = z4m d t v := Nat.eq_of_testBit_eq fun p => by
    rw [Bool.eq_iff_iff, zbP hd hw (h2 t ht).2.2, zbP hd hv (h2 t ht).2.2]
    refine exists_congr fun i => and_congr_right fun hi => and_congr_right fun _ => ?_
    rw [ha i hi]
  rw [e]
theorem zlO {c : Nat} (hcl : c < (z6H d m n S).length) (hn4 : n <= 4) : ∀ l : List (List Nat), l.Nodup -> (∀ e ∈ l, RchG (z1O S (z1I d m n S c)).length (z8t d m n S c) e) -> l.length <= 2000 := fun l hnd hl => by
  have hk := (z3x hd hn hS hcl).2
  have hex : ∀ e ∈ l, ∃ w, zgZ m w /\ e = z2R d w (z1O S (z1I d m n S c)) := fun e he => by
    obtain ⟨w, h1, h2⟩ := zjv hd hn hS hcl (hl e he)
    exact ⟨w, h1.hw, h2⟩
  obtain ⟨wd, hwd⟩ : ∃ wd : List Nat -> List UInt8, ∀ e ∈ l, zgZ m (wd e) /\ e = z2R d (wd e) (z1O S (z1I d m n S c)) := by
    classical
    exact ⟨fun e => if h : ∃ w, zgZ m w /\ e = z2R d w (z1O S (z1I d m n S c)) then h.choose else [], fun e he => by
      simp only
      rw [dif_pos (hex e he)]; exact (hex e he).choose_spec⟩
  have hlt : ∀ e ∈ l, ∀ x ∈ zcR d n (wd e), x < n := fun e he x hx => by
    obtain ⟨q, hq, rfl⟩ := List.mem_map.1 hx
    exact zj4 hd (List.mem_range.1 hq) (hwd e he).1
  have hlen : ∀ e, (zcR d n (wd e)).length = n := fun e => by simp [zcR]
  have h1 : (l.map fun e => zkt n (zcR d n (wd e))).Nodup := z7v hnd fun x hx y hy e => by
    have := ziK (hlt x hx) (hlt y hy) (by rw [hlen x, hlen y]) e
    rw [(hwd x hx).2, (hwd y hy).2, zgQ hd hn hS hk (hwd x hx).1 (hwd y hy).1 this]
  have h2 := z1x h1 (N := n ^ n) fun x hx => by
    obtain ⟨e, he, rfl⟩ := List.mem_map.1 hx
    have := zmG (hlt e he)
    rwa [hlen] at this
  rw [List.length_map] at h2
  have h3 : n ^ n <= 4 ^ 4 := Nat.le_trans (Nat.pow_le_pow_left hn4 n) (Nat.pow_le_pow_right (by omega) hn4)
  omega
theorem zqo {c : Nat} (hcl : c < (z6H d m n S).length) (hz : szN (S.getD (z1I d m n S c) 0) ≠ 1) (hpos : ∀ x ∈ S, x ≠ 0) (h32 : S.length <= 32)
    (hfew : ∀ l : List (List Nat), l.Nodup -> (∀ e ∈ l, RchG (z1O S (z1I d m n S c)).length (z8t d m n S c) e) -> l.length <= 2000) :
    ∃ E : List (List Nat), z2I (za1 d m n S c) = some (E.map toI, 0) /\ E.Nodup /\ ∀ e, e ∈ E ↔ RchG (z1O S (z1I d m n S c)).length (z8t d m n S c) e := by
  have hP := zg0 hd hn hS hcl
  obtain ⟨ho, _⟩ := zfY hd hn hS hcl hz hpos h32
  have t1 : 1 <= (z1O S (z1I d m n S c)).length := by have := ho.t1; rwa [show (za1 d m n S c).tiles.length = (z1O S (z1I d m n S c)).length from z0d _] at this
  have t2 : (z1O S (z1I d m n S c)).length <= 32 := by have := ho.t2; rwa [show (za1 d m n S c).tiles.length = (z1O S (z1I d m n S c)).length from z0d _] at this
  have hpl : (z8t d m n S c).length <= 1000 := by
    have h1 := ho.wp
    have h2 := ho.wl
    have : (za1 d m n S c).perms.length = (z8t d m n S c).length := List.length_map _
    omega
  have et : (za1 d m n S c).tiles.length = (z1O S (z1I d m n S c)).length := z0d _
  have ep : (za1 d m n S c).perms = (z8t d m n S c).map toI := rfl
  generalize z8t d m n S c = P at *
  generalize (z1O S (z1I d m n S c)).length = L at *
  have hpm : ((P.map toI).all (zbV L)) = true := List.all_eq_true.2 fun x hx => by
    obtain ⟨g, hg, rfl⟩ := List.mem_map.1 hx
    have := hP g hg
    refine zdW.2 ⟨by rw [z0d, this.len], fun y hy => ?_, ?_⟩
    · obtain ⟨z, hz, rfl⟩ := List.mem_map.1 hy
      have := this.lt z hz
      omega
    · exact List.Pairwise.map _ (fun a b (hab : a ≠ b) => by intro e; exact hab (by omega)) this.nd
  unfold z2I
  rw [et, ep, if_neg (by omega), if_neg (by omega), zo1 (by omega) (by rw [List.length_map]; omega), Option.bind_some, hpm, if_pos rfl, z0q _ (by unfold z1g; omega), Int.toNat_natCast]
  have e0 : toI (List.range L) = (List.range L).map fun k : Nat => (k : Int) := rfl
  have hloop : ∀ {R : Option (List (List Int) × Int)}, (if (P.map toI).length = 0 then some ([toI (List.range L)], 0) else (z3F (P.map toI)).bind fun v => some (v.1, v.2)) = R -> z0m (z2B (za1 d m n S c)) LFm (0, List.replicate L (0 : Int)) = R := fun {R} hR => by
    refine z0L (s := ((0 : Int), List.replicate L (0 : Int))) L (fun k => ((k : Int), zdZ L (fun k => (k : Int)) (fun _ => 0) k)) (by rw [zgU]; congr 1; exact (List.ext_getElem (by simp) fun i h1 h2 => by simp)) (by simp only [LFm]; omega) (fun k hk => ?_) ?_
    · simp only [z2B]
      rw [et, if_pos (by omega), zc0 hk, Option.bind_some, z1b (by omega), Int.toNat_natCast, z8W (f := fun k => (k : Int)) hk]
    · simp only [z2B]
      rw [et, ep, if_neg (by omega), zgT, ← e0, ← hR]
      by_cases h : (P.map toI).length = 0
      · rw [if_pos h, if_pos (by omega)]
      · rw [if_neg h, if_neg (by omega)]
  by_cases h : P = []
  · subst h
    refine ⟨[List.range L], hloop (by rw [if_pos (by simp)]; rfl), by simp, fun e => ?_⟩
    rw [List.mem_singleton]
    constructor
    · rintro rfl; exact .one
    · intro he
      induction he with
      | one => rfl
      | step e g _ hg _ => simp at hg
  · obtain ⟨E, e1, e2, e3⟩ := zrP hP t1 t2 hfew h (by omega)
    refine ⟨E, hloop ?_, e2, e3⟩
    rw [if_neg (by rw [List.length_map]; have := List.length_pos_iff.2 h; omega), e1, Option.bind_some]
end
theorem zmJ : ∀ a, a < 2 -> ∀ b, b < 2 -> ∀ q, q < 7 -> ((defT.getD (((defT.getD q []).getD a 0).toNat) []).getD b 0) = ((defT.getD (((defT.getD 0 []).getD a 0).toNat) []).getD b 0) := by decide
theorem zr4 : ∀ p, p < 7 -> szN (2 ^ p) = 1 := by decide
section
variable {d : DFA} (hd : DfaOk d 2 7) (hT : d.next = defT)
include hd hT
omit hd in
theorem zmK {a b : UInt8} {w : List UInt8} (h : zgZ 2 (a :: b :: w)) {q : Nat} (hq : q < 7) : zcD d q (a :: b :: w) = zcD d 0 (a :: b :: w) := by
  have ha := (z8Y h).2
  have hb := (z8Y (z8Y h).1).2
  have := zmJ _ ha _ hb q hq
  have e : nxN d (nxN d q (a.toNat - 97)) (b.toNat - 97) = nxN d (nxN d 0 (a.toNat - 97)) (b.toNat - 97) := by
    unfold nxN; rw [hT, this]
  rw [zcD, zcD, zcD, zcD, e]
theorem zqq {K : Nat} {w : List UInt8} (h : Lead d 2 7 K K w) (hw : w ≠ []) (hK : K ≠ 0) : szN K = 1 := by
  have h2 := z8j h h
  have hone : ∀ p q, K.testBit p = true -> K.testBit q = true -> p = q := fun p q hp hq => by
    have hr : ∀ p, K.testBit p = true -> ∃ i, i < 7 /\ zcD d i (w ++ w) = p := fun p hp => by
      have : (z4m d K (w ++ w)).testBit p = true := by rw [h2.run]; exact hp
      obtain ⟨i, i1, _, i3⟩ := (zbP hd h2.hw h.hK).1 this
      exact ⟨i, i1, i3⟩
    obtain ⟨i, i1, i2⟩ := hr p hp
    obtain ⟨j, j1, j2⟩ := hr q hq
    have hl := h2.hw
    revert i2 j2 hl
    cases w with
    | nil => exact absurd rfl hw
    | cons a w =>
      obtain ⟨b, v, e⟩ : ∃ b v, (a :: w) ++ (a :: w) = a :: b :: v := by
        cases w with
        | nil => exact ⟨a, [], rfl⟩
        | cons b w => exact ⟨b, w ++ (a :: b :: w), rfl⟩
      rw [e]
      intro i2 j2 hl
      rw [← i2, ← j2, zmK hT hl i1, zmK hT hl j1]
  obtain ⟨p, hp⟩ : ∃ p, K.testBit p = true := by
    refine Classical.byContradiction fun hh => hK (Nat.eq_of_testBit_eq fun q => ?_)
    rw [Nat.zero_testBit]
    cases hb : K.testBit q with
    | false => rfl
    | true => exact absurd ⟨q, hb⟩ hh
  have hp7 := zpk h.hK hp
  have e : K = 2 ^ p := Nat.eq_of_testBit_eq fun q => by
    rw [Nat.testBit_two_pow]
    by_cases hq : p = q
    · subst hq; rw [hp]; simp
    · cases hb : K.testBit q with
      | false => simp [hq]
      | true => exact absurd (hone p q hp hb) hq
  rw [e]; exact zr4 p hp7
end
theorem zoy {d : DFA} {m n : Nat} {S : List Nat} (hd : DfaOk d m n) (hn : n <= 7) (hS : SetsP d m n S) (h7 : n = 7 /\ m = 2 /\ d.next = defT) {c : Nat} (hcl : c < (z6H d m n S).length) (hz : szN (S.getD (z1I d m n S c) 0) ≠ 1) (hpos : ∀ x ∈ S, x ≠ 0) : z8t d m n S c = [] := by
  obtain ⟨rfl, rfl, hT⟩ := h7
  have hk := (z3x hd hn hS hcl).2
  have hstep : ∀ i a, i < S.length -> a < 2 -> clN d 2 7 S i = c -> zcH d 2 7 S (z1O S (z1I d 2 7 S c)) i ([], []) a = ([], []) := fun i a hi ha hc => by
    unfold zcH
    split
    · rename_i hj
      obtain ⟨l1, l2⟩ := zh6 hd hn hS hi ha hj
      have hf : z1I d 2 7 S c = z6r d 2 7 S i := by unfold z1I; rw [← hc]; rfl
      rw [← hf] at l1
      refine absurd (zqq hd hT l1 (fun e => ?_) (hpos _ (z0r hk))) hz
      have := congrArg List.length e
      unfold hwN at this
      rw [z9X, z9X, z6D] at this
      simp at this
    · rfl
  have hrow : ∀ i, i < S.length -> clN d 2 7 S i = c -> ∀ a, a <= 2 -> zgo d 2 7 S (z1O S (z1I d 2 7 S c)) i ([], []) a = ([], []) := fun i hi hc a => by
    induction a with
    | zero => intro _; rfl
    | succ a ih => intro ha; rw [zdQ, ih (by omega), hstep i a hi (by omega) hc]
  have hall : ∀ k, k <= S.length -> zeA d 2 7 S (z1O S (z1I d 2 7 S c)) c k = ([], []) := fun k => by
    induction k with
    | zero => intro _; rfl
    | succ k ih =>
      intro hk
      rw [zj3, ih (by omega)]
      split
      · rename_i hc; exact hrow k (by omega) hc 2 (Nat.le_refl _)
      · rfl
  unfold z8t
  rw [hall _ (Nat.le_refl _)]
theorem zqk {d : DFA} {m n : Nat} {S : List Nat} (hd : DfaOk d m n) (hn : n <= 7) (hS : SetsP d m n S) (hs : n <= 4 ∨ (n = 7 /\ m = 2 /\ d.next = defT)) {c : Nat} (hcl : c < (z6H d m n S).length) (hz : szN (S.getD (z1I d m n S c) 0) ≠ 1) (hpos : ∀ x ∈ S, x ≠ 0) : ∀ l : List (List Nat), l.Nodup -> (∀ e ∈ l, RchG (z1O S (z1I d m n S c)).length (z8t d m n S c) e) -> l.length <= 2000 := by
  rcases hs with h4 | h7
  · exact zlO hd hn hS hcl h4
  · intro l hnd hl
    have hg := zoy hd hn hS h7 hcl hz hpos
    have hone : ∀ e ∈ l, e ∈ [List.range (z1O S (z1I d m n S c)).length] := fun e he => by
      have := hl e he
      rw [hg] at this
      rw [List.mem_singleton]
      induction this with
      | one => rfl
      | step e g _ hg _ => simp at hg
    have := zap hnd hone
    simp at this
    omega
end
section
open Go
set_option maxRecDepth 100000
theorem zi2 {a b : List Int} (ha : a.length <= 100000) : z5F a b = some (decide (a = b)) := by
  unfold z5F
  by_cases hl : (a.length : Int) = (b.length : Int)
  · rw [if_pos hl]
    have hl' : a.length = b.length := by omega
    rw [z5T (s := (0 : Int)) a.length (fun k => (k : Int)) (fun k => !decide (a.getD k 0 = b.getD k 0)) (fun _ => some false) (x := some true) rfl (by simp only [LFm]; omega) ?_ ?_]
    · rw [z9S]
      simp only [Bool.not_not]
      have : ((List.range a.length).all fun k => decide (a.getD k 0 = b.getD k 0)) = decide (a = b) := by
        rw [Bool.eq_iff_iff, decide_eq_true_eq, List.all_eq_true]
        constructor
        · intro h
          refine List.ext_getElem hl' fun i h1 h2 => ?_
          have := h i (List.mem_range.2 h1)
          rw [decide_eq_true_eq, List.getD, List.getD, List.getElem?_eq_getElem h1, List.getElem?_eq_getElem h2, Option.getD_some, Option.getD_some] at this
          exact this
        · rintro rfl k _; simp
      rw [this]
      cases decide (a = b) <;> rfl
    · intro k hk
      simp only [z5t]
      have g1 : a[k] = a.getD k 0 := by rw [List.getD, List.getElem?_eq_getElem hk, Option.getD_some]
      have g2 : b[k] = b.getD k 0 := by rw [List.getD, List.getElem?_eq_getElem (show k < b.length by omega), Option.getD_some]
      rw [if_pos (by omega), z0Q hk, Option.bind_some, z0Q (show k < b.length by omega), Option.bind_some, g1, g2, z1b (by omega)]
      by_cases h : a.getD k 0 = b.getD k 0
      · rw [if_pos h, decide_eq_true h, if_neg (by simp)]
      · rw [if_neg h, decide_eq_false h, if_pos (by simp)]
    · simp only [z5t]
      rw [if_neg (by omega)]
  · rw [if_neg hl]
    have : ¬ a = b := fun e => hl (by rw [e])
    rw [decide_eq_false this]
theorem zpu : ∀ {p q : List Nat}, toI p = toI q -> p = q := fun {p q} h => by
  have := congrArg (fun l => l.map Int.toNat) h
  simp only [toI, List.map_map] at this
  have e : (Int.toNat ∘ fun x : Nat => (x : Int)) = id := by funext x; simp
  rwa [e, List.map_id, List.map_id] at this
theorem zm5 {p : List Nat} {E : List (List Nat)} : toI p ∈ E.map toI ↔ p ∈ E := by
  rw [List.mem_map]
  constructor
  · rintro ⟨q, hq, e⟩; rw [← zpu e]; exact hq
  · exact fun h => ⟨p, h, rfl⟩
structure EltsOk (h : Hol) (E : List (List Nat)) (L : Nat) : Prop where
  el : z2I h = some (E.map toI, 0)
  nd : E.Nodup
  len : E.length <= 2000
  ne : 0 < E.length
  pm : ∀ e ∈ E, PermL L e
  L32 : L <= 32
  mul : ∀ e ∈ E, ∀ f ∈ E, z6L e f ∈ E
  pl : h.perms.length <= 1000
  gn : ∀ y ∈ h.perms, y ∈ E.map toI
section
variable {d : DFA} {m n : Nat} {S : List Nat} (hd : DfaOk d m n) (hn : n <= 7) (hS : SetsP d m n S)
include hd hn hS
theorem zov {c : Nat} (hcl : c < (z6H d m n S).length) (hz : szN (S.getD (z1I d m n S c) 0) ≠ 1) (hpos : ∀ x ∈ S, x ≠ 0) (h32 : S.length <= 32) (hs : n <= 4 ∨ (n = 7 /\ m = 2 /\ d.next = defT)) :
    ∃ E, EltsOk (za1 d m n S c) E (z1O S (z1I d m n S c)).length /\ ∀ e, e ∈ E ↔ RchG (z1O S (z1I d m n S c)).length (z8t d m n S c) e := by
  have hfew := zqk hd hn hS hs hcl hz hpos
  have hP := zg0 hd hn hS hcl
  obtain ⟨ho, _⟩ := zfY hd hn hS hcl hz hpos h32
  obtain ⟨E, e1, e2, e3⟩ := zqo hd hn hS hcl hz hpos h32 hfew
  refine ⟨E, ⟨e1, e2, hfew E e2 fun e he => (e3 e).1 he, List.length_pos_iff.2 fun h => ?_, fun e he => z3X hP ((e3 e).1 he), ?_, fun e he f hf => (e3 _).2 (zlN hP ((e3 e).1 he) ((e3 f).1 hf)), ?_, fun y hy => ?_⟩, e3⟩
  · have := (e3 _).2 (.one (L := (z1O S (z1I d m n S c)).length) (P := z8t d m n S c))
    rw [h] at this; simp at this
  · have := ho.t2; rwa [show (za1 d m n S c).tiles.length = (z1O S (z1I d m n S c)).length from z0d _] at this
  · have h1 := ho.wp
    have h2 := ho.wl
    omega
  · obtain ⟨g, hg, rfl⟩ := List.mem_map.1 (show y ∈ (z8t d m n S c).map toI from hy)
    exact zm5.2 ((e3 g).2 (zfx hP hg))
end
theorem zhT {x : List Int} {A : List (List Int)} {k : Nat} (h : k < A.length) : decide (x ∈ A.take (k + 1)) = (decide (x ∈ A.take k) || decide (x = A[k])) := by
  rw [List.take_succ_eq_append_getElem h, Bool.eq_iff_iff, decide_eq_true_eq, Bool.or_eq_true, decide_eq_true_eq, decide_eq_true_eq, List.mem_append, List.mem_singleton]
end
section
def Mo (C0 C1 : z0j) : Prop := ∀ f a o, C0 f a = some o -> C1 f a = some o
section
variable {P : Program} {C0 C1 : z0j}
theorem zbj (hMo : Mo C0 C1) {wio : FuncId -> Nat -> Bool} {fr fr' : Fr} {f : FuncId} {args : List E} {dst : Option Nat} (h : z9Z C0 wio fr f args dst = some fr') : Ev fun m => z9Z C1 wio fr f args dst = some fr' := by
  unfold z9Z at h ⊢
  split at h
  · cases h
  · rename_i ts deps io ha
    split at h
    · cases h
    · rename_i r outs hc
      refine ⟨0, fun m _ => ?_⟩
      show (match C1 f ts with | none => none | some (r, outs) => _) = _
      rw [hMo _ _ _ hc]
      exact h
theorem zlX (hMo : Mo C0 C1) {wio : FuncId -> Nat -> Bool} {fr fr' : Fr} {o : Oper} (h : opF P C0 wio fr o = some fr') : Ev fun m => opF P C1 wio fr o = some fr' := by
  unfold opF at h ⊢
  split at h
  · exact .pure fun _ => h
  · split at h
    · exact zbj hMo h
    · cases h
  · exact .pure fun _ => h
  · exact .pure fun _ => h
theorem ziR (hMo : Mo C0 C1) {wio : FuncId -> Nat -> Bool} {fr fr' : Fr} {o : Oper} (h : z8v P C0 wio fr o = some fr') : Ev fun m => z8v P C1 wio fr o = some fr' := by
  unfold z8v at h ⊢
  split at h
  · split at h
    · split at h
      · exact zbj hMo h
      · cases h
    · cases h
  · exact .pure fun _ => h
theorem zoQ (hMo : Mo C0 C1) {wio : FuncId -> Nat -> Bool} {M : Nat -> Bool} {fr fr' : Fr} {o : Oper} (h : wrF P C0 wio M fr o = some fr') : Ev fun m => wrF P C1 wio M fr o = some fr' := by
  unfold wrF at h ⊢
  split at h
  · split at h
    · cases h
    · split at h
      · exact zbj hMo h
      · split at h
        · rename_i hM
          simp only [hM, if_true]
          exact zbj hMo h
        · cases h
      · cases h
  · exact .pure fun _ => h
  · exact .pure fun _ => h
  · exact .pure fun _ => h
  · cases h
theorem zgK (hMo : Mo C0 C1) {wio : FuncId -> Nat -> Bool} {ops : Array Oper} : ∀ {l : List Oper} {fr fr' : Fr}, zgL P C0 wio ops l fr = some fr' -> Ev fun m => zgL P C1 wio ops l fr = some fr'
  | [], fr, fr', h => .pure fun _ => h
  | o :: rest, fr, fr', h => by
    simp only [zgL] at h ⊢
    split at h
    · cases h
    · split at h
      · rename_i fr1 h1
        exact (zlX hMo h1).both (zgK hMo h) fun m a1 a2 => by rw [a1]; exact a2
      · cases h
    · split at h
      · rename_i fr1 h1
        exact (zgK hMo h)
      · cases h
theorem zbf (hMo : Mo C0 C1) {wio : FuncId -> Nat -> Bool} {same : Bool} {M : Nat -> Bool} {ops : Array Oper} : ∀ {l : List (Nat × Oper × Nat)} {fr fr' : Fr}, z7K P C0 wio same M ops l fr = some fr' -> Ev fun m => z7K P C1 wio same M ops l fr = some fr'
  | [], fr, fr', h => .pure fun _ => h
  | (k, o, mk) :: rest, fr, fr', h => by
    simp only [z7K] at h ⊢
    split at h
    · cases h
    · split at h
      · exact zbf hMo h
      · cases h
    · split at h
      · rename_i hm
        simp only [if_pos hm]
        split at h
        · split at h
          · exact zbf hMo h
          · cases h
        · cases h
      · rename_i hm
        simp only [if_neg hm]
        split at h
        · rename_i fr1 h1
          have h2 : Ev fun m => (if mk = 2 then opF P C1 wio fr o else if same = true then z8v P C1 wio fr o else wrF P C1 wio M fr o) = some fr1 := by
            by_cases e : mk = 2
            · simp only [if_pos e] at h1 ⊢; exact zlX hMo h1
            · simp only [if_neg e] at h1 ⊢
              by_cases e2 : same = true
              · simp only [if_pos e2] at h1 ⊢; exact ziR hMo h1
              · simp only [if_neg e2] at h1 ⊢; exact zoQ hMo h1
          exact h2.both (zbf hMo h) fun m a1 a2 => by rw [a1]; exact a2
        · cases h
theorem z8n (hMo : Mo C0 C1) {wio : FuncId -> Nat -> Bool} {same : Bool} {M : Nat -> Bool} {ops : Array Oper} : ∀ {l : SchT} {fr fr' : Fr}, z4H P C0 wio same M ops l fr = some fr' -> Ev fun m => z4H P C1 wio same M ops l fr = some fr'
  | .nil, fr, fr', h => .pure fun _ => h
  | .alt x y, fr, fr', h => by
    simp only [z4H] at h ⊢
    split at h
    · rename_i f1 f2 h1 h2
      obtain ⟨rfl, hs⟩ := zao h
      exact (z8n hMo h1).both (z8n hMo h2) fun m a1 a2 => by rw [a1, a2]; exact zb7 hs
    · cases h
  | .op k mk rest, fr, fr', h => by
    simp only [z4H] at h ⊢
    split at h
    · cases h
    rename_i o ho
    try simp only [ho]
    split at h
    · cases h
    · split at h
      · exact z8n hMo h
      · cases h
    · split at h
      · rename_i hm
        simp only [if_pos hm]
        split at h
        · split at h
          · exact z8n hMo h
          · cases h
        · cases h
      · rename_i hm
        simp only [if_neg hm]
        split at h
        · rename_i fr1 h1
          have h2 : Ev fun m => (if mk = 2 then opF P C1 wio fr o else if same = true then z8v P C1 wio fr o else wrF P C1 wio M fr o) = some fr1 := by
            by_cases e : mk = 2
            · simp only [if_pos e] at h1 ⊢; exact zlX hMo h1
            · simp only [if_neg e] at h1 ⊢
              by_cases e2 : same = true
              · simp only [if_pos e2] at h1 ⊢; exact ziR hMo h1
              · simp only [if_neg e2] at h1 ⊢; exact zoQ hMo h1
          exact h2.both (z8n hMo h) fun m a1 a2 => by rw [a1]; exact a2
        · cases h
theorem zka (hMo : Mo C0 C1) {c : Cfg} {id : Nat} {ops : Array Oper} {fr fr' : Fr} (h : z6t P C0 c id ops fr = some fr') : Ev fun m => z6t P C1 c id ops fr = some fr' := by
  unfold z6t at h ⊢
  split at h
  · exact z8n hMo h
  · split at h
    · exact zbf hMo h
    · cases h
theorem zin (hMo : Mo C0 C1) {B : z0j -> Fr -> Option (X × Fr)} {cn : Fr -> Fr} (hB : ∀ fr o, B C0 fr = some o -> Ev fun m => B C1 fr = some o) : ∀ {n : Nat} {fr : Fr} {o : X × Fr}, z9L (B C0) cn n fr = some o -> Ev fun m => z9L (B C1) cn n fr = some o
  | 0, fr, o, h => by cases h
  | n + 1, fr, o, h => by
    simp only [z9L] at h ⊢
    split at h
    · rename_i fr1 h1
      exact (hB _ _ h1).both (zin hMo hB h) fun m a1 a2 => by rw [a1]; exact a2
    · rename_i x fr1 hne h1
      refine (hB _ _ h1).imp fun m a1 => ?_
      rw [a1]
      cases x with
      | n => exact absurd rfl hne
      | x i => exact h
      | r => exact h
    · cases h
theorem ziN (hMo : Mo C0 C1) {c : Cfg} {LF : Nat} : ∀ (b : Code) {fr : Fr} {o : X × Fr}, z2p P C0 c LF b fr = some o -> Ev fun m => z2p P C1 c LF b fr = some o := by
  intro b
  induction b with
  | skip => intro fr o h; exact .pure fun _ => h
  | label l => intro fr o h; exact .pure fun _ => h
  | exit id => intro fr o h; exact .pure fun _ => h
  | ret => intro fr o h; exact .pure fun _ => h
  | goto l => intro fr o h; cases h
  | scope c ih => intro fr o h; simp only [z2p] at h ⊢; exact ih h
  | refuse s => intro fr o h; cases h
  | rangeFunc => intro fr o h; cases h
  | region id ops draw =>
    intro fr o h
    simp only [z2p] at h ⊢
    split at h
    · rename_i hd
      simp only [hd, if_true]
      split at h
      · rename_i fr1 h1
        exact (zka hMo h1).imp fun m a1 => by rw [a1]; exact h
      · cases h
    · rename_i hd
      simp only [hd, Bool.false_eq_true, if_false]
      split at h
      · rename_i fr1 h1
        exact (zgK hMo h1).imp fun m a1 => by rw [a1]; exact h
      · cases h
  | seq a b ih1 ih2 =>
    intro fr o h
    simp only [z2p] at h ⊢
    split at h
    · rename_i fr1 h1
      exact (ih1 h1).both (ih2 h) fun m a1 a2 => by rw [a1]; exact a2
    · rename_i hne
      refine (ih1 h).imp fun m a1 => ?_
      rw [a1]
      obtain ⟨x, fr1⟩ := o
      cases x with
      | n => exact absurd h (hne _)
      | x i => rfl
      | r => rfl
  | cond c x y ih1 ih2 =>
    intro fr o h
    simp only [z2p] at h ⊢
    split at h
    · exact ih1 h
    · exact ih2 h
    · cases h
  | block id c ih =>
    intro fr o h
    simp only [z2p] at h ⊢
    split at h
    · rename_i i fr1 h1
      exact (ih h1).imp fun m a1 => by rw [a1]; exact h
    · rename_i hne
      refine (ih h).imp fun m a1 => ?_
      rw [a1]
      obtain ⟨x, fr1⟩ := o
      cases x with
      | n => rfl
      | x i => exact absurd h (hne _ _)
      | r => rfl
  | loop b ih =>
    intro fr o h
    simp only [z2p] at h ⊢
    exact zin hMo (B := fun C fr => z2p P C c LF b fr) (fun fr o h => ih h) h
theorem zlI (hMo : Mo C0 C1) {c : Cfg} {LF : Nat} {fn : Func} {args : List T} {o : T × List T} (h : zez P C0 c LF fn args = some o) : Ev fun m => zez P C1 c LF fn args = some o := by
  unfold zez at h ⊢
  split at h
  · rename_i hc
    simp only [if_pos hc]
    split at h
    · cases h
    · rename_i b hb
      split at h
      · rename_i fr h1
        exact (ziN hMo _ h1).imp fun m a1 => by rw [a1]; exact h
      · rename_i fr h1
        exact (ziN hMo _ h1).imp fun m a1 => by rw [a1]; exact h
      · cases h
  · cases h
end
theorem zij {P : Program} {X : z0j} {cf : FuncId -> Option Cfg} : ∀ n, Mo (z2S P X cf n) (z2S P X cf (n + 1))
  | 0 => fun f a o h => by
    simp only [z2S] at h ⊢
    split at h
    · cases h
    · rename_i hc
      first
        | exact h
        | (rw [hc]; exact h)
  | n + 1 => fun f a o h => by
    simp only [z2S] at h
    split at h
    · rename_i c hc
      split at h
      · rename_i fn hfn
        obtain ⟨k, hk⟩ := zlI (zij n) h
        exact zfO hc hfn (hk k (Nat.le_refl _))
      · cases h
    · rename_i hc
      simp only [z2S, hc]
      exact h
theorem z9H {P : Program} {X : z0j} {cf : FuncId -> Option Cfg} (n : Nat) {f : FuncId} {a : List T} {o : T × List T} (h : z2S P X cf n f a = some o) : Lim P X cf f a = some o := by
  refine zm9 (d := n) fun m hm => ?_
  obtain ⟨k, rfl⟩ := Nat.exists_eq_add_of_le hm
  clear hm
  induction k with
  | zero => exact h
  | succ k ih => exact zij (n + k) f a o ih
def tab : List (FuncId × List T × T × List T) -> z0j
  | [] => fun _ _ => none
  | (g, b, r, os) :: l => fun f a => if (Nat.beq g f && ziJ b a) = true then some (r, os) else tab l f a
theorem zoT {C : z0j} : ∀ {l : List (FuncId × List T × T × List T)}, (∀ x ∈ l, C x.1 x.2.1 = some x.2.2) -> Mo (tab l) C
  | [], _ => fun f a o h => by cases h
  | (g, b, r, os) :: l, hl => fun f a o h => by
    simp only [tab] at h
    split at h
    · rename_i hc
      simp only [Bool.and_eq_true] at hc
      cases h
      have := hl _ (List.mem_cons_self ..)
      rw [← Nat.eq_of_beq_eq_true hc.1, ← z6s hc.2]
      exact this
    · exact zoT (fun x hx => hl x (List.mem_cons_of_mem _ hx)) f a o h
noncomputable def zfQ (P : Program) (X : z0j) (cf : FuncId -> Option Cfg) (S : z0j) : Nat -> z0j
  | 0 => S
  | n + 1 => fun f a => match S f a with
    | some o => some o
    | none => match cf f with
      | some c => (match P.funcs[f]? with | some fn => zez P (zfQ P X cf S n) c LFm fn a | none => none)
      | none => X f a
theorem zfP {P : Program} {X : z0j} {cf : FuncId -> Option Cfg} {S : z0j} (hS : Mo S (Lim P X cf)) : ∀ n, Mo (zfQ P X cf S n) (Lim P X cf)
  | 0 => hS
  | n + 1 => fun f a o h => by
    simp only [zfQ] at h
    split at h
    · rename_i o' ho
      cases h
      exact hS f a o ho
    · split at h
      · rename_i c hc
        split at h
        · rename_i fn hfn
          obtain ⟨k, hk⟩ := zlI (zfP hS n) h
          exact zm8 hc hfn (hk k (Nat.le_refl _))
        · cases h
      · rename_i hc
        exact zc7 hc h
theorem zq3 {P : Program} {X : z0j} {cf : FuncId -> Option Cfg} (l : List (FuncId × List T × T × List T)) (n : Nat) {f : FuncId} {a : List T} {o : T × List T} (h : zfQ P X cf (tab l) n f a = some o) (hl : ∀ x ∈ l, Lim P X cf x.1 x.2.1 = some x.2.2) : Lim P X cf f a = some o :=
  zfP (zoT hl) n f a o h
end
end Go.Proofs.YtodliknibbafeaaGreat

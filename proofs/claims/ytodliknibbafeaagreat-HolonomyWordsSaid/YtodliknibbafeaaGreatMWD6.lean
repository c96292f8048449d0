/- Proved here: a part of the proof of the law at hand, in one text: no condition. -/
import Derived.Test.YtodliknibbafeaaGreatMWD5
set_option linter.unusedVariables false
set_option linter.unusedSimpArgs false
namespace Go.Proofs.YtodliknibbafeaaGreat
section
open Go
set_option maxRecDepth 100000
theorem zcN {l : List (List Nat)} {i : Nat} (h : i < l.length) : l.getD i [] ∈ l := by
  rw [List.getD, List.getElem?_eq_getElem h, Option.getD_some]; exact List.getElem_mem h
def z6w (f g : List Nat) : List Nat := f.map fun y => g.getD y 0
structure PermL (L : Nat) (p : List Nat) : Prop where
  len : p.length = L
  nd : p.Nodup
  lt : ∀ x ∈ p, x < L
theorem zk7 (L : Nat) : PermL L (List.range L) := ⟨by simp, List.nodup_range, fun x hx => List.mem_range.1 hx⟩
theorem zf0 {f g : List Nat} {i : Nat} (h : i < f.length) : (z6w f g).getD i 0 = g.getD (f.getD i 0) 0 := by
  simp [z6w, List.getD, h]
theorem zbG (f g : List Nat) : (z6w f g).length = f.length := by simp [z6w]
theorem zni {L : Nat} {f g : List Nat} (hf : PermL L f) (hg : PermL L g) : PermL L (z6w f g) := by
  refine ⟨by rw [zbG, hf.len], z6Y hf.nd fun x hx y hy e => ?_, fun x hx => ?_⟩
  · exact z4l hg.nd (by have := hf.lt x hx; have := hg.len; omega) (by have := hf.lt y hy; have := hg.len; omega) e
  · obtain ⟨y, hy, rfl⟩ := List.mem_map.1 hx
    exact hg.lt _ (z0h (by have := hf.lt y hy; have := hg.len; omega))
theorem zju {L : Nat} {g : List Nat} (hg : PermL L g) : z6w (List.range L) g = g := by
  refine List.ext_getElem (by rw [zbG, List.length_range, hg.len]) fun i h1 h2 => ?_
  simp [z6w, List.getD, h2]
theorem zdO {L : Nat} {f g h : List Nat} (hf : PermL L f) (hg : PermL L g) : z6w (z6w f g) h = z6w f (z6w g h) := by
  unfold z6w
  rw [List.map_map]
  refine List.map_congr_left fun y hy => ?_
  have : y < g.length := by have := hf.lt y hy; have := hg.len; omega
  simp [List.getD, this]
inductive RchG (L : Nat) (P : List (List Nat)) : List Nat -> Prop
  | one : RchG L P (List.range L)
  | step (e g) (h : RchG L P e) (hg : g ∈ P) : RchG L P (z6w e g)
theorem z3J {L : Nat} {P : List (List Nat)} (hP : ∀ g ∈ P, PermL L g) {e : List Nat} (h : RchG L P e) : PermL L e := by
  induction h with
  | one => exact zk7 L
  | step e g _ hg ih => exact zni ih (hP g hg)
theorem zcl {L : Nat} {P : List (List Nat)} (hP : ∀ g ∈ P, PermL L g) {e f : List Nat} (he : RchG L P e) (hf : RchG L P f) : RchG L P (z6w e f) := by
  induction hf with
  | one =>
    have h := z3J hP he
    have : z6w e (List.range L) = e := by
      refine List.ext_getElem (zbG _ _) fun i h1 h2 => ?_
      have := h.lt e[i] (List.getElem_mem h2)
      simp [z6w, List.getD, this]
    rw [this]; exact he
  | step e' g hf' hg ih =>
    rw [← zdO (z3J hP he) (z3J hP hf')]
    exact .step _ _ ih hg
theorem z9U {L : Nat} {P : List (List Nat)} (hP : ∀ g ∈ P, PermL L g) {g : List Nat} (hg : g ∈ P) : RchG L P g := by
  have := RchG.step _ g (.one (L := L) (P := P)) hg
  rwa [zju (hP g hg)] at this
theorem z5Y {L : Nat} {P Q : List (List Nat)} (h : ∀ g ∈ Q, g ∈ P) {e : List Nat} (he : RchG L Q e) : RchG L P e := by
  induction he with
  | one => exact .one
  | step e g _ hg ih => exact .step _ _ ih (h g hg)
theorem zr9 {L : Nat} {e : List Nat} (h : PermL L e) : z6w e (List.range L) = e := by
  refine List.ext_getElem (zbG _ _) fun i h1 h2 => ?_
  have := h.lt e[i] (List.getElem_mem h2)
  simp [z6w, List.getD, this]
theorem zkF {L : Nat} {U E : List (List Nat)} (hU : ∀ g ∈ U, PermL L g) (hE : ∀ e ∈ E, PermL L e) (hc : ∀ e ∈ E, ∀ g ∈ U, z6w e g ∈ E) {x g : List Nat} (hx : x ∈ E) (hg : RchG L U g) : z6w x g ∈ E := by
  induction hg with
  | one => rw [zr9 (hE x hx)]; exact hx
  | step g' u hg' hu ih =>
    rw [← zdO (hE x hx) (z3J hU hg')]
    exact hc _ ih u hu
theorem zkR {f g : List Nat} (hl : f.length <= 1000) (h : ∀ x ∈ f, x < g.length) : z4i (toI f) (toI g) = some (toI (z6w f g)) := by
  have e0 : toI (z6w f g) = (List.range f.length).map fun k => ((g.getD (f.getD k 0) 0 : Nat) : Int) := by
    refine List.ext_getElem (by simp [toI, z6w]) fun i h1 h2 => ?_
    have hi : i < f.length := by simpa [toI, z6w] using h1
    simp [toI, z6w, List.getD, hi]
  unfold z4i
  rw [z0d, z0n _ (by unfold z1i; omega), Int.toNat_natCast, e0]
  refine z0K (s := ((0 : Int), List.replicate f.length (0 : Int))) f.length (fun k => ((k : Int), zev f.length (fun k => ((g.getD (f.getD k 0) 0 : Nat) : Int)) (fun _ => 0) k)) (by rw [zhB]; congr 1; exact (List.ext_getElem (by simp) fun i h1 h2 => by simp)) (by simp only [LFm]; omega) (fun k hk => ?_) ?_
  · have hx := h _ (z0h hk)
    simp only [z4w]
    rw [if_pos (by rw [z0d]; omega), z2f hk, Option.bind_some, z2f hx, Option.bind_some, zcv hk, Option.bind_some, z0W (by omega), Int.toNat_natCast, z9r (f := fun k => ((g.getD (f.getD k 0) 0 : Nat) : Int)) hk]
  · simp only [z4w]
    rw [if_neg (by rw [z0d]; omega), zhA]
theorem zeL {p : List Nat} (hl : p.length <= 1000) (hp : ∀ x ∈ p, x < 256) : z5c (toI p) = some (z1l (toI p)) := by
  unfold z5c
  rw [z0d, z0n _ (by unfold z1i; omega), Int.toNat_natCast]
  have e0 : toI p = (List.range p.length).map fun k => ((p.getD k 0 : Nat) : Int) := by
    refine List.ext_getElem (by simp [toI]) fun i h1 h2 => ?_
    have hi : i < p.length := by simpa [toI] using h1
    simp [toI, List.getD, hi]
  refine z0K (s := ((0 : Int), List.replicate p.length (0 : Int))) p.length (fun k => ((k : Int), zev p.length (fun k => ((p.getD k 0 : Nat) : Int)) (fun _ => 0) k)) (by rw [zhB]; congr 1; exact (List.ext_getElem (by simp) fun i h1 h2 => by simp)) (by simp only [LFm]; omega) (fun k hk => ?_) ?_
  · have hx := hp _ (z0h hk)
    have hw : IntKind.u8.wrap ((p.getD k 0 : Nat) : Int) = ((p.getD k 0 : Nat) : Int) := by rw [IntKind.wrap_u8]; omega
    simp only [z5T]
    rw [if_pos (by rw [z0d]; omega), z2f hk, Option.bind_some, zcv hk, Option.bind_some, z0W (by omega), Int.toNat_natCast, hw, z9r (f := fun k => ((p.getD k 0 : Nat) : Int)) hk]
  · simp only [z5T]
    rw [if_neg (by rw [z0d]; omega), zhA, ← e0]
theorem zmT : ∀ {p q : List Nat}, (∀ x ∈ p, x < 256) -> (∀ x ∈ q, x < 256) -> z1l (toI p) = z1l (toI q) -> p = q := by
  have key : ∀ {p q : List Nat}, (∀ x ∈ p, x < 256) -> (∀ x ∈ q, x < 256) -> (toI p).map (fun z : Int => UInt8.ofNat z.toNat) = (toI q).map (fun z : Int => UInt8.ofNat z.toNat) -> p = q := by
    intro p
    induction p with
    | nil =>
      intro q _ _ h
      cases q with
      | nil => rfl
      | cons b q => simp [toI] at h
    | cons a p ih =>
      intro q hp hq h
      cases q with
      | nil => simp [toI] at h
      | cons b q =>
        simp only [toI, List.map_cons, List.cons.injEq] at h
        have ha := hp a (List.mem_cons_self ..)
        have hb := hq b (List.mem_cons_self ..)
        have g1 := congrArg UInt8.toNat h.1
        simp only [Int.toNat_natCast, UInt8.toNat_ofNat'] at g1
        have : a = b := by omega
        subst this
        rw [ih (fun k hk => hp k (List.mem_cons_of_mem _ hk)) (fun k hk => hq k (List.mem_cons_of_mem _ hk)) h.2]
  intro p q hp hq h
  refine key hp hq ?_
  have := congrArg ByteArray.data h
  simpa [z1l] using this
theorem zoY {L : Nat} (h1 : 1 <= L) (h2 : L <= 32) : z4n (L : Int) = some (toI (List.range L)) := by
  unfold z4n
  rw [if_neg (by omega), if_neg (by omega), z0n _ (by unfold z1i; omega), Int.toNat_natCast]
  have e0 : toI (List.range L) = (List.range L).map fun k : Nat => (k : Int) := rfl
  refine z0K (s := ((0 : Int), List.replicate L (0 : Int))) L (fun k => ((k : Int), zev L (fun k => (k : Int)) (fun _ => 0) k)) (by rw [zhB]; congr 1; exact (List.ext_getElem (by simp) fun i h1 h2 => by simp)) (by simp only [LFm]; omega) (fun k hk => ?_) ?_
  · simp only [z3Y]
    rw [if_pos (by omega), zcv hk, Option.bind_some, z0W (by omega), Int.toNat_natCast, z9r (f := fun k => (k : Int)) hk]
  · simp only [z3Y]
    rw [if_neg (by omega), zhA, e0]
theorem zfp {L : Nat} {p : List Nat} (h : PermL L p) (h1 : 1 <= L) (h2 : L <= 32) : z4X (toI p) = some true := by
  have hl := h.len
  unfold z4X
  rw [z0d, if_neg (by omega), if_neg (by omega)]
  refine z0K (s := (0 : Int)) p.length (fun k => (k : Int)) rfl (by simp only [LFm]; omega) (fun k hk => ?_) ?_
  · have := h.lt _ (z0h hk)
    simp only [z5i]
    rw [z0d, if_pos (by omega), z2f hk, Option.bind_some, if_neg (by omega), if_neg (by omega), z0W (by omega)]
  · simp only [z5i]
    rw [z0d, if_neg (by omega)]
theorem zkS {l : List Int} (h : l.Nodup) (hl : l.length <= 1000) : z1P l = some l := by
  unfold z1P
  by_cases h0 : (l.length : Int) < 2
  · rw [if_pos h0]
  · rw [if_neg h0]
    refine z0K (s := (1 : Int)) (l.length - 1) (fun k => ((k + 1 : Nat) : Int)) rfl (by simp only [LFm]; omega) (fun k hk => ?_) ?_
    · have w : IntKind.i64.wrap (((k + 1 : Nat) : Int) - 1) = (k : Int) := by rw [z1N (by omega) (by omega)]; omega
      simp only [z1S]
      rw [if_pos (by omega), z0S (show k + 1 < l.length by omega), Option.bind_some, w, z0S (show k < l.length by omega), Option.bind_some, if_neg, z0W (by omega)]
      intro e
      have := (List.getElem_inj h).1 e
      omega
    · simp only [z1S]
      rw [if_neg (by omega)]
theorem zkn {L : Nat} {p : List Nat} (h : PermL L p) (h1 : 1 <= L) (h2 : L <= 32) : z2J (toI p) = some true := by
  have hl := h.len
  have hne : toI p ≠ [] := fun e => by have := congrArg List.length e; rw [z0d, List.length_nil] at this; omega
  have hnd : ((toI p).mergeSort fun x y => decide (x <= y)).Nodup := (List.mergeSort_perm _ _).nodup_iff.2 (List.Pairwise.map _ (fun a b (hab : a ≠ b) => by intro e; exact hab (by omega)) h.nd)
  have hlen : ((toI p).mergeSort fun x y => decide (x <= y)).length = p.length := by rw [List.length_mergeSort, z0d]
  unfold z2J
  rw [zfp h h1 h2, Option.bind_some, if_pos rfl]
  unfold z8n z7n
  rw [zfp h h1 h2, Option.bind_some, if_pos rfl]
  unfold zds zdr
  rw [z0d, if_pos (by omega), Option.bind_some, if_pos ⟨hne, by rw [z0d]; omega⟩, Option.bind_some, zkS hnd (by omega), Option.bind_some, Option.bind_some, hlen, Option.bind_some]
  simp
theorem zms {L : Nat} {P : List (List Nat)} (hP : ∀ g ∈ P, PermL L g) (h1 : 1 <= L) (h2 : L <= 32) (hl : P.length <= 100000) : z3e (P.map toI) (L : Int) = some true := by
  unfold z3e
  refine z0K (s := (0 : Int)) P.length (fun k => (k : Int)) rfl (by simp only [LFm]; omega) (fun k hk => ?_) ?_
  · have hk' := hP _ (List.getElem_mem hk)
    have hat : atI (P.map toI) (k : Int) = some (toI P[k]) := by rw [z0S (by simpa using hk)]; simp
    simp only [z3d]
    rw [if_pos (by rw [List.length_map]; omega), hat, Option.bind_some, z0d, if_pos (by rw [hk'.len]), zkn hk' h1 h2, Option.bind_some, if_pos rfl, z0W (by omega)]
  · simp only [z3d]
    rw [if_neg (by rw [List.length_map]; omega)]
def z8N : List (List Nat) -> List (ByteArray × Bool) := List.foldl (fun mp q => z9R (z1l (toI q)) true mp) []
theorem zk2 (Q : List (List Nat)) (p : List Nat) : z8N (Q ++ [p]) = z9R (z1l (toI p)) true (z8N Q) := by
  unfold z8N; rw [List.foldl_append]; rfl
theorem zg4 {p : List Nat} (hb : ∀ k ∈ p, k < 256) {Q : List (List Nat)} (hQ : ∀ q ∈ Q, ∀ k ∈ q, k < 256) : ((zad (z1l (toI p)) (z8N Q)).getD false) = true ↔ p ∈ Q := by
  have key : ∀ (Q : List (List Nat)) (mp : List (ByteArray × Bool)), (∀ q ∈ Q, ∀ k ∈ q, k < 256) -> (((zad (z1l (toI p)) (Q.foldl (fun mp q => z9R (z1l (toI q)) true mp) mp)).getD false) = true ↔ (p ∈ Q ∨ ((zad (z1l (toI p)) mp).getD false) = true)) := by
    intro Q
    induction Q with
    | nil => intro mp _; simp
    | cons q Q ih =>
      intro mp hQ
      rw [List.foldl_cons, ih _ (fun x hx => hQ x (List.mem_cons_of_mem _ hx)), zac, List.mem_cons]
      have hq := hQ q (List.mem_cons_self ..)
      by_cases e : q = p
      · subst e
        rw [if_pos rfl]; simp
      · have : ¬ z1l (toI q) = z1l (toI p) := fun h => e (zmT hq hb h)
        rw [if_neg this]
        constructor
        · rintro (h | h)
          · exact .inl (.inr h)
          · exact .inr h
        · rintro ((h | h) | h)
          · exact absurd h.symm e
          · exact .inl h
          · exact .inr h
  have := key Q [] hQ
  rw [show z8N Q = Q.foldl (fun mp q => z9R (z1l (toI q)) true mp) [] from rfl, this]
  simp [zad]
structure GInv (L : Nat) (P E : List (List Nat)) : Prop where
  nd : E.Nodup
  rc : ∀ e ∈ E, RchG L P e
  on : List.range L ∈ E
section
variable {L : Nat} {P : List (List Nat)} (hP : ∀ g ∈ P, PermL L g) (h1 : 1 <= L) (h2 : L <= 32) (hB : ∀ l : List (List Nat), l.Nodup -> (∀ e ∈ l, RchG L P e) -> l.length <= 2000)
include hP h1 h2 hB
theorem z9V {e : List Nat} (h : RchG L P e) : ∀ k ∈ e, k < 256 := fun k hk => by
  have _u := h1
  have _v := hB
  have := (z3J hP h).lt k hk; omega
theorem zs7 {E U : List (List Nat)} {f : List Nat} (hE : GInv L (U ++ [f]) E) (hU : ∀ g ∈ U ++ [f], g ∈ P) (hUl : U.length <= 100000) {i : Nat} (hi : i < E.length) :
    ∃ X, GInv L (U ++ [f]) (E ++ X) /\ (∀ g ∈ U ++ [f], z6w (E.getD i []) g ∈ E ++ X) /\ z0o (z3f (U.map toI) (toI f) (i : Int)) LFm (0, E.map toI, z8N E) = z0e (((i + 1 : Nat) : Int), (E ++ X).map toI, z8N (E ++ X)) := by
  refine Exists.elim (z1z (b := z3f (U.map toI) (toI f) (i : Int)) (fun z => ∃ (k : Nat) (X : List (List Nat)), k <= U.length + 1 /\ z = ((k : Int), (E ++ X).map toI, z8N (E ++ X)) /\ GInv L (U ++ [f]) (E ++ X) /\ ∀ j, j < k -> z6w (E.getD i []) ((U ++ [f]).getD j []) ∈ E ++ X) (fun z => U.length + 1 - z.1.toNat)
    (fun r => ∃ X, r = .inl (((i + 1 : Nat) : Int), (E ++ X).map toI, z8N (E ++ X)) /\ GInv L (U ++ [f]) (E ++ X) /\ ∀ j, j < U.length + 1 -> z6w (E.getD i []) ((U ++ [f]).getD j []) ∈ E ++ X) ?_ LFm (0, E.map toI, z8N E) ⟨0, [], by omega, by simp, by rw [List.append_nil]; exact hE, fun j hj => by omega⟩ (by simp only [LFm]; omega)) fun r h => ?_
  · rintro z ⟨k, X, hk, rfl, hX, hc⟩
    have hrp : ∀ e ∈ E ++ X, RchG L P e := fun e he => z5Y hU (hX.rc e he)
    have hsz := hB _ hX.nd hrp
    rw [List.length_append] at hsz
    have hlen : ((E ++ X).map toI).length = E.length + X.length := by rw [List.length_map, List.length_append]
    simp only [z3f]
    rw [List.length_map]
    by_cases hk1 : k < U.length + 1
    · left
      have hg : (U ++ [f]).getD k [] ∈ U ++ [f] := zcN (by rw [List.length_append, List.length_singleton]; exact hk1)
      have hgp := hP _ (hU _ hg)
      have hat1 : atI (U.map toI ++ [toI f]) (k : Int) = some (toI ((U ++ [f]).getD k [])) := by
        have e : U.map toI ++ [toI f] = (U ++ [f]).map toI := by simp
        rw [e, z0S (by simp; omega)]
        simp only [List.getElem_map]
        rw [List.getD, List.getElem?_eq_getElem (by simp; omega), Option.getD_some]
      have hei : E.getD i [] ∈ E ++ X := List.mem_append.2 (.inl (zcN hi))
      have hep := z3J hP (hrp _ hei)
      have hat2 : atI ((E ++ X).map toI) (i : Int) = some (toI (E.getD i [])) := by
        rw [z0S (by simp; omega)]
        simp only [List.getElem_map]
        rw [List.getElem_append_left hi, List.getD, List.getElem?_eq_getElem hi, Option.getD_some]
      have hcu : RchG L (U ++ [f]) (z6w (E.getD i []) ((U ++ [f]).getD k [])) := .step _ _ (hX.rc _ hei) hg
      have hcr := z5Y hU hcu
      have hcp := z3J hP hcr
      have hc256 := z9V hP h1 h2 hB hcr
      have hcomp : z4i (toI (E.getD i [])) (toI ((U ++ [f]).getD k [])) = some (toI (z6w (E.getD i []) ((U ++ [f]).getD k []))) := zkR (by rw [hep.len]; omega) (fun x hx => by have := hep.lt x hx; rw [hgp.len]; exact this)
      rw [if_pos (by omega), hat1, Option.bind_some, hat2, Option.bind_some, hcomp, Option.bind_some, zeL (by rw [hcp.len]; omega) hc256, Option.bind_some]
      have hsg := zg4 hc256 (Q := E ++ X) (fun q hq => z9V hP h1 h2 hB (hrp q hq))
      generalize hcE : z6w (E.getD i []) ((U ++ [f]).getD k []) = c at *
      by_cases hin : c ∈ E ++ X
      · rw [if_pos (hsg.2 hin), z0W (by omega)]
        refine ⟨_, rfl, ⟨k + 1, X, by omega, rfl, hX, fun j hj => ?_⟩, by simp only; omega⟩
        by_cases e : j = k
        · subst e; rw [hcE]; exact hin
        · exact hc j (by omega)
      · have hX' : GInv L (U ++ [f]) (E ++ (X ++ [c])) := by
          rw [← List.append_assoc]
          refine ⟨List.nodup_append.2 ⟨hX.nd, by simp, fun a ha b hb => ?_⟩, fun e he => ?_, List.mem_append.2 (.inl hX.on)⟩
          · obtain rfl := List.mem_singleton.1 hb
            rintro rfl; exact hin ha
          · rcases List.mem_append.1 he with he | he
            · exact hX.rc e he
            · obtain rfl := List.mem_singleton.1 he; exact hcu
        rw [if_neg (fun e => hin (hsg.1 e)), z0n _ (by unfold z1q; rw [hlen]; omega), z0W (by omega)]
        refine ⟨_, rfl, ⟨k + 1, X ++ [c], by omega, ?_, hX', fun j hj => ?_⟩, by simp only; omega⟩
        · rw [← List.append_assoc, zk2, List.map_append (f := toI) (l₁ := E ++ X)]; rfl
        · rw [← List.append_assoc]
          by_cases e : j = k
          · subst e; exact List.mem_append.2 (.inr (by rw [hcE]; simp))
          · exact List.mem_append.2 (.inl (hc j (by omega)))
    · right
      have hk2 : k = U.length + 1 := by omega
      rw [if_neg (by omega), if_neg (by rw [hlen]; omega), z0W (by omega)]
      exact ⟨_, rfl, X, rfl, hX, fun j hj => hc j (by omega)⟩
  · obtain ⟨h3, X, rfl, hX, hc⟩ := h
    refine ⟨X, hX, fun g hg => ?_, h3⟩
    obtain ⟨j, hj, rfl⟩ := List.getElem_of_mem hg
    have := hc j (by simpa using hj)
    have e : (U ++ [f]).getD j [] = (U ++ [f])[j] := by rw [List.getD, List.getElem?_eq_getElem hj, Option.getD_some]
    rwa [e] at this
theorem zsT {E U : List (List Nat)} {f : List Nat} {w : Nat} (hw : w < 100000) (hE : GInv L (U ++ [f]) E) (hU : ∀ g ∈ U ++ [f], g ∈ P) (hUl : U.length <= 100000) :
    ∃ X, GInv L (U ++ [f]) (E ++ X) /\ (∀ e ∈ E ++ X, ∀ g ∈ U ++ [f], z6w e g ∈ E ++ X) /\ z0o (z3g (w : Int) (U.map toI) (toI f)) LFm (0, E.map toI, z8N E) = z0e (((w + 1 : Nat) : Int), (E ++ X).map toI, z8N (E ++ X), (U ++ [f]).map toI) := by
  refine Exists.elim (z1z (b := z3g (w : Int) (U.map toI) (toI f)) (fun z => ∃ (i : Nat) (X : List (List Nat)), i <= (E ++ X).length /\ z = ((i : Int), (E ++ X).map toI, z8N (E ++ X)) /\ GInv L (U ++ [f]) (E ++ X) /\ ∀ j, j < i -> ∀ g ∈ U ++ [f], z6w ((E ++ X).getD j []) g ∈ E ++ X) (fun z => 2001 - z.1.toNat)
    (fun r => ∃ X, r = .inl (((w + 1 : Nat) : Int), (E ++ X).map toI, z8N (E ++ X), (U ++ [f]).map toI) /\ GInv L (U ++ [f]) (E ++ X) /\ ∀ j, j < (E ++ X).length -> ∀ g ∈ U ++ [f], z6w ((E ++ X).getD j []) g ∈ E ++ X) ?_ LFm (0, E.map toI, z8N E) ⟨0, [], by simp, by simp, by rw [List.append_nil]; exact hE, fun j hj => by omega⟩ (by simp only [LFm]; omega)) fun r h => ?_
  · rintro z ⟨i, X, hi, rfl, hX, hc⟩
    have hsz := hB _ hX.nd (fun e he => z5Y hU (hX.rc e he))
    simp only [z3g]
    rw [List.length_map]
    by_cases hi1 : i < (E ++ X).length
    · left
      obtain ⟨Y, y1, y2, y3⟩ := zs7 hP h1 h2 hB hX hU hUl hi1
      rw [if_pos (by omega), y3]
      have e : E ++ X ++ Y = E ++ (X ++ Y) := List.append_assoc ..
      rw [e] at y1 y2
      have hsz2 := hB _ y1.nd (fun e he => z5Y hU (y1.rc e he))
      refine ⟨_, rfl, ⟨i + 1, X ++ Y, by rw [← e, List.length_append]; omega, by rw [e], y1, fun j hj g hg => ?_⟩, by simp only; omega⟩
      by_cases ej : j = i
      · subst ej
        have := y2 g hg
        rwa [show (E ++ (X ++ Y)).getD j [] = (E ++ X).getD j [] by rw [← e, List.getD, List.getD, List.getElem?_append_left hi1]]
      · have := hc j (by omega) g hg
        rw [show (E ++ (X ++ Y)).getD j [] = (E ++ X).getD j [] by rw [← e, List.getD, List.getD, List.getElem?_append_left (by omega)], ← e]
        exact List.mem_append.2 (.inl this)
    · right
      have hi2 : i = (E ++ X).length := by omega
      rw [if_neg (by omega), z0W (by omega)]
      refine ⟨_, rfl, X, by simp, hX, fun j hj => hc j (by omega)⟩
  · obtain ⟨h3, X, rfl, hX, hc⟩ := h
    refine ⟨X, hX, fun e he g hg => ?_, h3⟩
    obtain ⟨j, hj, rfl⟩ := List.getElem_of_mem he
    have := hc j hj g hg
    have e : (E ++ X).getD j [] = (E ++ X)[j] := by rw [List.getD, List.getElem?_eq_getElem hj, Option.getD_some]
    rwa [e] at this
theorem zss (hne : P ≠ []) (hl : P.length <= 10000) : ∃ E : List (List Nat), z3K (P.map toI) = some (E.map toI, 0) /\ E.Nodup /\ ∀ e, e ∈ E ↔ RchG L P e := by
  have hpos := List.length_pos_iff.2 hne
  have hP0 := hP _ (List.getElem_mem hpos)
  have hat0 : atI (P.map toI) 0 = some (toI P[0]) := by
    have := z0S (xs := P.map toI) (k := 0) (by simpa using hpos)
    simpa using this
  have h256 : ∀ k ∈ List.range L, k < 256 := fun k hk => by have := List.mem_range.1 hk; omega
  unfold z3K
  rw [if_neg (by rw [List.length_map]; omega), hat0, Option.bind_some, z0d, hP0.len, zms hP h1 h2 (by omega), Option.bind_some, if_pos rfl, zoY h1 h2, Option.bind_some, zeL (by simp; omega) h256, Option.bind_some]
  refine Exists.elim (z1z (b := z3O (P.map toI)) (fun z => ∃ (k : Nat) (E U : List (List Nat)), k <= P.length /\ z = ((k : Int), E.map toI, z8N E, U.map toI) /\ GInv L U E /\ U.length <= k /\ (∀ g ∈ U, g ∈ P) /\ (∀ e ∈ E, ∀ g ∈ U, z6w e g ∈ E) /\ ∀ j, j < k -> P.getD j [] ∈ E) (fun z => P.length + 1 - z.1.toNat)
    (fun r => ∃ E : List (List Nat), r = (E.map toI, 0) /\ E.Nodup /\ ∀ e, e ∈ E ↔ RchG L P e) ?_ LFm (0, [toI (List.range L)], z9R (z1l (toI (List.range L))) true ([] : List (ByteArray × Bool)), []) ⟨0, [List.range L], [], by omega, rfl, ⟨by simp, fun e he => by obtain rfl := List.mem_singleton.1 he; exact .one, by simp⟩, by simp, by simp, by simp, fun j hj => by omega⟩ (by simp only [LFm]; omega)) fun r h => ?_
  · rintro z ⟨k, E, U, hk, rfl, hE, hUl, hU, hcl, hin⟩
    have hrp : ∀ e ∈ E, RchG L P e := fun e he => z5Y hU (hE.rc e he)
    have hsz := hB _ hE.nd hrp
    simp only [z3O]
    rw [List.length_map]
    by_cases hk1 : k < P.length
    · left
      have hg := zcN hk1
      have hgp := hP _ hg
      have hat1 : atI (P.map toI) (k : Int) = some (toI (P.getD k [])) := by
        rw [z0S (by simpa using hk1)]
        simp [List.getD, hk1]
      have hg256 := z9V hP h1 h2 hB (z9U hP hg)
      have hsg := zg4 hg256 (Q := E) (fun q hq => z9V hP h1 h2 hB (hrp q hq))
      rw [if_pos (by omega), hat1, Option.bind_some, zeL (by rw [hgp.len]; omega) hg256, Option.bind_some]
      by_cases hm : P.getD k [] ∈ E
      · rw [if_pos (hsg.2 hm), z0W (by omega)]
        refine ⟨_, rfl, ⟨k + 1, E, U, by omega, rfl, hE, by omega, hU, hcl, fun j hj => ?_⟩, by simp only; omega⟩
        by_cases e : j = k
        · rw [e]; exact hm
        · exact hin j (by omega)
      · rw [if_neg (fun e => hm (hsg.1 e)), z0n _ (by unfold z1q; rw [List.length_map]; omega)]
        have hUf : ∀ g ∈ U ++ [P.getD k []], g ∈ P := fun g h => by
          rcases List.mem_append.1 h with h | h
          · exact hU g h
          · rw [List.mem_singleton.1 h]; exact hg
        have hE2 : GInv L (U ++ [P.getD k []]) E := ⟨hE.nd, fun e he => z5Y (fun g hg => List.mem_append.2 (.inl hg)) (hE.rc e he), hE.on⟩
        obtain ⟨X, x1, x2, x3⟩ := zsT hP h1 h2 hB (w := k) (by omega) hE2 hUf (by omega)
        rw [x3]
        refine ⟨_, rfl, ⟨k + 1, E ++ X, U ++ [P.getD k []], by omega, rfl, x1, by simp; omega, hUf, x2, fun j hj => ?_⟩, by simp only; omega⟩
        · by_cases e : j = k
          · rw [e]
            have := x2 _ x1.on (P.getD k []) (by simp)
            rwa [zju hgp] at this
          · exact List.mem_append.2 (.inl (hin j (by omega)))
    · right
      have hk2 : k = P.length := by omega
      rw [if_neg (by omega)]
      have hne2 : E.map toI ≠ [] := fun e => by
        have := hE.on
        rw [List.map_eq_nil_iff] at e
        rw [e] at this; simp at this
      unfold zjK
      rw [if_pos ⟨hne2, by rw [List.length_map]; omega⟩, Option.bind_some]
      have hp := z8y (E.map toI)
      have hback : ∀ e : List Nat, (toI e).map Int.toNat = e := fun e => by
        unfold toI; rw [List.map_map]
        have : (Int.toNat ∘ fun x : Nat => (x : Int)) = id := by funext x; simp
        rw [this, List.map_id]
      have hp2 : ((zaF (E.map toI)).map fun x => x.map Int.toNat).Perm E := by
        have := hp.map fun x => x.map Int.toNat
        rw [List.map_map] at this
        have e : ((fun x : List Int => x.map Int.toNat) ∘ toI) = id := by funext x; exact hback x
        rwa [e, List.map_id] at this
      have hPU : ∀ g ∈ U, PermL L g := fun g hg => hP g (hU g hg)
      refine ⟨_, rfl, (zaF (E.map toI)).map fun x => x.map Int.toNat, ?_, hp2.nodup_iff.2 hE.nd, fun e => ?_⟩
      · rw [List.map_map]
        congr 1
        refine (List.map_id' _).symm.trans (List.map_congr_left fun x hx => ?_)
        obtain ⟨e, he, rfl⟩ := List.mem_map.1 (hp.mem_iff.1 hx)
        show toI e = toI ((toI e).map Int.toNat)
        rw [hback]
      · rw [hp2.mem_iff]
        refine ⟨hrp e, fun h => ?_⟩
        induction h with
        | one => exact hE.on
        | step e g _ hg ih =>
          obtain ⟨j, hj, rfl⟩ := List.getElem_of_mem hg
          have hm := hin j (by omega)
          rw [List.getD, List.getElem?_eq_getElem hj, Option.getD_some] at hm
          exact zkF hPU (fun x hx => z3J hP (hrp x hx)) hcl ih (hE.rc _ hm)
  · obtain ⟨h3, E, rfl, e1, e2⟩ := h
    exact ⟨E, h3, e1, e2⟩
end
end
section
open Go
set_option maxRecDepth 100000
theorem zqT {d : DFA} {m n : Nat} {S : List Nat} {k : Nat} (h : 0 < z7X d m n S k) : szN (S.getD k 0) ≠ 1 := fun e => by
  have hz : zpU S k = true := by unfold zpU; rw [decide_eq_true e]
  unfold z7X zqU at h
  cases hN : S.length with
  | zero => rw [hN] at h; simp [zqV] at h
  | succ N => rw [hN] at h; simp only [zqV] at h; rw [if_pos hz] at h; omega
def zl2 (n : Nat) : List Nat -> Nat
  | [] => 0
  | x :: l => x + n * zl2 n l
theorem znc {n : Nat} : ∀ {l : List Nat}, (∀ x ∈ l, x < n) -> zl2 n l < n ^ l.length
  | [], _ => by simp [zl2]
  | x :: l, h => by
    have h1 := h x (List.mem_cons_self ..)
    have h2 := znc (l := l) (fun y hy => h y (List.mem_cons_of_mem _ hy))
    rw [zl2, List.length_cons, Nat.pow_succ]
    have : n * zl2 n l + n <= n ^ l.length * n := by
      have := Nat.mul_le_mul_left n h2
      rw [Nat.mul_succ] at this
      rwa [Nat.mul_comm (n ^ l.length)]
    omega
theorem zjo {n : Nat} : ∀ {l r : List Nat}, (∀ x ∈ l, x < n) -> (∀ x ∈ r, x < n) -> l.length = r.length -> zl2 n l = zl2 n r -> l = r
  | [], [], _, _, _, _ => rfl
  | [], _ :: _, _, _, h, _ => by simp at h
  | _ :: _, [], _, _, h, _ => by simp at h
  | x :: l, y :: r, hl, hr, hlen, h => by
    have h1 := hl x (List.mem_cons_self ..)
    have h2 := hr y (List.mem_cons_self ..)
    rw [zl2, zl2] at h
    have e1 : x = y := by
      have := congrArg (· % n) h
      simpa [Nat.add_mul_mod_self_left, Nat.mod_eq_of_lt h1, Nat.mod_eq_of_lt h2] using this
    subst e1
    have e2 : zl2 n l = zl2 n r := Nat.eq_of_mul_eq_mul_left (show 0 < n by omega) (by omega)
    rw [zjo (fun z hz => hl z (List.mem_cons_of_mem _ hz)) (fun z hz => hr z (List.mem_cons_of_mem _ hz)) (by simpa using hlen) e2]
section
variable {d : DFA} {m n : Nat} {S : List Nat} (hd : DfaOk d m n) (hn : n <= 7) (hS : SetsP d m n S)
include hd hn hS
theorem zoQ {k : Nat} (hk : k < S.length) : Lead d m n (S.getD k 0) (S.getD k 0) [] := by
  have _u := hd
  have _v := hn
  exact ⟨fun c hc => by simp at hc, hS.lt _ (z0h hk), hS.lt _ (z0h hk), rfl, rfl⟩
theorem ziL {k : Nat} (hk : k < S.length) : z1B d [] (z1e S k) = List.range (z1e S k).length := by
  obtain ⟨h1, h2⟩ := z5t hd hn hS hk
  refine List.ext_getElem (by simp [z1B]) fun i i1 i2 => ?_
  have hi : i < (z1e S k).length := by simpa [z1B] using i1
  simp only [z1B, List.getElem_map, List.getElem_range, z2U]
  have hm : (z1e S k)[i] ∈ z1e S k := List.getElem_mem hi
  have e := z2d hm
  have e2 : (z1e S k).getD i 0 = (z1e S k)[i] := by rw [List.getD, List.getElem?_eq_getElem hi, Option.getD_some]
  exact z4l h1 (z4r hm) hi (by rw [e, e2])
theorem zoA {k : Nat} (hk : k < S.length) {w v : List UInt8} (h1 : Lead d m n (S.getD k 0) (S.getD k 0) w) : z6w (z1B d w (z1e S k)) (z1B d v (z1e S k)) = z1B d (w ++ v) (z1e S k) := by
  have hr := zeh hd hn hS hk h1
  unfold z6w
  rw [show z1B d w (z1e S k) = (z1e S k).map fun t => (z1e S k).idxOf (z2U d t w) from rfl, List.map_map]
  refine List.map_congr_left fun t ht => ?_
  have hm := hr t ht
  show (z1B d v (z1e S k)).getD ((z1e S k).idxOf (z2U d t w)) 0 = (z1e S k).idxOf (z2U d t (w ++ v))
  rw [zco (z4r hm), z2d hm, ← z2c]
def z7e (d : DFA) (m n : Nat) (S : List Nat) (c : Nat) : List (List Nat) := (zfc d m n S (z1e S (z0R d m n S c)) c S.length).2
theorem zgH {c : Nat} {g : List Nat} (hg : g ∈ z7e d m n S c) : ∃ w, Lead d m n (S.getD (z0R d m n S c) 0) (S.getD (z0R d m n S c) 0) w /\ g = z1B d w (z1e S (z0R d m n S c)) := by
  have hI := znD hd hn hS (c := c) S.length (Nat.le_refl _)
  obtain ⟨j, hj, rfl⟩ := List.getElem_of_mem hg
  obtain ⟨l1, l2, l3⟩ := zaa hI (j := j) (by rw [hI.len]; exact hj)
  have hj' : j < (zfc d m n S (z1e S (z0R d m n S c)) c S.length).2.length := hj
  rw [List.getD, List.getElem?_eq_getElem hj', Option.getD_some] at l3
  exact ⟨_, l1, l3⟩
theorem zgx {k : Nat} (hk : k < S.length) {w : List UInt8} (h : Lead d m n (S.getD k 0) (S.getD k 0) w) : PermL (z1e S k).length (z1B d w (z1e S k)) := by
  obtain ⟨p1, p2, _⟩ := z5Z hd hn hS hk h
  exact ⟨z5N _ _ _, p1, p2⟩
theorem zae {c : Nat} (hcl : c < (z6t d m n S).length) : ∀ g ∈ z7e d m n S c, PermL (z1e S (z0R d m n S c)).length g := fun g hg => by
  obtain ⟨w, h, rfl⟩ := zgH hd hn hS hg
  exact zgx hd hn hS (z1R hd hn hS hcl).2 h
theorem zk6 {c : Nat} (hcl : c < (z6t d m n S).length) {e : List Nat} (h : RchG (z1e S (z0R d m n S c)).length (z7e d m n S c) e) : ∃ w, Lead d m n (S.getD (z0R d m n S c) 0) (S.getD (z0R d m n S c) 0) w /\ e = z1B d w (z1e S (z0R d m n S c)) := by
  have hk := (z1R hd hn hS hcl).2
  induction h with
  | one => exact ⟨[], zoQ hd hn hS hk, (ziL hd hn hS hk).symm⟩
  | step e g _ hg ih =>
    obtain ⟨w, h1, rfl⟩ := ih
    obtain ⟨v, h2, rfl⟩ := zgH hd hn hS hg
    exact ⟨w ++ v, z7a h1 h2, zoA hd hn hS hk h1⟩
theorem zhv {k : Nat} (hk : k < S.length) {w v : List UInt8} (hw : zfh m w) (hv : zfh m v) (h : zdp d n w = zdp d n v) : z1B d w (z1e S k) = z1B d v (z1e S k) := by
  obtain ⟨_, h2⟩ := z5t hd hn hS hk
  refine List.map_congr_left fun t ht => ?_
  have ha : ∀ i, i < n -> zda d i w = zda d i v := fun i hi => by
    have := congrArg (fun l => l.getD i 0) h
    simpa [zdp, List.getD, hi] using this
  have e : z2U d t w = z2U d t v := Nat.eq_of_testBit_eq fun p => by
    rw [Bool.eq_iff_iff, zch hd hw (h2 t ht).2.2, zch hd hv (h2 t ht).2.2]
    refine exists_congr fun i => and_congr_right fun hi => and_congr_right fun _ => ?_
    rw [ha i hi]
  rw [e]
theorem zmp {c : Nat} (hcl : c < (z6t d m n S).length) (hn4 : n <= 4) : ∀ l : List (List Nat), l.Nodup -> (∀ e ∈ l, RchG (z1e S (z0R d m n S c)).length (z7e d m n S c) e) -> l.length <= 2000 := fun l hnd hl => by
  have hk := (z1R hd hn hS hcl).2
  have hex : ∀ e ∈ l, ∃ w, zfh m w /\ e = z1B d w (z1e S (z0R d m n S c)) := fun e he => by
    obtain ⟨w, h1, h2⟩ := zk6 hd hn hS hcl (hl e he)
    exact ⟨w, h1.hw, h2⟩
  obtain ⟨wd, hwd⟩ : ∃ wd : List Nat -> List UInt8, ∀ e ∈ l, zfh m (wd e) /\ e = z1B d (wd e) (z1e S (z0R d m n S c)) := by
    classical
    exact ⟨fun e => if h : ∃ w, zfh m w /\ e = z1B d w (z1e S (z0R d m n S c)) then h.choose else [], fun e he => by
      simp only
      rw [dif_pos (hex e he)]; exact (hex e he).choose_spec⟩
  have hlt : ∀ e ∈ l, ∀ x ∈ zdp d n (wd e), x < n := fun e he x hx => by
    obtain ⟨q, hq, rfl⟩ := List.mem_map.1 hx
    exact zjG hd (List.mem_range.1 hq) (hwd e he).1
  have hlen : ∀ e, (zdp d n (wd e)).length = n := fun e => by simp [zdp]
  have h1 : (l.map fun e => zl2 n (zdp d n (wd e))).Nodup := z6Y hnd fun x hx y hy e => by
    have := zjo (hlt x hx) (hlt y hy) (by rw [hlen x, hlen y]) e
    rw [(hwd x hx).2, (hwd y hy).2, zhv hd hn hS hk (hwd x hx).1 (hwd y hy).1 this]
  have h2 := z1C h1 (N := n ^ n) fun x hx => by
    obtain ⟨e, he, rfl⟩ := List.mem_map.1 hx
    have := znc (hlt e he)
    rwa [hlen] at this
  rw [List.length_map] at h2
  have h3 : n ^ n <= 4 ^ 4 := Nat.le_trans (Nat.pow_le_pow_left hn4 n) (Nat.pow_le_pow_right (by omega) hn4)
  omega
theorem zr3 {c : Nat} (hcl : c < (z6t d m n S).length) (hz : szN (S.getD (z0R d m n S c) 0) ≠ 1) (hpos : ∀ x ∈ S, x ≠ 0) (h32 : S.length <= 32)
    (hfew : ∀ l : List (List Nat), l.Nodup -> (∀ e ∈ l, RchG (z1e S (z0R d m n S c)).length (z7e d m n S c) e) -> l.length <= 2000) :
    ∃ E : List (List Nat), z2I (z9D d m n S c) = some (E.map toI, 0) /\ E.Nodup /\ ∀ e, e ∈ E ↔ RchG (z1e S (z0R d m n S c)).length (z7e d m n S c) e := by
  have hP := zae hd hn hS hcl
  obtain ⟨ho, _⟩ := zgF hd hn hS hcl hz hpos h32
  have t1 : 1 <= (z1e S (z0R d m n S c)).length := by have := ho.t1; rwa [show (z9D d m n S c).tiles.length = (z1e S (z0R d m n S c)).length from z0d _] at this
  have t2 : (z1e S (z0R d m n S c)).length <= 32 := by have := ho.t2; rwa [show (z9D d m n S c).tiles.length = (z1e S (z0R d m n S c)).length from z0d _] at this
  have hpl : (z7e d m n S c).length <= 1000 := by
    have h1 := ho.wp
    have h2 := ho.wl
    have : (z9D d m n S c).perms.length = (z7e d m n S c).length := List.length_map _
    omega
  have et : (z9D d m n S c).tiles.length = (z1e S (z0R d m n S c)).length := z0d _
  have ep : (z9D d m n S c).perms = (z7e d m n S c).map toI := rfl
  generalize z7e d m n S c = P at *
  generalize (z1e S (z0R d m n S c)).length = L at *
  have hpm : ((P.map toI).all (zcp L)) = true := List.all_eq_true.2 fun x hx => by
    obtain ⟨g, hg, rfl⟩ := List.mem_map.1 hx
    have := hP g hg
    refine zet.2 ⟨by rw [z0d, this.len], fun y hy => ?_, ?_⟩
    · obtain ⟨z, hz, rfl⟩ := List.mem_map.1 hy
      have := this.lt z hz
      omega
    · exact List.Pairwise.map _ (fun a b (hab : a ≠ b) => by intro e; exact hab (by omega)) this.nd
  unfold z2I
  rw [et, ep, if_neg (by omega), if_neg (by omega), zoz (by omega) (by rw [List.length_map]; omega), Option.bind_some, hpm, if_pos rfl, z0n _ (by unfold z1i; omega), Int.toNat_natCast]
  have e0 : toI (List.range L) = (List.range L).map fun k : Nat => (k : Int) := rfl
  have hloop : ∀ {R : Option (List (List Int) × Int)}, (if (P.map toI).length = 0 then some ([toI (List.range L)], 0) else (z3K (P.map toI)).bind fun v => some (v.1, v.2)) = R -> z0o (z2A (z9D d m n S c)) LFm (0, List.replicate L (0 : Int)) = R := fun {R} hR => by
    refine z0K (s := ((0 : Int), List.replicate L (0 : Int))) L (fun k => ((k : Int), zev L (fun k => (k : Int)) (fun _ => 0) k)) (by rw [zhB]; congr 1; exact (List.ext_getElem (by simp) fun i h1 h2 => by simp)) (by simp only [LFm]; omega) (fun k hk => ?_) ?_
    · simp only [z2A]
      rw [et, if_pos (by omega), zcv hk, Option.bind_some, z0W (by omega), Int.toNat_natCast, z9r (f := fun k => (k : Int)) hk]
    · simp only [z2A]
      rw [et, ep, if_neg (by omega), zhA, ← e0, ← hR]
      by_cases h : (P.map toI).length = 0
      · rw [if_pos h, if_pos (by omega)]
      · rw [if_neg h, if_neg (by omega)]
  by_cases h : P = []
  · subst h
    refine ⟨[List.range L], hloop (by rw [if_pos (by simp)]; rfl), by simp, fun e => ?_⟩
    rw [List.mem_singleton]
    constructor
    · rintro rfl; exact .one
    · intro he
      induction he with
      | one => rfl
      | step e g _ hg _ => simp at hg
  · obtain ⟨E, e1, e2, e3⟩ := zss hP t1 t2 hfew h (by omega)
    refine ⟨E, hloop ?_, e2, e3⟩
    rw [if_neg (by rw [List.length_map]; have := List.length_pos_iff.2 h; omega), e1, Option.bind_some]
end
theorem zng : ∀ a, a < 2 -> ∀ b, b < 2 -> ∀ q, q < 7 -> ((defT.getD (((defT.getD q []).getD a 0).toNat) []).getD b 0) = ((defT.getD (((defT.getD 0 []).getD a 0).toNat) []).getD b 0) := by decide
theorem zrJ : ∀ p, p < 7 -> szN (2 ^ p) = 1 := by decide
section
variable {d : DFA} (hd : DfaOk d 2 7) (hT : d.next = defT)
include hd hT
omit hd in
theorem znh {a b : UInt8} {w : List UInt8} (h : zfh 2 (a :: b :: w)) {q : Nat} (hq : q < 7) : zda d q (a :: b :: w) = zda d 0 (a :: b :: w) := by
  have ha := (z9s h).2
  have hb := (z9s (z9s h).1).2
  have := zng _ ha _ hb q hq
  have e : nxN d (nxN d q (a.toNat - 97)) (b.toNat - 97) = nxN d (nxN d 0 (a.toNat - 97)) (b.toNat - 97) := by
    unfold nxN; rw [hT, this]
  rw [zda, zda, zda, zda, e]
theorem zr5 {K : Nat} {w : List UInt8} (h : Lead d 2 7 K K w) (hw : w ≠ []) (hK : K ≠ 0) : szN K = 1 := by
  have h2 := z7a h h
  have hone : ∀ p q, K.testBit p = true -> K.testBit q = true -> p = q := fun p q hp hq => by
    have hr : ∀ p, K.testBit p = true -> ∃ i, i < 7 /\ zda d i (w ++ w) = p := fun p hp => by
      have : (z2U d K (w ++ w)).testBit p = true := by rw [h2.run]; exact hp
      obtain ⟨i, i1, _, i3⟩ := (zch hd h2.hw h.hK).1 this
      exact ⟨i, i1, i3⟩
    obtain ⟨i, i1, i2⟩ := hr p hp
    obtain ⟨j, j1, j2⟩ := hr q hq
    have hl := h2.hw
    revert i2 j2 hl
    cases w with
    | nil => exact absurd rfl hw
    | cons a w =>
      obtain ⟨b, v, e⟩ : ∃ b v, (a :: w) ++ (a :: w) = a :: b :: v := by
        cases w with
        | nil => exact ⟨a, [], rfl⟩
        | cons b w => exact ⟨b, w ++ (a :: b :: w), rfl⟩
      rw [e]
      intro i2 j2 hl
      rw [← i2, ← j2, znh hT hl i1, znh hT hl j1]
  obtain ⟨p, hp⟩ : ∃ p, K.testBit p = true := by
    refine Classical.byContradiction fun hh => hK (Nat.eq_of_testBit_eq fun q => ?_)
    rw [Nat.zero_testBit]
    cases hb : K.testBit q with
    | false => rfl
    | true => exact absurd ⟨q, hb⟩ hh
  have hp7 := zpV h.hK hp
  have e : K = 2 ^ p := Nat.eq_of_testBit_eq fun q => by
    rw [Nat.testBit_two_pow]
    by_cases hq : p = q
    · subst hq; rw [hp]; simp
    · cases hb : K.testBit q with
      | false => simp [hq]
      | true => exact absurd (hone p q hp hb) hq
  rw [e]; exact zrJ p hp7
end
theorem zp6 {d : DFA} {m n : Nat} {S : List Nat} (hd : DfaOk d m n) (hn : n <= 7) (hS : SetsP d m n S) (h7 : n = 7 /\ m = 2 /\ d.next = defT) {c : Nat} (hcl : c < (z6t d m n S).length) (hz : szN (S.getD (z0R d m n S c) 0) ≠ 1) (hpos : ∀ x ∈ S, x ≠ 0) : z7e d m n S c = [] := by
  obtain ⟨rfl, rfl, hT⟩ := h7
  have hk := (z1R hd hn hS hcl).2
  have hstep : ∀ i a, i < S.length -> a < 2 -> clN d 2 7 S i = c -> zaE d 2 7 S (z1e S (z0R d 2 7 S c)) i ([], []) a = ([], []) := fun i a hi ha hc => by
    unfold zaE
    split
    · rename_i hj
      obtain ⟨l1, l2⟩ := zeK hd hn hS hi ha hj
      have hf : z0R d 2 7 S c = z5e d 2 7 S i := by unfold z0R; rw [← hc]; rfl
      rw [← hf] at l1
      refine absurd (zr5 hd hT l1 (fun e => ?_) (hpos _ (z0h hk))) hz
      have := congrArg List.length e
      unfold hwN at this
      rw [z6F, z6F, z6n] at this
      simp at this
    · rfl
  have hrow : ∀ i, i < S.length -> clN d 2 7 S i = c -> ∀ a, a <= 2 -> zfg d 2 7 S (z1e S (z0R d 2 7 S c)) i ([], []) a = ([], []) := fun i hi hc a => by
    induction a with
    | zero => intro _; rfl
    | succ a ih => intro ha; rw [z9S, ih (by omega), hstep i a hi (by omega) hc]
  have hall : ∀ k, k <= S.length -> zfc d 2 7 S (z1e S (z0R d 2 7 S c)) c k = ([], []) := fun k => by
    induction k with
    | zero => intro _; rfl
    | succ k ih =>
      intro hk
      rw [zfb, ih (by omega)]
      split
      · rename_i hc; exact hrow k (by omega) hc 2 (Nat.le_refl _)
      · rfl
  unfold z7e
  rw [hall _ (Nat.le_refl _)]
theorem zqZ {d : DFA} {m n : Nat} {S : List Nat} (hd : DfaOk d m n) (hn : n <= 7) (hS : SetsP d m n S) (hs : n <= 4 ∨ (n = 7 /\ m = 2 /\ d.next = defT)) {c : Nat} (hcl : c < (z6t d m n S).length) (hz : szN (S.getD (z0R d m n S c) 0) ≠ 1) (hpos : ∀ x ∈ S, x ≠ 0) : ∀ l : List (List Nat), l.Nodup -> (∀ e ∈ l, RchG (z1e S (z0R d m n S c)).length (z7e d m n S c) e) -> l.length <= 2000 := by
  rcases hs with h4 | h7
  · exact zmp hd hn hS hcl h4
  · intro l hnd hl
    have hg := zp6 hd hn hS h7 hcl hz hpos
    have hone : ∀ e ∈ l, e ∈ [List.range (z1e S (z0R d m n S c)).length] := fun e he => by
      have := hl e he
      rw [hg] at this
      rw [List.mem_singleton]
      induction this with
      | one => rfl
      | step e g _ hg _ => simp at hg
    have := z9t hnd hone
    simp at this
    omega
end
section
open Go
set_option maxRecDepth 100000
def znF (d : DFA) (m : Nat) (st : RS) : Prop := ∀ i, 0 < i -> i < st.1.length -> ∃ p a, p < i /\ a < m /\ st.2.getD i ByteArray.empty = st.2.getD p ByteArray.empty ++ ziX a /\ mvN d (st.1.getD p 0) a = st.1.getD i 0
theorem zll {d : DFA} {m i a : Nat} {st : RS} (hl : st.2.length = st.1.length) (h : znF d m st) (hi : i < st.1.length) (ha : a < m) : znF d m (zde d i a st) := by
  unfold zde
  split
  · exact h
  · intro j j0 hj
    simp only [List.length_append, List.length_singleton] at hj ⊢
    by_cases hj1 : j < st.1.length
    · obtain ⟨p, b, p1, p2, p3, p4⟩ := h j j0 hj1
      exact ⟨p, b, p1, p2, by rw [z3G _ (by omega), z3G _ (by omega), p3], by rw [z3G _ (by omega), z3G _ hj1, p4]⟩
    · have e : j = st.1.length := by omega
      refine ⟨i, a, by omega, ha, ?_, ?_⟩
      · rw [z6s (by omega), z3G _ (by omega)]
      · rw [z6s e, z3G _ hi]
theorem zie {d : DFA} {m n s : Nat} (hd : DfaOk d m n) (hs : s < 2 ^ n) : ∀ k, znF d m (z5F d m s k)
  | 0 => fun i i0 hi => by simp [z5F] at hi; omega
  | k + 1 => by
    have ih := zie hd hs k
    have hI := (z7M hd hs k).1
    unfold z5F
    split
    · rename_i hk
      have inn : ∀ a, a <= m -> znF d m (z7y d k (z5F d m s k) a) := fun a => by
        induction a with
        | zero => intro _; exact ih
        | succ a iha =>
          intro ha
          obtain ⟨h1, _, U, W, h3, _⟩ := zcK hd hI hk a (by omega)
          exact zll h1.len (iha (by omega)) (by rw [h3, List.length_append]; omega) (by omega)
      exact inn m (Nat.le_refl _)
    · exact ih
theorem zlk {d : DFA} {m n s : Nat} (hd : DfaOk d m n) (hs : s < 2 ^ n) {x : Nat} (hx : x ∈ (z0L d m n s).1) (hne : x ≠ s) : ∃ y a, y ∈ (z0L d m n s).1 /\ a < m /\ mvN d y a = x /\ z3P (z0L d m n s) x = z3P (z0L d m n s) y ++ ziX a := by
  have hI := z4I hd hs
  have ht : znF d m (z0L d m n s) := zie hd hs _
  have hi := z4r hx
  have hi0 : 0 < (z0L d m n s).1.idxOf x := by
    refine Nat.pos_of_ne_zero fun e => hne ?_
    have h1 := z2d hx
    rw [e, List.getD, hI.f0, Option.getD_some] at h1
    exact h1.symm
  obtain ⟨p, a, p1, p2, p3, p4⟩ := ht _ hi0 hi
  have hp : p < (z0L d m n s).1.length := by omega
  refine ⟨(z0L d m n s).1.getD p 0, a, z0h hp, p2, by rw [p4, z2d hx], ?_⟩
  have e : (z0L d m n s).1.idxOf ((z0L d m n s).1.getD p 0) = p := z4l hI.nd (z4r (z0h hp)) hp (z2d (z0h hp))
  unfold z3P
  rw [p3, e]
theorem zbK {d : DFA} {m n s : Nat} (hd : DfaOk d m n) (hs : s < 2 ^ n) : z3P (z0L d m n s) s = ByteArray.empty := by
  have hI := z4I hd hs
  have h0 : 0 < (z0L d m n s).1.length := (List.getElem?_eq_some_iff.1 hI.f0).1
  have e0 : (z0L d m n s).1.getD 0 0 = s := by rw [List.getD, hI.f0]; rfl
  have hm : s ∈ (z0L d m n s).1 := by
    have := z0h h0
    rwa [e0] at this
  have e : (z0L d m n s).1.idxOf s = 0 := z4l hI.nd (z4r hm) h0 (by rw [z2d hm, e0])
  unfold z3P
  rw [e, List.getD, hI.w0]; rfl
section
variable {d : DFA} {m n : Nat} {S : List Nat} (hd : DfaOk d m n) (hn : n <= 7) (hS : SetsP d m n S)
include hd hn hS
theorem zjd {c : Nat} : ∀ i a, i < S.length -> a < m -> clN d m n S i = c -> clN d m n S (zeY d S i a) = c -> z1B d (hwN d m n S i a).data.toList (z1e S (z0R d m n S c)) = List.range (z1e S (z0R d m n S c)).length ∨ z1B d (hwN d m n S i a).data.toList (z1e S (z0R d m n S c)) ∈ z7e d m n S c := by
  have _u := hd
  have _v := hn
  have _w := hS
  have mono : ∀ (T : List Nat) i st a, ∀ x ∈ st.2, x ∈ (zaE d m n S T i st a).2 := fun T i st a x hx => by
    unfold zaE
    split
    · split
      · exact hx
      · exact List.mem_append.2 (.inl hx)
    · exact hx
  have rmono : ∀ (T : List Nat) i st a, ∀ x ∈ st.2, x ∈ (zfg d m n S T i st a).2 := fun T i st a => by
    induction a with
    | zero => intro x hx; exact hx
    | succ a ih => intro x hx; rw [z9S]; exact mono _ _ _ _ _ (ih x hx)
  have row : ∀ (T : List Nat) i st b a, a < b -> clN d m n S (zeY d S i a) = clN d m n S i -> z1B d (hwN d m n S i a).data.toList T = List.range T.length ∨ z1B d (hwN d m n S i a).data.toList T ∈ (zfg d m n S T i st b).2 := fun T i st b => by
    induction b with
    | zero => intro a ha; omega
    | succ b ih =>
      intro a ha hc
      rw [z9S]
      by_cases e : a = b
      · subst e
        unfold zaE
        rw [if_pos hc]
        split
        · rename_i h
          rcases h with h | h
          · exact .inl h
          · exact .inr h
        · exact .inr (by simp)
      · exact (ih a (by omega) hc).imp id (mono _ _ _ _ _)
  have all : ∀ k, k <= S.length -> ∀ i, i < k -> clN d m n S i = c -> ∀ a, a < m -> clN d m n S (zeY d S i a) = c -> z1B d (hwN d m n S i a).data.toList (z1e S (z0R d m n S c)) = List.range (z1e S (z0R d m n S c)).length ∨ z1B d (hwN d m n S i a).data.toList (z1e S (z0R d m n S c)) ∈ (zfc d m n S (z1e S (z0R d m n S c)) c k).2 := fun k => by
    induction k with
    | zero => intro _ i hi; omega
    | succ k ih =>
      intro hk i hi hc a ha hca
      rw [zfb]
      by_cases e : i = k
      · subst e
        rw [if_pos hc]
        exact row _ _ _ _ _ ha (by rw [hca, hc])
      · refine (ih (by omega) i (by omega) hc a ha hca).imp id fun h => ?_
        split
        · exact rmono _ _ _ _ _ h
        · exact h
  intro i a hi ha hc hca
  exact all S.length (Nat.le_refl _) i hi hc a ha hca
theorem zj5 {c j : Nat} (hcl : c < (z6t d m n S).length) (hj : j < S.length) (h1 : zpg d m (S.getD j 0) (S.getD (z0R d m n S c) 0)) (h2 : zpg d m (S.getD (z0R d m n S c) 0) (S.getD j 0)) : clN d m n S j = c := by
  obtain ⟨f1, hk⟩ := z1R hd hn hS hcl
  have he := z6B hd hS
  have : z6D (z1M d m n S) S.length j = z6D (z1M d m n S) S.length (z0R d m n S c) := (zf2 he hj hk).2 (by
    simp only [z1M, Bool.and_eq_true]
    exact ⟨(z3q hd hS hk).2 h1, (z3q hd hS hj).2 h2⟩)
  unfold clN at f1 ⊢
  rw [this, f1]
theorem znm {c j : Nat} (hcl : c < (z6t d m n S).length) (hj : j < S.length) (hc : clN d m n S j = c) : zpg d m (S.getD (z0R d m n S c) 0) (S.getD j 0) := by
  obtain ⟨f1, hk⟩ := z1R hd hn hS hcl
  have he := z6B hd hS
  have : z1M d m n S j (z0R d m n S c) = true := (zf2 he hj hk).1 (by unfold clN at f1 hc; rw [f1, hc])
  simp only [z1M, Bool.and_eq_true] at this
  exact (z3q hd hS hj).1 this.2
theorem zrg {c j : Nat} (hcl : c < (z6t d m n S).length) (hj : j < S.length) (hc : clN d m n S j = c) : RchG (z1e S (z0R d m n S c)).length (z7e d m n S c) (z1B d ((z8l d m n S j).data.toList ++ (zfi d m n S j).data.toList) (z1e S (z0R d m n S c))) := by
  obtain ⟨f1, hk⟩ := z1R hd hn hS hcl
  have hf : z5e d m n S j = z0R d m n S c := by unfold z0R; rw [← hc]; rfl
  have hks := hS.lt _ (z0h hk)
  have ew : z8l d m n S j = z3P (z0L d m n (S.getD (z0R d m n S c) 0)) (S.getD j 0) := by unfold z8l; rw [hf]
  have eb : zfi d m n S j = z3P (z0L d m n (S.getD j 0)) (S.getD (z0R d m n S c) 0) := by unfold zfi; rw [hf]
  by_cases hjk : S.getD j 0 = S.getD (z0R d m n S c) 0
  · rw [ew, eb, hjk, zbK hd hks]
    have : (ByteArray.empty.data.toList ++ ByteArray.empty.data.toList : List UInt8) = [] := rfl
    rw [this, ziL hd hn hS hk]
    exact .one
  · have he := z6B hd hS
    have hee : z1M d m n S j (z0R d m n S c) = true := (zf2 he hj hk).1 (by unfold clN at f1 hc; rw [f1, hc])
    have hx := (zeW hd hn hS hk hj hee).2
    obtain ⟨y, a, y1, ha, y3, y4⟩ := zlk hd hks hx hjk
    obtain ⟨w1, _, w3⟩ := zbL hd hks y1
    have hyS : y ∈ S := by rw [← w3]; exact zg8 hS w1 (z0h hk)
    have hp := z4r hyS
    have epy := z2d hyS
    obtain ⟨v, v1, v2⟩ := znm hd hn hS hcl hj hc
    have h26 : (UInt8.ofNat (97 + a)).toNat = 97 + a := z8F (by have := hd.m6; omega)
    have hpc : clN d m n S (S.idxOf y) = c := zj5 hd hn hS hcl hp ⟨_, w1, by rw [epy, w3]; exact z7v _⟩ ⟨UInt8.ofNat (97 + a) :: v, fun z hz => by
      rcases List.mem_cons.1 hz with rfl | hz
      · omega
      · exact v1 z hz, by rw [epy, z2U, h26, Nat.add_sub_cancel_left, y3]; exact v2⟩
    have edst : zeY d S (S.idxOf y) a = j := by
      unfold zeY
      rw [epy, y3]
      exact z4l hS.nd (z4r (z0h hj)) hj (z2d (z0h hj))
    have hfp : z5e d m n S (S.idxOf y) = z0R d m n S c := by unfold z0R; rw [← hpc]; rfl
    have ehw : hwN d m n S (S.idxOf y) a = z8l d m n S j ++ zfi d m n S j := by
      have e1 : z8l d m n S (S.idxOf y) = z3P (z0L d m n (S.getD (z0R d m n S c) 0)) y := by unfold z8l; rw [hfp, epy]
      unfold hwN
      rw [edst, e1, ew, y4]
    have := zjd hd hn hS (S.idxOf y) a hp ha hpc (by rw [edst, hc])
    rw [ehw, z6F] at this
    rcases this with h | h
    · rw [h]; exact .one
    · exact z9U (zae hd hn hS hcl) h
theorem zqy {l : List (List Nat)} {f : List Nat -> List Nat} (hl : l.Nodup) (hf : ∀ x ∈ l, f x ∈ l) (hi : ∀ x ∈ l, ∀ y ∈ l, f x = f y -> x = y) : ∀ y ∈ l, ∃ x ∈ l, f x = y := fun y hy => by
  have _u := hd
  have _v := hn
  have _w := hS
  refine Classical.byContradiction fun h => ?_
  have hnd : (l.map f).Nodup := z6Y hl hi
  have hny : y ∉ l.map f := fun hm => by
    obtain ⟨x, hx, e⟩ := List.mem_map.1 hm
    exact h ⟨x, hx, e⟩
  have := z9t (List.nodup_cons.2 ⟨hny, hnd⟩) (r := l) fun x hx => by
    rcases List.mem_cons.1 hx with rfl | hx
    · exact hy
    · obtain ⟨z, hz, rfl⟩ := List.mem_map.1 hx
      exact hf z hz
  rw [List.length_cons, List.length_map] at this
  omega
theorem zr8 {L : Nat} {x y g : List Nat} (hx : PermL L x) (hy : PermL L y) (hg : PermL L g) (h : z6w x g = z6w y g) : x = y := by
  have _u := hd
  have _v := hn
  have _w := hS
  refine List.ext_getElem (by rw [hx.len, hy.len]) fun i i1 i2 => ?_
  have this : (z6w x g).getD i 0 = (z6w y g).getD i 0 := by rw [h]
  rw [zf0 i1, zf0 i2] at this
  have l1 := hx.lt _ (List.getElem_mem i1)
  have l2 := hy.lt _ (List.getElem_mem i2)
  have ex : x.getD i 0 = x[i] := by rw [List.getD, List.getElem?_eq_getElem i1, Option.getD_some]
  have ey : y.getD i 0 = y[i] := by rw [List.getD, List.getElem?_eq_getElem i2, Option.getD_some]
  rw [ex, ey] at this
  exact z4l hg.nd (by rw [hg.len]; exact l1) (by rw [hg.len]; exact l2) this
theorem zq4 {c : Nat} (hcl : c < (z6t d m n S).length) {E : List (List Nat)} (hE : E.Nodup) (hm : ∀ e, e ∈ E ↔ RchG (z1e S (z0R d m n S c)).length (z7e d m n S c) e) {w : List UInt8} (hw : zfh m w) (hr : z2U d (S.getD (z0R d m n S c) 0) w = S.getD (z0R d m n S c) 0) : z1B d w (z1e S (z0R d m n S c)) ∈ E := by
  obtain ⟨f1, hk⟩ := z1R hd hn hS hcl
  have hks := hS.lt _ (z0h hk)
  have hP := zae hd hn hS hcl
  have hEp : ∀ e ∈ E, PermL (z1e S (z0R d m n S c)).length e := fun e he => z3J hP ((hm e).1 he)
  obtain ⟨t1, t2⟩ := z5t hd hn hS hk
  have key : ∀ k, k <= w.length -> ∃ j e, j < S.length /\ S.getD j 0 = z2U d (S.getD (z0R d m n S c) 0) (w.take k) /\ clN d m n S j = c /\ e ∈ E /\ ∀ i, i < (z1e S (z0R d m n S c)).length -> z2U d ((z1e S (z0R d m n S c)).getD i 0) (w.take k) = z2U d ((z1e S (z0R d m n S c)).getD (e.getD i 0) 0) (z8l d m n S j).data.toList := by
    intro k
    induction k with
    | zero =>
      intro _
      have hf : z5e d m n S (z0R d m n S c) = z0R d m n S c := by
        show (z6t d m n S).getD (clN d m n S (z0R d m n S c)) 0 = _
        rw [f1]; rfl
      refine ⟨z0R d m n S c, List.range (z1e S (z0R d m n S c)).length, hk, by simp [z2U], f1, (hm _).2 .one, fun i hi => ?_⟩
      have e1 : z8l d m n S (z0R d m n S c) = ByteArray.empty := by unfold z8l; rw [hf, zbK hd hks]
      rw [e1, zdE hi]
      simp [z2U]
    | succ k ih =>
      intro hk1
      obtain ⟨j, e, hj, j1, j2, he, hmap⟩ := ih (by omega)
      have hkw : k < w.length := by omega
      have hlt := hw _ (List.getElem_mem hkw)
      have ha : w[k].toNat - 97 < m := by omega
      have htake : w.take (k + 1) = w.take k ++ [w[k]] := z9O hkw
      obtain ⟨d1, d2⟩ := znd hd hn hS hj ha
      have hx1 : S.getD (zeY d S j (w[k].toNat - 97)) 0 = z2U d (S.getD (z0R d m n S c) 0) (w.take (k + 1)) := by
        rw [htake, z2c, ← j1, d2, z2U, z2U]
      have hltk : ∀ k, zfh m (w.take k) := fun k z hz => hw z (List.mem_of_mem_take hz)
      have hc' : clN d m n S (zeY d S j (w[k].toNat - 97)) = c := zj5 hd hn hS hcl d1 ⟨_, hltk (k + 1), by rw [hx1]; exact z7v _⟩ ⟨w.drop (k + 1), fun z hz => hw z (List.mem_of_mem_drop hz), by
        rw [hx1, ← z2c, List.take_append_drop, hr]; exact z7v _⟩
      have hfj : z5e d m n S j = z0R d m n S c := by unfold z0R; rw [← j2]; rfl
      have hfj' : z5e d m n S (zeY d S j (w[k].toNat - 97)) = z0R d m n S c := by unfold z0R; rw [← hc']; rfl
      generalize hj' : zeY d S j (w[k].toNat - 97) = j' at *
      obtain ⟨lu, _⟩ := zbg hd hn hS hj
      obtain ⟨lu', _⟩ := zbg hd hn hS d1
      obtain ⟨lb', _⟩ := zf7 hd hn hS d1
      rw [hfj] at lu
      rw [hfj'] at lu' lb'
      obtain ⟨lh, _⟩ := zeK hd hn hS hj ha (by rw [hj', hc', j2])
      rw [hfj] at lh
      have hlet : ziX (w[k].toNat - 97) = ziX (w[k].toNat - 97) := rfl
      have eletter : (ziX (w[k].toNat - 97)).data.toList = [w[k]] := by
        rw [z6n]
        congr 1
        refine UInt8.toNat_inj.1 ?_
        rw [z8F (by have := hd.m6; omega)]; omega
      have ehw : (hwN d m n S j (w[k].toNat - 97)).data.toList = (z8l d m n S j).data.toList ++ [w[k]] ++ (zfi d m n S j').data.toList := by
        unfold hwN
        rw [z6F, z6F, eletter, hj']
      have hgam := zjd hd hn hS j (w[k].toNat - 97) hj ha j2 (by rw [hj']; exact hc')
      have hgr : RchG (z1e S (z0R d m n S c)).length (z7e d m n S c) (z1B d (hwN d m n S j (w[k].toNat - 97)).data.toList (z1e S (z0R d m n S c))) := by
        rcases hgam with h | h
        · rw [h]; exact .one
        · exact z9U hP h
      have hcr := zrg hd hn hS hcl d1 hc'
      have lub := z7a lu' lb'
      have hcp := zgx hd hn hS hk lub
      have heg : z6w e (z1B d (hwN d m n S j (w[k].toNat - 97)).data.toList (z1e S (z0R d m n S c))) ∈ E := (hm _).2 (zcl hP ((hm e).1 he) hgr)
      obtain ⟨e', he', hee⟩ := zqy hd hn hS (f := fun x => z6w x (z1B d ((z8l d m n S j').data.toList ++ (zfi d m n S j').data.toList) (z1e S (z0R d m n S c)))) hE (fun x hx => (hm _).2 (zcl hP ((hm x).1 hx) hcr)) (fun x hx y hy h => zr8 hd hn hS (hEp x hx) (hEp y hy) hcp h) _ heg
      refine ⟨j', e', d1, hx1, hc', he', fun i hi => ?_⟩
      have pe := hEp e he
      have pe' := hEp e' he'
      have hei : i < e.length := by rw [pe.len]; exact hi
      have hei' : i < e'.length := by rw [pe'.len]; exact hi
      have q1 := pe.lt _ (z0h hei)
      have q2 := pe'.lt _ (z0h hei')
      have hpt : (z6w e' (z1B d ((z8l d m n S j').data.toList ++ (zfi d m n S j').data.toList) (z1e S (z0R d m n S c)))).getD i 0 = (z6w e (z1B d (hwN d m n S j (w[k].toNat - 97)).data.toList (z1e S (z0R d m n S c)))).getD i 0 := congrArg (fun l => l.getD i 0) hee
      rw [zf0 hei', zf0 hei] at hpt
      obtain ⟨_, _, pf1⟩ := z5Z hd hn hS hk lub
      obtain ⟨_, _, pf2⟩ := z5Z hd hn hS hk lh
      have g1 := pf1 _ q2
      have g2 := pf2 _ q1
      rw [hpt, g2, ehw, z2c, z2c] at g1
      rw [z2c] at g1
      have s1 : z6h (z2U d ((z1e S (z0R d m n S c)).getD (e'.getD i 0) 0) (z8l d m n S j').data.toList) (S.getD j' 0) := by
        rw [← lu'.run]; exact z8z hd lu'.hw (t2 _ (z0h q2)).2.1
      have s2 : z6h (z2U d (z2U d ((z1e S (z0R d m n S c)).getD (e.getD i 0) 0) (z8l d m n S j).data.toList) [w[k]]) (S.getD j' 0) := by
        have h1 : z6h (z2U d ((z1e S (z0R d m n S c)).getD (e.getD i 0) 0) (z8l d m n S j).data.toList) (S.getD j 0) := by
          rw [← lu.run]; exact z8z hd lu.hw (t2 _ (z0h q1)).2.1
        have h2 := z8z hd (w := [w[k]]) (fun z hz => by obtain rfl := List.mem_singleton.1 hz; exact hlt) h1
        rwa [show z2U d (S.getD j 0) [w[k]] = S.getD j' 0 by rw [z2U, z2U, d2]] at h2
      have := zeE hd hn lb' s2 s1 g1
      rw [htake, z2c, hmap i hi, this]
  obtain ⟨j, e, hj, j1, j2, he, hmap⟩ := key w.length (Nat.le_refl _)
  rw [List.take_length] at j1 hmap
  rw [hr] at j1
  have ejk : j = z0R d m n S c := z4l hS.nd hj hk j1
  subst ejk
  have hf : z5e d m n S (z0R d m n S c) = z0R d m n S c := by
    show (z6t d m n S).getD (clN d m n S (z0R d m n S c)) 0 = _
    rw [f1]; rfl
  have e1 : z8l d m n S (z0R d m n S c) = ByteArray.empty := by unfold z8l; rw [hf, zbK hd hks]
  have pe := hEp e he
  have : z1B d w (z1e S (z0R d m n S c)) = e := by
    refine List.ext_getElem (by rw [z5N, pe.len]) fun i i1 i2 => ?_
    have hi : i < (z1e S (z0R d m n S c)).length := by rwa [z5N] at i1
    have h1 := hmap i hi
    rw [e1] at h1
    have h2 : z2U d ((z1e S (z0R d m n S c)).getD (e.getD i 0) 0) ByteArray.empty.data.toList = (z1e S (z0R d m n S c)).getD (e.getD i 0) 0 := rfl
    rw [h2] at h1
    have q1 := pe.lt _ (List.getElem_mem i2)
    have e3 : e.getD i 0 = e[i] := by rw [List.getD, List.getElem?_eq_getElem i2, Option.getD_some]
    rw [e3] at h1
    have e4 : (z1B d w (z1e S (z0R d m n S c)))[i] = (z1B d w (z1e S (z0R d m n S c))).getD i 0 := by rw [List.getD, List.getElem?_eq_getElem i1, Option.getD_some]
    rw [e4, zco hi, h1]
    exact z4l t1 (z4r (z0h q1)) q1 (z2d (z0h q1))
  rw [this]; exact he
end
end
section
open Go
set_option maxRecDepth 100000
theorem zon {a b : List Int} (ha : a.length <= 100000) : z6X a b = some (decide (a = b)) := by
  unfold z6X
  by_cases hl : (a.length : Int) = (b.length : Int)
  · rw [if_pos hl]
    have hl' : a.length = b.length := by omega
    rw [z5w (s := (0 : Int)) a.length (fun k => (k : Int)) (fun k => !decide (a.getD k 0 = b.getD k 0)) (fun _ => some false) (x := some true) rfl (by simp only [LFm]; omega) ?_ ?_]
    · rw [z8J]
      simp only [Bool.not_not]
      have : ((List.range a.length).all fun k => decide (a.getD k 0 = b.getD k 0)) = decide (a = b) := by
        rw [Bool.eq_iff_iff, decide_eq_true_eq, List.all_eq_true]
        constructor
        · intro h
          refine List.ext_getElem hl' fun i h1 h2 => ?_
          have := h i (List.mem_range.2 h1)
          rw [decide_eq_true_eq, List.getD, List.getD, List.getElem?_eq_getElem h1, List.getElem?_eq_getElem h2, Option.getD_some, Option.getD_some] at this
          exact this
        · rintro rfl k _; simp
      rw [this]
      cases decide (a = b) <;> rfl
    · intro k hk
      simp only [z5M]
      have g1 : a[k] = a.getD k 0 := by rw [List.getD, List.getElem?_eq_getElem hk, Option.getD_some]
      have g2 : b[k] = b.getD k 0 := by rw [List.getD, List.getElem?_eq_getElem (show k < b.length by omega), Option.getD_some]
      rw [if_pos (by omega), z0S hk, Option.bind_some, z0S (show k < b.length by omega), Option.bind_some, g1, g2, z0W (by omega)]
      by_cases h : a.getD k 0 = b.getD k 0
      · rw [if_pos h, decide_eq_true h, if_neg (by simp)]
      · rw [if_neg h, decide_eq_false h, if_pos (by simp)]
    · simp only [z5M]
      rw [if_neg (by omega)]
  · rw [if_neg hl]
    have : ¬ a = b := fun e => hl (by rw [e])
    rw [decide_eq_false this]
theorem zq9 : ∀ {p q : List Nat}, toI p = toI q -> p = q := fun {p q} h => by
  have := congrArg (fun l => l.map Int.toNat) h
  simp only [toI, List.map_map] at this
  have e : (Int.toNat ∘ fun x : Nat => (x : Int)) = id := by funext x; simp
  rwa [e, List.map_id, List.map_id] at this
theorem zmC {p : List Nat} {E : List (List Nat)} : toI p ∈ E.map toI ↔ p ∈ E := by
  rw [List.mem_map]
  constructor
  · rintro ⟨q, hq, e⟩; rw [← zq9 e]; exact hq
  · exact fun h => ⟨p, h, rfl⟩
structure EltsOk (h : Hol) (E : List (List Nat)) (L : Nat) : Prop where
  el : z2I h = some (E.map toI, 0)
  nd : E.Nodup
  len : E.length <= 2000
  ne : 0 < E.length
  pm : ∀ e ∈ E, PermL L e
  L32 : L <= 32
  mul : ∀ e ∈ E, ∀ f ∈ E, z6w e f ∈ E
  pl : h.perms.length <= 1000
  gn : ∀ y ∈ h.perms, y ∈ E.map toI
section
variable {d : DFA} {m n : Nat} {S : List Nat} (hd : DfaOk d m n) (hn : n <= 7) (hS : SetsP d m n S)
include hd hn hS
theorem zp3 {c : Nat} (hcl : c < (z6t d m n S).length) (hz : szN (S.getD (z0R d m n S c) 0) ≠ 1) (hpos : ∀ x ∈ S, x ≠ 0) (h32 : S.length <= 32) (hs : n <= 4 ∨ (n = 7 /\ m = 2 /\ d.next = defT)) :
    ∃ E, EltsOk (z9D d m n S c) E (z1e S (z0R d m n S c)).length /\ ∀ e, e ∈ E ↔ RchG (z1e S (z0R d m n S c)).length (z7e d m n S c) e := by
  have hfew := zqZ hd hn hS hs hcl hz hpos
  have hP := zae hd hn hS hcl
  obtain ⟨ho, _⟩ := zgF hd hn hS hcl hz hpos h32
  obtain ⟨E, e1, e2, e3⟩ := zr3 hd hn hS hcl hz hpos h32 hfew
  refine ⟨E, ⟨e1, e2, hfew E e2 fun e he => (e3 e).1 he, List.length_pos_iff.2 fun h => ?_, fun e he => z3J hP ((e3 e).1 he), ?_, fun e he f hf => (e3 _).2 (zcl hP ((e3 e).1 he) ((e3 f).1 hf)), ?_, fun y hy => ?_⟩, e3⟩
  · have := (e3 _).2 (.one (L := (z1e S (z0R d m n S c)).length) (P := z7e d m n S c))
    rw [h] at this; simp at this
  · have := ho.t2; rwa [show (z9D d m n S c).tiles.length = (z1e S (z0R d m n S c)).length from z0d _] at this
  · have h1 := ho.wp
    have h2 := ho.wl
    omega
  · obtain ⟨g, hg, rfl⟩ := List.mem_map.1 (show y ∈ (z7e d m n S c).map toI from hy)
    exact zmC.2 ((e3 g).2 (z9U hP hg))
end
theorem zo9 {x : List Int} {A : List (List Int)} {k : Nat} (h : k < A.length) : decide (x ∈ A.take (k + 1)) = (decide (x ∈ A.take k) || decide (x = A[k])) := by
  rw [List.take_succ_eq_append_getElem h, Bool.eq_iff_iff, decide_eq_true_eq, Bool.or_eq_true, decide_eq_true_eq, decide_eq_true_eq, List.mem_append, List.mem_singleton]
end
section
def Mo (C0 C1 : z0l) : Prop := ∀ f a o, C0 f a = some o -> C1 f a = some o
section
variable {P : Program} {C0 C1 : z0l}
theorem zbI (hMo : Mo C0 C1) {wio : FuncId -> Nat -> Bool} {fr fr' : Fr} {f : FuncId} {args : List E} {dst : Option Nat} (h : zal C0 wio fr f args dst = some fr') : Ev fun m => zal C1 wio fr f args dst = some fr' := by
  unfold zal at h ⊢
  split at h
  · cases h
  · rename_i ts deps io ha
    split at h
    · cases h
    · rename_i r outs hc
      refine ⟨0, fun m _ => ?_⟩
      show (match C1 f ts with | none => none | some (r, outs) => _) = _
      rw [hMo _ _ _ hc]
      exact h
theorem zmv (hMo : Mo C0 C1) {wio : FuncId -> Nat -> Bool} {fr fr' : Fr} {o : Oper} (h : opF P C0 wio fr o = some fr') : Ev fun m => opF P C1 wio fr o = some fr' := by
  unfold opF at h ⊢
  split at h
  · exact .pure fun _ => h
  · split at h
    · exact zbI hMo h
    · cases h
  · exact .pure fun _ => h
  · exact .pure fun _ => h
theorem zjv (hMo : Mo C0 C1) {wio : FuncId -> Nat -> Bool} {fr fr' : Fr} {o : Oper} (h : z8R P C0 wio fr o = some fr') : Ev fun m => z8R P C1 wio fr o = some fr' := by
  unfold z8R at h ⊢
  split at h
  · split at h
    · split at h
      · exact zbI hMo h
      · cases h
    · cases h
  · exact .pure fun _ => h
theorem zpp (hMo : Mo C0 C1) {wio : FuncId -> Nat -> Bool} {M : Nat -> Bool} {fr fr' : Fr} {o : Oper} (h : wrF P C0 wio M fr o = some fr') : Ev fun m => wrF P C1 wio M fr o = some fr' := by
  unfold wrF at h ⊢
  split at h
  · split at h
    · cases h
    · split at h
      · exact zbI hMo h
      · split at h
        · rename_i hM
          simp only [hM, if_true]
          exact zbI hMo h
        · cases h
      · cases h
  · exact .pure fun _ => h
  · exact .pure fun _ => h
  · exact .pure fun _ => h
  · cases h
theorem zhp (hMo : Mo C0 C1) {wio : FuncId -> Nat -> Bool} {ops : Array Oper} : ∀ {l : List Oper} {fr fr' : Fr}, zhq P C0 wio ops l fr = some fr' -> Ev fun m => zhq P C1 wio ops l fr = some fr'
  | [], fr, fr', h => .pure fun _ => h
  | o :: rest, fr, fr', h => by
    simp only [zhq] at h ⊢
    split at h
    · cases h
    · split at h
      · rename_i fr1 h1
        exact (zmv hMo h1).both (zhp hMo h) fun m a1 a2 => by rw [a1]; exact a2
      · cases h
    · split at h
      · rename_i fr1 h1
        exact (zhp hMo h)
      · cases h
theorem zbD (hMo : Mo C0 C1) {wio : FuncId -> Nat -> Bool} {same : Bool} {M : Nat -> Bool} {ops : Array Oper} : ∀ {l : List (Nat × Oper × Nat)} {fr fr' : Fr}, z8d P C0 wio same M ops l fr = some fr' -> Ev fun m => z8d P C1 wio same M ops l fr = some fr'
  | [], fr, fr', h => .pure fun _ => h
  | (k, o, mk) :: rest, fr, fr', h => by
    simp only [z8d] at h ⊢
    split at h
    · cases h
    · split at h
      · exact zbD hMo h
      · cases h
    · split at h
      · rename_i hm
        simp only [if_pos hm]
        split at h
        · split at h
          · exact zbD hMo h
          · cases h
        · cases h
      · rename_i hm
        simp only [if_neg hm]
        split at h
        · rename_i fr1 h1
          have h2 : Ev fun m => (if mk = 2 then opF P C1 wio fr o else if same = true then z8R P C1 wio fr o else wrF P C1 wio M fr o) = some fr1 := by
            by_cases e : mk = 2
            · simp only [if_pos e] at h1 ⊢; exact zmv hMo h1
            · simp only [if_neg e] at h1 ⊢
              by_cases e2 : same = true
              · simp only [if_pos e2] at h1 ⊢; exact zjv hMo h1
              · simp only [if_neg e2] at h1 ⊢; exact zpp hMo h1
          exact h2.both (zbD hMo h) fun m a1 a2 => by rw [a1]; exact a2
        · cases h
theorem z8K (hMo : Mo C0 C1) {wio : FuncId -> Nat -> Bool} {same : Bool} {M : Nat -> Bool} {ops : Array Oper} : ∀ {l : SchT} {fr fr' : Fr}, z4S P C0 wio same M ops l fr = some fr' -> Ev fun m => z4S P C1 wio same M ops l fr = some fr'
  | .nil, fr, fr', h => .pure fun _ => h
  | .alt x y, fr, fr', h => by
    simp only [z4S] at h ⊢
    split at h
    · rename_i f1 f2 h1 h2
      obtain ⟨rfl, hs⟩ := zaO h
      exact (z8K hMo h1).both (z8K hMo h2) fun m a1 a2 => by rw [a1, a2]; exact zbw hs
    · cases h
  | .op k mk rest, fr, fr', h => by
    simp only [z4S] at h ⊢
    split at h
    · cases h
    rename_i o ho
    try simp only [ho]
    split at h
    · cases h
    · split at h
      · exact z8K hMo h
      · cases h
    · split at h
      · rename_i hm
        simp only [if_pos hm]
        split at h
        · split at h
          · exact z8K hMo h
          · cases h
        · cases h
      · rename_i hm
        simp only [if_neg hm]
        split at h
        · rename_i fr1 h1
          have h2 : Ev fun m => (if mk = 2 then opF P C1 wio fr o else if same = true then z8R P C1 wio fr o else wrF P C1 wio M fr o) = some fr1 := by
            by_cases e : mk = 2
            · simp only [if_pos e] at h1 ⊢; exact zmv hMo h1
            · simp only [if_neg e] at h1 ⊢
              by_cases e2 : same = true
              · simp only [if_pos e2] at h1 ⊢; exact zjv hMo h1
              · simp only [if_neg e2] at h1 ⊢; exact zpp hMo h1
          exact h2.both (z8K hMo h) fun m a1 a2 => by rw [a1]; exact a2
        · cases h
theorem zkK (hMo : Mo C0 C1) {c : Cfg} {id : Nat} {ops : Array Oper} {fr fr' : Fr} (h : z6O P C0 c id ops fr = some fr') : Ev fun m => z6O P C1 c id ops fr = some fr' := by
  unfold z6O at h ⊢
  split at h
  · exact z8K hMo h
  · split at h
    · exact zbD hMo h
    · cases h
theorem zj0 (hMo : Mo C0 C1) {B : z0l -> Fr -> Option (X × Fr)} {cn : Fr -> Fr} (hB : ∀ fr o, B C0 fr = some o -> Ev fun m => B C1 fr = some o) : ∀ {n : Nat} {fr : Fr} {o : X × Fr}, za9 (B C0) cn n fr = some o -> Ev fun m => za9 (B C1) cn n fr = some o
  | 0, fr, o, h => by cases h
  | n + 1, fr, o, h => by
    simp only [za9] at h ⊢
    split at h
    · rename_i fr1 h1
      exact (hB _ _ h1).both (zj0 hMo hB h) fun m a1 a2 => by rw [a1]; exact a2
    · rename_i x fr1 hne h1
      refine (hB _ _ h1).imp fun m a1 => ?_
      rw [a1]
      cases x with
      | n => exact absurd rfl hne
      | x i => exact h
      | r => exact h
    · cases h
theorem zjr (hMo : Mo C0 C1) {c : Cfg} {LF : Nat} : ∀ (b : Code) {fr : Fr} {o : X × Fr}, z2s P C0 c LF b fr = some o -> Ev fun m => z2s P C1 c LF b fr = some o := by
  intro b
  induction b with
  | skip => intro fr o h; exact .pure fun _ => h
  | label l => intro fr o h; exact .pure fun _ => h
  | exit id => intro fr o h; exact .pure fun _ => h
  | ret => intro fr o h; exact .pure fun _ => h
  | goto l => intro fr o h; cases h
  | scope c ih => intro fr o h; simp only [z2s] at h ⊢; exact ih h
  | refuse s => intro fr o h; cases h
  | rangeFunc => intro fr o h; cases h
  | region id ops draw =>
    intro fr o h
    simp only [z2s] at h ⊢
    split at h
    · rename_i hd
      simp only [hd, if_true]
      split at h
      · rename_i fr1 h1
        exact (zkK hMo h1).imp fun m a1 => by rw [a1]; exact h
      · cases h
    · rename_i hd
      simp only [hd, Bool.false_eq_true, if_false]
      split at h
      · rename_i fr1 h1
        exact (zhp hMo h1).imp fun m a1 => by rw [a1]; exact h
      · cases h
  | seq a b ih1 ih2 =>
    intro fr o h
    simp only [z2s] at h ⊢
    split at h
    · rename_i fr1 h1
      exact (ih1 h1).both (ih2 h) fun m a1 a2 => by rw [a1]; exact a2
    · rename_i hne
      refine (ih1 h).imp fun m a1 => ?_
      rw [a1]
      obtain ⟨x, fr1⟩ := o
      cases x with
      | n => exact absurd h (hne _)
      | x i => rfl
      | r => rfl
  | cond c x y ih1 ih2 =>
    intro fr o h
    simp only [z2s] at h ⊢
    split at h
    · exact ih1 h
    · exact ih2 h
    · cases h
  | block id c ih =>
    intro fr o h
    simp only [z2s] at h ⊢
    split at h
    · rename_i i fr1 h1
      exact (ih h1).imp fun m a1 => by rw [a1]; exact h
    · rename_i hne
      refine (ih h).imp fun m a1 => ?_
      rw [a1]
      obtain ⟨x, fr1⟩ := o
      cases x with
      | n => rfl
      | x i => exact absurd h (hne _ _)
      | r => rfl
  | loop b ih =>
    intro fr o h
    simp only [z2s] at h ⊢
    exact zj0 hMo (B := fun C fr => z2s P C c LF b fr) (fun fr o h => ih h) h
theorem zmk (hMo : Mo C0 C1) {c : Cfg} {LF : Nat} {fn : Func} {args : List T} {o : T × List T} (h : zff P C0 c LF fn args = some o) : Ev fun m => zff P C1 c LF fn args = some o := by
  unfold zff at h ⊢
  split at h
  · rename_i hc
    simp only [if_pos hc]
    split at h
    · cases h
    · rename_i b hb
      split at h
      · rename_i fr h1
        exact (zjr hMo _ h1).imp fun m a1 => by rw [a1]; exact h
      · rename_i fr h1
        exact (zjr hMo _ h1).imp fun m a1 => by rw [a1]; exact h
      · cases h
  · cases h
end
theorem ziW {P : Program} {X : z0l} {cf : FuncId -> Option Cfg} : ∀ n, Mo (z2S P X cf n) (z2S P X cf (n + 1))
  | 0 => fun f a o h => by
    simp only [z2S] at h ⊢
    split at h
    · cases h
    · rename_i hc
      first
        | exact h
        | (rw [hc]; exact h)
  | n + 1 => fun f a o h => by
    simp only [z2S] at h
    split at h
    · rename_i c hc
      split at h
      · rename_i fn hfn
        obtain ⟨k, hk⟩ := zmk (ziW n) h
        exact zgu hc hfn (hk k (Nat.le_refl _))
      · cases h
    · rename_i hc
      simp only [z2S, hc]
      exact h
theorem za5 {P : Program} {X : z0l} {cf : FuncId -> Option Cfg} (n : Nat) {f : FuncId} {a : List T} {o : T × List T} (h : z2S P X cf n f a = some o) : Lim P X cf f a = some o := by
  refine zmG (d := n) fun m hm => ?_
  obtain ⟨k, rfl⟩ := Nat.exists_eq_add_of_le hm
  clear hm
  induction k with
  | zero => exact h
  | succ k ih => exact ziW (n + k) f a o ih
def tab : List (FuncId × List T × T × List T) -> z0l
  | [] => fun _ _ => none
  | (g, b, r, os) :: l => fun f a => if (Nat.beq g f && zjn b a) = true then some (r, os) else tab l f a
theorem zps {C : z0l} : ∀ {l : List (FuncId × List T × T × List T)}, (∀ x ∈ l, C x.1 x.2.1 = some x.2.2) -> Mo (tab l) C
  | [], _ => fun f a o h => by cases h
  | (g, b, r, os) :: l, hl => fun f a o h => by
    simp only [tab] at h
    split at h
    · rename_i hc
      simp only [Bool.and_eq_true] at hc
      cases h
      have := hl _ (List.mem_cons_self ..)
      rw [← Nat.eq_of_beq_eq_true hc.1, ← z6N hc.2]
      exact this
    · exact zps (fun x hx => hl x (List.mem_cons_of_mem _ hx)) f a o h
noncomputable def zgw (P : Program) (X : z0l) (cf : FuncId -> Option Cfg) (S : z0l) : Nat -> z0l
  | 0 => S
  | n + 1 => fun f a => match S f a with
    | some o => some o
    | none => match cf f with
      | some c => (match P.funcs[f]? with | some fn => zff P (zgw P X cf S n) c LFm fn a | none => none)
      | none => X f a
theorem zgv {P : Program} {X : z0l} {cf : FuncId -> Option Cfg} {S : z0l} (hS : Mo S (Lim P X cf)) : ∀ n, Mo (zgw P X cf S n) (Lim P X cf)
  | 0 => hS
  | n + 1 => fun f a o h => by
    simp only [zgw] at h
    split at h
    · rename_i o' ho
      cases h
      exact hS f a o ho
    · split at h
      · rename_i c hc
        split at h
        · rename_i fn hfn
          obtain ⟨k, hk⟩ := zmk (zgv hS n) h
          exact zmF hc hfn (hk k (Nat.le_refl _))
        · cases h
      · rename_i hc
        exact zcC hc h
theorem zqI {P : Program} {X : z0l} {cf : FuncId -> Option Cfg} (l : List (FuncId × List T × T × List T)) (n : Nat) {f : FuncId} {a : List T} {o : T × List T} (h : zgw P X cf (tab l) n f a = some o) (hl : ∀ x ∈ l, Lim P X cf x.1 x.2.1 = some x.2.2) : Lim P X cf f a = some o :=
  zgv (zps hl) n f a o h
end
end Go.Proofs.YtodliknibbafeaaGreat

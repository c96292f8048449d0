/- Proved here: the law HolonomyWords returns true for every input, and its arguments read afterwards as before. No condition. -/
import Derived.Test.YtodliknibbafeaaGreatMWD6
import Derived.ChangeOld
import Derived.ChangeReads
import Derived.Below
import Derived.ChangeSlices
import Derived.Deep.Grids
import Derived.WideShapes
import Derived.WalkKit
import Derived.ProofKit
import Derived.Test.YtodliknibbafeaaGreatRows
import Derived.Test.YtodliknibbafeaaGreatChecked
import Derived.OpenShut
import Derived.ShutString
import Derived.Deep.DeepHandedRow
set_option linter.unusedVariables false
set_option linter.unusedSimpArgs false
namespace Go.Proofs.YtodliknibbafeaaGreat
section
open Go
set_option maxRecDepth 100000
def exT : T := .agg [.sc (.int .i64 2), .sc (.int .i64 0), .sl 3 [.sc (.bool true), .sc (.bool false), .sc (.bool false)], .sl 3 [.sl 2 [.sc (.int .i64 1), .sc (.int .i64 0)], .sl 2 [.sc (.int .i64 2), .sc (.int .i64 0)], .sl 2 [.sc (.int .i64 0), .sc (.int .i64 2)]]]
def zjl : List T := [.sc (.int .i64 7), .sc (.int .i64 3), .sc (.int .i64 5), .sc (.int .i64 6), .sc (.int .i64 1), .sc (.int .i64 2), .sc (.int .i64 4)]
def dgT : T := .agg [.sl 7 [.sc (.int .i64 7), .sc (.int .i64 3), .sc (.int .i64 5), .sc (.int .i64 6), .sc (.int .i64 1), .sc (.int .i64 2), .sc (.int .i64 4)], .sl 7 [.sl 2 [.sc (.int .i64 0), .sc (.int .i64 2)], .sl 2 [.sc (.int .i64 3), .sc (.int .i64 4)], .sl 2 [.sc (.int .i64 1), .sc (.int .i64 2)], .sl 2 [.sc (.int .i64 2), .sc (.int .i64 2)], .sl 2 [.sc (.int .i64 5), .sc (.int .i64 4)], .sl 2 [.sc (.int .i64 6), .sc (.int .i64 4)], .sl 2 [.sc (.int .i64 4), .sc (.int .i64 6)]], .sl 7 [.sl 7 [.sc (.bool true), .sc (.bool false), .sc (.bool false), .sc (.bool false), .sc (.bool false), .sc (.bool false), .sc (.bool false)], .sl 7 [.sc (.bool true), .sc (.bool true), .sc (.bool true), .sc (.bool true), .sc (.bool false), .sc (.bool false), .sc (.bool false)], .sl 7 [.sc (.bool true), .sc (.bool true), .sc (.bool true), .sc (.bool true), .sc (.bool false), .sc (.bool false), .sc (.bool false)], .sl 7 [.sc (.bool true), .sc (.bool true), .sc (.bool true), .sc (.bool true), .sc (.bool false), .sc (.bool false), .sc (.bool false)], .sl 7 [.sc (.bool true), .sc (.bool true), .sc (.bool true), .sc (.bool true), .sc (.bool true), .sc (.bool true), .sc (.bool true)], .sl 7 [.sc (.bool true), .sc (.bool true), .sc (.bool true), .sc (.bool true), .sc (.bool true), .sc (.bool true), .sc (.bool true)], .sl 7 [.sc (.bool true), .sc (.bool true), .sc (.bool true), .sc (.bool true), .sc (.bool true), .sc (.bool true), .sc (.bool true)]]]
theorem e36 : z2S Tryz.prog xt z0V 10 51 [exT] = some (.os 1 7 zjl, [.dead]) := by kernel_rfl
theorem e37 : z2S Tryz.prog xt z0V 10 52 [exT, .sl 7 zjl] = some (.agg [.sl 7 [.sc (.int .i64 7), .sc (.int .i64 3), .sc (.int .i64 5), .sc (.int .i64 6), .sc (.int .i64 1), .sc (.int .i64 2), .sc (.int .i64 4)], .os 1 7 [.os 1 2 [.sc (.int .i64 0), .sc (.int .i64 2)], .os 1 2 [.sc (.int .i64 3), .sc (.int .i64 4)], .os 1 2 [.sc (.int .i64 1), .sc (.int .i64 2)], .os 1 2 [.sc (.int .i64 2), .sc (.int .i64 2)], .os 1 2 [.sc (.int .i64 5), .sc (.int .i64 4)], .os 1 2 [.sc (.int .i64 6), .sc (.int .i64 4)], .os 1 2 [.sc (.int .i64 4), .sc (.int .i64 6)]], .os 1 7 [.os 1 7 [.sc (.bool true), .sc (.bool false), .sc (.bool false), .sc (.bool false), .sc (.bool false), .sc (.bool false), .sc (.bool false)], .os 1 7 [.sc (.bool true), .sc (.bool true), .sc (.bool true), .sc (.bool true), .sc (.bool false), .sc (.bool false), .sc (.bool false)], .os 1 7 [.sc (.bool true), .sc (.bool true), .sc (.bool true), .sc (.bool true), .sc (.bool false), .sc (.bool false), .sc (.bool false)], .os 1 7 [.sc (.bool true), .sc (.bool true), .sc (.bool true), .sc (.bool true), .sc (.bool false), .sc (.bool false), .sc (.bool false)], .os 1 7 [.sc (.bool true), .sc (.bool true), .sc (.bool true), .sc (.bool true), .sc (.bool true), .sc (.bool true), .sc (.bool true)], .os 1 7 [.sc (.bool true), .sc (.bool true), .sc (.bool true), .sc (.bool true), .sc (.bool true), .sc (.bool true), .sc (.bool true)], .os 1 7 [.sc (.bool true), .sc (.bool true), .sc (.bool true), .sc (.bool true), .sc (.bool true), .sc (.bool true), .sc (.bool true)]]], [.dead, .dead]) := by kernel_rfl
def sr0 : T := .tup [.os 1 7 [.sc (.int .i64 0), .sc (.int .i64 2), .sc (.int .i64 1), .sc (.int .i64 3), .sc (.int .i64 4), .sc (.int .i64 5), .sc (.int .i64 6)], .os 1 7 [.sc (.string ByteArray.empty), .sc (.string ⟨#[98, 97]⟩), .sc (.string ⟨#[98]⟩), .sc (.string ⟨#[98, 97, 97]⟩), .sc (.string ⟨#[98, 97, 98]⟩), .sc (.string ⟨#[98, 97, 98, 97]⟩), .sc (.string ⟨#[98, 97, 98, 97, 97]⟩)]]
theorem ztY : z2S Tryz.prog xt z0V 6 56 [dgT, .sc (.int .i64 0)] = some (sr0, [.dead, .dead]) := by kernel_rfl
def sr1 : T := .tup [.os 1 6 [.sc (.int .i64 1), .sc (.int .i64 3), .sc (.int .i64 4), .sc (.int .i64 2), .sc (.int .i64 5), .sc (.int .i64 6)], .os 1 7 [.sc (.string ByteArray.empty), .sc (.string ByteArray.empty), .sc (.string ⟨#[97, 97]⟩), .sc (.string ⟨#[97]⟩), .sc (.string ⟨#[98]⟩), .sc (.string ⟨#[98, 97]⟩), .sc (.string ⟨#[98, 97, 97]⟩)]]
theorem ztX : z2S Tryz.prog xt z0V 6 56 [dgT, .sc (.int .i64 1)] = some (sr1, [.dead, .dead]) := by kernel_rfl
def sr2 : T := .tup [.os 1 6 [.sc (.int .i64 2), .sc (.int .i64 1), .sc (.int .i64 3), .sc (.int .i64 4), .sc (.int .i64 5), .sc (.int .i64 6)], .os 1 7 [.sc (.string ByteArray.empty), .sc (.string ⟨#[97]⟩), .sc (.string ByteArray.empty), .sc (.string ⟨#[97, 97]⟩), .sc (.string ⟨#[97, 98]⟩), .sc (.string ⟨#[97, 98, 97]⟩), .sc (.string ⟨#[97, 98, 97, 97]⟩)]]
theorem ztW : z2S Tryz.prog xt z0V 6 56 [dgT, .sc (.int .i64 2)] = some (sr2, [.dead, .dead]) := by kernel_rfl
def sr3 : T := .tup [.os 1 6 [.sc (.int .i64 3), .sc (.int .i64 2), .sc (.int .i64 1), .sc (.int .i64 4), .sc (.int .i64 5), .sc (.int .i64 6)], .os 1 7 [.sc (.string ByteArray.empty), .sc (.string ⟨#[97, 97]⟩), .sc (.string ⟨#[97]⟩), .sc (.string ByteArray.empty), .sc (.string ⟨#[97, 97, 98]⟩), .sc (.string ⟨#[97, 97, 98, 97]⟩), .sc (.string ⟨#[97, 97, 98, 97, 97]⟩)]]
theorem ztV : z2S Tryz.prog xt z0V 6 56 [dgT, .sc (.int .i64 3)] = some (sr3, [.dead, .dead]) := by kernel_rfl
def sr4 : T := .tup [.os 1 3 [.sc (.int .i64 4), .sc (.int .i64 5), .sc (.int .i64 6)], .os 1 7 [.sc (.string ByteArray.empty), .sc (.string ByteArray.empty), .sc (.string ByteArray.empty), .sc (.string ByteArray.empty), .sc (.string ByteArray.empty), .sc (.string ⟨#[97]⟩), .sc (.string ⟨#[97, 97]⟩)]]
theorem ztU : z2S Tryz.prog xt z0V 6 56 [dgT, .sc (.int .i64 4)] = some (sr4, [.dead, .dead]) := by kernel_rfl
def sr5 : T := .tup [.os 1 3 [.sc (.int .i64 5), .sc (.int .i64 6), .sc (.int .i64 4)], .os 1 7 [.sc (.string ByteArray.empty), .sc (.string ByteArray.empty), .sc (.string ByteArray.empty), .sc (.string ByteArray.empty), .sc (.string ⟨#[98]⟩), .sc (.string ByteArray.empty), .sc (.string ⟨#[97]⟩)]]
theorem ztT : z2S Tryz.prog xt z0V 6 56 [dgT, .sc (.int .i64 5)] = some (sr5, [.dead, .dead]) := by kernel_rfl
def sr6 : T := .tup [.os 1 3 [.sc (.int .i64 6), .sc (.int .i64 4), .sc (.int .i64 5)], .os 1 7 [.sc (.string ByteArray.empty), .sc (.string ByteArray.empty), .sc (.string ByteArray.empty), .sc (.string ByteArray.empty), .sc (.string ⟨#[97]⟩), .sc (.string ⟨#[97, 97]⟩), .sc (.string ByteArray.empty)]]
theorem ztS : z2S Tryz.prog xt z0V 6 56 [dgT, .sc (.int .i64 6)] = some (sr6, [.dead, .dead]) := by kernel_rfl
def zp2 : List (FuncId × List T × T × List T) := [(51, [exT], .os 1 7 zjl, [.dead]), (52, [exT, .sl 7 zjl], .agg [.sl 7 [.sc (.int .i64 7), .sc (.int .i64 3), .sc (.int .i64 5), .sc (.int .i64 6), .sc (.int .i64 1), .sc (.int .i64 2), .sc (.int .i64 4)], .os 1 7 [.os 1 2 [.sc (.int .i64 0), .sc (.int .i64 2)], .os 1 2 [.sc (.int .i64 3), .sc (.int .i64 4)], .os 1 2 [.sc (.int .i64 1), .sc (.int .i64 2)], .os 1 2 [.sc (.int .i64 2), .sc (.int .i64 2)], .os 1 2 [.sc (.int .i64 5), .sc (.int .i64 4)], .os 1 2 [.sc (.int .i64 6), .sc (.int .i64 4)], .os 1 2 [.sc (.int .i64 4), .sc (.int .i64 6)]], .os 1 7 [.os 1 7 [.sc (.bool true), .sc (.bool false), .sc (.bool false), .sc (.bool false), .sc (.bool false), .sc (.bool false), .sc (.bool false)], .os 1 7 [.sc (.bool true), .sc (.bool true), .sc (.bool true), .sc (.bool true), .sc (.bool false), .sc (.bool false), .sc (.bool false)], .os 1 7 [.sc (.bool true), .sc (.bool true), .sc (.bool true), .sc (.bool true), .sc (.bool false), .sc (.bool false), .sc (.bool false)], .os 1 7 [.sc (.bool true), .sc (.bool true), .sc (.bool true), .sc (.bool true), .sc (.bool false), .sc (.bool false), .sc (.bool false)], .os 1 7 [.sc (.bool true), .sc (.bool true), .sc (.bool true), .sc (.bool true), .sc (.bool true), .sc (.bool true), .sc (.bool true)], .os 1 7 [.sc (.bool true), .sc (.bool true), .sc (.bool true), .sc (.bool true), .sc (.bool true), .sc (.bool true), .sc (.bool true)], .os 1 7 [.sc (.bool true), .sc (.bool true), .sc (.bool true), .sc (.bool true), .sc (.bool true), .sc (.bool true), .sc (.bool true)]]], [.dead, .dead]), (56, [dgT, .sc (.int .i64 0)], sr0, [.dead, .dead]), (56, [dgT, .sc (.int .i64 1)], sr1, [.dead, .dead]), (56, [dgT, .sc (.int .i64 2)], sr2, [.dead, .dead]), (56, [dgT, .sc (.int .i64 3)], sr3, [.dead, .dead]), (56, [dgT, .sc (.int .i64 4)], sr4, [.dead, .dead]), (56, [dgT, .sc (.int .i64 5)], sr5, [.dead, .dead]), (56, [dgT, .sc (.int .i64 6)], sr6, [.dead, .dead])]
theorem zp1 : ∀ x ∈ zp2, L x.1 x.2.1 = some x.2.2 := by
  simp only [zp2, List.forall_mem_cons]
  exact ⟨za5 10 e36, za5 10 e37, za5 6 ztY, za5 6 ztX, za5 6 ztW, za5 6 ztV, za5 6 ztU, za5 6 ztT, za5 6 ztS, fun x h => by cases h⟩
theorem cKl : zgw Tryz.prog xt z0V (tab zp2) 14 12 [] = some (.sc (.bool true), []) := by kernel_rfl
theorem cK : L 12 [] = some (.sc (.bool true), []) := zqI zp2 14 cKl zp1
def zpo : Option Bool := some true
instance : Ok zpo (fun r => L 12 [] = some (.sc (.bool r), [])) := ⟨fun r h => by cases h; exact cK⟩
end
section
open Go
noncomputable section
set_option maxRecDepth 100000
set_option maxHeartbeats 6000000
abbrev z2B (w63 : Int) (v78 : List Int × Bool) (v79 : List (List Int) × Int) : Bool × Int -> Option ((Bool × Int) ⊕ (Int ⊕ Bool))
  | (w82, w83) =>
  if w83 < (v79.1.length : Int) then
    (atI v79.1 w83).bind fun v86 =>
    if w82 = true then
      z0e (true, IntKind.i64.wrap (w83 + 1))
    else
      (z6X v78.1 v86).bind fun v87 =>
      z0e (v87, IntKind.i64.wrap (w83 + 1))
  else
    z0k <|
    if v78.2 = true then
      if v79.2 = 0 then
        if w82 = true then
          z0e (IntKind.i64.wrap (w63 + 1))
        else
          z0k <|
          some false
      else
        z0k <|
        some false
    else
      z0k <|
      some false
instance {w63 : Int} {v78 : List Int × Bool} {v79 : List (List Int) × Int} : Hd (z2B w63 v78 v79) := ⟨fun (w82, w83) => ([(18, xB w82), (74, xI w83)], [])⟩
abbrev z2Q (v47 : DFA × Tape) (v48 : List Hol × Int) (v50 : ByteArray × Tape) : Int -> Option (Int ⊕ Bool)
  | w63 =>
  if w63 < (v48.1.length : Int) then
    (atI v48.1 w63).bind fun v76 =>
    (z5A v47.1 v76.set v50.1).bind fun v77 =>
    if v77.2 = 0 then
      if v77.1 = v76.set then
        (z6i v47.1 v76.tiles v50.1).bind fun v78 =>
        (z2I v76).bind fun v79 =>
        z0o (z2B w63 v78 v79) LFm (false, 0)
      else
        z0e (IntKind.i64.wrap (w63 + 1))
    else
      z0k <|
      some false
  else
    z0k <|
    (zpo).bind fun v88 =>
    some v88
instance {v47 : DFA × Tape} {v48 : List Hol × Int} {v50 : ByteArray × Tape} : Hd (z2Q v47 v48 v50) := ⟨fun w63 => ([(41, xI w63)], [])⟩
def z3D (a0 : List Int) (a1 : List Int) : Option (Bool) :=
  (z8E a0).bind fun v45 =>
  (z3u v45).bind fun v46 =>
  (z4M v46.2 v46.1 4).bind fun v47 =>
  (z6q v47.1).bind fun v48 =>
  if v48.2 = 0 then
    (z8E a1).bind fun v49 =>
    (z4p v49 v47.1.letters 8).bind fun v50 =>
    z0o (z2Q v47 v48 v50) LFm 0
  else
    some false
theorem z7E {a0 : List Int} {a1 : List Int} {r : Bool} (h : z3D a0 a1 = some r) : L 5 [.sl a0.length (a0.map fun x0 => .sc (.int .i64 x0)), .sl a1.length (a1.map fun x0 => .sc (.int .i64 x0))] = some (.sc (.bool r), [.dead, .dead]) := by
  have h := z4c h; unfold z3D at h; exact z4E zxW fn5 bd5
end
end
section
open Go
set_option maxRecDepth 100000
theorem zle {w : ByteArray} {m : Int} (hm : 1 <= m /\ m <= 6) : z6P w m = some (decide (w.size <= 2048) && w.data.toList.all (z6l m)) := by
  unfold z6P
  rw [if_neg (by omega), if_neg (by omega)]
  by_cases h : 2048 < (w.size : Int)
  · rw [if_pos h, show decide (w.size <= 2048) = false by simp; omega]; rfl
  rw [if_neg h, show decide (w.size <= 2048) = true by simp; omega, Bool.true_and]
  have hl : w.data.toList.length = w.size := by rw [Array.length_toList]; rfl
  rw [z5w (s := (0 : Int)) w.size (fun k => (k : Int)) (fun k => !z6l m (w.data.toList.getD k 0)) (fun _ => some false) (x := some true) rfl (by simp only [LFm]; omega)]
  · rw [z8J]
    simp only [Bool.not_not]
    rw [← hl, zcn]
    cases w.data.toList.all (z6l m) <;> rfl
  · intro k hk
    have hb : w[k].toNat < 256 := w[k].toNat_lt
    simp only [z5I]
    rw [if_pos (by omega), zam hk]
    simp only [Option.bind_some]
    rw [← z8h hk]
    by_cases h1 : (w[k].toNat : Int) < 97
    · have : z6l m w[k] = false := by simp only [z6l, Bool.and_eq_false_iff, decide_eq_false_iff_not]; omega
      simp only [h1, this, Bool.not_false, if_true]
    · rw [if_neg h1, zao (by omega) hb]
      by_cases h2 : m <= ((w[k].toNat - 97 : Nat) : Int)
      · have : z6l m w[k] = false := by simp only [z6l, Bool.and_eq_false_iff, decide_eq_false_iff_not]; omega
        simp only [h2, this, Bool.not_false, if_true]
      · have : z6l m w[k] = true := by simp only [z6l, Bool.and_eq_true, decide_eq_true_eq]; omega
        rw [if_neg h2, this, if_neg (by simp), z0W (by omega)]
  · simp only [z5I]
    rw [if_neg (by omega)]
theorem zlf {d : DFA} {m n : Nat} (hd : DfaOk d m n) (hn : n <= 12) {s : Nat} (hs : s < 2 ^ n) {w : ByteArray} (hw : zdV m w) : z5A d (s : Int) w = some (((z2U d s w.data.toList : Nat) : Int), 0) := by
  have hv : (decide (w.size <= 2048) && w.data.toList.all (z6l (m : Int))) = true := by
    rw [Bool.and_eq_true, decide_eq_true_eq, List.all_eq_true]
    refine ⟨hw.1, fun c hc => ?_⟩
    have := hw.2 c hc
    simp only [z6l, Bool.and_eq_true, decide_eq_true_eq]; omega
  unfold z5A
  rw [zbM (zpN hd hn), zpC hd hn]
  simp only [Option.bind_some, if_true]
  rw [zoT hd hn]
  simp only [Option.bind_some, decide_eq_true_eq]
  rw [if_pos ⟨by omega, by omega⟩, hd.lt, zle ⟨by have := hd.m1; omega, by have := hd.m6; omega⟩, hv]
  simp only [Option.bind_some, if_true]
  rw [zh0 hd hn hs hw]
theorem znS {m : Nat} {w : ByteArray} (h : zeB (m : Int) w) : zfh m w.data.toList := fun c hc => by
  obtain ⟨k, hk, rfl⟩ := List.getElem_of_mem hc
  have hk' : k < w.size := by rw [Array.length_toList] at hk; exact hk
  have := h k hk'
  have e : w[k] = w.data.toList[k] := by rw [z8h hk', List.getD, List.getElem?_eq_getElem hk, Option.getD_some]
  rw [e] at this
  omega
theorem zsm (l : List Int) (w0 : l.length <= maxLen) (z0 : ∀ x ∈ l, (Lit.int .i64 x).wf = true) (v : List Int) (w1 : v.length <= maxLen) (z1 : ∀ x ∈ v, (Lit.int .i64 x).wf = true) : ∃ outs, L 5 [.sl l.length (l.map fun x => .sc (.int .i64 x)), .sl v.length (v.map fun x => .sc (.int .i64 x))] = some (bT true, outs) := by
  obtain ⟨t0, e0, h0⟩ := zpA l
  obtain ⟨m, t1, e1, m1, m2, h1⟩ := zkl h0
  obtain ⟨d, t2, n, e2, hd, hn, h2, h32, hs⟩ := zrj h1 m ⟨m1, m2⟩
  obtain ⟨t3, e3, h3⟩ := zpA v
  obtain ⟨w, t4, e4, wl, wsz, h4⟩ := zq3 h3 d.letters 8 (by rw [hd.lt]; omega) (by omega)
  rw [hd.lt] at wl
  have hwl := znS wl
  have hwB : zdV m w := ⟨by omega, hwl⟩
  have h128 : 2 ^ n <= 2 ^ 7 := Nat.pow_le_pow_right (n := 2) (by omega) hn
  have hS := zem hd
  obtain ⟨O, x1, o1, o2⟩ := zsr hd hn
  have hOl : O.length <= 32 := by
    rw [o2.length_eq]; unfold ziN
    refine Nat.le_trans (List.length_filter_le _ _) ?_
    rw [List.length_range]
    have := z7Y (z1M d m n (z3A d m n)) (z3A d m n).length
    omega
  have key : z3D l v = some true := by
    unfold z3D
    rw [e0, Option.bind_some, e1, Option.bind_some]
    simp only
    rw [e2, Option.bind_some]
    simp only
    rw [x1, Option.bind_some, if_pos rfl, e3, Option.bind_some, e4, Option.bind_some]
    refine z0K (s := (0 : Int)) O.length (fun k => (k : Int)) rfl (by simp only [LFm]; omega) (fun k hk => ?_) ?_
    · have hm := o2.mem_iff.1 (List.getElem_mem hk)
      unfold ziN at hm
      obtain ⟨hm1, hm2⟩ := List.mem_filter.1 hm
      have hcl := List.mem_range.1 hm1
      have hm3 : 0 < z7X d m n (z3A d m n) (z0R d m n (z3A d m n) O[k]) := of_decide_eq_true hm2
      obtain ⟨E, hE, hEm⟩ := zp3 hd hn hS hcl (zqT hm3) (fun x hx => zoj hd hx) h32 hs
      have hat : atI (O.map (z9D d m n (z3A d m n))) (k : Int) = some (z9D d m n (z3A d m n) O[k]) := by
        rw [z0S (by simpa using hk)]; simp
      have hk1 := (z1R hd hn hS hcl).2
      have hks := hS.lt _ (z0h hk1)
      have eset : (z9D d m n (z3A d m n) O[k]).set = (((z3A d m n).getD (z0R d m n (z3A d m n) O[k]) 0 : Nat) : Int) := rfl
      have etl : (z9D d m n (z3A d m n) O[k]).tiles = toI (z1e (z3A d m n) (z0R d m n (z3A d m n) O[k])) := rfl
      simp only [z2Q]
      rw [if_pos (by rw [List.length_map]; omega), hat, Option.bind_some, eset, zlf hd (by omega) hks hwB, Option.bind_some, if_pos rfl]
      simp only
      by_cases hr : z2U d ((z3A d m n).getD (z0R d m n (z3A d m n) O[k]) 0) w.data.toList = (z3A d m n).getD (z0R d m n (z3A d m n) O[k]) 0
      · have hL : Lead d m n ((z3A d m n).getD (z0R d m n (z3A d m n) O[k]) 0) ((z3A d m n).getD (z0R d m n (z3A d m n) O[k]) 0) w.data.toList := ⟨hwl, hks, hks, hr, rfl⟩
        obtain ⟨q1, q2⟩ := z5t hd hn hS hk1
        have htl := zo7 hd hn hS hk1
        have hin := zq4 hd hn hS hcl hE.nd hEm hwl hr
        have h1 := hE.len
        have hl : (E.map toI).length = E.length := List.length_map _
        rw [if_pos (by rw [hr]), etl, zoG hd (by omega) q1 (by omega) (fun t ht => (q2 t ht).2.2) hwB (zeh hd hn hS hk1 hL), Option.bind_some, hE.el, Option.bind_some]
        have hpl : (toI (z1B d w.data.toList (z1e (z3A d m n) (z0R d m n (z3A d m n) O[k])))).length <= 100000 := by rw [z0d, z5N]; omega
        have hin2 := zmC.2 hin
        generalize toI (z1B d w.data.toList (z1e (z3A d m n) (z0R d m n (z3A d m n) O[k]))) = p at *
        refine z0K (s := (false, (0 : Int))) E.length (fun t => (decide (p ∈ (E.map toI).take t), (t : Int))) (by simp) (by simp only [LFm]; omega) (fun t ht => ?_) ?_
        · have hatk : atI (E.map toI) (t : Int) = some (E.map toI)[t] := z0S (by simpa using ht)
          have hk' : t < (E.map toI).length := by omega
          simp only [z2B]
          rw [hl, if_pos (by omega), hatk, Option.bind_some, z0W (by omega), zo9 hk']
          cases hh : decide (p ∈ (E.map toI).take t) with
          | true => rw [if_pos rfl, Bool.true_or]
          | false => rw [if_neg (by simp), zon hpl, Option.bind_some, Bool.false_or]
        · simp only [z2B]
          rw [hl, if_neg (by omega), ← hl, List.take_length, decide_eq_true hin2, if_pos trivial, if_pos trivial, if_pos rfl, z0W (by omega)]
      · rw [if_neg (fun e => hr (by omega)), z0W (by omega)]
    · simp only [z2Q]
      rw [if_neg (by rw [List.length_map]; omega)]
      rfl
  exact ⟨_, z7E key⟩
end
section
open Go Go.RowKit Go.Sort
set_option maxRecDepth 100000
set_option maxHeartbeats 4000000
def zl1 (x : Fin 128) : Value := .int .i64 ((x.val : Nat) : Int)
def cfS (p r : Fin 128) : Int := if Lib.compareInt (szN r.val) (szN p.val) ≠ 0 then Lib.compareInt (szN r.val) (szN p.val) else Lib.compareInt (p.val : Nat) (r.val : Nat)
theorem ztD (k : Nat) (W : World) (hk : k < 128) : Calls Tryz.prog 114 #[.int .u64 (k : Int)] W fun e w' => e = .returned (.int .i64 (szN k)) /\ w' = W := by
  have h0 : (0 : Int) <= (k : Int) := by omega
  have h1 : (k : Int) < 128 := by omega
  go_enter Tryz.func114, Tryz.ntmps114
  go_wp2
  all_goals go_ret
  all_goals refine ⟨congrArg Ending.returned (congrArg (Value.int IntKind.i64) ?_), rfl⟩
  clear h0 h1
  revert k
  decide +kernel
theorem zs6 (k : Nat) (W : World) (hk : k < 128) : Calls Tryz.prog 97 #[.int .u64 (k : Int)] W fun e w' => e = .returned (.int .i64 (szN k)) /\ w' = W := by
  go_enter Tryz.func97, Tryz.ntmps97
  go_wp2_with (go_at_call 114; refine (ztD k _ hk).mono ?_; rintro e w' ⟨rfl, rfl⟩)
  go_ret
  exact ⟨rfl, rfl⟩
theorem zpu (k : Nat) (W : World) (hk : k < 128) : Calls Tryz.prog 78 #[.int .i64 (k : Int)] W fun e w' => e = .returned (.int .i64 (szN k)) /\ w' = W := by
  have hw : IntKind.u64.wrap (k : Int) = (k : Int) := by rw [IntKind.wrap_u64]; omega
  go_enter Tryz.func78, Tryz.ntmps78
  go_wp2_with (go_at_call 97; refine (zs6 k _ hk).mono ?_; rintro e w' ⟨rfl, rfl⟩)
  go_ret
  exact ⟨rfl, rfl⟩
theorem or2 (a b : Int) (g : Nat) (W : World) (ha : W.cell? ⟨g, 0, none⟩ = some (.int .i64 a)) (hb : W.cell? ⟨g, 1, none⟩ = some (.int .i64 b)) : Calls Tryz.prog 77 #[.slice (some ⟨g, 0, none⟩) 2 2] W fun e w' => e = .returned (.int .i64 (if a ≠ 0 then a else b)) /\ w' = W := by
  go_enter Tryz.func77, Tryz.ntmps77
  go_wp2
  go_loop [8] (fun vi => ∃ k : Nat, k <= 2 /\ vi = .int .i64 k /\ (0 < k -> a = 0) /\ (1 < k -> b = 0)) (fun vi => 2 - (intOf vi).toNat)
  case atStart => exact ⟨0, by omega, rfl, by omega, by omega⟩
  case round =>
    obtain ⟨k, hk, rfl, h1, h2⟩ := hrel
    rcases (by omega : k = 0 ∨ k = 1 ∨ k = 2) with rfl | rfl | rfl
    · clear h1 h2
      by_cases h : a = 0
      · subst h
        go_wp2
        go_round
        case rel => exact ⟨1, by omega, by go_num, by simp, by simp⟩
        case measure => simp [intOf]
      · go_wp2
        go_ret
        simp [h]
    · have h1 := h1 (by omega)
      clear h2
      subst h1
      by_cases h : b = 0
      · subst h
        go_wp2
        go_round
        case rel => exact ⟨2, by omega, by go_num, by simp, by simp⟩
        case measure => simp [intOf]
      · go_wp2
        go_ret
        simp
    · have h1 := h1 (by omega)
      have h2 := h2 (by omega)
      subst h1 h2
      go_wp2
      go_ret
      simp
theorem zv3 (x y : Fin 128) (W : World) : Calls Tryz.prog 76 #[zl1 x, zl1 y] W fun e w' => e = .returned (.int .i64 (cfS x y)) /\ ∃ q os', w' = grow (W.drewN q) os' := by
  obtain ⟨x, hx⟩ := x
  obtain ⟨y, hy⟩ := y
  unfold cfS zl1
  simp only
  generalize hc1 : Lib.compareInt (szN y) (szN x) = c1
  generalize hc2 : Lib.compareInt (x : Int) (y : Int) = c2
  have H1 := Lib.hid hc1
  have H2 := Lib.hid hc2
  clear hc1 hc2
  go_enter Tryz.func76, Tryz.ntmps76
  go_wp2_with (first | (go_at_call 78; first | (refine (zpu y _ hy).mono ?_; rintro e w' ⟨rfl, rfl⟩) | (refine (zpu x _ hx).mono ?_; rintro e w' ⟨rfl, rfl⟩)) | (go_at_call 59; refine (Tryz.cmp_Compare_int _ _ _).mono ?_; rintro e w' ⟨rfl, rfl⟩; first | rw [H1.out] | rw [H2.out]) | (go_at_call 77; refine (or2 c1 c2 _ _ ?_ ?_).mono ?_))
  · simp
  · simp
  all_goals go_ret
  all_goals exact ⟨rfl, 0, #[_], alloc_eq_grow _ _⟩
theorem znj (a b : Int) : Lib.compareInt a b < 0 ↔ a < b := by unfold Lib.compareInt; split <;> (try split) <;> omega
theorem zpP (a b : Int) : Lib.compareInt a b = 0 ↔ a = b := by unfold Lib.compareInt; split <;> (try split) <;> omega
theorem zpD (p r : Fin 128) : ltOf cfS p r = true ↔ (szN r.val < szN p.val ∨ (szN r.val = szN p.val /\ p.val < r.val)) := by
  unfold ltOf cfS
  rw [decide_eq_true_iff]
  split
  · rename_i h
    have := (not_congr (zpP (szN r.val) (szN p.val))).1 h
    rw [znj]
    omega
  · rename_i h
    have := (zpP (szN r.val) (szN p.val)).1 (by simpa using h)
    rw [znj]
    omega
theorem zmE (p r : Fin 128) : ltOf cfS p r = false ↔ ¬ (szN r.val < szN p.val ∨ (szN r.val = szN p.val /\ p.val < r.val)) := by
  rw [← zpD]; simp
theorem zwv : SWO (ltOf cfS) where
  irrefl x := by rw [zmE]; omega
  trans x y z h1 h2 := by rw [zpD] at *; omega
  ntrans x y z h1 h2 := by rw [zmE] at *; omega
theorem zeF (a b : Int) : leI a b = true ↔ (szN b.toNat < szN a.toNat ∨ (szN a.toNat = szN b.toNat /\ a.toNat <= b.toNat)) := by
  unfold leI zpX; simp
theorem zcJ (x : Int) : ∀ l : List Int, (zoV x l).Perm (x :: l)
  | [] => .refl _
  | y :: l => by
    unfold zoV
    split
    · exact .refl _
    · exact ((zcJ x l).cons y).trans (.swap x y l)
theorem zaH : ∀ l : List Int, (z9Q l).Perm l
  | [] => .refl _
  | x :: l => (zcJ x (z9Q l)).trans ((zaH l).cons x)
theorem zcI (x : Int) : ∀ l : List Int, l.Pairwise (fun a b => leI a b = true) -> (zoV x l).Pairwise (fun a b => leI a b = true)
  | [], _ => by simp [zoV]
  | y :: l, h => by
    unfold zoV
    rw [List.pairwise_cons] at h
    split
    · rename_i hxy
      refine List.pairwise_cons.2 ⟨fun z hz => ?_, List.pairwise_cons.2 h⟩
      rcases List.mem_cons.1 hz with rfl | hz
      · exact hxy
      · have := h.1 z hz
        rw [zeF] at *
        omega
    · rename_i hxy
      refine List.pairwise_cons.2 ⟨fun z hz => ?_, zcI x l h.2⟩
      rcases List.mem_cons.1 ((zcJ x l).mem_iff.1 hz) with rfl | hz
      · rw [zeF] at *
        omega
      · exact h.1 z hz
theorem zb5 : ∀ l : List Int, (z9Q l).Pairwise (fun a b => leI a b = true)
  | [] => by simp [z9Q]
  | x :: l => zcI x _ (zb5 l)
theorem z8V : ∀ {l1 l2 : List Int}, l1.Perm l2 -> (∀ x ∈ l1, 0 <= x) -> l1.Pairwise (fun a b => leI a b = true) -> l2.Pairwise (fun a b => leI a b = true) -> l1 = l2
  | [], l2, h, _, _, _ => by rw [List.nil_perm] at h; exact h.symm
  | a :: l1, [], h, _, _, _ => by simp at h
  | a :: l1, b :: l2, h, h0, h1, h2 => by
    have hab : a = b := by
      rcases List.mem_cons.1 (h.mem_iff.1 (List.mem_cons_self ..)) with e | ha
      · exact e
      · rcases List.mem_cons.1 (h.mem_iff.2 (List.mem_cons_self ..)) with e | hb
        · exact e.symm
        · have e1 := (List.pairwise_cons.1 h2).1 a ha
          have e2 := (List.pairwise_cons.1 h1).1 b hb
          have p1 := h0 a (List.mem_cons_self ..)
          have p2 := h0 b (h.mem_iff.2 (List.mem_cons_self ..))
          rw [zeF] at e1 e2
          omega
    subst hab
    rw [z8V (List.perm_cons a |>.1 h) (fun x hx => h0 x (List.mem_cons_of_mem _ hx)) (List.pairwise_cons.1 h1).2 (List.pairwise_cons.1 h2).2]
def toF (x : Int) : Fin 128 := ⟨x.toNat % 128, Nat.mod_lt _ (by decide)⟩
def ofF (f : Fin 128) : Int := (f.val : Int)
theorem zpr {x : Int} (h : 0 <= x /\ x < 128) : ofF (toF x) = x := by simp only [ofF, toF]; omega
def ztE (B : Nat) (K : Nat -> z0a) (b : Nat) : z0a := if B <= b then [0] else K b
theorem zhk {xs : List Int} (hx : ∀ x ∈ xs, 0 <= x /\ x < 128) {d' : Array (Fin 128)} (hp : PermIn 0 (xs.map toF).toArray.size (xs.map toF).toArray d') (hs : SortedIn (ltOf cfS) 0 (xs.map toF).toArray.size d') : d'.toList.map ofF = z9Q xs := by
  obtain ⟨h1, _, h3⟩ := hp
  have hsz : d'.size = xs.length := by simpa using h1
  have e1 : (xs.map toF).map ofF = xs := by
    rw [List.map_map]
    conv => rhs; rw [← List.map_id xs]
    exact List.map_congr_left fun x hxm => zpr (hx x hxm)
  have hp2 : d'.toList.Perm (xs.map toF) := by
    have : (d'.extract 0 (xs.map toF).toArray.size).toList = d'.toList := by
      rw [← h1]; simp
    rw [this] at h3
    simp at h3
    rwa [List.take_of_length_le (by simp)] at h3
  have hp3 : (d'.toList.map ofF).Perm xs := by
    have := hp2.map ofF
    rwa [e1] at this
  refine z8V (hp3.trans (zaH xs).symm) (fun x hxm => (hx x (hp3.mem_iff.1 hxm)).1) ?_ (zb5 xs)
  rw [List.pairwise_iff_getElem]
  intro i j hi hj hij
  simp only [List.length_map, Array.length_toList] at hi hj
  have := hs i j (by omega) hij (by simp; omega)
  rw [zmE, getElem!_pos d' i hi, getElem!_pos d' j hj] at this
  rw [zeF]
  simp only [List.getElem_map, Array.getElem_toList, ofF, Int.toNat_natCast]
  omega
theorem zj7 {w : World} {g n : Nat} {os : Array Obj} {cur : Array Value} {e : TypeId} {fr : Nat × Nat} (d : Array (Fin 128)) (hb : w.heap[g]? = some (.cells cur e fr)) : (sortWorld zl1 w g 0 n d os).heap[g]? = some (.cells (putCells zl1 0 d cur) e fr) := by
  unfold sortWorld
  rw [heap_grow_old _ _ (by rw [size_putRow]; exact z1w hb)]
  simp [putRow, mapBlock, Sort.ahead, Array.getElem?_modify, hb, onCells]
theorem zdM {w : World} {g n : Nat} {os : Array Obj} (d : Array (Fin 128)) {b : Nat} (hb : b < w.heap.size) (hne : b ≠ g) : (sortWorld zl1 w g 0 n d os).heap[b]? = w.heap[b]? := by
  unfold sortWorld
  rw [heap_grow_old _ _ (by rw [size_putRow]; exact hb)]
  simp [putRow, mapBlock, Sort.ahead, Array.getElem?_modify, Ne.symm hne]
theorem zoi {w : World} {g n : Nat} {os : Array Obj} (d : Array (Fin 128)) : w.heap.size <= (sortWorld zl1 w g 0 n d os).heap.size := by
  unfold sortWorld
  rw [size_grow, size_putRow]
  show w.heap.size <= w.heap.size + _
  omega
theorem zh6 {I : World -> (Nat -> z0a) -> Prop} {args : List T} {r : T} {outs : List T} (h : znO 76 args = some (r, outs)) : CallOk Tryz.prog I 75 args r outs := by
  unfold znO at h
  split at h
  case h_2 => cases h
  rename_i n cs f fs gs
  split at h
  case isFalse => cases h
  rename_i hfg
  obtain ⟨rfl, hfs, hgs⟩ := hfg
  simp only [Array.isEmpty_iff] at hfs hgs
  subst hfs hgs
  split at h
  case h_2 => cases h
  rename_i xs hxs
  split at h
  case isFalse => cases h
  rename_i hn
  subst hn
  unfold zhb at h
  split at h
  case isFalse => cases h
  rename_i hc
  obtain ⟨hne, hlen, hall⟩ := hc
  have hx : ∀ x ∈ xs, 0 <= x /\ x < 128 := by simpa using hall
  obtain ⟨rfl, rfl⟩ : T.tup [] = r /\ [T.os 1 (z9Q xs).length ((z9Q xs).map fun x => .sc (.int .i64 x)), .dead] = outs := by simpa using h
  have hcs := z7U hxs
  subst hcs
  clear h hxs hall
  refine ⟨fun vals w => ?_, fun w K vals hs ha hI => ?_⟩
  · have hb : ∃ c, Tryz.f75.body = some c := ⟨_, rfl⟩
    obtain ⟨c, hb⟩ := hb
    have hname : Tryz.f75.name ≠ "runtime.NumGoroutine" := by decide
    simp [callFunc, program, Sem.run, Tryz.func75, hname, hb]
  · obtain ⟨v, u, rfl⟩ : ∃ v u, vals = #[v, u] := by
      obtain ⟨l⟩ := vals
      match l, hs with
      | [v, u], _ => exact ⟨v, u, rfl⟩
    have hv : TRep w K (col 0) v (.os 1 xs.length (xs.map fun x => .sc (.int .i64 x))) := ha 0 _ rfl
    have hu : TRep w K [] u (.sc (.func (.func 76) #[] #[])) := ha 1 _ rfl
    rw [hu.sc_eq]
    clear hu ha
    have hl0 : 0 < xs.length := List.length_pos_iff.2 hne
    generalize hT : T.os 1 xs.length (xs.map fun x => T.sc (.int .i64 x)) = t at hv
    cases hv with
    | nil => injection hT with _ e _; omega
    | own c g n cap size cs arr e fz F hfz hc0 hK hg hsz hl hz hn hcap hF hh =>
      injection hT with e1 e2 e3
      subst e1 e2 e3
      have hcell : ∀ j (hj : j < xs.length), arr[j]? = some (.int .i64 xs[j]) := fun j hj => by
        rw [hF j (by simpa using hj)]
        have := hh j (.sc (.int .i64 xs[j])) (by simp [hj])
        rw [this.sc_eq]
      have hH : Holds zl1 w g 0 (xs.map toF).toArray := fun j hj => by
        have hj' : j < xs.length := by simpa using hj
        constructor
        · rw [Nat.zero_add, z3h hg, hcell j hj', getElem!_pos _ j hj]
          simp only [zl1, List.getElem_toArray, List.getElem_map]
          have := zpr (hx _ (List.getElem_mem hj'))
          unfold ofF at this
          rw [this]
        · unfold World.frozen?
          rw [Nat.zero_add]
          simp only [hg]
          have := hfz j (by omega)
          obtain ⟨lo, hi⟩ := fz
          simp only at this ⊢
          simp only [Bool.and_eq_false_iff, decide_eq_false_iff_not]
          omega
      have eg : ∀ args w, (callFunc 76 args).run Tryz.prog w = .ok (.enter 76 args) w := enters_of Tryz.func76 (by kernel_rfl) rfl
      have hcmp : CmpLays1 Tryz.prog 76 #[] zl1 cfS g 0 (xs.map toF).toArray.size w := fun m os dk _ x y => zv3 x y _
      have hcon := Tryz.slices_SortFunc_f75 zl1 (fun _ => rfl) cfS zwv 76 #[] g 0 cap (xs.map toF).toArray w eg hcmp hH (z1w hg) (by simpa using hlen)
      have hsize : (xs.map toF).toArray.size = xs.length := by simp
      rw [hsize] at hcon
      refine hcon.mono fun e' w' ⟨he, d', m, os, hp, hso, hw⟩ => ?_
      subst hw
      have hsort := zhk hx (by rw [hsize]; exact hp) (by rw [hsize]; exact hso)
      have hd : d'.size = xs.length := by have := hp.1; simpa using this
      have hys : (z9Q xs).length = xs.length := (zaH xs).length_eq
      refine ⟨.tuple #[], ztE w.heap.size K, he, ?_, fun i t hi hio => ?_, rfl, rfl, rfl, zoi d', fun b hb hcb => ⟨by unfold ztE; rw [if_neg (by omega)], zdM d' hb ?_⟩, ?_⟩
      · exact .tup _ #[] [] (fun _ => undef) rfl (fun j hj => by simp at hj) (fun j t ht => by simp at ht)
      · match i, hi with
        | 0, hi =>
          refine ⟨_, rfl, ?_⟩
          show TRep _ _ (col 0) (.slice (some ⟨g, 0, none⟩) xs.length cap) _
          rw [← hys]
          refine .own (col 0) g _ cap 1 _ (putCells zl1 0 d' arr) e fz (fun j => .int .i64 ((z9Q xs).getD j 0)) (fun i hi => hfz i (by simpa [putCells] using hi)) (by simp [col]) (by unfold ztE; rw [if_neg (by have := z1w hg; omega)]; exact hK) (zj7 d' hg) (by simpa [putCells] using hsz) (by simp) (by omega) (by omega) hcap (fun j hj => ?_) (fun j t ht => ?_)
          · have hj' : j < xs.length := by simpa [hys] using hj
            have hja : j < arr.size := (Array.getElem?_eq_some_iff.1 (hcell j hj')).1
            have hjd : j < d'.size := by omega
            simp only [putCells, Array.getElem?_mapIdx, hcell j hj', Option.map_some]
            rw [if_pos (by omega), Nat.sub_zero, getElem!_pos d' j hjd]
            have : (z9Q xs).getD j 0 = ofF d'[j] := by
              rw [← hsort]; simp [List.getD, hjd]
            rw [this]; rfl
          · simp only [List.getElem?_map, Option.map_eq_some_iff] at ht
            obtain ⟨x, hx', rfl⟩ := ht
            simp only [List.getD, hx']
            exact .sc _ _ rfl
        | 1, hi => cases hi; cases hio
      · rintro rfl
        rw [hK] at hcb
        simp [col] at hcb
      · intro b arr0 e0 fz0 hb0
        by_cases hbg : b = g
        · subst hbg
          rw [hg] at hb0
          cases hb0
          exact ⟨_, _, _, zj7 d' hg, by simp [putCells]⟩
        · exact ⟨_, _, _, (zdM d' (z1w hb0) hbg).trans hb0, rfl⟩
    | _ => cases hT
theorem zl7 {I : World -> (Nat -> z0a) -> Prop} : z9B Tryz.prog I xtC := by
  intro f args r outs h
  unfold xtC at h
  split at h
  case isTrue hf => subst hf; exact zh6 h
  split at h
  case isTrue hf => subst hf; exact zh7 h
  split at h
  case isTrue hf => subst hf; exact zfm h
  split at h
  case isTrue hf => subst hf; exact zfn h
  cases h
end
section
structure StOk (ops : Array Oper) (t : SchT) (L : Array Bool) (d : Nat) (ns : List Nat) : Prop where
  ord : z3j .any ops true t L = true
  dep : t.depth = d
  nx : ∀ z ∈ t.nexts, z ∈ ns
structure BrOk (ops : Array Oper) (t : SchT) (L : Array Bool) (d : Nat) (ns hs : List Nat) : Prop where
  ord : z3j .any ops false t L = true
  dep : t.depth = d
  nx : ∀ z ∈ t.nexts, z ∈ ns
  hd : ∀ i ∈ hs, i ∈ t.heads
theorem zpt {ops : Array Oper} {L : Array Bool} (h : decide (Region.ready .any ops L = []) = true) : StOk ops .nil L 0 [] := ⟨by simp only [z3j, h, Bool.and_true], rfl, fun z hz => by simp [SchT.nexts] at hz⟩
theorem zwx {ops : Array Oper} {k m : Nat} {rest : SchT} {L L' : Array Bool} {d : Nat} {ns : List Nat} (h : StOk ops rest L' d ns) (hL : L.setIfInBounds k true = L')
    (hc : ((m == 0 || m == 3) && (Region.ready .any ops L).contains k && Region.free .any ops L k && !(ns.contains k) && (m == 3 || ns.all fun z => (zrk .any ops ops.size [z]).contains k)) = true) : StOk ops (.op k m rest) L (d + 1) ns := by
  simp only [Bool.and_eq_true, Bool.or_eq_true, Bool.not_eq_true', beq_iff_eq] at hc
  obtain ⟨⟨⟨⟨h1, h2⟩, h3⟩, h4⟩, h5⟩ := hc
  have hm2 : ¬ m = 2 := by omega
  have hk : k ∉ ns := by simpa using h4
  refine ⟨?_, by simp only [SchT.depth, h.dep], fun z hz => h.nx z (by simpa only [SchT.nexts, if_neg hm2] using hz)⟩
  simp only [z3j]
  rw [if_pos (by simpa using h1), hL, h.ord, h2, h3]
  have h6 : rest.nexts.contains k = false := by
    rw [Bool.eq_false_iff]
    intro hh
    exact hk (h.nx k (by simpa using hh))
  rw [h6]
  simp only [Bool.not_false, Bool.and_self, Bool.true_and, Bool.and_true, Bool.or_eq_true, beq_iff_eq]
  rcases h5 with h5 | h5
  · exact .inl h5
  · exact .inr (List.all_eq_true.2 fun z hz => List.all_eq_true.1 h5 z (h.nx z hz))
theorem zwy {ops : Array Oper} {k m : Nat} {rest : SchT} {L L' : Array Bool} {d : Nat} {ns ns' : List Nat} (h : StOk ops rest L' d ns) (hL : L.setIfInBounds k true = L')
    (hc : ((m == 1 || m == 2) && decide (Region.ready .any ops L = [k])) = true) (hn : (if m = 2 then [k] else ns) = ns') : StOk ops (.op k m rest) L (d + 1) ns' := by
  subst hn
  simp only [Bool.and_eq_true, Bool.or_eq_true, beq_iff_eq] at hc
  obtain ⟨h1, h2⟩ := hc
  refine ⟨?_, by simp only [SchT.depth, h.dep], fun z hz => ?_⟩
  · simp only [z3j]
    rw [if_neg (by omega), hL, h.ord, h2]
    simp [h1]
  · simp only [SchT.nexts] at hz
    split at hz
    · rename_i e; rw [if_pos e]; exact hz
    · rename_i e; rw [if_neg e]; exact h.nx z hz
theorem zyR {ops : Array Oper} {k m : Nat} {rest : SchT} {L L' : Array Bool} {d : Nat} {ns ns' : List Nat} (h : StOk ops rest L' d ns) (hL : L.setIfInBounds k true = L')
    (hc : ((m == 1 || m == 2) && (Region.ready .any ops L).contains k) = true) (hn : (if m = 2 then [k] else ns) = ns') : BrOk ops (.op k m rest) L (d + 1) ns' [k] := by
  subst hn
  simp only [Bool.and_eq_true, Bool.or_eq_true, beq_iff_eq] at hc
  obtain ⟨h1, h2⟩ := hc
  refine ⟨?_, by simp only [SchT.depth, h.dep], fun z hz => ?_, fun i hi => by simpa [SchT.heads] using hi⟩
  · simp only [z3j]
    rw [if_neg (by simp), hL, h.ord, h2]
    simp [h1]
  · simp only [SchT.nexts] at hz
    split at hz
    · rename_i e; rw [if_pos e]; exact hz
    · rename_i e; rw [if_neg e]; exact h.nx z hz
theorem z0r {ops : Array Oper} {a b : SchT} {L : Array Bool} {d : Nat} {n1 n2 h1 h2 : List Nat} (ha : BrOk ops a L d n1 h1) (hb : BrOk ops b L d n2 h2) : BrOk ops (.alt a b) L d (n1 ++ n2) (h1 ++ h2) := by
  refine ⟨?_, by simp only [SchT.depth, ha.dep], fun z hz => ?_, fun i hi => ?_⟩
  · simp only [z3j, ha.ord, hb.ord, ha.dep, hb.dep]; simp
  · simp only [SchT.nexts, List.mem_append] at hz ⊢
    exact hz.imp (ha.nx z) (hb.nx z)
  · simp only [SchT.heads, List.mem_append] at hi ⊢
    exact hi.imp (ha.hd i) (hb.hd i)
theorem zrM {ops : Array Oper} {a b : SchT} {L : Array Bool} {d : Nat} {ns ns' hs : List Nat} (h : BrOk ops (.alt a b) L d ns hs) (hc : ((Region.ready .any ops L).all fun i => hs.contains i) = true) (hn : (ns.all fun z => ns'.contains z) = true) : StOk ops (.alt a b) L d ns' := by
  refine ⟨?_, h.dep, fun z hz => by simpa using List.all_eq_true.1 hn z (h.nx z hz)⟩
  have := h.ord
  simp only [z3j, Bool.and_eq_true, decide_eq_true_eq] at this ⊢
  obtain ⟨⟨⟨h1, h2⟩, h3⟩, h4⟩ := this
  refine ⟨⟨⟨?_, h2⟩, h3⟩, h4⟩
  simp only [Bool.not_true, Bool.false_or, decide_eq_true_eq]
  intro i hi
  have := List.all_eq_true.1 hc i hi
  exact h.hd i (by simpa using this)
def zd3 : Nat -> Nat -> List Bool
  | 0, _ => []
  | n + 1, k => (k % 2 == 1) :: zd3 n (k / 2)
def mB (n k : Nat) : Array Bool := ⟨zd3 n k⟩
theorem zjy : ∀ n k, (zd3 n k).length = n
  | 0, _ => rfl
  | n + 1, k => by simp [zd3, zjy n]
theorem zf6 : ∀ n k i (h : i < (zd3 n k).length), (zd3 n k)[i] = k.testBit i
  | 0, k, i, h => by simp [zd3] at h
  | n + 1, k, 0, h => by simp only [zd3, List.getElem_cons_zero, Nat.testBit_zero]; rfl
  | n + 1, k, i + 1, h => by
    simp only [zd3, List.getElem_cons_succ]
    rw [zf6 n (k / 2) i, Nat.testBit_succ]
theorem zmc {n a k : Nat} : (mB n a).setIfInBounds k true = mB n (a ||| 2 ^ k) := by
  apply Array.ext
  · simp [mB, zjy]
  · intro i h1 h2
    have e1 : i < (zd3 n a).length := by simpa [mB] using h1
    have e2 : i < (zd3 n (a ||| 2 ^ k)).length := by simpa [mB] using h2
    have b1 := zf6 n a i e1
    have b2 := zf6 n (a ||| 2 ^ k) i e2
    rw [Array.getElem_setIfInBounds]
    simp only [mB, List.getElem_toArray] at b1 b2 ⊢
    rw [b1, b2, Nat.testBit_or, Nat.testBit_two_pow]
    · by_cases h : k = i
      · simp [h]
      · simp [h]
    · simpa [mB] using e1
theorem sq {ops : Array Oper} {k m n a : Nat} {rest : SchT} {d : Nat} {ns : List Nat} (h : StOk ops rest (mB n (a ||| 2 ^ k)) d ns)
    (hc : ((m == 0 || m == 3) && (Region.ready .any ops (mB n a)).contains k && Region.free .any ops (mB n a) k && !(ns.contains k) && (m == 3 || ns.all fun z => (zrk .any ops ops.size [z]).contains k)) = true := by kernel_rfl) : StOk ops (.op k m rest) (mB n a) (d + 1) ns := zwx h zmc hc
theorem se {ops : Array Oper} {k m n a : Nat} {rest : SchT} {d : Nat} {ns ns' : List Nat} (h : StOk ops rest (mB n (a ||| 2 ^ k)) d ns)
    (hc : ((m == 1 || m == 2) && decide (Region.ready .any ops (mB n a) = [k])) = true := by kernel_rfl) (hn : (if m = 2 then [k] else ns) = ns' := by rfl) : StOk ops (.op k m rest) (mB n a) (d + 1) ns' := zwy h zmc hc hn
theorem be {ops : Array Oper} {k m n a : Nat} {rest : SchT} {d : Nat} {ns ns' : List Nat} (h : StOk ops rest (mB n (a ||| 2 ^ k)) d ns)
    (hc : ((m == 1 || m == 2) && (Region.ready .any ops (mB n a)).contains k) = true := by kernel_rfl) (hn : (if m = 2 then [k] else ns) = ns' := by rfl) : BrOk ops (.op k m rest) (mB n a) (d + 1) ns' [k] := zyR h zmc hc hn
theorem sa {ops : Array Oper} {a b : SchT} {L : Array Bool} {d : Nat} {ns ns' hs : List Nat} (h : BrOk ops (.alt a b) L d ns hs) (hc : ((Region.ready .any ops L).all fun i => hs.contains i) = true := by kernel_rfl) (hn : (ns.all fun z => ns'.contains z) = true := by rfl) : StOk ops (.alt a b) L d ns' := zrM h hc hn
def zhy (cf : Cfg) (sk : Nat -> Bool) : Code -> Bool
  | .region id ops draw => sk id || (!draw || (match cf.dt id with | some t => z9q ops t | none => (match cf.dr id with | some sch => zmx ops sch | none => true)))
  | .seq a b => zhy cf sk a && zhy cf sk b
  | .cond _ x y => zhy cf sk x && zhy cf sk y
  | .block _ c => zhy cf sk c
  | .loop c => zhy cf sk c
  | .scope c => zhy cf sk c
  | _ => true
def z4o (i : Nat) : Code -> List (Array Oper)
  | .region id ops _ => if Nat.beq id i then [ops] else []
  | .seq a b => z4o i a ++ z4o i b
  | .cond _ x y => z4o i x ++ z4o i y
  | .block _ c => z4o i c
  | .loop c => z4o i c
  | .scope c => z4o i c
  | _ => []
noncomputable def zgc (i : Nat) (c : Code) : Array Oper := match z4o i c with | x :: _ => x | [] => #[]
theorem zb8 {cf : Cfg} {sk : Nat -> Bool} : ∀ (c : Code), zhy cf sk c = true -> (∀ i, sk i = true -> ∃ t, cf.dt i = some t /\ ∀ o ∈ z4o i c, z9q o t = true) -> okC cf c = true
  | .region id ops draw, h, hs => by
    simp only [zhy, Bool.or_eq_true] at h
    simp only [okC, Bool.or_eq_true]
    rcases h with h | h
    · right
      obtain ⟨t, h1, h2⟩ := hs id h
      rw [h1]
      exact h2 ops (by simp [z4o])
    · exact h
  | .seq a b, h, hs => by
    simp only [zhy, Bool.and_eq_true] at h
    simp only [okC, Bool.and_eq_true]
    exact ⟨zb8 a h.1 fun i hi => by obtain ⟨t, h1, h2⟩ := hs i hi; exact ⟨t, h1, fun o ho => h2 o (by simp only [z4o, List.mem_append]; exact .inl ho)⟩,
      zb8 b h.2 fun i hi => by obtain ⟨t, h1, h2⟩ := hs i hi; exact ⟨t, h1, fun o ho => h2 o (by simp only [z4o, List.mem_append]; exact .inr ho)⟩⟩
  | .cond _ a b, h, hs => by
    simp only [zhy, Bool.and_eq_true] at h
    simp only [okC, Bool.and_eq_true]
    exact ⟨zb8 a h.1 fun i hi => by obtain ⟨t, h1, h2⟩ := hs i hi; exact ⟨t, h1, fun o ho => h2 o (by simp only [z4o, List.mem_append]; exact .inl ho)⟩,
      zb8 b h.2 fun i hi => by obtain ⟨t, h1, h2⟩ := hs i hi; exact ⟨t, h1, fun o ho => h2 o (by simp only [z4o, List.mem_append]; exact .inr ho)⟩⟩
  | .block _ c, h, hs => by simp only [okC]; exact zb8 c (by simpa only [zhy] using h) (by simpa only [z4o] using hs)
  | .loop c, h, hs => by simp only [okC]; exact zb8 c (by simpa only [zhy] using h) (by simpa only [z4o] using hs)
  | .scope c, h, hs => by simp only [okC]; exact zb8 c (by simpa only [zhy] using h) (by simpa only [z4o] using hs)
  | .skip, _, _ => rfl
  | .label .., _, _ => rfl
  | .exit .., _, _ => rfl
  | .ret, _, _ => rfl
  | .rangeFunc .., _, _ => rfl
  | .goto _, _, _ => rfl
  | .refuse _, _, _ => rfl
theorem zm5 {c : Code} {i : Nat} {t : SchT} {n : Nat} {ns : List Nat} {L : Array Bool} (hr : (z4o i c).length = 1) (hs : StOk (zgc i c) t L n ns) (hL : L = Array.replicate (zgc i c).toList.length false) (hd : (decide (n = (zgc i c).toList.length) && Region.noSelect (zgc i c)) = true) : ∀ o ∈ z4o i c, z9q o t = true := by
  intro o ho
  obtain ⟨x, hx⟩ : ∃ x, z4o i c = [x] := List.length_eq_one_iff.1 hr
  have e : zgc i c = x := by unfold zgc; rw [hx]
  rw [hx] at ho
  obtain rfl : o = x := by simpa using ho
  rw [e] at hs hL hd
  subst hL
  simp only [Bool.and_eq_true, decide_eq_true_eq] at hd
  unfold z9q
  simp only [Bool.and_eq_true, decide_eq_true_eq]
  exact ⟨⟨hs.dep.trans hd.1, hd.2⟩, hs.ord⟩
theorem zmw {P : Program} {f : FuncId} {cf : Cfg} {fn : Func} {c : Code} (l : List Nat) (hf : P.funcs[f]? = some fn) (hb : fn.body = some c) (hn : (fn.name != "runtime.NumGoroutine") = true) (h2 : zhy cf l.contains c = true)
    (ht : ∀ i ∈ l, ∃ t, cf.dt i = some t /\ ∀ o ∈ z4o i c, z9q o t = true) : z3z P f cf = true := by
  unfold z3z
  simp only [hf, hb, hn, Bool.true_and]
  exact zb8 c h2 fun j hj => ht j (by simpa using hj)
end
section
open Go
set_option maxRecDepth 100000
theorem zxR : z3z Tryz.prog 5 cf5 = true := by kernel_rfl
theorem zxQ : z3z Tryz.prog 6 cf6 = true := by kernel_rfl
noncomputable abbrev z0v : Array Oper := (zgc 7 cd7)
theorem zlm : StOk z0v zif (mB 17 131071) 0 [] := zpt (by kernel_rfl)
theorem zln : StOk z0v zig (mB 17 65535) 1 [16] := se zlm
theorem zlo : StOk z0v zih (mB 17 32767) 2 [16] := sq zln
theorem zlp : StOk z0v zii (mB 17 16383) 3 [14] := se zlo
theorem zfr : StOk z0v zdX (mB 17 12287) 4 [12] := se zlp
theorem zfs : StOk z0v zdY (mB 17 10239) 5 [12] := se zfr
theorem zft : StOk z0v zdZ (mB 17 4095) 5 [12] := sq zfr
theorem z9G : StOk z0v z9K (mB 17 4031) 6 [6] := se zft
theorem zfu : StOk z0v ze0 (mB 17 3839) 6 [8] := se zft
theorem zlq : StOk z0v zij (mB 17 9215) 6 [12] := se zfs
theorem zfv : StOk z0v ze1 (mB 17 2047) 6 [12] := sq zfs
theorem zbN : StOk z0v zbi (mB 17 4029) 7 [1] := se z9G
theorem z9H : StOk z0v z9L (mB 17 3999) 7 [6] := se z9G
theorem zbO : StOk z0v zbj (mB 17 3775) 7 [6, 8] := sa (z0r (be zfu) (be z9G))
theorem z9I : StOk z0v z9M (mB 17 1983) 7 [6] := sa (z0r (be zfv) (be z9G))
theorem zfw : StOk z0v ze2 (mB 17 1791) 7 [8] := sa (z0r (be zfv) (be zfu))
theorem zfx : StOk z0v ze3 (mB 17 1023) 7 [12] := sq zlq
theorem zbP : StOk z0v zbk (mB 17 3997) 8 [1] := sa (z0r (be z9H) (be zbN))
theorem zfy : StOk z0v ze4 (mB 17 3773) 8 [1, 8] := sa (z0r (be zbO) (be zbN))
theorem zbQ : StOk z0v zbl (mB 17 1981) 8 [1] := sa (z0r (be z9I) (be zbN))
theorem zlr : StOk z0v zik (mB 17 3983) 8 [6] := sq z9H
theorem zbR : StOk z0v zbm (mB 17 3743) 8 [6, 8] := sa (z0r (be zbO) (be z9H))
theorem z9J : StOk z0v z9N (mB 17 1951) 8 [6] := sa (z0r (be z9I) (be z9H))
theorem zbS : StOk z0v zbn (mB 17 1727) 8 [6, 8] := sa (z0r (be zfw) (z0r (be z9I) (be zbO)))
theorem zbT : StOk z0v zbo (mB 17 959) 8 [6] := sa (z0r (be zfx) (be z9I))
theorem zls : StOk z0v zil (mB 17 767) 8 [8] := sa (z0r (be zfx) (be zfw))
theorem zlt : StOk z0v zim (mB 17 3981) 9 [1] := sq zbP
theorem zfz : StOk z0v ze5 (mB 17 3741) 9 [1, 8] := sa (z0r (be zbR) (z0r (be zfy) (be zbP)))
theorem zbU : StOk z0v zbp (mB 17 1949) 9 [1] := sa (z0r (be z9J) (z0r (be zbQ) (be zbP)))
theorem zfA : StOk z0v ze6 (mB 17 1725) 9 [1, 8] := sa (z0r (be zbS) (z0r (be zbQ) (be zfy)))
theorem zfB : StOk z0v ze7 (mB 17 957) 9 [1] := sa (z0r (be zbT) (be zbQ))
theorem zbV : StOk z0v zbq (mB 17 3975) 9 [6] := se zlr
theorem zlu : StOk z0v zin (mB 17 3727) 9 [6, 8] := sq zbR
theorem zlv : StOk z0v zio (mB 17 1935) 9 [6] := sq z9J
theorem zbW : StOk z0v zbr (mB 17 1695) 9 [6, 8] := sa (z0r (be zbS) (z0r (be z9J) (be zbR)))
theorem zbX : StOk z0v zbs (mB 17 927) 9 [6] := sa (z0r (be zbT) (be z9J))
theorem zfC : StOk z0v ze8 (mB 17 703) 9 [6, 8] := sa (z0r (be zls) (z0r (be zbT) (be zbS)))
theorem zfD : StOk z0v ze9 (mB 17 3973) 10 [1] := sa (z0r (be zbV) (be zlt))
theorem zlw : StOk z0v zip (mB 17 3725) 10 [1, 8] := sq zfz
theorem zlx : StOk z0v ziq (mB 17 1933) 10 [1] := sq zbU
theorem zfE : StOk z0v zea (mB 17 1693) 10 [1, 8] := sa (z0r (be zbW) (z0r (be zfA) (z0r (be zbU) (be zfz))))
theorem zfF : StOk z0v zeb (mB 17 925) 10 [1] := sa (z0r (be zbX) (z0r (be zfB) (be zbU)))
theorem zly : StOk z0v zir (mB 17 701) 10 [1, 8] := sa (z0r (be zfC) (z0r (be zfB) (be zfA)))
theorem zfG : StOk z0v zec (mB 17 3719) 10 [6, 8] := sa (z0r (be zlu) (be zbV))
theorem zbY : StOk z0v zbt (mB 17 1927) 10 [6] := sa (z0r (be zlv) (be zbV))
theorem zlz : StOk z0v zis (mB 17 1679) 10 [6, 8] := sq zbW
theorem zlA : StOk z0v zit (mB 17 911) 10 [6] := sq zbX
theorem zfH : StOk z0v zed (mB 17 671) 10 [6, 8] := sa (z0r (be zfC) (z0r (be zbX) (be zbW)))
theorem zlB : StOk z0v ziu (mB 17 3717) 11 [1, 8] := sa (z0r (be zfG) (z0r (be zlw) (be zfD)))
theorem zfI : StOk z0v zee (mB 17 1925) 11 [1] := sa (z0r (be zbY) (z0r (be zlx) (be zfD)))
theorem zlC : StOk z0v ziv (mB 17 1677) 11 [1, 8] := sq zfE
theorem zlD : StOk z0v ziw (mB 17 909) 11 [1] := sq zfF
theorem zlE : StOk z0v zix (mB 17 669) 11 [1, 8] := sa (z0r (be zfH) (z0r (be zly) (z0r (be zfF) (be zfE))))
theorem zfJ : StOk z0v zef (mB 17 1671) 11 [6, 8] := sa (z0r (be zlz) (z0r (be zbY) (be zfG)))
theorem zfK : StOk z0v zeg (mB 17 903) 11 [6] := sa (z0r (be zlA) (be zbY))
theorem znX : StOk z0v zlF (mB 17 655) 11 [6, 8] := sq zfH
theorem znY : StOk z0v zlG (mB 17 1669) 12 [1, 8] := sa (z0r (be zfJ) (z0r (be zlC) (z0r (be zfI) (be zlB))))
theorem znZ : StOk z0v zlH (mB 17 901) 12 [1] := sa (z0r (be zfK) (z0r (be zlD) (be zfI)))
theorem zo0 : StOk z0v zlI (mB 17 653) 12 [1, 8] := sq zlE
theorem zo1 : StOk z0v zlJ (mB 17 647) 12 [6, 8] := sa (z0r (be znX) (z0r (be zfK) (be zfJ)))
theorem zo2 : StOk z0v zlK (mB 17 645) 13 [1, 8] := sa (z0r (be zo1) (z0r (be zo0) (z0r (be znZ) (be znY))))
theorem zo3 : StOk z0v zlL (mB 17 133) 14 [1, 8] := sq zo2
theorem zo4 : StOk z0v zlM (mB 17 5) 15 [1, 8] := sq zo3
theorem zo5 : StOk z0v zlN (mB 17 1) 16 [1, 8] := sq zo4
theorem zo6 : StOk z0v zlO (mB 17 0) 17 [1, 8] := sq zo5
set_option maxHeartbeats 0 in
theorem zxP : z3z Tryz.prog 7 cf7 = true := zmw [7] fn7 bd7 rfl (by kernel_rfl) (by simp only [List.forall_mem_cons]; exact ⟨⟨_, rfl, zm5 (by kernel_rfl) zo6 (by kernel_rfl) (by kernel_rfl)⟩, fun _ h => by cases h⟩)
theorem zxO : z3z Tryz.prog 8 cf8 = true := by kernel_rfl
theorem zxN : z3z Tryz.prog 9 cf9 = true := by kernel_rfl
theorem zv2 : z3z Tryz.prog 12 cf12 = true := by kernel_rfl
theorem zv1 : z3z Tryz.prog 13 cf13 = true := by kernel_rfl
theorem zv0 : z3z Tryz.prog 14 cf14 = true := by kernel_rfl
theorem zuZ : z3z Tryz.prog 15 cf15 = true := by kernel_rfl
theorem zuY : z3z Tryz.prog 16 cf16 = true := by kernel_rfl
theorem zuX : z3z Tryz.prog 17 cf17 = true := by kernel_rfl
theorem zuW : z3z Tryz.prog 18 cf18 = true := by kernel_rfl
theorem zuV : z3z Tryz.prog 19 cf19 = true := by kernel_rfl
theorem zuU : z3z Tryz.prog 20 cf20 = true := by kernel_rfl
theorem zuT : z3z Tryz.prog 21 cf21 = true := by kernel_rfl
theorem zuS : z3z Tryz.prog 22 cf22 = true := by kernel_rfl
theorem zuR : z3z Tryz.prog 25 cf25 = true := by kernel_rfl
theorem zuQ : z3z Tryz.prog 26 cf26 = true := by kernel_rfl
theorem zuP : z3z Tryz.prog 27 cf27 = true := by kernel_rfl
theorem zuO : z3z Tryz.prog 28 cf28 = true := by kernel_rfl
noncomputable abbrev z0w : Array Oper := (zgc 10 zwm)
theorem zhc : StOk z0w zdt (mB 14 16383) 0 [] := zpt (by kernel_rfl)
theorem zbZ : StOk z0w zaq (mB 14 8191) 1 [13] := se zhc
theorem z7o : StOk z0w z6Q (mB 14 6143) 2 [13] := sq zbZ
theorem zhd : StOk z0w zdu (mB 14 4095) 2 [13] := se zbZ
theorem z7p : StOk z0w z6R (mB 14 6127) 3 [13] := se z7o
theorem z7q : StOk z0w z6S (mB 14 6079) 3 [13] := se z7o
theorem z7r : StOk z0w z6T (mB 14 5887) 3 [13] := se z7o
theorem z7s : StOk z0w z6U (mB 14 5119) 3 [13] := se z7o
theorem z7t : StOk z0w z6V (mB 14 2047) 3 [13] := sq zhd
theorem z9c : StOk z0w z8o (mB 14 6063) 4 [13] := sa (z0r (be z7q) (be z7p))
theorem z9d : StOk z0w z8p (mB 14 5871) 4 [13] := sa (z0r (be z7r) (be z7p))
theorem z9e : StOk z0w z8q (mB 14 5103) 4 [13] := sa (z0r (be z7s) (be z7p))
theorem z9f : StOk z0w z8r (mB 14 2031) 4 [13] := sa (z0r (be z7t) (be z7p))
theorem z9g : StOk z0w z8s (mB 14 5823) 4 [13] := sa (z0r (be z7r) (be z7q))
theorem z9h : StOk z0w z8t (mB 14 5055) 4 [13] := sa (z0r (be z7s) (be z7q))
theorem z9i : StOk z0w z8u (mB 14 1983) 4 [13] := sa (z0r (be z7t) (be z7q))
theorem z9j : StOk z0w z8v (mB 14 4863) 4 [13] := sa (z0r (be z7s) (be z7r))
theorem z9k : StOk z0w z8w (mB 14 1791) 4 [13] := sa (z0r (be z7t) (be z7r))
theorem z9l : StOk z0w z8x (mB 14 1023) 4 [13] := sa (z0r (be z7t) (be z7s))
theorem zc0 : StOk z0w zar (mB 14 5807) 5 [13] := sa (z0r (be z9g) (z0r (be z9d) (be z9c)))
theorem zc1 : StOk z0w zas (mB 14 5039) 5 [13] := sa (z0r (be z9h) (z0r (be z9e) (be z9c)))
theorem zc2 : StOk z0w zat (mB 14 1967) 5 [13] := sa (z0r (be z9i) (z0r (be z9f) (be z9c)))
theorem zc3 : StOk z0w zau (mB 14 4847) 5 [13] := sa (z0r (be z9j) (z0r (be z9e) (be z9d)))
theorem zc4 : StOk z0w zav (mB 14 1775) 5 [13] := sa (z0r (be z9k) (z0r (be z9f) (be z9d)))
theorem zc5 : StOk z0w zaw (mB 14 1007) 5 [13] := sa (z0r (be z9l) (z0r (be z9f) (be z9e)))
theorem zc6 : StOk z0w zax (mB 14 4799) 5 [13] := sa (z0r (be z9j) (z0r (be z9h) (be z9g)))
theorem zc7 : StOk z0w zay (mB 14 1727) 5 [13] := sa (z0r (be z9k) (z0r (be z9i) (be z9g)))
theorem zc8 : StOk z0w zaz (mB 14 959) 5 [13] := sa (z0r (be z9l) (z0r (be z9i) (be z9h)))
theorem zc9 : StOk z0w zaA (mB 14 767) 5 [13] := sa (z0r (be z9l) (z0r (be z9k) (be z9j)))
theorem zhe : StOk z0w zdv (mB 14 4783) 6 [13] := sa (z0r (be zc6) (z0r (be zc3) (z0r (be zc1) (be zc0))))
theorem zhf : StOk z0w zdw (mB 14 1711) 6 [13] := sa (z0r (be zc7) (z0r (be zc4) (z0r (be zc2) (be zc0))))
theorem zhg : StOk z0w zdx (mB 14 943) 6 [13] := sa (z0r (be zc8) (z0r (be zc5) (z0r (be zc2) (be zc1))))
theorem zjM : StOk z0w zfL (mB 14 751) 6 [13] := sa (z0r (be zc9) (z0r (be zc5) (z0r (be zc4) (be zc3))))
theorem zjN : StOk z0w zfM (mB 14 703) 6 [13] := sa (z0r (be zc9) (z0r (be zc8) (z0r (be zc7) (be zc6))))
theorem zjO : StOk z0w zfN (mB 14 687) 7 [13] := sa (z0r (be zjN) (z0r (be zjM) (z0r (be zhg) (z0r (be zhf) (be zhe)))))
theorem zjP : StOk z0w zfO (mB 14 175) 8 [13] := sq zjO
theorem zjQ : StOk z0w zfP (mB 14 47) 9 [13] := sq zjP
theorem zjR : StOk z0w zfQ (mB 14 15) 10 [13] := sq zjQ
theorem zjS : StOk z0w zfR (mB 14 7) 11 [13] := sq zjR
theorem zjT : StOk z0w zfS (mB 14 3) 12 [13] := sq zjS
theorem zjU : StOk z0w zfT (mB 14 1) 13 [13] := sq zjT
theorem zjV : StOk z0w zfU (mB 14 0) 14 [13] := sq zjU
set_option maxHeartbeats 0 in
theorem zuN : z3z Tryz.prog 29 cf29 = true := zmw [10] zwk zwr rfl (by kernel_rfl) (by simp only [List.forall_mem_cons]; exact ⟨⟨_, rfl, zm5 (by kernel_rfl) zjV (by kernel_rfl) (by kernel_rfl)⟩, fun _ h => by cases h⟩)
theorem zuM : z3z Tryz.prog 30 cf30 = true := by kernel_rfl
theorem zuL : z3z Tryz.prog 31 cf31 = true := by kernel_rfl
theorem zuK : z3z Tryz.prog 32 cf32 = true := by kernel_rfl
theorem zuJ : z3z Tryz.prog 33 cf33 = true := by kernel_rfl
theorem zuI : z3z Tryz.prog 34 cf34 = true := by kernel_rfl
theorem zuH : z3z Tryz.prog 35 cf35 = true := by kernel_rfl
theorem zuG : z3z Tryz.prog 36 cf36 = true := by kernel_rfl
theorem zuF : z3z Tryz.prog 37 cf37 = true := by kernel_rfl
theorem zuE : z3z Tryz.prog 38 cf38 = true := by kernel_rfl
theorem zuD : z3z Tryz.prog 39 cf39 = true := by kernel_rfl
theorem zuC : z3z Tryz.prog 40 cf40 = true := by kernel_rfl
theorem zuB : z3z Tryz.prog 42 cf42 = true := by kernel_rfl
theorem zuA : z3z Tryz.prog 49 cf49 = true := by kernel_rfl
theorem zuz : z3z Tryz.prog 50 cf50 = true := by kernel_rfl
theorem zuy : z3z Tryz.prog 51 cf51 = true := by kernel_rfl
theorem zux : z3z Tryz.prog 52 cf52 = true := by kernel_rfl
theorem zuw : z3z Tryz.prog 53 cf53 = true := by kernel_rfl
theorem zuv : z3z Tryz.prog 54 cf54 = true := by kernel_rfl
theorem zuu : z3z Tryz.prog 55 cf55 = true := by kernel_rfl
theorem zut : z3z Tryz.prog 56 cf56 = true := by kernel_rfl
theorem zus : z3z Tryz.prog 57 cf57 = true := by kernel_rfl
theorem zur : z3z Tryz.prog 58 cf58 = true := by kernel_rfl
theorem zuq : z3z Tryz.prog 59 cf59 = true := by kernel_rfl
theorem zup : z3z Tryz.prog 60 cf60 = true := by kernel_rfl
theorem zuo : z3z Tryz.prog 61 cf61 = true := by kernel_rfl
theorem zun : z3z Tryz.prog 62 cf62 = true := by kernel_rfl
theorem zum : z3z Tryz.prog 63 cf63 = true := by kernel_rfl
theorem zul : z3z Tryz.prog 64 cf64 = true := by kernel_rfl
theorem zuk : z3z Tryz.prog 65 cf65 = true := by kernel_rfl
theorem zuj : z3z Tryz.prog 66 cf66 = true := by kernel_rfl
theorem zui : z3z Tryz.prog 67 cf67 = true := by kernel_rfl
theorem zuh : z3z Tryz.prog 73 cf73 = true := by kernel_rfl
theorem zug : z3z Tryz.prog 74 cf74 = true := by kernel_rfl
theorem zuf : z3z Tryz.prog 76 cf76 = true := by kernel_rfl
theorem zue : z3z Tryz.prog 77 cf77 = true := by kernel_rfl
theorem zud : z3z Tryz.prog 78 cf78 = true := by kernel_rfl
theorem zuc : z3z Tryz.prog 79 cf79 = true := by kernel_rfl
theorem zub : z3z Tryz.prog 80 cf80 = true := by kernel_rfl
theorem zua : z3z Tryz.prog 81 cf81 = true := by kernel_rfl
theorem zu9 : z3z Tryz.prog 82 cf82 = true := by kernel_rfl
theorem zu8 : z3z Tryz.prog 83 cf83 = true := by kernel_rfl
theorem zu7 : z3z Tryz.prog 84 cf84 = true := by kernel_rfl
theorem zu6 : z3z Tryz.prog 95 cf95 = true := by kernel_rfl
theorem zu5 : z3z Tryz.prog 97 cf97 = true := by kernel_rfl
theorem zu4 : z3z Tryz.prog 98 cf98 = true := by kernel_rfl
theorem zu3 : z3z Tryz.prog 99 cf99 = true := by kernel_rfl
theorem zsF : z3z Tryz.prog 100 cf100 = true := by kernel_rfl
theorem zsE : z3z Tryz.prog 113 cf113 = true := by kernel_rfl
theorem zsD : z3z Tryz.prog 114 cf114 = true := by kernel_rfl
theorem zsC : z3z Tryz.prog 115 cf115 = true := by kernel_rfl
theorem zsB : z3z Tryz.prog 118 cf118 = true := by kernel_rfl
theorem zsA : z3z Tryz.prog 123 cf123 = true := by kernel_rfl
theorem z1k {p : Prop} [Decidable p] {a c : Cfg} {r : Option Cfg} {G : Prop} (h : (if p then some a else r) = some c) (h1 : p -> a = c -> G) (h2 : r = some c -> G) : G := by
  split at h
  · rename_i hp; exact h1 hp (Option.some.inj h)
  · exact h2 h
theorem zxX : ∀ f c, z0V f = some c -> z3z Tryz.prog f c = true := by
  intro f c h
  unfold z0V at h
  refine z1k h (fun e h => by rw [e, ← h]; exact zxR) fun h => ?_
  refine z1k h (fun e h => by rw [e, ← h]; exact zxQ) fun h => ?_
  refine z1k h (fun e h => by rw [e, ← h]; exact zxP) fun h => ?_
  refine z1k h (fun e h => by rw [e, ← h]; exact zxO) fun h => ?_
  refine z1k h (fun e h => by rw [e, ← h]; exact zxN) fun h => ?_
  refine z1k h (fun e h => by rw [e, ← h]; exact zv2) fun h => ?_
  refine z1k h (fun e h => by rw [e, ← h]; exact zv1) fun h => ?_
  refine z1k h (fun e h => by rw [e, ← h]; exact zv0) fun h => ?_
  refine z1k h (fun e h => by rw [e, ← h]; exact zuZ) fun h => ?_
  refine z1k h (fun e h => by rw [e, ← h]; exact zuY) fun h => ?_
  refine z1k h (fun e h => by rw [e, ← h]; exact zuX) fun h => ?_
  refine z1k h (fun e h => by rw [e, ← h]; exact zuW) fun h => ?_
  refine z1k h (fun e h => by rw [e, ← h]; exact zuV) fun h => ?_
  refine z1k h (fun e h => by rw [e, ← h]; exact zuU) fun h => ?_
  refine z1k h (fun e h => by rw [e, ← h]; exact zuT) fun h => ?_
  refine z1k h (fun e h => by rw [e, ← h]; exact zuS) fun h => ?_
  refine z1k h (fun e h => by rw [e, ← h]; exact zuR) fun h => ?_
  refine z1k h (fun e h => by rw [e, ← h]; exact zuQ) fun h => ?_
  refine z1k h (fun e h => by rw [e, ← h]; exact zuP) fun h => ?_
  refine z1k h (fun e h => by rw [e, ← h]; exact zuO) fun h => ?_
  refine z1k h (fun e h => by rw [e, ← h]; exact zuN) fun h => ?_
  refine z1k h (fun e h => by rw [e, ← h]; exact zuM) fun h => ?_
  refine z1k h (fun e h => by rw [e, ← h]; exact zuL) fun h => ?_
  refine z1k h (fun e h => by rw [e, ← h]; exact zuK) fun h => ?_
  refine z1k h (fun e h => by rw [e, ← h]; exact zuJ) fun h => ?_
  refine z1k h (fun e h => by rw [e, ← h]; exact zuI) fun h => ?_
  refine z1k h (fun e h => by rw [e, ← h]; exact zuH) fun h => ?_
  refine z1k h (fun e h => by rw [e, ← h]; exact zuG) fun h => ?_
  refine z1k h (fun e h => by rw [e, ← h]; exact zuF) fun h => ?_
  refine z1k h (fun e h => by rw [e, ← h]; exact zuE) fun h => ?_
  refine z1k h (fun e h => by rw [e, ← h]; exact zuD) fun h => ?_
  refine z1k h (fun e h => by rw [e, ← h]; exact zuC) fun h => ?_
  refine z1k h (fun e h => by rw [e, ← h]; exact zuB) fun h => ?_
  refine z1k h (fun e h => by rw [e, ← h]; exact zuA) fun h => ?_
  refine z1k h (fun e h => by rw [e, ← h]; exact zuz) fun h => ?_
  refine z1k h (fun e h => by rw [e, ← h]; exact zuy) fun h => ?_
  refine z1k h (fun e h => by rw [e, ← h]; exact zux) fun h => ?_
  refine z1k h (fun e h => by rw [e, ← h]; exact zuw) fun h => ?_
  refine z1k h (fun e h => by rw [e, ← h]; exact zuv) fun h => ?_
  refine z1k h (fun e h => by rw [e, ← h]; exact zuu) fun h => ?_
  refine z1k h (fun e h => by rw [e, ← h]; exact zut) fun h => ?_
  refine z1k h (fun e h => by rw [e, ← h]; exact zus) fun h => ?_
  refine z1k h (fun e h => by rw [e, ← h]; exact zur) fun h => ?_
  refine z1k h (fun e h => by rw [e, ← h]; exact zuq) fun h => ?_
  refine z1k h (fun e h => by rw [e, ← h]; exact zup) fun h => ?_
  refine z1k h (fun e h => by rw [e, ← h]; exact zuo) fun h => ?_
  refine z1k h (fun e h => by rw [e, ← h]; exact zun) fun h => ?_
  refine z1k h (fun e h => by rw [e, ← h]; exact zum) fun h => ?_
  refine z1k h (fun e h => by rw [e, ← h]; exact zul) fun h => ?_
  refine z1k h (fun e h => by rw [e, ← h]; exact zuk) fun h => ?_
  refine z1k h (fun e h => by rw [e, ← h]; exact zuj) fun h => ?_
  refine z1k h (fun e h => by rw [e, ← h]; exact zui) fun h => ?_
  refine z1k h (fun e h => by rw [e, ← h]; exact zuh) fun h => ?_
  refine z1k h (fun e h => by rw [e, ← h]; exact zug) fun h => ?_
  refine z1k h (fun e h => by rw [e, ← h]; exact zuf) fun h => ?_
  refine z1k h (fun e h => by rw [e, ← h]; exact zue) fun h => ?_
  refine z1k h (fun e h => by rw [e, ← h]; exact zud) fun h => ?_
  refine z1k h (fun e h => by rw [e, ← h]; exact zuc) fun h => ?_
  refine z1k h (fun e h => by rw [e, ← h]; exact zub) fun h => ?_
  refine z1k h (fun e h => by rw [e, ← h]; exact zua) fun h => ?_
  refine z1k h (fun e h => by rw [e, ← h]; exact zu9) fun h => ?_
  refine z1k h (fun e h => by rw [e, ← h]; exact zu8) fun h => ?_
  refine z1k h (fun e h => by rw [e, ← h]; exact zu7) fun h => ?_
  refine z1k h (fun e h => by rw [e, ← h]; exact zu6) fun h => ?_
  refine z1k h (fun e h => by rw [e, ← h]; exact zu5) fun h => ?_
  refine z1k h (fun e h => by rw [e, ← h]; exact zu4) fun h => ?_
  refine z1k h (fun e h => by rw [e, ← h]; exact zu3) fun h => ?_
  refine z1k h (fun e h => by rw [e, ← h]; exact zsF) fun h => ?_
  refine z1k h (fun e h => by rw [e, ← h]; exact zsE) fun h => ?_
  refine z1k h (fun e h => by rw [e, ← h]; exact zsD) fun h => ?_
  refine z1k h (fun e h => by rw [e, ← h]; exact zsC) fun h => ?_
  refine z1k h (fun e h => by rw [e, ← h]; exact zsB) fun h => ?_
  refine z1k h (fun e h => by rw [e, ← h]; exact zsA) fun h => ?_
  cases h
end
section
open Go.RowKit
def zcW (P : Program) : Nat -> TypeId -> Bool
  | 0, _ => false
  | m + 1, t =>
    match P.underlying t with
    | some (.slice e) => P.cellsOf e != 0 && zcW P m e
    | some (.pointer e) => zcW P m e
    | some (.struct fs) => fs.toList.all fun f => zcW P m f.type
    | some (.array _ e) => zcW P m e
    | some (.map _ e) => zcW P m e
    | _ => true
section
variable {H : Type} {enc : TypeId × Value -> H} {P : Program} {w : World} {base : Nat}
theorem zdc {m : Nat} {r r' : TypeId -> List Value -> Option (DataW H × List MemPlace)}
    (hr : ∀ t cs x, zcW P m t = true -> r t cs = some x -> r' t cs = some x) {t : TypeId} {cs : List Value} {x : DataW H × List MemPlace} (hf : zcW P (m + 1) t = true)
    (h : DataW.trodStep enc P w base (fun _ => true) true r t cs = some x) : DataW.trodStep enc P w base (fun b => decide (b < w.heap.size)) true r' t cs = some x := by
  unfold DataW.trodStep at h ⊢
  unfold zcW at hf
  split at h
  case h_1 => exact h
  case h_2 => exact h
  case h_3 => exact h
  case h_4 => exact h
  case h_5 => exact h
  case h_6 e a hu =>
    rw [hu] at hf
    simp only [Option.map_eq_some_iff, Option.bind_eq_some_iff] at h ⊢
    obtain ⟨y, ⟨cs', hc, hy⟩, rfl⟩ := h
    exact ⟨y, ⟨cs', hc, hr _ _ _ hf hy⟩, rfl⟩
  case h_7 => exact h
  case h_8 e a len cap hu =>
    rw [hu] at hf
    simp only [Bool.and_eq_true, bne_iff_ne, ne_eq] at hf
    obtain ⟨hcell, hfe⟩ := hf
    simp only at h ⊢
    split at h
    · rename_i hc
      rw [if_pos hc]
      simp only [Option.map_eq_some_iff, Option.bind_eq_some_iff, if_true] at h ⊢
      obtain ⟨elems, he, rest, hrest, rfl⟩ := h
      have one : ∀ (i : Nat) (y : DataW H × List MemPlace), (w.cells? base (a.add (i * P.cellsOf e)) (P.cellsOf e)).bind (r e) = some y -> (w.cells? base (a.add (i * P.cellsOf e)) (P.cellsOf e)).bind (r' e) = some y := by
        intro i y hv
        simp only [Option.bind_eq_some_iff] at hv ⊢
        obtain ⟨cs', hc', hy'⟩ := hv
        exact ⟨cs', hc', hr _ _ _ hfe hy'⟩
      refine ⟨elems, mapM_carry he (fun i y _ _ hy => one i y hy), rest, ?_, rfl⟩
      by_cases hb : a.block < w.heap.size
      · rw [if_pos (by simpa using hb)]
        exact mapM_carry hrest (fun j y _ _ hy => one (len + j) y hy)
      · rw [if_neg (by simpa using hb)]
        have hz : cap - len = 0 := by
          rcases Nat.eq_zero_or_pos (cap - len) with h0 | h0
          · exact h0
          · exfalso
            have hl : rest.length = cap - len := by simpa using mapM_some_length hrest
            have h1 := mapM_some_get hrest 0 0 (by simp [h0])
            obtain ⟨y, hy⟩ : ∃ y, rest[0]? = some y := ⟨rest[0], List.getElem?_eq_getElem (by omega)⟩
            rw [hy] at h1
            simp only [Option.bind_eq_some_iff] at h1
            obtain ⟨cs', hc', _⟩ := h1
            have h2 := World.cells?_block hc' (by omega)
            have h3 : (a.add ((len + 0) * P.cellsOf e)).block = a.block := by unfold Addr.add; split <;> rfl
            omega
        rw [hz] at hrest
        simpa using hrest
    · cases h
  case h_9 fs _ hu =>
    rw [hu] at hf
    split at h
    · rename_i hc
      rw [if_pos hc]
      simp only [Option.map_eq_some_iff] at h ⊢
      obtain ⟨xs, hx, rfl⟩ := h
      exact ⟨xs, mapM_carry hx (fun f y hin _ hv => hr _ _ _ (List.all_eq_true.1 hf f hin) hv), rfl⟩
    · cases h
  case h_10 n e _ hu =>
    rw [hu] at hf
    split at h
    · rename_i hc
      rw [if_pos hc]
      simp only [Option.map_eq_some_iff] at h ⊢
      obtain ⟨xs, hx, rfl⟩ := h
      exact ⟨xs, mapM_carry hx (fun f y _ _ hv => hr _ _ _ hf hv), rfl⟩
    · cases h
  case h_11 => exact h
  case h_12 => exact h
  case h_13 => exact h
  case h_14 k e b hu =>
    rw [hu] at hf
    split at h
    · rename_i es clock hb
      split at h
      · rename_i hc
        simp only [Option.bind_eq_some_iff] at h
        obtain ⟨entries, he, hd⟩ := h
        split at hd
        · rename_i hris
          have hx := Option.some.inj hd
          subst hx
          simp only [if_pos hc, Option.bind_eq_some_iff]
          refine ⟨entries, mapM_carry he (fun x y _ hy hv => ?_), by simp [hris]⟩
          simp only [Option.bind_eq_some_iff] at hv ⊢
          obtain ⟨key, hk, hz⟩ := hv
          refine ⟨key, hk, ?_⟩
          split at hz
          · rename_i hfm
            rw [if_pos hfm]
            simp only [Option.map_eq_some_iff] at hz ⊢
            obtain ⟨q, hq, rfl⟩ := hz
            exact ⟨q, hr _ _ _ hf hq, rfl⟩
          · cases hz
        · cases hd
      · cases h
    · cases h
  case h_15 => exact h
  case h_16 => exact h
  case h_17 => exact h
  case h_18 => exact h
  case h_19 => exact h
  case h_20 => exact h
  case h_21 => cases h
theorem zjL : ∀ (n m : Nat) (t : TypeId) (cs : List Value) (x : DataW H × List MemPlace), zcW P m t = true ->
    DataW.trod enc P w base (fun _ => true) true n t cs = some x -> DataW.trod enc P w base (fun b => decide (b < w.heap.size)) true n t cs = some x := by
  intro n
  induction n with
  | zero => intro m t cs x _ h; simp [DataW.trod] at h
  | succ n ih =>
    intro m t cs x hf h
    cases m with
    | zero => simp [zcW] at hf
    | succ m =>
      rw [DataW.trod_step] at h ⊢
      exact zdc (m := m) (fun t cs x hf hx => ih m t cs x hf hx) hf h
theorem zg7 {w' : World} (hb : Below w.heap.size w w') {p : MemPlace} (hp : p.block < w.heap.size) : w.sameAt w' p := by
  cases p with
  | cell b off => exact hb.cell (p := ⟨b, off, none⟩) hp
  | map b => exact hb.block b hp
theorem z9F {w' : World} (m : Nat) (hb : Below w.heap.size w w') : ∀ {ts : List TypeId} {vs : List Value} {ds : List (DataW H)} {ps : List MemPlace}, (ts.all (zcW P m)) = true ->
    DataW.TrodAll enc P w 0 (fun _ => true) true ts vs ds ps -> DataW.TrodAll enc P w' 0 (fun b => decide (b < w.heap.size)) true ts vs ds ps
  | [], [], [], ps, _, h => h
  | t :: ts, v :: vs, d :: ds, ps, hf, ⟨p, q, ⟨n, h1⟩, h2, e⟩ => by
    simp only [List.all_cons, Bool.and_eq_true] at hf
    have h3 := zjL n m t _ _ hf.1 h1
    exact ⟨p, q, ⟨n, DataW.trod_carry n _ _ _ h3 (fun z hz => zg7 hb (DataW.trod_lt n _ _ _ h3 z hz))⟩, z9F m hb hf.2 h2, e⟩
  | [], _ :: _, _, _, _, h => by cases h
  | [], [], _ :: _, _, _, h => by cases h
  | _ :: _, [], _, _, _, h => by cases h
  | _ :: _, _ :: _, [], _, _, h => by cases h
end
section
variable {H : Type} {enc : TypeId × Value -> H} {P : Program} {w : World} {r : Reach} {b0 : Nat}
open Go.ChangeShapes Go.WideShapes
open Go.Deep (open_bools)
theorem znE (a : Addr) (j : Nat) : (a.add j).block = a.block := by unfold Addr.add; split <;> rfl
end
end
section
open Go.ChangeShapes Go.WideShapes Go.RowKit
def KZ : Nat -> z0a := fun _ => []
theorem zmH {P : Program} {Xc : z0l} {cf : FuncId -> Option Cfg} {f : FuncId} {args : List T} {outs : List T} (hX : z9B P (fun _ _ => True) Xc) (hm : P.follows .mixedOrders = true) (hf : ∀ f c, cf f = some c -> z3z P f c = true)
    (h : Lim P Xc cf f args = some (.sc (.bool true), outs)) (hio : args.all (fun t => !z5O t) = true) (W : World) (vals : Array Value) (hs : vals.size = args.length)
    (ha : ∀ i t, args[i]? = some t -> TRep W KZ [] (vals.getD i undef) t) : Calls P f vals W fun e W' => e = .returned (.bool true) /\ Below W.heap.size W W' := by
  have hc := zsk (I := fun _ _ => True) EnvS.none hX hm hf h
  refine (hc.calls W KZ vals hs (fun i t hi => ?_) trivial).mono fun e W' ⟨v, K', he, hv, _, hst⟩ => ?_
  · have h1 := List.all_eq_true.1 hio t (List.mem_of_getElem? hi)
    unfold zdT
    rw [if_neg (by simpa using h1)]
    exact ha i t hi
  · generalize hT : T.sc (.bool true) = t at hv
    cases hv with
    | sc c v hb => cases hT; exact ⟨he, hst.os, hst.tape, hst.output, hst.size, fun b hb => (hst.old b hb (.inl rfl)).2⟩
    | _ => cases hT
section
variable {H : Type} {enc : TypeId × Value -> H} {P : Program} {w : World} {r : Reach} {b0 : Nat}
theorem zgn {t e : TypeId} {v : Value} {d : DataW H} {ps : List MemPlace} (ht : P.underlying t = some (.slice e)) (he : P.underlying e = some (.int .i64)) (hc : P.cellsOf e = 1)
    (hval : Value.okWide P w r b0 t v) (hd : DataW.Trod enc P w 0 (fun _ => true) true t v d ps) :
    ∃ xs : List Int, TRep w KZ [] v (.sl xs.length (xs.map fun x => .sc (.int .i64 x))) /\ xs.length <= maxLen /\ ∀ x ∈ xs, (Lit.int .i64 x).wf = true := by
  obtain ⟨ga, n, cap, rfl⟩ := okWide_slice ht hval
  obtain ⟨fuel, hf⟩ := hd
  rcases open_ints ht he hc hf with ⟨hcs, _⟩ | ⟨a, len', cap', zs, hcs, _, hl, hm, hz, _, hcell, hwz⟩
  · simp [Value.cells] at hcs
    obtain ⟨rfl, rfl, rfl⟩ := hcs
    exact ⟨[], .emp _ _ _ (by decide), by decide, fun x hx => by cases hx⟩
  · simp [Value.cells] at hcs
    obtain ⟨rfl, rfl, rfl⟩ := hcs
    simp only [if_true] at hz
    refine ⟨zs.take n, ?_, by simp; omega, fun x hx => hwz x (List.mem_of_mem_take hx)⟩
    have hln : (zs.take n).length = n := by simp; omega
    rw [hln]
    by_cases h0 : n = 0
    · subst h0
      simp only [List.take_zero, List.map_nil]
      exact .emp _ _ _ hm
    · have hc0 := hcell 0 (by omega)
      have hb := World.block_lt_of_cell? w _ hc0
      rw [znE] at hb
      have hsp : a.spot = none := by
        have : a.add 0 = a := by simp [Addr.add]
        rw [this] at hc0
        unfold World.cell? at hc0
        split at hc0
        · split at hc0
          · cases hc0
          · rename_i hh
            simpa using hh
        · cases hc0
      obtain ⟨g, o, sp⟩ := a
      simp only at hsp
      subst hsp
      refine .fro [] g o n cap _ (fun j => .int .i64 (zs.getD j 0)) rfl hb hl hm (fun j hj => ?_) (fun j t hj => ?_)
      · have h1 := hcell j (by simp at hj; omega)
        have e : (⟨g, o, none⟩ : Addr).add j = ⟨g, o + j, none⟩ := by
          unfold Addr.add
          split
          · rename_i h; subst h; rfl
          · rfl
        rw [e] at h1
        exact h1
      · simp only [List.getElem?_map, Option.map_eq_some_iff] at hj
        obtain ⟨x, hx, rfl⟩ := hj
        have hjn : j < n := by
          have := (List.getElem?_eq_some_iff.1 hx).1
          simp at this; omega
        rw [List.getElem?_take_of_lt hjn] at hx
        simp only [List.getD, hx]
        exact .sc _ _ rfl
end
end
end Go.Proofs.YtodliknibbafeaaGreat
section
/- Proved here: the law HolonomyWords returns true for every input, and its arguments read afterwards as before. No condition. -/
namespace Go.Proofs.YtodliknibbafeaaGreat.holonomyWords
open Go.ChangeShapes Go.WideShapes Go.ChangeAt Go.RowKit
open Go.ChangeMaps (open_string shut_string)
theorem own : ownKnob Tryz.prog.godebug = none := by kernel_rfl
set_option maxRecDepth 100000 in
theorem zpa (H : Type) (enc : TypeId × Value -> H) (W : World) (base : Nat) (args : Array Value) (ds gs : List (DataW H)) (before : List MemPlace)
    (hval0 : ∀ (j : Nat) t v, Tryz.f5.params[j]? = some t -> args[j]? = some v -> Value.okWide Tryz.prog W .any base t v)
    (hW : DataW.Whole enc Tryz.prog Tryz.f5.params.toList Rows.holonomyWordsSpec.vars false W args.toList ds gs before) :
    Calls Tryz.prog 5 args W fun e W' => ∃ v, e = .returned v /\ Rows.holonomyWordsSpec.post enc Tryz.prog Tryz.f5 false true false false W args v W' := by
  have hW' := hW
  obtain ⟨p, q, hA0, hV, rfl, hfz, hnd⟩ := hW
  have hval := hval0
  have hA : DataW.TrodAll enc Tryz.prog W 0 (fun _ => true) true Tryz.f5.params.toList args.toList ds p := hA0
  rw [Tryz.params5] at hA hval
  obtain ⟨v0, vs0, d0, ds0, p0, q0, hargs, rfl, rfl, h0, r0⟩ := trodAll_cons hA
  obtain ⟨v1, vs1, d1, ds1, p1, q1, rfl, rfl, rfl, h1, r1⟩ := trodAll_cons r0
  obtain ⟨rfl, rfl, rfl⟩ := trodAll_nil r1
  obtain rfl : args = #[v0, v1] := by cases args; simp_all
  obtain ⟨rfl, rfl⟩ := trodVars_none hV
  obtain ⟨a0, t0, w0, z0⟩ := zgn Tryz.underlying22 Tryz.underlying3 (by kernel_rfl) (hval 0 22 v0 rfl rfl) h0
  obtain ⟨a1, t1, w1, z1⟩ := zgn Tryz.underlying22 Tryz.underlying3 (by kernel_rfl) (hval 1 22 v1 rfl rfl) h1
  obtain ⟨outs, hlaw⟩ := zsm a0 w0 z0 a1 w1 z1
  refine (zmH zl7 (by kernel_rfl) zxX hlaw rfl W _ rfl (fun i t hi => ?_)).mono fun e W' ⟨he, bel⟩ => ?_
  · match i, hi with
    | 0, hi => cases hi; exact t0
    | 1, hi => cases hi; exact t1
  · subst he
    exact ⟨_, rfl, _, _, _, [], _, [], hW', trodAll_mk1 (shut_bool Tryz.underlying4 _), z9F 12 bel (by kernel_rfl) hA0, rfl, bel.frame _, fun h => by cases h⟩
theorem z9A {a b : Bool} (ha : a = true) (hb : b = true) : (a && b) = true := by rw [ha, hb]; rfl
set_option maxHeartbeats 4000000 in
theorem ztR : joinedFacts Tryz.checked.prog 5 Tryz.f5 Rows.holonomyWordsSpec Rows.holonomyWordsRow = true :=
  (z9A (z9A (z9A (z9A (z9A (z9A (z9A (z9A (z9A (z9A (z9A (z9A (z9A (z9A (z9A (z9A (z9A (z9A (z9A (z9A (z9A (z9A (z9A (z9A (z9A (z9A (z9A (z9A (z9A (z9A (z9A (by as_aux_lemma => kernel_rfl)
    (by as_aux_lemma => kernel_rfl))
    (by as_aux_lemma => kernel_rfl))
    (by as_aux_lemma => kernel_rfl))
    (by as_aux_lemma => kernel_rfl))
    (by as_aux_lemma => kernel_rfl))
    (by as_aux_lemma => kernel_rfl))
    (by as_aux_lemma => kernel_rfl))
    (by as_aux_lemma => kernel_rfl))
    (by as_aux_lemma => kernel_rfl))
    (by as_aux_lemma => kernel_rfl))
    (by as_aux_lemma => kernel_rfl))
    (by as_aux_lemma => kernel_rfl))
    (by as_aux_lemma => kernel_rfl))
    (by as_aux_lemma => kernel_rfl))
    (by as_aux_lemma => kernel_rfl))
    (by as_aux_lemma => kernel_rfl))
    (by as_aux_lemma => kernel_rfl))
    (by as_aux_lemma => kernel_rfl))
    (by as_aux_lemma => kernel_rfl))
    (by as_aux_lemma => kernel_rfl))
    (by as_aux_lemma => kernel_rfl))
    (by as_aux_lemma => kernel_rfl))
    (by as_aux_lemma => kernel_rfl))
    (by as_aux_lemma => kernel_rfl))
    (by as_aux_lemma => kernel_rfl))
    (by as_aux_lemma => kernel_rfl))
    (by as_aux_lemma => kernel_rfl))
    (by as_aux_lemma => kernel_rfl))
    (by as_aux_lemma => kernel_rfl))
    (by as_aux_lemma => kernel_rfl))
    (by as_aux_lemma => kernel_rfl))
set_option maxRecDepth 100000 in
theorem zsl (os : Os) (started : os.Started) (H : Type) (enc : TypeId × Value -> H) :
    ReturnsInHanded {} Tryz.checked os 5 .any (Rows.holonomyWordsSpec.pre6 enc Tryz.prog Tryz.f5 Rows.holonomyWordsRow.domain false) (Rows.holonomyWordsSpec.post enc Tryz.prog Tryz.f5 false true false false) := by
  refine returnsInHanded_of_change (C := Tryz.checked) (by kernel_rfl) started (by kernel_rfl) Tryz.func5
    (ChangeSpec.witness6 (enc := enc) (C := Tryz.checked) false ⟨#[], #[.slice none 0 0, .slice none 0 0], []⟩ 8 (by kernel_rfl) (by kernel_rfl) (by kernel_rfl) (by kernel_rfl)) ?_
  intro W base args ds gs before hval0 hW hcnd _
  exact zpa H enc W base args ds gs before hval0 hW
theorem zwM : Rows.holonomyWordsRow.holds Tryz.pinned (OpenSpec.ofChange Rows.holonomyWordsSpec) :=
  OpenClaim.holds_of_wide 5 Tryz.f5 rfl rfl rfl rfl rfl rfl rfl ⟨rfl, rfl, rfl, rfl, rfl⟩ rfl rfl rfl rfl rfl (by kernel_rfl) Tryz.func5 ztR
    (of_decide_eq_true (by kernel_rfl)) (by unfold Func.isWrapper; first | (rw [if_pos (by decide +kernel)]; kernel_rfl) | (rw [if_neg (by decide +kernel)]; exact ⟨rfl, rfl⟩))
    (fun os started H enc _ => zsl os started H enc)
theorem proved : Rows.HolonomyWordsSaid :=
  zwM
#print axioms proved
end Go.Proofs.YtodliknibbafeaaGreat.holonomyWords
end

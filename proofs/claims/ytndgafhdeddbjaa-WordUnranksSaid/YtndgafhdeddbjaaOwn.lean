/- Laws on slices that a call owns, over any program. -/
import Derived.WalkKit
import Derived.WalkSpells
import Derived.WalkLawsBesides
import Derived.Lib.Hide
namespace Go.Proofs.Ytndgafhdeddbjaa
open Go.RowKit

theorem grown_trans {w w1 w2 : World} {row : Option Nat} (h : w.grownBy w1 row) (k : w1.grownBy w2 row) : w.grownBy w2 row :=
  ⟨k.os.trans h.os, k.tape.trans h.tape, k.output.trans h.output, Nat.le_trans h.size k.size,
    fun b hb hr => (k.block b (Nat.lt_of_lt_of_le hb h.size) hr).trans (h.block b hb hr)⟩

/-- 'append(s, y)': s nil or the call's own, y one cell, laid in a block of its own just before. -/
theorem wpList_push {P : Program} {ops : Array Oper} {rest : List Oper} {o : Oper} {a : Act} {Q : Exit → Act → World → Prop} {w : World}
    (s x : Operand) (t e : TypeId) (z : Value) (bytes base : Nat) (hgd : o.guard = none)
    (ho : o.op = .call { callee := .builtin .append, args := #[s, x], argTypes := #[t, t] })
    (ht : P.underlying t = some (.slice e)) (hi : (P.info? e).map (fun i => (i.zero, i.size, i.bytes)) = some (some z, 1, bytes)) (hz : z.cells.size = 1)
    (v : Value) (n : Nat) (xs : List Value) (hs : a.eval s = v) (hown : w.ownsRow base e 1 v n xs)
    (y : Value) (c : Nat) (hx : a.eval x = .slice (some ⟨w.heap.size, 0, none⟩) 1 c) (h1 : y.oneCell' = true)
    (hb : (n + 1) * bytes ≤ 140737488355328) (hn : n < 4611686018427387904) (hbase : base ≤ w.heap.size)
    (h : ∀ v' w', w'.ownsRow base e 1 v' (n + 1) (xs ++ [y]) → w.grownBy w' v.ownBlock → v' ≠ .slice none 0 0 → wpList P ops Q rest (a.put o.dst v') w') :
    wpList P ops Q (o :: rest) a (w.alloc (.cells #[y] e)) := by
  obtain ⟨i0, hi1, hi2, hi3, hi4⟩ := info_parts hi
  refine wpList_append_own (w.alloc (.cells #[y] e)) hgd s x t ho base e i0 z 1 bytes ht hi1 hi2 hi3 hi4 hz (by decide) v n xs hs (hown.alloc _) ⟨w.heap.size, 0, none⟩ 1 c [y] hx rfl
    (fun j u hj => ?_) (fun u hu => ?_) (by unfold maxLen; omega) hb (by simp; omega) (fun v' w' o' g' iff' => h v' w' o' (grown_trans (World.grownBy_alloc w _ _) g') (fun e => ?_))
  · match j, hj with
    | 0, hj => simp at hj; subst hj; simp [Addr.add, World.cell?_alloc_new]
    | j + 1, hj => simp at hj
  · simp at hu; subst hu; exact h1
  · have := iff'.1 e; omega

theorem Below_of_grown {w w' : World} {row : Option Nat} {base : Nat} (h : w.grownBy w' row) (hb : base ≤ w.heap.size) (hr : ∀ k, row = some k → base ≤ k) : Below base w w' :=
  Below.grown (Below.refl _ _) h hb hr

end Go.Proofs.Ytndgafhdeddbjaa

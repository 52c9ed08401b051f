/- Words on one block that a call writes: all else is as it was. -/
import Derived.Test.YtgfibbjifbghdaaGreatBase2
import Derived.Laws.Rows
import Derived.Lib.Builder
namespace Go.Proofs.YtgfibbjifbghdaaGreat
open Go.ChangeShapes Go.WideShapes Go.ChangeAt Go.RowKit

theorem but_of_below {w w' : World} (g : Nat) (hb : Below w.heap.size w w') : w.grownBy w' (some g) := ⟨hb.os, hb.tape, hb.output, hb.size, fun k hk _ => hb.block k hk⟩
theorem but_trans {w w1 w2 : World} {g : Nat} (h1 : w.grownBy w1 (some g)) (h2 : w1.grownBy w2 (some g)) : w.grownBy w2 (some g) :=
  ⟨h2.os.trans h1.os, h2.tape.trans h1.tape, h2.output.trans h1.output, Nat.le_trans h1.size h2.size, fun k hk hne => (h2.block k (Nat.lt_of_lt_of_le hk h1.size) hne).trans (h1.block k hk hne)⟩
theorem but_set (w : World) (g j : Nat) (v : Value) : w.grownBy (w.setCell ⟨g, j, none⟩ v) (some g) :=
  ⟨rfl, rfl, rfl, by simp, fun k _ hne => heap_setCell_other w ⟨g, j, none⟩ k v (fun e => hne (by rw [e]))⟩
theorem below_of_but {w w' : World} {g : Nat} (h : w.grownBy w' (some g)) {B : Nat} (hB : B ≤ g) (hw : B ≤ w.heap.size) : Below B w w' :=
  ⟨h.os, h.tape, h.output, h.size, fun k hk => h.block k (by omega) (by simp; omega)⟩
/-- block g holds the cells cs -/
def Blk (w : World) (g : Nat) (cs : Array Value) (T : TypeId) : Prop := w.heap[g]? = some (.cells cs T (0, 0))
theorem Blk.cell {w : World} {g : Nat} {cs : Array Value} {T : TypeId} (h : Blk w g cs T) (j : Nat) : w.cell? ⟨g, j, none⟩ = cs[j]? := Lib.cell_of_heap h j
theorem Blk.free {w : World} {g : Nat} {cs : Array Value} {T : TypeId} (h : Blk w g cs T) (j : Nat) : w.frozen? ⟨g, j, none⟩ = false := Lib.frozen_of_heap h j
theorem Blk.lt {w : World} {g : Nat} {cs : Array Value} {T : TypeId} (h : Blk w g cs T) : g < w.heap.size := (Array.getElem?_eq_some_iff.1 h).1
theorem Blk.on {w w' : World} {g : Nat} {cs : Array Value} {T : TypeId} (h : Blk w g cs T) (hb : Below w.heap.size w w') : Blk w' g cs T := by
  unfold Blk; rw [hb.block g h.lt]; exact h
theorem Blk.set {w : World} {g : Nat} {cs : Array Value} {T : TypeId} (h : Blk w g cs T) (j : Nat) (v : Value) : Blk (w.setCell ⟨g, j, none⟩ v) g (cs.setIfInBounds j v) T := heap_setCell_same w g j cs T v h
theorem Blk.but {w w' : World} {g k : Nat} {cs : Array Value} {T : TypeId} (h : Blk w k cs T) (hg : w.grownBy w' (some g)) (hne : k ≠ g) : Blk w' k cs T := by
  unfold Blk; rw [hg.block k h.lt (by simp; omega)]; exact h
end Go.Proofs.YtgfibbjifbghdaaGreat

/- What the walks read of the library's own variables: a table, two errors, a number. -/
import Derived.Test.YtipbakdodbmfjaaGreatDoorCells
import Derived.Test.YtipbakdodbmfjaaGreatDoorUnescape
import Derived.Test.YtipbakdodbmfjaaGreatDoorText
import Derived.WalkSmall
namespace Go.Proofs.YtipbakdodbmfjaaGreatDoor
open Go.ChangeShapes Go.WideShapes Go.ChangeAt Go.RowKit

def lowG : Nat := max (max 2 1) (max 3 4) + 1
structure Env (w : World) : Prop where
  tab : Tab w
  errs : Errs w
  max : ∃ m, w.cell? ⟨1, 0, none⟩ = some (.int .i64 m)
theorem Env.low {w : World} (h : Env w) : lowG ≤ w.heap.size := by
  obtain ⟨m, hm⟩ := h.max
  obtain ⟨⟨t1, p1, h1⟩, ⟨t2, p2, h2⟩⟩ := h.errs
  have h3 := World.var?_cell (g := 2) (by kernel_rfl) h.tab 0
  have a1 := World.block_lt_of_cell? w _ hm
  have a2 := World.block_lt_of_cell? w _ h1
  have a3 := World.block_lt_of_cell? w _ h2
  have a4 := World.block_lt_of_cell? w _ (h3.trans rfl)
  unfold lowG
  simp at a1 a2 a3 a4
  omega
theorem Env.below {w w' : World} {B : Nat} (h : Env w) (hb : Below B w w') (hB : lowG ≤ B) : Env w' := by
  unfold lowG at hB
  obtain ⟨m, hm⟩ := h.max
  obtain ⟨⟨t1, p1, h1⟩, ⟨t2, p2, h2⟩⟩ := h.errs
  refine ⟨var?_below hb (g := 2) (by kernel_rfl) (by omega) h.tab, ⟨⟨t1, p1, ?_⟩, ⟨t2, p2, ?_⟩⟩, ⟨m, ?_⟩⟩
  · rw [hb.cell (p := ⟨3, 0, none⟩) (by simp; omega)]; exact h1
  · rw [hb.cell (p := ⟨4, 0, none⟩) (by simp; omega)]; exact h2
  · rw [hb.cell (p := ⟨1, 0, none⟩) (by simp; omega)]; exact hm
theorem Env.on {w w' : World} (h : Env w) (hb : Below w.heap.size w w') : Env w' := h.below hb h.low
theorem Env.but {w w' : World} {g : Nat} (h : Env w) (hb : w.grownBy w' (some g)) (hg : lowG ≤ g) : Env w' := h.below (below_of_but hb hg h.low) (Nat.le_refl _)
end Go.Proofs.YtipbakdodbmfjaaGreatDoor

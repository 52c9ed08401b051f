/- cache.use: the clock goes on, an item keeps its time. -/
import Derived.Test.YtgfibbjifbghdaaGreatCache
namespace Go.Proofs.YtgfibbjifbghdaaGreat
open Go.ChangeShapes Go.WideShapes Go.ChangeAt Go.RowKit

def cacheC (most stale : Int) (M k : Nat) : Array Value := #[.int .i64 most, .int .i64 stale, .map (some M), .int .i64 k]
set_option maxHeartbeats 4000000 in
set_option maxRecDepth 100000 in
theorem use_any (w : World) (C b M k : Nat) (most stale : Int) (cs : Array Value) (hC : Blk w C (cacheC most stale M k) 131) (hb : Blk w b cs 203) (hn : cs.size = 14) (hne : C ≠ b) (hk : k < 4000000000000000000) :
    Calls Tryz.prog 145 #[.pointer (some ⟨C, 0, none⟩), .pointer (some ⟨b, 0, none⟩)] w fun e w' => e = .returned (.tuple #[]) ∧ Blk w' C (cacheC most stale M (k + 1)) 131 ∧ Blk w' b (cs.setIfInBounds 13 (.int .i64 (k + 1 : Nat))) 203 ∧
      w'.heap.size = w.heap.size ∧ (∀ j, j ≠ C → j ≠ b → w'.heap[j]? = w.heap[j]?) ∧ ∀ B, B ≤ C → B ≤ b → Below B w w' := by
  have HC := Lib.hid hC
  have HB := Lib.hid hb
  have h3 : w.cell? ⟨C, 3, none⟩ = some (.int .i64 k) := hC.cell 3
  have g3 := hC.free 3
  have g13 := hb.free 13
  have hne' : b ≠ C := fun e => hne e.symm
  have HC2 := Lib.hid (hC.set 3 (.int .i64 ((k : Int) + 1)))
  have h3' : (w.setCell ⟨C, 3, none⟩ (.int .i64 ((k : Int) + 1))).cell? ⟨C, 3, none⟩ = some (.int .i64 ((k : Int) + 1)) := HC2.out.cell 3
  obtain ⟨v13, h13⟩ : ∃ v, w.cell? ⟨b, 13, none⟩ = some v := by
    rw [hb.cell 13]
    exact ⟨_, Array.getElem?_eq_getElem (by omega)⟩
  clear hC hb
  go_enter Tryz.func145, Tryz.ntmps145
  go_wp2_with fail
  go_end0
  have hC2 := HC2.out
  have hB2 : Blk (w.setCell ⟨C, 3, none⟩ (.int .i64 ((k : Int) + 1))) b cs 203 := HB.out.but (but_set w C 3 _) hne'
  refine ⟨rfl, ?_, ?_, by simp, fun j h1 h2 => ?_, fun B h1 h2 => ((Below.refl _ _).setCell h1 _).setCell h2 _⟩
  · exact hC2.but (but_set _ b 13 _) hne
  · have := hB2.set 13 (.int .i64 ((k : Int) + 1))
    simpa using this
  · rw [Below.heap_setCell _ _ _ _ h2, Below.heap_setCell _ _ _ _ h1]
end Go.Proofs.YtgfibbjifbghdaaGreat

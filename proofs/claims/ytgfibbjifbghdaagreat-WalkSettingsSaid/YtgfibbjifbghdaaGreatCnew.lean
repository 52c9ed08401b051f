/- cache.New and Cache.Len. -/
import Derived.Test.YtgfibbjifbghdaaGreatClaylaw
import Derived.Test.YtgfibbjifbghdaaGreatTtl
namespace Go.Proofs.YtgfibbjifbghdaaGreat
open Go.ChangeShapes Go.WideShapes Go.ChangeAt Go.RowKit

theorem cache_new (w : World) (B : Nat) (hB : B ≤ w.heap.size) (most stale : Int) : IsCache B ((w.alloc (.map #[] 0)).alloc (.cells (cacheC most stale w.heap.size 0) 131)) (w.heap.size + 1) most stale 0 [] := by
  have hb : Below (w.alloc (.map #[] 0)).heap.size (w.alloc (.map #[] 0)) ((w.alloc (.map #[] 0)).alloc (.cells (cacheC most stale w.heap.size 0) 131)) := (Below.refl _ _).alloc (Nat.le_refl _) _
  have hM : MapL (w.alloc (.map #[] 0)) w.heap.size [] := ⟨0, _, World.ownsMap_made w _ _ _, by decide, rfl, fun key z => rfl⟩
  refine ⟨⟨w.heap.size, ?_, hB, hM.on (hb.block _ hM.lt)⟩, by omega, by simp, List.Pairwise.nil, List.Pairwise.nil, by simp, List.Pairwise.nil⟩
  have := heap_alloc_new (w.alloc (.map #[] 0)) (.cells (cacheC most stale w.heap.size 0) 131)
  simpa [Blk, cacheC] using this
set_option maxHeartbeats 4000000 in
set_option maxRecDepth 100000 in
theorem new_any (w : World) (B : Nat) (hB : B ≤ w.heap.size) (most stale : Int) (h1 : 1 ≤ most) (h2 : most ≤ 4096) (hs : timeB stale = true) :
    Calls Tryz.prog 32 #[.int .i64 most, .int .i64 stale] w fun e w' => (∃ C, e = .returned (.tuple #[.pointer (some ⟨C, 0, none⟩), .int .i64 0]) ∧ IsCache B w' C most stale 0 []) ∧ Below w.heap.size w w' := by
  have hc1 : ¬ most < 1 := by omega
  have hc2 : ¬ 4096 < most := by omega
  have hT := time_any stale w
  rw [hs] at hT
  have hmm := @run_makeMap Tryz.prog
  go_enter Tryz.func32, Tryz.ntmps32
  go_wp2_with (go_at_call 25; refine hT.mono ?_; rintro e w' ⟨rfl, rfl⟩)
  go_ret2
  refine ⟨⟨w.heap.size + 1, ?_, cache_new w B hB most stale⟩, ((Below.refl _ _).alloc (Nat.le_refl _) _).alloc (by simp) _⟩
  simp
end Go.Proofs.YtgfibbjifbghdaaGreat

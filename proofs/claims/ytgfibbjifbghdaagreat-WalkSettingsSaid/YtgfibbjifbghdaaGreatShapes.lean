/- Contracts of rdata.shapes: which fields a type has. -/
import Derived.Test.YtgfibbjifbghdaaGreatFit
namespace Go.Proofs.YtgfibbjifbghdaaGreat
open Go.ChangeShapes Go.WideShapes Go.ChangeAt Go.RowKit

def shapeC (b : Int) (host mail short : Bool) (nums size : Int) (texts first : Bool) : Array Value := #[.int .i64 b, .bool host, .bool mail, .bool short, .int .i64 nums, .int .i64 size, .bool texts, .bool first]
theorem shapes_results {tmps : Array Value} {w : World} {R : Nat} {b : Int} {host mail short : Bool} {nums size : Int} {texts first : Bool} (h2 : tmps[2]? = some (.pointer (some ⟨R, 0, none⟩))) (hB : Blk w R (shapeC b host mail short nums size texts first) 262) :
    (results Tryz.f157 tmps).run Tryz.prog w = .ok (.agg (shapeC b host mail short nums size texts first)) w := by
  have c0 := hB.cell 0
  have c1 := hB.cell 1
  have c2 := hB.cell 2
  have c3 := hB.cell 3
  have c4 := hB.cell 4
  have c5 := hB.cell 5
  have c6 := hB.cell 6
  have c7 := hB.cell 7
  simp [shapeC] at c0 c1 c2 c3 c4 c5 c6 c7
  simp [results, go_sem, h2, c0, c1, c2, c3, c4, c5, c6, c7, shapeC]
set_option maxHeartbeats 2000000 in
set_option maxRecDepth 100000 in
theorem shapes_a (w : World) : Calls Tryz.prog 157 #[.int .i64 1] w fun e w' => e = .returned (.agg (shapeC 4 false false false 0 0 false false)) ∧ Below w.heap.size w w' := by
  have hb : Below w.heap.size w (w.alloc (.cells (shapeC 4 false false false 0 0 false false) 262)) := (Below.refl _ _).alloc (Nat.le_refl _) _
  have hB : Blk (w.alloc (.cells (shapeC 4 false false false 0 0 false false) 262)) w.heap.size (shapeC 4 false false false 0 0 false false) 262 := heap_alloc_new w _
  go_enter Tryz.func157, Tryz.ntmps157
  go_wp2
  refine bodyPost_ret (v := .agg (shapeC 4 false false false 0 0 false false)) (shapes_results rfl hB) rfl ?_
  exact ⟨rfl, hb⟩
set_option maxHeartbeats 2000000 in
set_option maxRecDepth 100000 in
theorem shapes_aaaa (w : World) : Calls Tryz.prog 157 #[.int .i64 28] w fun e w' => e = .returned (.agg (shapeC 16 false false false 0 0 false false)) ∧ Below w.heap.size w w' := by
  have hb : Below w.heap.size w (w.alloc (.cells (shapeC 16 false false false 0 0 false false) 262)) := (Below.refl _ _).alloc (Nat.le_refl _) _
  have hB : Blk (w.alloc (.cells (shapeC 16 false false false 0 0 false false) 262)) w.heap.size (shapeC 16 false false false 0 0 false false) 262 := heap_alloc_new w _
  go_enter Tryz.func157, Tryz.ntmps157
  go_wp2
  refine bodyPost_ret (v := .agg (shapeC 16 false false false 0 0 false false)) (shapes_results rfl hB) rfl ?_
  exact ⟨rfl, hb⟩
set_option maxHeartbeats 2000000 in
set_option maxRecDepth 100000 in
theorem shapes_ns (w : World) (k : Int) (hk : k = 2 ∨ k = 5 ∨ k = 12) : Calls Tryz.prog 157 #[.int .i64 k] w fun e w' => e = .returned (.agg (shapeC 0 true false true 0 0 false false)) ∧ Below w.heap.size w w' := by
  have hb : Below w.heap.size w (w.alloc (.cells (shapeC 0 true false true 0 0 false false) 262)) := (Below.refl _ _).alloc (Nat.le_refl _) _
  have hB : Blk (w.alloc (.cells (shapeC 0 true false true 0 0 false false) 262)) w.heap.size (shapeC 0 true false true 0 0 false false) 262 := heap_alloc_new w _
  rcases hk with rfl | rfl | rfl
  all_goals
    go_enter Tryz.func157, Tryz.ntmps157
    go_wp2
    refine bodyPost_ret (v := .agg (shapeC 0 true false true 0 0 false false)) (shapes_results rfl hB) rfl ?_
    exact ⟨rfl, hb⟩
set_option maxHeartbeats 2000000 in
set_option maxRecDepth 100000 in
theorem shapes_mx (w : World) : Calls Tryz.prog 157 #[.int .i64 15] w fun e w' => e = .returned (.agg (shapeC 0 true false true 1 2 false true)) ∧ Below w.heap.size w w' := by
  have hb : Below w.heap.size w (w.alloc (.cells (shapeC 0 true false true 1 2 false true) 262)) := (Below.refl _ _).alloc (Nat.le_refl _) _
  have hB : Blk (w.alloc (.cells (shapeC 0 true false true 1 2 false true) 262)) w.heap.size (shapeC 0 true false true 1 2 false true) 262 := heap_alloc_new w _
  go_enter Tryz.func157, Tryz.ntmps157
  go_wp2
  refine bodyPost_ret (v := .agg (shapeC 0 true false true 1 2 false true)) (shapes_results rfl hB) rfl ?_
  exact ⟨rfl, hb⟩
set_option maxHeartbeats 2000000 in
set_option maxRecDepth 100000 in
theorem shapes_soa (w : World) : Calls Tryz.prog 157 #[.int .i64 6] w fun e w' => e = .returned (.agg (shapeC 0 true true true 5 4 false false)) ∧ Below w.heap.size w w' := by
  have hb : Below w.heap.size w (w.alloc (.cells (shapeC 0 true true true 5 4 false false) 262)) := (Below.refl _ _).alloc (Nat.le_refl _) _
  have hB : Blk (w.alloc (.cells (shapeC 0 true true true 5 4 false false) 262)) w.heap.size (shapeC 0 true true true 5 4 false false) 262 := heap_alloc_new w _
  go_enter Tryz.func157, Tryz.ntmps157
  go_wp2
  refine bodyPost_ret (v := .agg (shapeC 0 true true true 5 4 false false)) (shapes_results rfl hB) rfl ?_
  exact ⟨rfl, hb⟩
set_option maxHeartbeats 2000000 in
set_option maxRecDepth 100000 in
theorem shapes_srv (w : World) : Calls Tryz.prog 157 #[.int .i64 33] w fun e w' => e = .returned (.agg (shapeC 0 true false false 3 2 false true)) ∧ Below w.heap.size w w' := by
  have hb : Below w.heap.size w (w.alloc (.cells (shapeC 0 true false false 3 2 false true) 262)) := (Below.refl _ _).alloc (Nat.le_refl _) _
  have hB : Blk (w.alloc (.cells (shapeC 0 true false false 3 2 false true) 262)) w.heap.size (shapeC 0 true false false 3 2 false true) 262 := heap_alloc_new w _
  go_enter Tryz.func157, Tryz.ntmps157
  go_wp2
  refine bodyPost_ret (v := .agg (shapeC 0 true false false 3 2 false true)) (shapes_results rfl hB) rfl ?_
  exact ⟨rfl, hb⟩
set_option maxHeartbeats 2000000 in
set_option maxRecDepth 100000 in
theorem shapes_txt (w : World) : Calls Tryz.prog 157 #[.int .i64 16] w fun e w' => e = .returned (.agg (shapeC 0 false false false 0 0 true false)) ∧ Below w.heap.size w w' := by
  have hb : Below w.heap.size w (w.alloc (.cells (shapeC 0 false false false 0 0 true false) 262)) := (Below.refl _ _).alloc (Nat.le_refl _) _
  have hB : Blk (w.alloc (.cells (shapeC 0 false false false 0 0 true false) 262)) w.heap.size (shapeC 0 false false false 0 0 true false) 262 := heap_alloc_new w _
  go_enter Tryz.func157, Tryz.ntmps157
  go_wp2
  refine bodyPost_ret (v := .agg (shapeC 0 false false false 0 0 true false)) (shapes_results rfl hB) rfl ?_
  exact ⟨rfl, hb⟩
set_option maxHeartbeats 2000000 in
set_option maxRecDepth 100000 in
theorem shapes_other (w : World) (k : Int) (hk : k ≠ 1 ∧ k ≠ 28 ∧ k ≠ 2 ∧ k ≠ 5 ∧ k ≠ 12 ∧ k ≠ 15 ∧ k ≠ 6 ∧ k ≠ 33 ∧ k ≠ 16) : Calls Tryz.prog 157 #[.int .i64 k] w fun e w' => e = .returned (.agg (shapeC (-1) false false false 0 0 false false)) ∧ Below w.heap.size w w' := by
  have hb : Below w.heap.size w (w.alloc (.cells (shapeC (-1) false false false 0 0 false false) 262)) := (Below.refl _ _).alloc (Nat.le_refl _) _
  have hB : Blk (w.alloc (.cells (shapeC (-1) false false false 0 0 false false) 262)) w.heap.size (shapeC (-1) false false false 0 0 false false) 262 := heap_alloc_new w _
  obtain ⟨a1, a2, a3, a4, a5, a6, a7, a8, a9⟩ := hk
  have g1 : (k == 1) = false := by rw [beq_eq_false_iff_ne]; exact a1
  have g2 : (k == 28) = false := by rw [beq_eq_false_iff_ne]; exact a2
  have g3 : (k == 2) = false := by rw [beq_eq_false_iff_ne]; exact a3
  have g4 : (k == 5) = false := by rw [beq_eq_false_iff_ne]; exact a4
  have g5 : (k == 12) = false := by rw [beq_eq_false_iff_ne]; exact a5
  have g6 : (k == 15) = false := by rw [beq_eq_false_iff_ne]; exact a6
  have g7 : (k == 6) = false := by rw [beq_eq_false_iff_ne]; exact a7
  have g8 : (k == 33) = false := by rw [beq_eq_false_iff_ne]; exact a8
  have g9 : (k == 16) = false := by rw [beq_eq_false_iff_ne]; exact a9
  clear a1 a2 a3 a4 a5 a6 a7 a8 a9
  go_enter Tryz.func157, Tryz.ntmps157
  go_wp2
  refine bodyPost_ret (v := .agg (shapeC (-1) false false false 0 0 false false)) (shapes_results rfl hB) rfl ?_
  exact ⟨rfl, hb⟩
end Go.Proofs.YtgfibbjifbghdaaGreat

/- What Cache.find finds: the contracts of its instants, and its own. -/
import Derived.Test.YtgfibbjifbghdaaGreatCat
import Derived.Test.YtgfibbjifbghdaaGreatTtl
import Derived.Test.YtgfibbjifbghdaaGreatFsmall
namespace Go.Proofs.YtgfibbjifbghdaaGreat
open Go.ChangeShapes Go.WideShapes Go.ChangeAt Go.RowKit

theorem when_results {tmps : Array Value} {w : World} {R : Nat} {now win : Int} (h4 : tmps[4]? = some (.pointer (some ⟨R, 0, none⟩))) (hB : Blk w R #[.int .i64 now, .int .i64 win] 208) :
    (results Tryz.f115 tmps).run Tryz.prog w = .ok (.agg #[.int .i64 now, .int .i64 win]) w := by
  have c0 : w.cell? ⟨R, 0, none⟩ = some (.int .i64 now) := hB.cell 0
  have c1 : w.cell? ⟨R, 1, none⟩ = some (.int .i64 win) := hB.cell 1
  simp [results, go_sem, h4, c0, c1]
def fitsF (now : Int) (s : Slot) : Bool := decide (0 < leftZ s.f.got s.f.ttl now)
def fitsS (now win : Int) (s : Slot) : Bool := staleB s.f.got s.f.ttl win now
set_option maxHeartbeats 16000000 in
set_option maxRecDepth 100000 in
theorem ifresh_any (w : World) (now win : Int) (s : Slot) (hs : Blk w s.b (itemC s) 203) : Calls Tryz.prog 116 #[.agg #[.int .i64 now, .int .i64 win], .pointer (some ⟨s.b, 0, none⟩)] w fun e w' => e = .returned (.bool (fitsF now s)) ∧ Below w.heap.size w w' := by
  have hb1 : Below w.heap.size w (w.alloc (.cells #[.int .i64 now, .int .i64 win] 208)) := (Below.refl _ _).alloc (Nat.le_refl _) _
  have hA : Blk (w.alloc (.cells #[.int .i64 now, .int .i64 win] 208)) w.heap.size #[.int .i64 now, .int .i64 win] 208 := heap_alloc_new w _
  have hI := hs.on hb1
  have HB := Lib.hid hb1
  have HM4 := Lib.hid (show (w.alloc (.cells #[.int .i64 now, .int .i64 win] 208)).drew.cell? ⟨s.b, 4, none⟩ = some (.int .i64 s.f.got) from hI.cell 4)
  have HM5 := Lib.hid (show (w.alloc (.cells #[.int .i64 now, .int .i64 win] 208)).drew.cell? ⟨s.b, 5, none⟩ = some (.int .i64 s.f.ttl) from hI.cell 5)
  have HX0 := Lib.hid (show (w.alloc (.cells #[.int .i64 now, .int .i64 win] 208)).drew.cell? ⟨w.heap.size, 0, none⟩ = some (.int .i64 now) from hA.cell 0)
  have HX1 := Lib.hid (show (w.alloc (.cells #[.int .i64 now, .int .i64 win] 208)).drew.cell? ⟨w.heap.size, 1, none⟩ = some (.int .i64 win) from hA.cell 1)
  clear hb1 hA hI hs
  go_enter Tryz.func116, Tryz.ntmps116
  go_wp2_with fail
  refine wp_soup0 (m := 18) (by kernel_rfl) (fun x y => Below x.heap.size x y) (fun i v xw => match i with | 0 => v = .pointer (some ⟨s.b, 0, none⟩) | 1 => v = .pointer (some ⟨s.b, 0, none⟩) | 2 => v = .pointer (some ⟨s.b, 0, none⟩) | 3 => v = .pointer (some ⟨s.b, 4, none⟩) | 4 => v = .int .i64 s.f.got | 5 => v = .pointer (some ⟨s.b, 0, none⟩) | 6 => v = .pointer (some ⟨s.b, 0, none⟩) | 7 => v = .pointer (some ⟨s.b, 0, none⟩) | 8 => v = .pointer (some ⟨s.b, 5, none⟩) | 9 => v = .int .i64 s.f.ttl | 10 => v = .pointer (some ⟨w.heap.size, 0, none⟩) | 11 => v = .int .i64 now | 12 => v = .bool (fitsF now s) | 13 => v = .bool (fitsF now s) | _ => True) rfl (by kernel_rfl) (fun _ _ _ h1 h2 => below_on h1 h2 (Nat.le_refl _)) (Below.refl _ _) (fun _ _ _ _ h _ => h) (dst_but 14 (by kernel_rfl) (fun _ _ h => h)) ?_ ?_
  rotate_left
  · intro a W hR hS hdep
    have e4 : a.tmps.getD 4 undef = .bool (fitsF now s) := hdep 13 (by decide +kernel)
    obtain ⟨T, df⟩ := a
    obtain rfl : df = [] := hS.defers
    have hT : T = #[T.getD 0 undef, T.getD 1 undef, T.getD 2 undef, T.getD 3 undef, T.getD 4 undef, T.getD 5 undef, T.getD 6 undef, T.getD 7 undef, T.getD 8 undef, T.getD 9 undef, T.getD 10 undef, T.getD 11 undef, T.getD 12 undef, T.getD 13 undef, T.getD 14 undef, T.getD 15 undef, T.getD 16 undef, T.getD 17 undef] := arr_eta T 18 hS.size
    have k4 : T.getD 4 undef = .bool (fitsF now s) := e4
    clear hS hdep
    rw [hT]
    rw [k4]
    clear k4 e4
    clear hT
    generalize T.getD 0 undef = u0
    generalize T.getD 1 undef = u1
    generalize T.getD 2 undef = u2
    generalize T.getD 3 undef = u3
    generalize T.getD 5 undef = u5
    generalize T.getD 6 undef = u6
    generalize T.getD 7 undef = u7
    generalize T.getD 8 undef = u8
    generalize T.getD 9 undef = u9
    generalize T.getD 10 undef = u10
    generalize T.getD 11 undef = u11
    generalize T.getD 12 undef = u12
    generalize T.getD 13 undef = u13
    generalize T.getD 14 undef = u14
    generalize T.getD 15 undef = u15
    generalize T.getD 16 undef = u16
    generalize T.getD 17 undef = u17
    have HR := Lib.hid (below_on HB.out (below_on (Below.drew (Below.refl _ _)) hR (Nat.le_refl _)) (Nat.le_refl _))
    clear hR
    go_wp2_with fail
    go_ret
    exact ⟨rfl, HR.out⟩
  refine soup_cons rfl rfl (fun a W hR hS hdep K hK => ?_) ?_
  · have e1 : a.tmps[1]?.getD undef = .pointer (some ⟨s.b, 0, none⟩) := slot_of (hS.keep 1 (by kernel_rfl))
    go_simp
    exact hK _ _ (Below.refl _ _) (by first | rfl | simp)
  refine soup_cons rfl rfl (fun a W hR hS hdep K hK => ?_) ?_
  · have e5 : a.tmps[5]?.getD undef = .pointer (some ⟨s.b, 0, none⟩) := slot_of (hdep 0 (by decide +kernel))
    go_simp
    exact hK _ _ (Below.refl _ _) (by first | rfl | simp)
  refine soup_cons rfl rfl (fun a W hR hS hdep K hK => ?_) ?_
  · have e6 : a.tmps[6]?.getD undef = .pointer (some ⟨s.b, 0, none⟩) := slot_of (hdep 1 (by decide +kernel))
    go_simp
    exact hK _ _ (Below.refl _ _) (by first | rfl | simp)
  refine soup_cons rfl rfl (fun a W hR hS hdep K hK => ?_) ?_
  · have e7 : a.tmps[7]?.getD undef = .pointer (some ⟨s.b, 0, none⟩) := slot_of (hdep 2 (by decide +kernel))
    go_simp
    exact hK _ _ (Below.refl _ _) (by first | rfl | simp)
  refine soup_cons rfl rfl (fun a W hR hS hdep K hK => ?_) ?_
  · have e8 : a.tmps[8]?.getD undef = .pointer (some ⟨s.b, 4, none⟩) := slot_of (hdep 3 (by decide +kernel))
    have m0 := cell_keep hR HM4.out
    go_simp
    exact hK _ _ (Below.refl _ _) (by first | rfl | simp)
  refine soup_cons rfl rfl (fun a W hR hS hdep K hK => ?_) ?_
  · have e1 : a.tmps[1]?.getD undef = .pointer (some ⟨s.b, 0, none⟩) := slot_of (hS.keep 1 (by kernel_rfl))
    go_simp
    exact hK _ _ (Below.refl _ _) (by first | rfl | simp)
  refine soup_cons rfl rfl (fun a W hR hS hdep K hK => ?_) ?_
  · have e10 : a.tmps[10]?.getD undef = .pointer (some ⟨s.b, 0, none⟩) := slot_of (hdep 5 (by decide +kernel))
    go_simp
    exact hK _ _ (Below.refl _ _) (by first | rfl | simp)
  refine soup_cons rfl rfl (fun a W hR hS hdep K hK => ?_) ?_
  · have e11 : a.tmps[11]?.getD undef = .pointer (some ⟨s.b, 0, none⟩) := slot_of (hdep 6 (by decide +kernel))
    go_simp
    exact hK _ _ (Below.refl _ _) (by first | rfl | simp)
  refine soup_cons rfl rfl (fun a W hR hS hdep K hK => ?_) ?_
  · have e12 : a.tmps[12]?.getD undef = .pointer (some ⟨s.b, 0, none⟩) := slot_of (hdep 7 (by decide +kernel))
    go_simp
    exact hK _ _ (Below.refl _ _) (by first | rfl | simp)
  refine soup_cons rfl rfl (fun a W hR hS hdep K hK => ?_) ?_
  · have e13 : a.tmps[13]?.getD undef = .pointer (some ⟨s.b, 5, none⟩) := slot_of (hdep 8 (by decide +kernel))
    have m0 := cell_keep hR HM5.out
    go_simp
    exact hK _ _ (Below.refl _ _) (by first | rfl | simp)
  refine soup_cons rfl rfl (fun a W hR hS hdep K hK => ?_) ?_
  · have e2 : a.tmps[2]?.getD undef = .pointer (some ⟨w.heap.size, 0, none⟩) := slot_of (hS.keep 2 (by kernel_rfl))
    go_simp
    exact hK _ _ (Below.refl _ _) (by first | rfl | simp)
  refine soup_cons rfl rfl (fun a W hR hS hdep K hK => ?_) ?_
  · have e15 : a.tmps[15]?.getD undef = .pointer (some ⟨w.heap.size, 0, none⟩) := slot_of (hdep 10 (by decide +kernel))
    have m0 := cell_keep hR HX0.out
    go_simp
    exact hK _ _ (Below.refl _ _) (by first | rfl | simp)
  refine soup_cons rfl rfl (fun a W hR hS hdep K hK => ?_) ?_
  · have e9 : a.tmps[9]?.getD undef = .int .i64 s.f.got := slot_of (hdep 4 (by decide +kernel))
    have e14 : a.tmps[14]?.getD undef = .int .i64 s.f.ttl := slot_of (hdep 9 (by decide +kernel))
    have e16 : a.tmps[16]?.getD undef = .int .i64 now := slot_of (hdep 11 (by decide +kernel))
    go_simp
    refine (fresh_any s.f.got s.f.ttl now _).mono ?_
    rintro e W' ⟨rfl, rfl⟩
    exact hK _ _ (Below.refl _ _) rfl
  refine soup_cons rfl rfl (fun a W hR hS hdep K hK => ?_) ?_
  · have e17 : a.tmps[17]?.getD undef = .bool (fitsF now s) := slot_of (hdep 12 (by decide +kernel))
    go_simp
    exact hK _ _ (Below.refl _ _) (by first | rfl | simp)
  exact fun j h1 h2 => absurd h1 (by simp only [List.size_toArray, List.length_cons, List.length_nil]; omega)
set_option maxHeartbeats 16000000 in
set_option maxRecDepth 100000 in
theorem istale_any (w : World) (now win : Int) (s : Slot) (hs : Blk w s.b (itemC s) 203) : Calls Tryz.prog 148 #[.agg #[.int .i64 now, .int .i64 win], .pointer (some ⟨s.b, 0, none⟩)] w fun e w' => e = .returned (.bool (fitsS now win s)) ∧ Below w.heap.size w w' := by
  have hb1 : Below w.heap.size w (w.alloc (.cells #[.int .i64 now, .int .i64 win] 208)) := (Below.refl _ _).alloc (Nat.le_refl _) _
  have hA : Blk (w.alloc (.cells #[.int .i64 now, .int .i64 win] 208)) w.heap.size #[.int .i64 now, .int .i64 win] 208 := heap_alloc_new w _
  have hI := hs.on hb1
  have HB := Lib.hid hb1
  have HM4 := Lib.hid (show (w.alloc (.cells #[.int .i64 now, .int .i64 win] 208)).drew.cell? ⟨s.b, 4, none⟩ = some (.int .i64 s.f.got) from hI.cell 4)
  have HM5 := Lib.hid (show (w.alloc (.cells #[.int .i64 now, .int .i64 win] 208)).drew.cell? ⟨s.b, 5, none⟩ = some (.int .i64 s.f.ttl) from hI.cell 5)
  have HX0 := Lib.hid (show (w.alloc (.cells #[.int .i64 now, .int .i64 win] 208)).drew.cell? ⟨w.heap.size, 0, none⟩ = some (.int .i64 now) from hA.cell 0)
  have HX1 := Lib.hid (show (w.alloc (.cells #[.int .i64 now, .int .i64 win] 208)).drew.cell? ⟨w.heap.size, 1, none⟩ = some (.int .i64 win) from hA.cell 1)
  clear hb1 hA hI hs
  go_enter Tryz.func148, Tryz.ntmps148
  go_wp2_with fail
  refine wp_soup0 (m := 20) (by kernel_rfl) (fun x y => Below x.heap.size x y) (fun i v xw => match i with | 0 => v = .pointer (some ⟨s.b, 0, none⟩) | 1 => v = .pointer (some ⟨s.b, 0, none⟩) | 2 => v = .pointer (some ⟨s.b, 0, none⟩) | 3 => v = .pointer (some ⟨s.b, 4, none⟩) | 4 => v = .int .i64 s.f.got | 5 => v = .pointer (some ⟨s.b, 0, none⟩) | 6 => v = .pointer (some ⟨s.b, 0, none⟩) | 7 => v = .pointer (some ⟨s.b, 0, none⟩) | 8 => v = .pointer (some ⟨s.b, 5, none⟩) | 9 => v = .int .i64 s.f.ttl | 10 => v = .pointer (some ⟨w.heap.size, 1, none⟩) | 11 => v = .int .i64 win | 12 => v = .pointer (some ⟨w.heap.size, 0, none⟩) | 13 => v = .int .i64 now | 14 => v = .bool (fitsS now win s) | 15 => v = .bool (fitsS now win s) | _ => True) rfl (by kernel_rfl) (fun _ _ _ h1 h2 => below_on h1 h2 (Nat.le_refl _)) (Below.refl _ _) (fun _ _ _ _ h _ => h) (dst_but 16 (by kernel_rfl) (fun _ _ h => h)) ?_ ?_
  rotate_left
  · intro a W hR hS hdep
    have e4 : a.tmps.getD 4 undef = .bool (fitsS now win s) := hdep 15 (by decide +kernel)
    obtain ⟨T, df⟩ := a
    obtain rfl : df = [] := hS.defers
    have hT : T = #[T.getD 0 undef, T.getD 1 undef, T.getD 2 undef, T.getD 3 undef, T.getD 4 undef, T.getD 5 undef, T.getD 6 undef, T.getD 7 undef, T.getD 8 undef, T.getD 9 undef, T.getD 10 undef, T.getD 11 undef, T.getD 12 undef, T.getD 13 undef, T.getD 14 undef, T.getD 15 undef, T.getD 16 undef, T.getD 17 undef, T.getD 18 undef, T.getD 19 undef] := arr_eta T 20 hS.size
    have k4 : T.getD 4 undef = .bool (fitsS now win s) := e4
    clear hS hdep
    rw [hT]
    rw [k4]
    clear k4 e4
    clear hT
    generalize T.getD 0 undef = u0
    generalize T.getD 1 undef = u1
    generalize T.getD 2 undef = u2
    generalize T.getD 3 undef = u3
    generalize T.getD 5 undef = u5
    generalize T.getD 6 undef = u6
    generalize T.getD 7 undef = u7
    generalize T.getD 8 undef = u8
    generalize T.getD 9 undef = u9
    generalize T.getD 10 undef = u10
    generalize T.getD 11 undef = u11
    generalize T.getD 12 undef = u12
    generalize T.getD 13 undef = u13
    generalize T.getD 14 undef = u14
    generalize T.getD 15 undef = u15
    generalize T.getD 16 undef = u16
    generalize T.getD 17 undef = u17
    generalize T.getD 18 undef = u18
    generalize T.getD 19 undef = u19
    have HR := Lib.hid (below_on HB.out (below_on (Below.drew (Below.refl _ _)) hR (Nat.le_refl _)) (Nat.le_refl _))
    clear hR
    go_wp2_with fail
    go_ret
    exact ⟨rfl, HR.out⟩
  refine soup_cons rfl rfl (fun a W hR hS hdep K hK => ?_) ?_
  · have e1 : a.tmps[1]?.getD undef = .pointer (some ⟨s.b, 0, none⟩) := slot_of (hS.keep 1 (by kernel_rfl))
    go_simp
    exact hK _ _ (Below.refl _ _) (by first | rfl | simp)
  refine soup_cons rfl rfl (fun a W hR hS hdep K hK => ?_) ?_
  · have e5 : a.tmps[5]?.getD undef = .pointer (some ⟨s.b, 0, none⟩) := slot_of (hdep 0 (by decide +kernel))
    go_simp
    exact hK _ _ (Below.refl _ _) (by first | rfl | simp)
  refine soup_cons rfl rfl (fun a W hR hS hdep K hK => ?_) ?_
  · have e6 : a.tmps[6]?.getD undef = .pointer (some ⟨s.b, 0, none⟩) := slot_of (hdep 1 (by decide +kernel))
    go_simp
    exact hK _ _ (Below.refl _ _) (by first | rfl | simp)
  refine soup_cons rfl rfl (fun a W hR hS hdep K hK => ?_) ?_
  · have e7 : a.tmps[7]?.getD undef = .pointer (some ⟨s.b, 0, none⟩) := slot_of (hdep 2 (by decide +kernel))
    go_simp
    exact hK _ _ (Below.refl _ _) (by first | rfl | simp)
  refine soup_cons rfl rfl (fun a W hR hS hdep K hK => ?_) ?_
  · have e8 : a.tmps[8]?.getD undef = .pointer (some ⟨s.b, 4, none⟩) := slot_of (hdep 3 (by decide +kernel))
    have m0 := cell_keep hR HM4.out
    go_simp
    exact hK _ _ (Below.refl _ _) (by first | rfl | simp)
  refine soup_cons rfl rfl (fun a W hR hS hdep K hK => ?_) ?_
  · have e1 : a.tmps[1]?.getD undef = .pointer (some ⟨s.b, 0, none⟩) := slot_of (hS.keep 1 (by kernel_rfl))
    go_simp
    exact hK _ _ (Below.refl _ _) (by first | rfl | simp)
  refine soup_cons rfl rfl (fun a W hR hS hdep K hK => ?_) ?_
  · have e10 : a.tmps[10]?.getD undef = .pointer (some ⟨s.b, 0, none⟩) := slot_of (hdep 5 (by decide +kernel))
    go_simp
    exact hK _ _ (Below.refl _ _) (by first | rfl | simp)
  refine soup_cons rfl rfl (fun a W hR hS hdep K hK => ?_) ?_
  · have e11 : a.tmps[11]?.getD undef = .pointer (some ⟨s.b, 0, none⟩) := slot_of (hdep 6 (by decide +kernel))
    go_simp
    exact hK _ _ (Below.refl _ _) (by first | rfl | simp)
  refine soup_cons rfl rfl (fun a W hR hS hdep K hK => ?_) ?_
  · have e12 : a.tmps[12]?.getD undef = .pointer (some ⟨s.b, 0, none⟩) := slot_of (hdep 7 (by decide +kernel))
    go_simp
    exact hK _ _ (Below.refl _ _) (by first | rfl | simp)
  refine soup_cons rfl rfl (fun a W hR hS hdep K hK => ?_) ?_
  · have e13 : a.tmps[13]?.getD undef = .pointer (some ⟨s.b, 5, none⟩) := slot_of (hdep 8 (by decide +kernel))
    have m0 := cell_keep hR HM5.out
    go_simp
    exact hK _ _ (Below.refl _ _) (by first | rfl | simp)
  refine soup_cons rfl rfl (fun a W hR hS hdep K hK => ?_) ?_
  · have e2 : a.tmps[2]?.getD undef = .pointer (some ⟨w.heap.size, 0, none⟩) := slot_of (hS.keep 2 (by kernel_rfl))
    go_simp
    exact hK _ _ (Below.refl _ _) (by first | rfl | simp)
  refine soup_cons rfl rfl (fun a W hR hS hdep K hK => ?_) ?_
  · have e15 : a.tmps[15]?.getD undef = .pointer (some ⟨w.heap.size, 1, none⟩) := slot_of (hdep 10 (by decide +kernel))
    have m0 := cell_keep hR HX1.out
    go_simp
    exact hK _ _ (Below.refl _ _) (by first | rfl | simp)
  refine soup_cons rfl rfl (fun a W hR hS hdep K hK => ?_) ?_
  · have e2 : a.tmps[2]?.getD undef = .pointer (some ⟨w.heap.size, 0, none⟩) := slot_of (hS.keep 2 (by kernel_rfl))
    go_simp
    exact hK _ _ (Below.refl _ _) (by first | rfl | simp)
  refine soup_cons rfl rfl (fun a W hR hS hdep K hK => ?_) ?_
  · have e17 : a.tmps[17]?.getD undef = .pointer (some ⟨w.heap.size, 0, none⟩) := slot_of (hdep 12 (by decide +kernel))
    have m0 := cell_keep hR HX0.out
    go_simp
    exact hK _ _ (Below.refl _ _) (by first | rfl | simp)
  refine soup_cons rfl rfl (fun a W hR hS hdep K hK => ?_) ?_
  · have e9 : a.tmps[9]?.getD undef = .int .i64 s.f.got := slot_of (hdep 4 (by decide +kernel))
    have e14 : a.tmps[14]?.getD undef = .int .i64 s.f.ttl := slot_of (hdep 9 (by decide +kernel))
    have e16 : a.tmps[16]?.getD undef = .int .i64 win := slot_of (hdep 11 (by decide +kernel))
    have e18 : a.tmps[18]?.getD undef = .int .i64 now := slot_of (hdep 13 (by decide +kernel))
    go_simp
    refine (stale_any s.f.got s.f.ttl win now _).mono ?_
    rintro e W' ⟨rfl, rfl⟩
    exact hK _ _ (Below.refl _ _) rfl
  refine soup_cons rfl rfl (fun a W hR hS hdep K hK => ?_) ?_
  · have e19 : a.tmps[19]?.getD undef = .bool (fitsS now win s) := slot_of (hdep 14 (by decide +kernel))
    go_simp
    exact hK _ _ (Below.refl _ _) (by first | rfl | simp)
  exact fun j h1 h2 => absurd h1 (by simp only [List.size_toArray, List.length_cons, List.length_nil]; omega)
set_option maxHeartbeats 4000000 in
set_option maxRecDepth 100000 in
theorem when_any (w : World) (B C : Nat) (most stale : Int) (k : Nat) (L : List Slot) (hC : IsCache B w C most stale k L) (now : Int) : Calls Tryz.prog 115 #[.pointer (some ⟨C, 0, none⟩), .int .i64 now] w fun e w' => e = .returned (.agg #[.int .i64 now, .int .i64 stale]) ∧ Below w.heap.size w w' := by
  obtain ⟨M, hCb, _, _⟩ := hC.ex
  have hb1 : Below w.heap.size w (w.alloc (.cells #[.int .i64 0, .int .i64 0] 208)) := (Below.refl _ _).alloc (Nat.le_refl _) _
  have m1 : (w.alloc (.cells #[.int .i64 0, .int .i64 0] 208)).cell? ⟨C, 1, none⟩ = some (.int .i64 stale) := (hCb.on hb1).cell 1
  have HB := Lib.hid hb1
  clear hb1 hC hCb
  go_enter Tryz.func115, Tryz.ntmps115
  go_wp2_with fail
  refine bodyPost_ret (when_results (now := now) (win := stale) rfl (heap_alloc_new _ _)) rfl ?_
  exact ⟨rfl, (Below.refl _ _).alloc (Nat.le_refl _) _⟩
set_option maxHeartbeats 4000000 in
set_option maxRecDepth 100000 in
theorem when_nil (w : World) (now : Int) : Calls Tryz.prog 115 #[.pointer none, .int .i64 now] w fun e w' => e = .returned (.agg #[.int .i64 now, .int .i64 0]) ∧ Below w.heap.size w w' := by
  go_enter Tryz.func115, Tryz.ntmps115
  go_wp2_with fail
  refine bodyPost_ret (when_results (now := now) (win := 0) rfl (heap_alloc_new _ _)) rfl ?_
  exact ⟨rfl, (Below.refl _ _).alloc (Nat.le_refl _) _⟩
def fitO (o : Option Slot) (p : Slot → Bool) : Option Slot := match o with | some s => if p s = true then some s else none | none => none
def findL (L : List Slot) (nm : List ByteArray) (typ : Int) (p : Slot → Bool) : Option Slot := if typedB typ = true then (match fitO (atL L (keyP nm typ)) p with | some s => some s | none => fitO (atL L (keyP nm 0)) p) else none
theorem find_step {L : List Slot} {nm : List ByteArray} {typ t : Int} {j : Nat} {p : Slot → Bool} (hj : j < 2) (ht : t = if j = 0 then typ else 0) (h1 : 0 < j → fitO (atL L (keyP nm typ)) p = none) (h : fitO (atL L (keyP nm t)) p = none) :
    (0 < j + 1 → fitO (atL L (keyP nm typ)) p = none) ∧ (1 < j + 1 → fitO (atL L (keyP nm 0)) p = none) := by
  rcases (show j = 0 ∨ j = 1 by omega) with rfl | rfl
  · rw [if_pos rfl] at ht; subst ht
    exact ⟨fun _ => h, fun h => absurd h (by omega)⟩
  · rw [if_neg (by omega)] at ht; subst ht
    exact ⟨fun _ => h1 (by omega), fun _ => h⟩
theorem find_hit {L : List Slot} {nm : List ByteArray} {typ t : Int} {j : Nat} {p : Slot → Bool} {s : Slot} (hj : j < 2) (ht : t = if j = 0 then typ else 0) (h1 : 0 < j → fitO (atL L (keyP nm typ)) p = none) (h : fitO (atL L (keyP nm t)) p = some s) :
    (match fitO (atL L (keyP nm typ)) p with | some s => some s | none => fitO (atL L (keyP nm 0)) p) = some s := by
  rcases (show j = 0 ∨ j = 1 by omega) with rfl | rfl
  · rw [if_pos rfl] at ht; subst ht
    rw [h]
  · rw [if_neg (by omega)] at ht; subst ht
    rw [h1 (by omega)]; exact h
set_option maxHeartbeats 16000000 in
set_option maxRecDepth 100000 in
theorem findF_any (w : World) (B C : Nat) (most stale : Int) (k : Nat) (L : List Slot) (hC : IsCache B w C most stale k L) (na : Option Addr) (nl nc : Nat) (nm : List ByteArray) (typ : Int) (hn : Strs w na nl nc nm) (hz : sizeN nm ≤ 1099511627776) (now win : Int) :
    Calls Tryz.prog 114 #[.pointer (some ⟨C, 0, none⟩), .slice na nl nc, .int .i64 typ, .func (.func 116) #[.agg #[.int .i64 now, .int .i64 win]] #[]] w fun e w' => e = .returned (itemV (findL L nm typ (fitsF now))) ∧ Below w.heap.size w w' := by
  have HT := Lib.hid (fun w' => typed_any w' typ)
  have HCN := Lib.hid (And.intro hC hn)
  have HAT := Lib.hid (fun w' (p : Below w.heap.size w w') t => at_any w' B C most stale k L (hC.on p) na nl nc nm t (hn.below p (Nat.le_refl _)) hz)
  have HF := Lib.hid (fun w' (p : Below w.heap.size w w') s t (hs : atL L (keyP nm t) = some s) => ifresh_any w' now win s ((hC.slot s (atL_mem hs).1).2.1.on p))
  clear hC hn
  cases hT : typedB typ with
  | false =>
    have hf : findL L nm typ (fitsF now) = none := by rw [findL, hT]; rfl
    rw [hf]
    rw [hT] at HT
    go_enter Tryz.func114, Tryz.ntmps114
    go_wp2_with (go_at_call 30; refine (HT.out _).mono ?_; rintro e w' ⟨rfl, rfl⟩)
    go_ret
    exact ⟨rfl, Below.refl _ _⟩
  | true =>
    have hf : findL L nm typ (fitsF now) = (match fitO (atL L (keyP nm typ)) (fitsF now) with | some s => some s | none => fitO (atL L (keyP nm 0)) (fitsF now)) := by rw [findL, hT]; rfl
    rw [hT] at HT
    have HFI := Lib.hid hf
    clear hf hT
    have hb1 : Below w.heap.size w (w.alloc (.cells #[.int .i64 typ, .int .i64 0] 3)) := (Below.refl _ _).alloc (Nat.le_refl _) _
    have hX : Blk (w.alloc (.cells #[.int .i64 typ, .int .i64 0] 3)) w.heap.size #[.int .i64 typ, .int .i64 0] 3 := heap_alloc_new w _
    have HX := Lib.hid (And.intro hb1 hX)
    clear hb1 hX
    go_enter Tryz.func114, Tryz.ntmps114
    go_wp2_with (go_at_call 30; refine (HT.out _).mono ?_; rintro e w' ⟨rfl, rfl⟩)
    go_loopw [18] (fun i wr => ∃ j : Nat, j ≤ 2 ∧ i = .int .i64 j ∧ Hid (Below w.heap.size w wr ∧ Blk wr w.heap.size #[.int .i64 typ, .int .i64 0] 3 ∧ (0 < j → fitO (atL L (keyP nm typ)) (fitsF now) = none) ∧ (1 < j → fitO (atL L (keyP nm 0)) (fitsF now) = none))) (fun i _ => 2 - (intOf i).toNat)
    case atStart => exact ⟨0, by omega, rfl, Lib.hid ⟨HX.out.1, HX.out.2, fun h => absurd h (by omega), fun h => absurd h (by omega)⟩⟩
    case round =>
      obtain ⟨j, hj, rfl, hinv⟩ := hrel
      by_cases hlt : j < 2
      · obtain ⟨t, ht⟩ : ∃ t : Int, (#[.int .i64 typ, .int .i64 0] : Array Value)[j]? = some (.int .i64 t) ∧ t = if j = 0 then typ else 0 := by
          rcases (show j = 0 ∨ j = 1 by omega) with rfl | rfl
          · exact ⟨typ, rfl, rfl⟩
          · exact ⟨0, rfl, rfl⟩
        have mj : wr.cell? ⟨w.heap.size, j, none⟩ = some (.int .i64 t) := (hinv.out.2.1.cell j).trans ht.1
        have HTT := Lib.hid ht.2
        have HA2 := Lib.hid (HAT.out wr hinv.out.1 t)
        clear ht
        cases hat : atL L (keyP nm t) with
        | none =>
          rw [hat] at HA2
          go_wp2_with (go_at_call 146; refine HA2.out.mono ?_; rintro e W ⟨rfl, hb⟩; simp only [itemV]; have HW := Lib.hid (And.intro (below_on hinv.out.1 hb (Nat.le_refl _)) (hinv.out.2.1.on hb)); clear hb)
          go_roundw
          case rel => exact ⟨j + 1, by omega, by go_num, Lib.hid ⟨HW.out.1, HW.out.2, find_step hlt HTT.out hinv.out.2.2.1 (by rw [hat]; rfl)⟩⟩
          case measure => simp [intOf]; omega
        | some s =>
          rw [hat] at HA2
          have HFS := Lib.hid (fun w' (p : Below w.heap.size w w') => HF.out w' p s t hat)
          have HHAT := Lib.hid hat
          clear hat
          cases hfit : fitsF now s with
          | true =>
            rw [hfit] at HFS
            have hall := HFI.out.trans (find_hit (s := s) hlt HTT.out hinv.out.2.2.1 (by rw [HHAT.out]; simp [fitO, hfit]))
            have HALL := Lib.hid hall
            clear hfit hall
            go_wp2_with (first | (go_at_call 146; refine HA2.out.mono ?_; rintro e W ⟨rfl, hb⟩; simp only [itemV]; have HW := Lib.hid (And.intro (below_on hinv.out.1 hb (Nat.le_refl _)) (hinv.out.2.1.on hb)); clear hb) | (go_at_call 116; refine (HFS.out _ HW.out.1).mono ?_; rintro e W2 ⟨rfl, hb⟩; have HW2 := Lib.hid (below_on HW.out.1 hb (Nat.le_refl _)); clear hb))
            go_ret
            exact ⟨by rw [HALL.out]; rfl, HW2.out⟩
          | false =>
            rw [hfit] at HFS
            have HST := Lib.hid (find_step hlt HTT.out hinv.out.2.2.1 (show fitO (atL L (keyP nm t)) (fitsF now) = none by rw [HHAT.out]; simp [fitO, hfit]))
            clear hfit
            go_wp2_with (first | (go_at_call 146; refine HA2.out.mono ?_; rintro e W ⟨rfl, hb⟩; simp only [itemV]; have HW := Lib.hid (And.intro (below_on hinv.out.1 hb (Nat.le_refl _)) (hinv.out.2.1.on hb)); clear hb) | (go_at_call 116; refine (HFS.out _ HW.out.1).mono ?_; rintro e W2 ⟨rfl, hb⟩; have HW2 := Lib.hid (And.intro (below_on HW.out.1 hb (Nat.le_refl _)) (HW.out.2.on hb)); clear hb))
            go_roundw
            case rel => exact ⟨j + 1, by omega, by go_num, Lib.hid ⟨HW2.out.1, HW2.out.2, HST.out⟩⟩
            case measure => simp [intOf]; omega
      · have hall : findL L nm typ (fitsF now) = none := HFI.out.trans (by rw [hinv.out.2.2.1 (by omega), hinv.out.2.2.2 (by omega)])
        have HALL := Lib.hid hall
        clear hall
        go_wp2_with fail
        go_ret
        exact ⟨by rw [HALL.out]; rfl, hinv.out.1⟩
set_option maxHeartbeats 16000000 in
set_option maxRecDepth 100000 in
theorem findS_any (w : World) (B C : Nat) (most stale : Int) (k : Nat) (L : List Slot) (hC : IsCache B w C most stale k L) (na : Option Addr) (nl nc : Nat) (nm : List ByteArray) (typ : Int) (hn : Strs w na nl nc nm) (hz : sizeN nm ≤ 1099511627776) (now win : Int) :
    Calls Tryz.prog 114 #[.pointer (some ⟨C, 0, none⟩), .slice na nl nc, .int .i64 typ, .func (.func 148) #[.agg #[.int .i64 now, .int .i64 win]] #[]] w fun e w' => e = .returned (itemV (findL L nm typ (fitsS now win))) ∧ Below w.heap.size w w' := by
  have HT := Lib.hid (fun w' => typed_any w' typ)
  have HCN := Lib.hid (And.intro hC hn)
  have HAT := Lib.hid (fun w' (p : Below w.heap.size w w') t => at_any w' B C most stale k L (hC.on p) na nl nc nm t (hn.below p (Nat.le_refl _)) hz)
  have HF := Lib.hid (fun w' (p : Below w.heap.size w w') s t (hs : atL L (keyP nm t) = some s) => istale_any w' now win s ((hC.slot s (atL_mem hs).1).2.1.on p))
  clear hC hn
  cases hT : typedB typ with
  | false =>
    have hf : findL L nm typ (fitsS now win) = none := by rw [findL, hT]; rfl
    rw [hf]
    rw [hT] at HT
    go_enter Tryz.func114, Tryz.ntmps114
    go_wp2_with (go_at_call 30; refine (HT.out _).mono ?_; rintro e w' ⟨rfl, rfl⟩)
    go_ret
    exact ⟨rfl, Below.refl _ _⟩
  | true =>
    have hf : findL L nm typ (fitsS now win) = (match fitO (atL L (keyP nm typ)) (fitsS now win) with | some s => some s | none => fitO (atL L (keyP nm 0)) (fitsS now win)) := by rw [findL, hT]; rfl
    rw [hT] at HT
    have HFI := Lib.hid hf
    clear hf hT
    have hb1 : Below w.heap.size w (w.alloc (.cells #[.int .i64 typ, .int .i64 0] 3)) := (Below.refl _ _).alloc (Nat.le_refl _) _
    have hX : Blk (w.alloc (.cells #[.int .i64 typ, .int .i64 0] 3)) w.heap.size #[.int .i64 typ, .int .i64 0] 3 := heap_alloc_new w _
    have HX := Lib.hid (And.intro hb1 hX)
    clear hb1 hX
    go_enter Tryz.func114, Tryz.ntmps114
    go_wp2_with (go_at_call 30; refine (HT.out _).mono ?_; rintro e w' ⟨rfl, rfl⟩)
    go_loopw [18] (fun i wr => ∃ j : Nat, j ≤ 2 ∧ i = .int .i64 j ∧ Hid (Below w.heap.size w wr ∧ Blk wr w.heap.size #[.int .i64 typ, .int .i64 0] 3 ∧ (0 < j → fitO (atL L (keyP nm typ)) (fitsS now win) = none) ∧ (1 < j → fitO (atL L (keyP nm 0)) (fitsS now win) = none))) (fun i _ => 2 - (intOf i).toNat)
    case atStart => exact ⟨0, by omega, rfl, Lib.hid ⟨HX.out.1, HX.out.2, fun h => absurd h (by omega), fun h => absurd h (by omega)⟩⟩
    case round =>
      obtain ⟨j, hj, rfl, hinv⟩ := hrel
      by_cases hlt : j < 2
      · obtain ⟨t, ht⟩ : ∃ t : Int, (#[.int .i64 typ, .int .i64 0] : Array Value)[j]? = some (.int .i64 t) ∧ t = if j = 0 then typ else 0 := by
          rcases (show j = 0 ∨ j = 1 by omega) with rfl | rfl
          · exact ⟨typ, rfl, rfl⟩
          · exact ⟨0, rfl, rfl⟩
        have mj : wr.cell? ⟨w.heap.size, j, none⟩ = some (.int .i64 t) := (hinv.out.2.1.cell j).trans ht.1
        have HTT := Lib.hid ht.2
        have HA2 := Lib.hid (HAT.out wr hinv.out.1 t)
        clear ht
        cases hat : atL L (keyP nm t) with
        | none =>
          rw [hat] at HA2
          go_wp2_with (go_at_call 146; refine HA2.out.mono ?_; rintro e W ⟨rfl, hb⟩; simp only [itemV]; have HW := Lib.hid (And.intro (below_on hinv.out.1 hb (Nat.le_refl _)) (hinv.out.2.1.on hb)); clear hb)
          go_roundw
          case rel => exact ⟨j + 1, by omega, by go_num, Lib.hid ⟨HW.out.1, HW.out.2, find_step hlt HTT.out hinv.out.2.2.1 (by rw [hat]; rfl)⟩⟩
          case measure => simp [intOf]; omega
        | some s =>
          rw [hat] at HA2
          have HFS := Lib.hid (fun w' (p : Below w.heap.size w w') => HF.out w' p s t hat)
          have HHAT := Lib.hid hat
          clear hat
          cases hfit : fitsS now win s with
          | true =>
            rw [hfit] at HFS
            have hall := HFI.out.trans (find_hit (s := s) hlt HTT.out hinv.out.2.2.1 (by rw [HHAT.out]; simp [fitO, hfit]))
            have HALL := Lib.hid hall
            clear hfit hall
            go_wp2_with (first | (go_at_call 146; refine HA2.out.mono ?_; rintro e W ⟨rfl, hb⟩; simp only [itemV]; have HW := Lib.hid (And.intro (below_on hinv.out.1 hb (Nat.le_refl _)) (hinv.out.2.1.on hb)); clear hb) | (go_at_call 148; refine (HFS.out _ HW.out.1).mono ?_; rintro e W2 ⟨rfl, hb⟩; have HW2 := Lib.hid (below_on HW.out.1 hb (Nat.le_refl _)); clear hb))
            go_ret
            exact ⟨by rw [HALL.out]; rfl, HW2.out⟩
          | false =>
            rw [hfit] at HFS
            have HST := Lib.hid (find_step hlt HTT.out hinv.out.2.2.1 (show fitO (atL L (keyP nm t)) (fitsS now win) = none by rw [HHAT.out]; simp [fitO, hfit]))
            clear hfit
            go_wp2_with (first | (go_at_call 146; refine HA2.out.mono ?_; rintro e W ⟨rfl, hb⟩; simp only [itemV]; have HW := Lib.hid (And.intro (below_on hinv.out.1 hb (Nat.le_refl _)) (hinv.out.2.1.on hb)); clear hb) | (go_at_call 148; refine (HFS.out _ HW.out.1).mono ?_; rintro e W2 ⟨rfl, hb⟩; have HW2 := Lib.hid (And.intro (below_on HW.out.1 hb (Nat.le_refl _)) (HW.out.2.on hb)); clear hb))
            go_roundw
            case rel => exact ⟨j + 1, by omega, by go_num, Lib.hid ⟨HW2.out.1, HW2.out.2, HST.out⟩⟩
            case measure => simp [intOf]; omega
      · have hall : findL L nm typ (fitsS now win) = none := HFI.out.trans (by rw [hinv.out.2.2.1 (by omega), hinv.out.2.2.2 (by omega)])
        have HALL := Lib.hid hall
        clear hall
        go_wp2_with fail
        go_ret
        exact ⟨by rw [HALL.out]; rfl, hinv.out.1⟩
end Go.Proofs.YtgfibbjifbghdaaGreat

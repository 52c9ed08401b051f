/- The contract of rr.Own: the same data, in memory of its own. -/
import Derived.Test.YtgfibbjifbghdaaGreatClones
import Derived.Test.YtgfibbjifbghdaaGreatTail
namespace Go.Proofs.YtgfibbjifbghdaaGreat
open Go.ChangeShapes Go.WideShapes Go.ChangeAt Go.RowKit

/-- the types of a data's own rows -/
def dT : List TypeId := [5, 9, 3]
structure FitD (h : DataH) : Prop where
  fh : h.hl ≤ 1048576
  fm : h.ml ≤ 1048576
  fn : h.nl ≤ 1048576
  ft : h.tl ≤ 8796093022208
/-- data in memory of its own, from block B on -/
structure OwnD (B : Nat) (w : World) (k : DataH) (d : DataP) : Prop where
  is : IsData w k d
  mem : DataIn (fun b => tagged dT w b ∧ B ≤ b) k
theorem OwnD.step {B : Nat} {w w' : World} {k : DataH} {d : DataP} (h : OwnD B w k d) (hs : Same (fun b => tagged dT w b ∧ B ≤ b) w w') : OwnD B w' k d := by
  have i2 : DataIn (fun b => (tagged dT w b ∧ B ≤ b) ∧ b < w.heap.size) k := h.mem.mono h.is (fun b hb ht => ⟨ht, hb⟩)
  have h3 := h.is.keep h.mem hs
  exact ⟨h3, i2.mono h3 (fun b _ ht => ⟨tagged_keep ht.1.1 (hs b ht.2 ht.1), ht.1.2⟩)⟩
theorem OwnD.on {B : Nat} {w w' : World} {k : DataH} {d : DataP} (h : OwnD B w k d) (hb : Below w.heap.size w w') : OwnD B w' k d := h.step (Same.below hb _)
theorem OwnD.mono {B B' : Nat} {w : World} {k : DataH} {d : DataP} (h : OwnD B w k d) (hB : B' ≤ B) : OwnD B' w k d := ⟨h.is, h.mem.mono h.is (fun _ _ ht => ⟨ht.1, Nat.le_trans hB ht.2⟩)⟩
theorem OwnD.but {B g : Nat} {w w' : World} {k : DataH} {d : DataP} (h : OwnD B w k d) (hb : w.grownBy w' (some g)) (hg : g < B) : OwnD B w' k d := h.step (Same.grown hb (fun b hb e => by have := Option.some.inj e; omega))
theorem own1_in {T : List TypeId} {B : Nat} {w : World} {ao : Option Addr} {n c : Nat} {vs : List Value} {e : TypeId} (h : Own1 [e] B w ao n c vs) (he : e ∈ T) : rowIn (fun b => tagged T w b ∧ B ≤ b) ao n :=
  fun h0 a ha => ⟨tagged_mono (h.mem h0 a ha).1 (fun t ht => by rw [List.mem_singleton.1 ht]; exact he), (h.mem h0 a ha).2⟩
def noD : Array Value := #[.slice none 0 0, .slice none 0 0, .slice none 0 0, .slice none 0 0, .slice none 0 0]
theorem rrown_results {tmps : Array Value} {w : World} {R : Nat} {k : DataH} (h2 : tmps[2]? = some (.pointer (some ⟨R, 0, none⟩))) (hB : Blk w R (dataC k) 98) :
    (results Tryz.f163 tmps).run Tryz.prog w = .ok (.agg (dataC k)) w := by
  have c0 := hB.cell 0
  have c1 := hB.cell 1
  have c2 := hB.cell 2
  have c3 := hB.cell 3
  have c4 := hB.cell 4
  simp [dataC] at c0 c1 c2 c3 c4
  simp [results, go_sem, h2, c0, c1, c2, c3, c4, dataC]
theorem map_oneCell {α : Type} (f : α → Value) (hf : ∀ a, (f a).oneCell' = true) (l : List α) : ∀ u ∈ l.map f, u.oneCell' = true := by
  intro u hu
  obtain ⟨a, _, rfl⟩ := List.mem_map.1 hu
  exact hf a
set_option maxHeartbeats 8000000 in
set_option maxRecDepth 100000 in
theorem rrown_any (w : World) (h : DataH) (d : DataP) (hd : IsData w h d) (hf : FitD h) :
    Calls Tryz.prog 163 #[.agg (dataC h)] w fun e w' => (∃ k, e = .returned (.agg (dataC k)) ∧ OwnD w.heap.size w' k d ∧ FitD k) ∧ Below w.heap.size w w' := by
  have hA0 : Blk (w.alloc (.cells (dataC h) 98)) w.heap.size (dataC h) 98 := heap_alloc_new w _
  have hA : Blk ((w.alloc (.cells (dataC h) 98)).alloc (.cells noD 98)) w.heap.size (dataC h) 98 := hA0.on ((Below.refl _ _).alloc (Nat.le_refl _) _)
  have hN : Blk ((w.alloc (.cells (dataC h) 98)).alloc (.cells noD 98)) (w.heap.size + 1) noD 98 := by
    have := heap_alloc_new (w.alloc (.cells (dataC h) 98)) (.cells noD 98)
    simpa [Blk] using this
  have hsz : ((w.alloc (.cells (dataC h) 98)).alloc (.cells noD 98)).heap.size = w.heap.size + 2 := by simp
  have hb2 : Below w.heap.size w ((w.alloc (.cells (dataC h) 98)).alloc (.cells noD 98)) := ((Below.refl _ _).alloc (Nat.le_refl _) _).alloc (by simp) _
  have HB := Lib.hid hb2
  have HD := Lib.hid (hd.on hb2)
  have HN := Lib.hid hN
  have HA := Lib.hid hA
  have HSZ := Lib.hid hsz
  have HFT := Lib.hid hf
  clear hA0 hA hN hsz hb2 hd hf
  obtain ⟨ba, bl, bc, ha, hl, hc, ma, ml, mc, xa, xl, xc, ta, tl, tc⟩ := h
  simp only [dataC] at HB HD HN HA HSZ
  have HC0 := Lib.hid (show ((w.alloc (.cells #[.slice ba bl bc, .slice ha hl hc, .slice ma ml mc, .slice xa xl xc, .slice ta tl tc] 98)).alloc (.cells noD 98)).drew.cell? ⟨w.heap.size, 0, none⟩ = some (.slice ba bl bc) from HA.out.cell 0)
  have HC1 := Lib.hid (show ((w.alloc (.cells #[.slice ba bl bc, .slice ha hl hc, .slice ma ml mc, .slice xa xl xc, .slice ta tl tc] 98)).alloc (.cells noD 98)).drew.cell? ⟨w.heap.size, 1, none⟩ = some (.slice ha hl hc) from HA.out.cell 1)
  have HC2 := Lib.hid (show ((w.alloc (.cells #[.slice ba bl bc, .slice ha hl hc, .slice ma ml mc, .slice xa xl xc, .slice ta tl tc] 98)).alloc (.cells noD 98)).drew.cell? ⟨w.heap.size, 2, none⟩ = some (.slice ma ml mc) from HA.out.cell 2)
  have HC3 := Lib.hid (show ((w.alloc (.cells #[.slice ba bl bc, .slice ha hl hc, .slice ma ml mc, .slice xa xl xc, .slice ta tl tc] 98)).alloc (.cells noD 98)).drew.cell? ⟨w.heap.size, 3, none⟩ = some (.slice xa xl xc) from HA.out.cell 3)
  have HC4 := Lib.hid (show ((w.alloc (.cells #[.slice ba bl bc, .slice ha hl hc, .slice ma ml mc, .slice xa xl xc, .slice ta tl tc] 98)).alloc (.cells noD 98)).drew.cell? ⟨w.heap.size, 4, none⟩ = some (.slice ta tl tc) from HA.out.cell 4)
  go_enter Tryz.func163, Tryz.ntmps163
  go_wp2_with fail
  (try change Code.wp _ (Code.region _ _ _) _ _ ((w.alloc (.cells #[.slice ba bl bc, .slice ha hl hc, .slice ma ml mc, .slice xa xl xc, .slice ta tl tc] 98)).alloc (.cells noD 98)))
  refine wp_soup_tail (m := 19) 16 (by kernel_rfl) (fun x y => Below x.heap.size x y) (fun i v xw => match i with | 0 => v = .pointer (some ⟨w.heap.size, 0, none⟩) | 1 => v = .slice ba bl bc | 2 => ∃ a c, v = .slice a bl c ∧ Own1 [5] (w.heap.size + 2) xw a bl c (d.bytes.map fun c => Value.int .u8 (c.toNat : Int)) | 3 => v = .pointer (some ⟨w.heap.size, 1, none⟩) | 4 => v = .slice ha hl hc | 5 => ∃ a c, v = .slice a hl c ∧ Own1 [9] (w.heap.size + 2) xw a hl c (d.host.map .string) | 6 => v = .pointer (some ⟨w.heap.size, 2, none⟩) | 7 => v = .slice ma ml mc | 8 => ∃ a c, v = .slice a ml c ∧ Own1 [9] (w.heap.size + 2) xw a ml c (d.mail.map .string) | 9 => v = .pointer (some ⟨w.heap.size, 3, none⟩) | 10 => v = .slice xa xl xc | 11 => ∃ a c, v = .slice a xl c ∧ Own1 [3] (w.heap.size + 2) xw a xl c (d.nums.map (Value.int .i64)) | 12 => v = .pointer (some ⟨w.heap.size, 4, none⟩) | 13 => v = .slice ta tl tc | 14 => ∃ a c, v = .slice a tl c ∧ Own1 [9] (w.heap.size + 2) xw a tl c (d.texts.map .string) | 15 => ∃ k, v = .agg (dataC k) ∧ OwnD (w.heap.size + 2) xw k d ∧ FitD k | _ => True) rfl (by kernel_rfl) (by kernel_rfl) (fun _ _ _ h1 h2 => below_on h1 h2 (Nat.le_refl _)) (Below.refl _ _) (by intro i v x y h hxy; match i, h with | 0, h => exact h | 1, h => exact h | 2, ⟨a, c, e, hr⟩ => exact ⟨a, c, e, hr.on hxy⟩ | 3, h => exact h | 4, h => exact h | 5, ⟨a, c, e, hr⟩ => exact ⟨a, c, e, hr.on hxy⟩ | 6, h => exact h | 7, h => exact h | 8, ⟨a, c, e, hr⟩ => exact ⟨a, c, e, hr.on hxy⟩ | 9, h => exact h | 10, h => exact h | 11, ⟨a, c, e, hr⟩ => exact ⟨a, c, e, hr.on hxy⟩ | 12, h => exact h | 13, h => exact h | 14, ⟨a, c, e, hr⟩ => exact ⟨a, c, e, hr.on hxy⟩ | 15, ⟨k, e, hr, hf⟩ => exact ⟨k, e, hr.on hxy, hf⟩ | _ + 16, _ => trivial) (dst_head (by kernel_rfl)) ?_ ?_
  rotate_left
  · intro a W hR hS hdep
    have e2 : a.tmps.getD 2 undef = .pointer (some ⟨(w.heap.size + 1), 0, none⟩) := hS.keep 2 (by kernel_rfl)
    obtain ⟨kk, q, hk, hkf⟩ := hdep 15 (by decide +kernel)
    have e18 : a.tmps.getD 18 undef = .agg (dataC kk) := q
    clear q
    obtain ⟨T, df⟩ := a
    obtain rfl : df = [] := hS.defers
    have hT : T = #[T.getD 0 undef, T.getD 1 undef, T.getD 2 undef, T.getD 3 undef, T.getD 4 undef, T.getD 5 undef, T.getD 6 undef, T.getD 7 undef, T.getD 8 undef, T.getD 9 undef, T.getD 10 undef, T.getD 11 undef, T.getD 12 undef, T.getD 13 undef, T.getD 14 undef, T.getD 15 undef, T.getD 16 undef, T.getD 17 undef, T.getD 18 undef] := arr_eta T 19 hS.size
    have k2 : T.getD 2 undef = .pointer (some ⟨(w.heap.size + 1), 0, none⟩) := e2
    have k18 : T.getD 18 undef = .agg (dataC kk) := e18
    clear hS hdep
    rw [hT]
    rw [k2]
    clear k2 e2
    rw [k18]
    clear k18 e18
    clear hT
    generalize T.getD 0 undef = u0
    generalize T.getD 1 undef = u1
    generalize T.getD 3 undef = u3
    generalize T.getD 4 undef = u4
    generalize T.getD 5 undef = u5
    generalize T.getD 6 undef = u6
    generalize T.getD 7 undef = u7
    generalize T.getD 8 undef = u8
    generalize T.getD 9 undef = u9
    generalize T.getD 10 undef = u10
    generalize T.getD 11 undef = u11
    generalize T.getD 12 undef = u12
    generalize T.getD 13 undef = u13
    generalize T.getD 14 undef = u14
    generalize T.getD 15 undef = u15
    generalize T.getD 16 undef = u16
    generalize T.getD 17 undef = u17
    simp only [List.drop_succ_cons, List.drop_zero]
    have hNW := HN.out.on (below_on (B := ((w.alloc (.cells #[.slice ba bl bc, .slice ha hl hc, .slice ma ml mc, .slice xa xl xc, .slice ta tl tc] 98)).alloc (.cells noD 98)).heap.size) (Below.drew (Below.refl _ _)) hR (Nat.le_refl _))
    have n0 := hNW.cell 0
    have n1 := hNW.cell 1
    have n2 := hNW.cell 2
    have n3 := hNW.cell 3
    have n4 := hNW.cell 4
    simp [noD] at n0 n1 n2 n3 n4
    have f0 := hNW.free 0
    have f1 := hNW.free 1
    have f2 := hNW.free 2
    have f3 := hNW.free 3
    have f4 := hNW.free 4
    simp only [dataC]
    go_wp2_with fail
    have hN5 : Blk (((((W.setCell ⟨w.heap.size + 1, 0, none⟩ (.slice kk.ba kk.bl kk.bc)).setCell ⟨w.heap.size + 1, 1, none⟩ (.slice kk.ha kk.hl kk.hc)).setCell ⟨w.heap.size + 1, 2, none⟩ (.slice kk.ma kk.ml kk.mc)).setCell ⟨w.heap.size + 1, 3, none⟩ (.slice kk.na kk.nl kk.nc)).setCell ⟨w.heap.size + 1, 4, none⟩ (.slice kk.ta kk.tl kk.tc)) (w.heap.size + 1) (dataC kk) 98 := (((((hNW.set 0 _).set 1 _).set 2 _).set 3 _).set 4 _)
    have hG5 : W.grownBy (((((W.setCell ⟨w.heap.size + 1, 0, none⟩ (.slice kk.ba kk.bl kk.bc)).setCell ⟨w.heap.size + 1, 1, none⟩ (.slice kk.ha kk.hl kk.hc)).setCell ⟨w.heap.size + 1, 2, none⟩ (.slice kk.ma kk.ml kk.mc)).setCell ⟨w.heap.size + 1, 3, none⟩ (.slice kk.na kk.nl kk.nc)).setCell ⟨w.heap.size + 1, 4, none⟩ (.slice kk.ta kk.tl kk.tc)) (some (w.heap.size + 1)) :=
      but_trans (but_trans (but_trans (but_trans (but_set _ _ _ _) (but_set _ _ _ _)) (but_set _ _ _ _)) (but_set _ _ _ _)) (but_set _ _ _ _)
    have hz := hR.size
    have hz2 := HSZ.out
    simp only [World.drew] at hz
    have HI := Lib.hid ((hk.but hG5 (by omega)).mono (B' := w.heap.size) (by omega))
    have HBE := Lib.hid ((below_on HB.out (below_on (Below.drew (Below.refl _ _)) hR (Nat.le_refl _)) (Nat.le_refl _)).trans (below_of_but hG5 (B := w.heap.size) (by omega) (by omega)))
    have HN5 := Lib.hid hN5
    refine bodyPost_ret (v := .agg (dataC kk)) (rrown_results rfl HN5.out) rfl ?_
    exact ⟨⟨kk, rfl, HI.out, hkf⟩, HBE.out⟩
  refine soup_cons rfl rfl (fun a W hR hS hdep K hK => ?_) ?_
  · have e1 : a.tmps[1]?.getD undef = .pointer (some ⟨w.heap.size, 0, none⟩) := slot_of (hS.keep 1 (by kernel_rfl))
    go_simp
    exact hK _ _ (Below.refl _ _) (by first | rfl | simp)
  refine soup_cons rfl rfl (fun a W hR hS hdep K hK => ?_) ?_
  · have e3 : a.tmps[3]?.getD undef = .pointer (some ⟨w.heap.size, 0, none⟩) := slot_of (hdep 0 (by decide +kernel))
    have m0 := cell_keep hR HC0.out
    go_simp
    exact hK _ _ (Below.refl _ _) (by first | rfl | simp)
  refine soup_cons rfl rfl (fun a W hR hS hdep K hK => ?_) ?_
  · have e4 : a.tmps[4]?.getD undef = .slice ba bl bc := slot_of (hdep 1 (by decide +kernel))
    go_simp
    have hbx := below_on (B := ((w.alloc (.cells #[.slice ba bl bc, .slice ha hl hc, .slice ma ml mc, .slice xa xl xc, .slice ta tl tc] 98)).alloc (.cells noD 98)).heap.size) (Below.drew (Below.refl _ _)) hR (Nat.le_refl _)
    refine (clone_byts _ ba bl bc _ (HD.out.bytes.below hbx (Nat.le_refl _)) (map_oneCell _ (fun _ => rfl) _) (by have := HD.out.bytes.hmax; simp only at this; omega)).mono ?_
    rintro e W' ⟨⟨a', c', rfl, hr⟩, hb⟩
    exact hK _ _ hb ⟨a', c', rfl, hr.mono (by have := hbx.size; have := HSZ.out; omega)⟩
  refine soup_cons rfl rfl (fun a W hR hS hdep K hK => ?_) ?_
  · have e1 : a.tmps[1]?.getD undef = .pointer (some ⟨w.heap.size, 0, none⟩) := slot_of (hS.keep 1 (by kernel_rfl))
    go_simp
    exact hK _ _ (Below.refl _ _) (by first | rfl | simp)
  refine soup_cons rfl rfl (fun a W hR hS hdep K hK => ?_) ?_
  · have e6 : a.tmps[6]?.getD undef = .pointer (some ⟨w.heap.size, 1, none⟩) := slot_of (hdep 3 (by decide +kernel))
    have m0 := cell_keep hR HC1.out
    go_simp
    exact hK _ _ (Below.refl _ _) (by first | rfl | simp)
  refine soup_cons rfl rfl (fun a W hR hS hdep K hK => ?_) ?_
  · have e7 : a.tmps[7]?.getD undef = .slice ha hl hc := slot_of (hdep 4 (by decide +kernel))
    go_simp
    have hbx := below_on (B := ((w.alloc (.cells #[.slice ba bl bc, .slice ha hl hc, .slice ma ml mc, .slice xa xl xc, .slice ta tl tc] 98)).alloc (.cells noD 98)).heap.size) (Below.drew (Below.refl _ _)) hR (Nat.le_refl _)
    refine (clone_strs _ ha hl hc _ (HD.out.host.row.below hbx (Nat.le_refl _)) (map_oneCell _ (fun _ => rfl) _) (by have := HFT.out.fh; simp only at this; omega)).mono ?_
    rintro e W' ⟨⟨a', c', rfl, hr⟩, hb⟩
    exact hK _ _ hb ⟨a', c', rfl, hr.mono (by have := hbx.size; have := HSZ.out; omega)⟩
  refine soup_cons rfl rfl (fun a W hR hS hdep K hK => ?_) ?_
  · have e1 : a.tmps[1]?.getD undef = .pointer (some ⟨w.heap.size, 0, none⟩) := slot_of (hS.keep 1 (by kernel_rfl))
    go_simp
    exact hK _ _ (Below.refl _ _) (by first | rfl | simp)
  refine soup_cons rfl rfl (fun a W hR hS hdep K hK => ?_) ?_
  · have e9 : a.tmps[9]?.getD undef = .pointer (some ⟨w.heap.size, 2, none⟩) := slot_of (hdep 6 (by decide +kernel))
    have m0 := cell_keep hR HC2.out
    go_simp
    exact hK _ _ (Below.refl _ _) (by first | rfl | simp)
  refine soup_cons rfl rfl (fun a W hR hS hdep K hK => ?_) ?_
  · have e10 : a.tmps[10]?.getD undef = .slice ma ml mc := slot_of (hdep 7 (by decide +kernel))
    go_simp
    have hbx := below_on (B := ((w.alloc (.cells #[.slice ba bl bc, .slice ha hl hc, .slice ma ml mc, .slice xa xl xc, .slice ta tl tc] 98)).alloc (.cells noD 98)).heap.size) (Below.drew (Below.refl _ _)) hR (Nat.le_refl _)
    refine (clone_strs _ ma ml mc _ (HD.out.mail.row.below hbx (Nat.le_refl _)) (map_oneCell _ (fun _ => rfl) _) (by have := HFT.out.fm; simp only at this; omega)).mono ?_
    rintro e W' ⟨⟨a', c', rfl, hr⟩, hb⟩
    exact hK _ _ hb ⟨a', c', rfl, hr.mono (by have := hbx.size; have := HSZ.out; omega)⟩
  refine soup_cons rfl rfl (fun a W hR hS hdep K hK => ?_) ?_
  · have e1 : a.tmps[1]?.getD undef = .pointer (some ⟨w.heap.size, 0, none⟩) := slot_of (hS.keep 1 (by kernel_rfl))
    go_simp
    exact hK _ _ (Below.refl _ _) (by first | rfl | simp)
  refine soup_cons rfl rfl (fun a W hR hS hdep K hK => ?_) ?_
  · have e12 : a.tmps[12]?.getD undef = .pointer (some ⟨w.heap.size, 3, none⟩) := slot_of (hdep 9 (by decide +kernel))
    have m0 := cell_keep hR HC3.out
    go_simp
    exact hK _ _ (Below.refl _ _) (by first | rfl | simp)
  refine soup_cons rfl rfl (fun a W hR hS hdep K hK => ?_) ?_
  · have e13 : a.tmps[13]?.getD undef = .slice xa xl xc := slot_of (hdep 10 (by decide +kernel))
    go_simp
    have hbx := below_on (B := ((w.alloc (.cells #[.slice ba bl bc, .slice ha hl hc, .slice ma ml mc, .slice xa xl xc, .slice ta tl tc] 98)).alloc (.cells noD 98)).heap.size) (Below.drew (Below.refl _ _)) hR (Nat.le_refl _)
    refine (clone_ints _ xa xl xc _ (HD.out.nums.below hbx (Nat.le_refl _)) (map_oneCell _ (fun _ => rfl) _) (by have := HFT.out.fn; simp only at this; omega)).mono ?_
    rintro e W' ⟨⟨a', c', rfl, hr⟩, hb⟩
    exact hK _ _ hb ⟨a', c', rfl, hr.mono (by have := hbx.size; have := HSZ.out; omega)⟩
  refine soup_cons rfl rfl (fun a W hR hS hdep K hK => ?_) ?_
  · have e1 : a.tmps[1]?.getD undef = .pointer (some ⟨w.heap.size, 0, none⟩) := slot_of (hS.keep 1 (by kernel_rfl))
    go_simp
    exact hK _ _ (Below.refl _ _) (by first | rfl | simp)
  refine soup_cons rfl rfl (fun a W hR hS hdep K hK => ?_) ?_
  · have e15 : a.tmps[15]?.getD undef = .pointer (some ⟨w.heap.size, 4, none⟩) := slot_of (hdep 12 (by decide +kernel))
    have m0 := cell_keep hR HC4.out
    go_simp
    exact hK _ _ (Below.refl _ _) (by first | rfl | simp)
  refine soup_cons rfl rfl (fun a W hR hS hdep K hK => ?_) ?_
  · have e16 : a.tmps[16]?.getD undef = .slice ta tl tc := slot_of (hdep 13 (by decide +kernel))
    go_simp
    have hbx := below_on (B := ((w.alloc (.cells #[.slice ba bl bc, .slice ha hl hc, .slice ma ml mc, .slice xa xl xc, .slice ta tl tc] 98)).alloc (.cells noD 98)).heap.size) (Below.drew (Below.refl _ _)) hR (Nat.le_refl _)
    refine (clone_strs _ ta tl tc _ (HD.out.texts.row.below hbx (Nat.le_refl _)) (map_oneCell _ (fun _ => rfl) _) (by have := HFT.out.ft; simp only at this; omega)).mono ?_
    rintro e W' ⟨⟨a', c', rfl, hr⟩, hb⟩
    exact hK _ _ hb ⟨a', c', rfl, hr.mono (by have := hbx.size; have := HSZ.out; omega)⟩
  refine soup_cons rfl rfl (fun a W hR hS hdep K hK => ?_) ?_
  · obtain ⟨a0, c0, q, r0⟩ := hdep 2 (by decide +kernel)
    have e5 : a.tmps[5]?.getD undef = .slice a0 bl c0 := slot_of q
    clear q
    obtain ⟨a1, c1, q, r1⟩ := hdep 5 (by decide +kernel)
    have e8 : a.tmps[8]?.getD undef = .slice a1 hl c1 := slot_of q
    clear q
    obtain ⟨a2, c2, q, r2⟩ := hdep 8 (by decide +kernel)
    have e11 : a.tmps[11]?.getD undef = .slice a2 ml c2 := slot_of q
    clear q
    obtain ⟨a3, c3, q, r3⟩ := hdep 11 (by decide +kernel)
    have e14 : a.tmps[14]?.getD undef = .slice a3 xl c3 := slot_of q
    clear q
    obtain ⟨a4, c4, q, r4⟩ := hdep 14 (by decide +kernel)
    have e17 : a.tmps[17]?.getD undef = .slice a4 tl c4 := slot_of q
    clear q
    go_simp
    have hfi := HD.out.fits
    have hft := HFT.out
    exact hK _ _ (Below.refl _ _) ⟨⟨a0, bl, c0, a1, hl, c1, a2, ml, c2, a3, xl, c3, a4, tl, c4⟩, rfl, ⟨⟨r0.row, ⟨r1.row, HD.out.host.small⟩, ⟨r2.row, HD.out.mail.small⟩, r3.row, ⟨r4.row, HD.out.texts.small⟩, hfi⟩, ⟨own1_in r0 (by decide), own1_in r1 (by decide), own1_in r2 (by decide), own1_in r3 (by decide), own1_in r4 (by decide)⟩⟩, ⟨hft.fh, hft.fm, hft.fn, hft.ft⟩⟩
  exact fun j h1 h2 => absurd h1 (by omega)
end Go.Proofs.YtgfibbjifbghdaaGreat

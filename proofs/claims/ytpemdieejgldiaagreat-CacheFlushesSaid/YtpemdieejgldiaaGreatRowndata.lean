/- The contract of the reference's OwnData: the same data, in memory of its own. -/
import Derived.Test.YtpemdieejgldiaaGreatRrown
namespace Go.Proofs.YtpemdieejgldiaaGreat
open Go.ChangeShapes Go.WideShapes Go.ChangeAt Go.RowKit

/-- append to what has just been made empty, with where it lies -/
theorem append_own1 {P : Program} (w : World) (t ty e : TypeId) (i : TypeInfo) (z : Value) (bytes : Nat) (ht : P.underlying t = some (.slice e)) (hi : P.info? e = some i) (hz : i.zero = some z)
    (hsize : i.size = 1) (hby : i.bytes = bytes) (g : Nat) (hg : g < w.heap.size) (ao : Option Addr) (m c : Nat) (news : List Value) (hr : Row w ao m c news) (hbytes : m * bytes ≤ 140737488355328) :
    ∃ a' c' w', (Builtin.append_ #[t, t] ty #[.slice (some ⟨g, 0, none⟩) 0 0, .slice ao m c]).run P w = .ok (.slice (some a') m c') w' ∧ Own1 [e] g w' (some a') m c' news ∧ Below w.heap.size w w' := by
  have hl := hr.hlen
  have hle := hr.hle
  have hcc := hr.hcap
  rcases Nat.eq_zero_or_pos m with rfl | h0
  · obtain rfl : news = [] := List.eq_nil_of_length_eq_zero hl
    refine ⟨⟨g, 0, none⟩, 0, w, ?_, ⟨Row.empty (by omega) (fun h => by cases h), rowIn_zero _ _⟩, Below.refl _ _⟩
    cases ao with
    | none => simp [Builtin.append_, run_underlying ht, sizeOf, typeInfo, hi, Builtin.lenOf, run_firstCells_none, storeCells, Result.andThen]
    | some a =>
      have hf := run_firstCells_some (P := P) w i.size 0 a 0 c [] (by simp) (by intro j v h; simp at h)
      simp [Builtin.append_, run_underlying ht, sizeOf, typeInfo, hi, Builtin.lenOf, hf, storeCells, Result.andThen]
  · obtain ⟨b, off, rfl, hc⟩ := hr.hcells h0
    have hcap : 0 < c := by omega
    have hrun := run_append_grow (P := P) (w := w) t ty e i z ht hi hz ⟨g, 0, none⟩ 0 0 [] (by simp) (by intro j v h; simp at h) ⟨b, off, none⟩ m c news (by simp [hsize, hl]) (by
      intro j u hj
      have hj' : j < news.length := by
        rcases Nat.lt_or_ge j news.length with h | h
        · exact h
        · rw [List.getElem?_eq_none h] at hj; cases hj
      rw [addr_add, hc j hj', ← hj, List.getElem?_eq_getElem hj']) (by omega) (by have := hr.hmax; omega) (by
        rw [hby, Nat.zero_add, nextslicecap_zero h0]; omega)
    have hge := grownCap_ge w (0 + m) 0 e
    have hgl := grownCap_le_maxLen w (0 + m) 0 e (by unfold maxLen; omega)
    refine ⟨⟨w.heap.size, 0, none⟩, _, _, by rw [hrun, Nat.zero_add], ⟨?_, fun _ a ha => ?_⟩, (Below.drew (Below.refl _ _)).alloc (Nat.le_refl _) _⟩
    · rw [Nat.zero_add] at hge hgl
      refine ⟨hl, hge, by unfold maxLen at hgl; exact hgl, hr.hmax, fun h => (by cases h), fun _ => ⟨w.heap.size, 0, rfl, fun j hj => ?_⟩⟩
      rw [Nat.zero_add]
      refine (World.cell?_alloc_new w.drew _ e j).trans ?_
      rw [Array.getElem?_append_left (by simpa using hj)]
      simp [hj]
    · cases ha
      exact ⟨⟨_, e, heap_alloc_new w.drew _, List.mem_singleton.2 rfl⟩, by simp only; omega⟩
theorem wp_append_run {P : Program} {w : World} {o : Oper} {a : Act} {K : Act → World → Prop} {Q : Exit → Act → World → Prop} (s x : Operand) (t : TypeId)
    (ho : o.op = .call { callee := .builtin .append, args := #[s, x], argTypes := #[t, t] }) (v xv : Value) (hs : a.eval s = v) (hx : a.eval x = xv) {v' : Value} {w' : World}
    (hrun : (Builtin.append_ #[t, t] o.type #[v, xv]).run P w = .ok v' w') (h : K (a.put o.dst v') w') : Oper.wp P o a w K Q := by
  unfold Oper.wp
  simp [execOp, ho, resolve, invoke, builtin, hs, hx, hrun, Result.andThen]
  exact h
theorem rowndata_results {tmps : Array Value} {w : World} {R : Nat} {k : DataH} (h2 : tmps[2]? = some (.pointer (some ⟨R, 0, none⟩))) (hB : Blk w R (dataC k) 34) :
    (results Tryz.f24 tmps).run Tryz.prog w = .ok (.agg (dataC k)) w := by
  have c0 := hB.cell 0
  have c1 := hB.cell 1
  have c2 := hB.cell 2
  have c3 := hB.cell 3
  have c4 := hB.cell 4
  simp [dataC] at c0 c1 c2 c3 c4
  simp [results, go_sem, h2, c0, c1, c2, c3, c4, dataC]
set_option maxHeartbeats 8000000 in
set_option maxRecDepth 100000 in
theorem rowndata_any (w : World) (h : DataH) (d : DataP) (hd : IsData w h d) (hf : FitD h) :
    Calls Tryz.prog 24 #[.agg (dataC h)] w fun e w' => (∃ k, e = .returned (.agg (dataC k)) ∧ OwnD w.heap.size w' k d ∧ FitD k) ∧ Below w.heap.size w w' := by
  have hA0 : Blk (w.alloc (.cells (dataC h) 34)) w.heap.size (dataC h) 34 := heap_alloc_new w _
  have hA : Blk ((w.alloc (.cells (dataC h) 34)).alloc (.cells noD 34)) w.heap.size (dataC h) 34 := hA0.on ((Below.refl _ _).alloc (Nat.le_refl _) _)
  have hN : Blk ((w.alloc (.cells (dataC h) 34)).alloc (.cells noD 34)) (w.heap.size + 1) noD 34 := by
    have := heap_alloc_new (w.alloc (.cells (dataC h) 34)) (.cells noD 34)
    simpa [Blk] using this
  have hsz : ((w.alloc (.cells (dataC h) 34)).alloc (.cells noD 34)).heap.size = w.heap.size + 2 := by simp
  have hb2 : Below w.heap.size w ((w.alloc (.cells (dataC h) 34)).alloc (.cells noD 34)) := ((Below.refl _ _).alloc (Nat.le_refl _) _).alloc (by simp) _
  have HB := Lib.hid hb2
  have HD := Lib.hid (hd.on hb2)
  have HN := Lib.hid hN
  have HA := Lib.hid hA
  have HSZ := Lib.hid hsz
  have HFT := Lib.hid hf
  clear hA0 hA hN hsz hb2 hd hf
  obtain ⟨ba, bl, bc, ha, hl, hc, ma, ml, mc, xa, xl, xc, ta, tl, tc⟩ := h
  simp only [dataC] at HB HD HN HA HSZ
  have HC0 := Lib.hid (show ((w.alloc (.cells #[.slice ba bl bc, .slice ha hl hc, .slice ma ml mc, .slice xa xl xc, .slice ta tl tc] 34)).alloc (.cells noD 34)).drew.cell? ⟨w.heap.size, 0, none⟩ = some (.slice ba bl bc) from HA.out.cell 0)
  have HC1 := Lib.hid (show ((w.alloc (.cells #[.slice ba bl bc, .slice ha hl hc, .slice ma ml mc, .slice xa xl xc, .slice ta tl tc] 34)).alloc (.cells noD 34)).drew.cell? ⟨w.heap.size, 1, none⟩ = some (.slice ha hl hc) from HA.out.cell 1)
  have HC2 := Lib.hid (show ((w.alloc (.cells #[.slice ba bl bc, .slice ha hl hc, .slice ma ml mc, .slice xa xl xc, .slice ta tl tc] 34)).alloc (.cells noD 34)).drew.cell? ⟨w.heap.size, 2, none⟩ = some (.slice ma ml mc) from HA.out.cell 2)
  have HC3 := Lib.hid (show ((w.alloc (.cells #[.slice ba bl bc, .slice ha hl hc, .slice ma ml mc, .slice xa xl xc, .slice ta tl tc] 34)).alloc (.cells noD 34)).drew.cell? ⟨w.heap.size, 3, none⟩ = some (.slice xa xl xc) from HA.out.cell 3)
  have HC4 := Lib.hid (show ((w.alloc (.cells #[.slice ba bl bc, .slice ha hl hc, .slice ma ml mc, .slice xa xl xc, .slice ta tl tc] 34)).alloc (.cells noD 34)).drew.cell? ⟨w.heap.size, 4, none⟩ = some (.slice ta tl tc) from HA.out.cell 4)
  go_enter Tryz.func24, Tryz.ntmps24
  go_wp2_with fail
  (try change Code.wp _ (Code.region _ _ _) _ _ ((w.alloc (.cells #[.slice ba bl bc, .slice ha hl hc, .slice ma ml mc, .slice xa xl xc, .slice ta tl tc] 34)).alloc (.cells noD 34)))
  refine wp_soup_tail (m := 24) 21 (by kernel_rfl) (fun x y => Below x.heap.size x y) (fun i v xw => match i with | 0 => ∃ g, v = .slice (some ⟨g, 0, none⟩) 0 0 ∧ g < xw.heap.size ∧ w.heap.size + 2 ≤ g | 1 => v = .pointer (some ⟨w.heap.size, 0, none⟩) | 2 => v = .slice ba bl bc | 3 => ∃ a c, v = .slice (some a) bl c ∧ Own1 [5] (w.heap.size + 2) xw (some a) bl c (d.bytes.map fun c => Value.int .u8 (c.toNat : Int)) | 4 => ∃ g, v = .slice (some ⟨g, 0, none⟩) 0 0 ∧ g < xw.heap.size ∧ w.heap.size + 2 ≤ g | 5 => v = .pointer (some ⟨w.heap.size, 1, none⟩) | 6 => v = .slice ha hl hc | 7 => ∃ a c, v = .slice (some a) hl c ∧ Own1 [9] (w.heap.size + 2) xw (some a) hl c (d.host.map .string) | 8 => ∃ g, v = .slice (some ⟨g, 0, none⟩) 0 0 ∧ g < xw.heap.size ∧ w.heap.size + 2 ≤ g | 9 => v = .pointer (some ⟨w.heap.size, 2, none⟩) | 10 => v = .slice ma ml mc | 11 => ∃ a c, v = .slice (some a) ml c ∧ Own1 [9] (w.heap.size + 2) xw (some a) ml c (d.mail.map .string) | 12 => ∃ g, v = .slice (some ⟨g, 0, none⟩) 0 0 ∧ g < xw.heap.size ∧ w.heap.size + 2 ≤ g | 13 => v = .pointer (some ⟨w.heap.size, 3, none⟩) | 14 => v = .slice xa xl xc | 15 => ∃ a c, v = .slice (some a) xl c ∧ Own1 [3] (w.heap.size + 2) xw (some a) xl c (d.nums.map (Value.int .i64)) | 16 => ∃ g, v = .slice (some ⟨g, 0, none⟩) 0 0 ∧ g < xw.heap.size ∧ w.heap.size + 2 ≤ g | 17 => v = .pointer (some ⟨w.heap.size, 4, none⟩) | 18 => v = .slice ta tl tc | 19 => ∃ a c, v = .slice (some a) tl c ∧ Own1 [9] (w.heap.size + 2) xw (some a) tl c (d.texts.map .string) | 20 => ∃ k, v = .agg (dataC k) ∧ OwnD (w.heap.size + 2) xw k d ∧ FitD k | _ => True) rfl (by kernel_rfl) (by kernel_rfl) (fun _ _ _ h1 h2 => below_on h1 h2 (Nat.le_refl _)) (Below.refl _ _) (by intro i v x y h hxy; match i, h with | 0, ⟨g, e, hg, hh⟩ => exact ⟨g, e, Nat.lt_of_lt_of_le hg hxy.size, hh⟩ | 1, h => exact h | 2, h => exact h | 3, ⟨a, c, e, hr⟩ => exact ⟨a, c, e, hr.on hxy⟩ | 4, ⟨g, e, hg, hh⟩ => exact ⟨g, e, Nat.lt_of_lt_of_le hg hxy.size, hh⟩ | 5, h => exact h | 6, h => exact h | 7, ⟨a, c, e, hr⟩ => exact ⟨a, c, e, hr.on hxy⟩ | 8, ⟨g, e, hg, hh⟩ => exact ⟨g, e, Nat.lt_of_lt_of_le hg hxy.size, hh⟩ | 9, h => exact h | 10, h => exact h | 11, ⟨a, c, e, hr⟩ => exact ⟨a, c, e, hr.on hxy⟩ | 12, ⟨g, e, hg, hh⟩ => exact ⟨g, e, Nat.lt_of_lt_of_le hg hxy.size, hh⟩ | 13, h => exact h | 14, h => exact h | 15, ⟨a, c, e, hr⟩ => exact ⟨a, c, e, hr.on hxy⟩ | 16, ⟨g, e, hg, hh⟩ => exact ⟨g, e, Nat.lt_of_lt_of_le hg hxy.size, hh⟩ | 17, h => exact h | 18, h => exact h | 19, ⟨a, c, e, hr⟩ => exact ⟨a, c, e, hr.on hxy⟩ | 20, ⟨k, e, hr, hf⟩ => exact ⟨k, e, hr.on hxy, hf⟩ | _ + 21, _ => trivial) (dst_head (by kernel_rfl)) ?_ ?_
  rotate_left
  · intro a W hR hS hdep
    have e2 : a.tmps.getD 2 undef = .pointer (some ⟨(w.heap.size + 1), 0, none⟩) := hS.keep 2 (by kernel_rfl)
    obtain ⟨kk, q, hk, hkf⟩ := hdep 20 (by decide +kernel)
    have e23 : a.tmps.getD 23 undef = .agg (dataC kk) := q
    clear q
    obtain ⟨T, df⟩ := a
    obtain rfl : df = [] := hS.defers
    have hT : T = #[T.getD 0 undef, T.getD 1 undef, T.getD 2 undef, T.getD 3 undef, T.getD 4 undef, T.getD 5 undef, T.getD 6 undef, T.getD 7 undef, T.getD 8 undef, T.getD 9 undef, T.getD 10 undef, T.getD 11 undef, T.getD 12 undef, T.getD 13 undef, T.getD 14 undef, T.getD 15 undef, T.getD 16 undef, T.getD 17 undef, T.getD 18 undef, T.getD 19 undef, T.getD 20 undef, T.getD 21 undef, T.getD 22 undef, T.getD 23 undef] := arr_eta T 24 hS.size
    have k2 : T.getD 2 undef = .pointer (some ⟨(w.heap.size + 1), 0, none⟩) := e2
    have k23 : T.getD 23 undef = .agg (dataC kk) := e23
    clear hS hdep
    rw [hT]
    rw [k2]
    clear k2 e2
    rw [k23]
    clear k23 e23
    clear hT
    generalize T.getD 0 undef = u0
    generalize T.getD 1 undef = u1
    generalize T.getD 3 undef = u3
    generalize T.getD 4 undef = u4
    generalize T.getD 5 undef = u5
    generalize T.getD 6 undef = u6
    generalize T.getD 7 undef = u7
    generalize T.getD 8 undef = u8
    generalize T.getD 9 undef = u9
    generalize T.getD 10 undef = u10
    generalize T.getD 11 undef = u11
    generalize T.getD 12 undef = u12
    generalize T.getD 13 undef = u13
    generalize T.getD 14 undef = u14
    generalize T.getD 15 undef = u15
    generalize T.getD 16 undef = u16
    generalize T.getD 17 undef = u17
    generalize T.getD 18 undef = u18
    generalize T.getD 19 undef = u19
    generalize T.getD 20 undef = u20
    generalize T.getD 21 undef = u21
    generalize T.getD 22 undef = u22
    simp only [List.drop_succ_cons, List.drop_zero]
    have hNW := HN.out.on (below_on (B := ((w.alloc (.cells #[.slice ba bl bc, .slice ha hl hc, .slice ma ml mc, .slice xa xl xc, .slice ta tl tc] 34)).alloc (.cells noD 34)).heap.size) (Below.drew (Below.refl _ _)) hR (Nat.le_refl _))
    have n0 := hNW.cell 0
    have n1 := hNW.cell 1
    have n2 := hNW.cell 2
    have n3 := hNW.cell 3
    have n4 := hNW.cell 4
    simp [noD] at n0 n1 n2 n3 n4
    have f0 := hNW.free 0
    have f1 := hNW.free 1
    have f2 := hNW.free 2
    have f3 := hNW.free 3
    have f4 := hNW.free 4
    simp only [dataC]
    go_wp2_with fail
    have hN5 : Blk (((((W.setCell ⟨w.heap.size + 1, 0, none⟩ (.slice kk.ba kk.bl kk.bc)).setCell ⟨w.heap.size + 1, 1, none⟩ (.slice kk.ha kk.hl kk.hc)).setCell ⟨w.heap.size + 1, 2, none⟩ (.slice kk.ma kk.ml kk.mc)).setCell ⟨w.heap.size + 1, 3, none⟩ (.slice kk.na kk.nl kk.nc)).setCell ⟨w.heap.size + 1, 4, none⟩ (.slice kk.ta kk.tl kk.tc)) (w.heap.size + 1) (dataC kk) 34 := (((((hNW.set 0 _).set 1 _).set 2 _).set 3 _).set 4 _)
    have hG5 : W.grownBy (((((W.setCell ⟨w.heap.size + 1, 0, none⟩ (.slice kk.ba kk.bl kk.bc)).setCell ⟨w.heap.size + 1, 1, none⟩ (.slice kk.ha kk.hl kk.hc)).setCell ⟨w.heap.size + 1, 2, none⟩ (.slice kk.ma kk.ml kk.mc)).setCell ⟨w.heap.size + 1, 3, none⟩ (.slice kk.na kk.nl kk.nc)).setCell ⟨w.heap.size + 1, 4, none⟩ (.slice kk.ta kk.tl kk.tc)) (some (w.heap.size + 1)) :=
      but_trans (but_trans (but_trans (but_trans (but_set _ _ _ _) (but_set _ _ _ _)) (but_set _ _ _ _)) (but_set _ _ _ _)) (but_set _ _ _ _)
    have hz := hR.size
    have hz2 := HSZ.out
    simp only [World.drew] at hz
    have HI := Lib.hid ((hk.but hG5 (by omega)).mono (B' := w.heap.size) (by omega))
    have HBE := Lib.hid ((below_on HB.out (below_on (Below.drew (Below.refl _ _)) hR (Nat.le_refl _)) (Nat.le_refl _)).trans (below_of_but hG5 (B := w.heap.size) (by omega) (by omega)))
    have HN5 := Lib.hid hN5
    refine bodyPost_ret (v := .agg (dataC kk)) (rowndata_results rfl HN5.out) rfl ?_
    exact ⟨⟨kk, rfl, HI.out, hkf⟩, HBE.out⟩
  refine soup_cons rfl rfl (fun a W hR hS hdep K hK => ?_) ?_
  · go_simp
    have hbx := below_on (B := ((w.alloc (.cells #[.slice ba bl bc, .slice ha hl hc, .slice ma ml mc, .slice xa xl xc, .slice ta tl tc] 34)).alloc (.cells noD 34)).heap.size) (Below.drew (Below.refl _ _)) hR (Nat.le_refl _)
    have hsx : w.heap.size + 2 ≤ W.heap.size := Nat.le_trans (Nat.le_of_eq HSZ.out.symm) hbx.size
    exact hK _ _ ((Below.refl _ _).alloc (Nat.le_refl _) _) ⟨_, rfl, by simp, hsx⟩
  refine soup_cons rfl rfl (fun a W hR hS hdep K hK => ?_) ?_
  · have e1 : a.tmps[1]?.getD undef = .pointer (some ⟨w.heap.size, 0, none⟩) := slot_of (hS.keep 1 (by kernel_rfl))
    go_simp
    exact hK _ _ (Below.refl _ _) (by first | rfl | simp)
  refine soup_cons rfl rfl (fun a W hR hS hdep K hK => ?_) ?_
  · have e4 : a.tmps[4]?.getD undef = .pointer (some ⟨w.heap.size, 0, none⟩) := slot_of (hdep 1 (by decide +kernel))
    have m0 := cell_keep hR HC0.out
    go_simp
    exact hK _ _ (Below.refl _ _) (by first | rfl | simp)
  refine soup_cons rfl rfl (fun a W hR hS hdep K hK => ?_) ?_
  · obtain ⟨g0, q, hg0, hh0⟩ := hdep 0 (by decide +kernel)
    have e3 : a.tmps[3]?.getD undef = .slice ((some ⟨g0, 0, none⟩)) 0 0 := slot_of q
    clear q
    have e5 : a.tmps[5]?.getD undef = .slice ba bl bc := slot_of (hdep 2 (by decide +kernel))
    have hbx := below_on (B := ((w.alloc (.cells #[.slice ba bl bc, .slice ha hl hc, .slice ma ml mc, .slice xa xl xc, .slice ta tl tc] 34)).alloc (.cells noD 34)).heap.size) (Below.drew (Below.refl _ _)) hR (Nat.le_refl _)
    have hsx : w.heap.size + 2 ≤ W.heap.size := Nat.le_trans (Nat.le_of_eq HSZ.out.symm) hbx.size
    rw [if_pos (by rfl)]
    obtain ⟨i0, hi, hz0, hz1, hz2⟩ := info_parts infoByte
    obtain ⟨a', c', w', hrun, hrow, hb⟩ := append_own1 (P := Tryz.prog) W 31 31 5 i0 _ 1 Tryz.underlying31 hi hz0 hz1 hz2 g0 hg0 ba bl bc _ (HD.out.bytes.below hbx (Nat.le_refl _)) (by have := HD.out.bytes.hmax; simp only at this; omega)
    refine wp_append_run _ _ _ rfl _ _ ((Array.getD_eq_getD_getElem?).trans e3) ((Array.getD_eq_getD_getElem?).trans e5) hrun ?_
    exact hK _ _ hb ⟨_, _, rfl, hrow.mono hh0⟩
  refine soup_cons rfl rfl (fun a W hR hS hdep K hK => ?_) ?_
  · go_simp
    have hbx := below_on (B := ((w.alloc (.cells #[.slice ba bl bc, .slice ha hl hc, .slice ma ml mc, .slice xa xl xc, .slice ta tl tc] 34)).alloc (.cells noD 34)).heap.size) (Below.drew (Below.refl _ _)) hR (Nat.le_refl _)
    have hsx : w.heap.size + 2 ≤ W.heap.size := Nat.le_trans (Nat.le_of_eq HSZ.out.symm) hbx.size
    exact hK _ _ ((Below.refl _ _).alloc (Nat.le_refl _) _) ⟨_, rfl, by simp, hsx⟩
  refine soup_cons rfl rfl (fun a W hR hS hdep K hK => ?_) ?_
  · have e1 : a.tmps[1]?.getD undef = .pointer (some ⟨w.heap.size, 0, none⟩) := slot_of (hS.keep 1 (by kernel_rfl))
    go_simp
    exact hK _ _ (Below.refl _ _) (by first | rfl | simp)
  refine soup_cons rfl rfl (fun a W hR hS hdep K hK => ?_) ?_
  · have e8 : a.tmps[8]?.getD undef = .pointer (some ⟨w.heap.size, 1, none⟩) := slot_of (hdep 5 (by decide +kernel))
    have m0 := cell_keep hR HC1.out
    go_simp
    exact hK _ _ (Below.refl _ _) (by first | rfl | simp)
  refine soup_cons rfl rfl (fun a W hR hS hdep K hK => ?_) ?_
  · obtain ⟨g1, q, hg1, hh1⟩ := hdep 4 (by decide +kernel)
    have e7 : a.tmps[7]?.getD undef = .slice ((some ⟨g1, 0, none⟩)) 0 0 := slot_of q
    clear q
    have e9 : a.tmps[9]?.getD undef = .slice ha hl hc := slot_of (hdep 6 (by decide +kernel))
    have hbx := below_on (B := ((w.alloc (.cells #[.slice ba bl bc, .slice ha hl hc, .slice ma ml mc, .slice xa xl xc, .slice ta tl tc] 34)).alloc (.cells noD 34)).heap.size) (Below.drew (Below.refl _ _)) hR (Nat.le_refl _)
    have hsx : w.heap.size + 2 ≤ W.heap.size := Nat.le_trans (Nat.le_of_eq HSZ.out.symm) hbx.size
    rw [if_pos (by rfl)]
    obtain ⟨i0, hi, hz0, hz1, hz2⟩ := info_parts strInfo
    obtain ⟨a', c', w', hrun, hrow, hb⟩ := append_own1 (P := Tryz.prog) W 23 23 9 i0 _ 16 Tryz.underlying23 hi hz0 hz1 hz2 g1 hg1 ha hl hc _ (HD.out.host.row.below hbx (Nat.le_refl _)) (by have := HFT.out.fh; simp only at this; omega)
    refine wp_append_run _ _ _ rfl _ _ ((Array.getD_eq_getD_getElem?).trans e7) ((Array.getD_eq_getD_getElem?).trans e9) hrun ?_
    exact hK _ _ hb ⟨_, _, rfl, hrow.mono hh1⟩
  refine soup_cons rfl rfl (fun a W hR hS hdep K hK => ?_) ?_
  · go_simp
    have hbx := below_on (B := ((w.alloc (.cells #[.slice ba bl bc, .slice ha hl hc, .slice ma ml mc, .slice xa xl xc, .slice ta tl tc] 34)).alloc (.cells noD 34)).heap.size) (Below.drew (Below.refl _ _)) hR (Nat.le_refl _)
    have hsx : w.heap.size + 2 ≤ W.heap.size := Nat.le_trans (Nat.le_of_eq HSZ.out.symm) hbx.size
    exact hK _ _ ((Below.refl _ _).alloc (Nat.le_refl _) _) ⟨_, rfl, by simp, hsx⟩
  refine soup_cons rfl rfl (fun a W hR hS hdep K hK => ?_) ?_
  · have e1 : a.tmps[1]?.getD undef = .pointer (some ⟨w.heap.size, 0, none⟩) := slot_of (hS.keep 1 (by kernel_rfl))
    go_simp
    exact hK _ _ (Below.refl _ _) (by first | rfl | simp)
  refine soup_cons rfl rfl (fun a W hR hS hdep K hK => ?_) ?_
  · have e12 : a.tmps[12]?.getD undef = .pointer (some ⟨w.heap.size, 2, none⟩) := slot_of (hdep 9 (by decide +kernel))
    have m0 := cell_keep hR HC2.out
    go_simp
    exact hK _ _ (Below.refl _ _) (by first | rfl | simp)
  refine soup_cons rfl rfl (fun a W hR hS hdep K hK => ?_) ?_
  · obtain ⟨g2, q, hg2, hh2⟩ := hdep 8 (by decide +kernel)
    have e11 : a.tmps[11]?.getD undef = .slice ((some ⟨g2, 0, none⟩)) 0 0 := slot_of q
    clear q
    have e13 : a.tmps[13]?.getD undef = .slice ma ml mc := slot_of (hdep 10 (by decide +kernel))
    have hbx := below_on (B := ((w.alloc (.cells #[.slice ba bl bc, .slice ha hl hc, .slice ma ml mc, .slice xa xl xc, .slice ta tl tc] 34)).alloc (.cells noD 34)).heap.size) (Below.drew (Below.refl _ _)) hR (Nat.le_refl _)
    have hsx : w.heap.size + 2 ≤ W.heap.size := Nat.le_trans (Nat.le_of_eq HSZ.out.symm) hbx.size
    rw [if_pos (by rfl)]
    obtain ⟨i0, hi, hz0, hz1, hz2⟩ := info_parts strInfo
    obtain ⟨a', c', w', hrun, hrow, hb⟩ := append_own1 (P := Tryz.prog) W 23 23 9 i0 _ 16 Tryz.underlying23 hi hz0 hz1 hz2 g2 hg2 ma ml mc _ (HD.out.mail.row.below hbx (Nat.le_refl _)) (by have := HFT.out.fm; simp only at this; omega)
    refine wp_append_run _ _ _ rfl _ _ ((Array.getD_eq_getD_getElem?).trans e11) ((Array.getD_eq_getD_getElem?).trans e13) hrun ?_
    exact hK _ _ hb ⟨_, _, rfl, hrow.mono hh2⟩
  refine soup_cons rfl rfl (fun a W hR hS hdep K hK => ?_) ?_
  · go_simp
    have hbx := below_on (B := ((w.alloc (.cells #[.slice ba bl bc, .slice ha hl hc, .slice ma ml mc, .slice xa xl xc, .slice ta tl tc] 34)).alloc (.cells noD 34)).heap.size) (Below.drew (Below.refl _ _)) hR (Nat.le_refl _)
    have hsx : w.heap.size + 2 ≤ W.heap.size := Nat.le_trans (Nat.le_of_eq HSZ.out.symm) hbx.size
    exact hK _ _ ((Below.refl _ _).alloc (Nat.le_refl _) _) ⟨_, rfl, by simp, hsx⟩
  refine soup_cons rfl rfl (fun a W hR hS hdep K hK => ?_) ?_
  · have e1 : a.tmps[1]?.getD undef = .pointer (some ⟨w.heap.size, 0, none⟩) := slot_of (hS.keep 1 (by kernel_rfl))
    go_simp
    exact hK _ _ (Below.refl _ _) (by first | rfl | simp)
  refine soup_cons rfl rfl (fun a W hR hS hdep K hK => ?_) ?_
  · have e16 : a.tmps[16]?.getD undef = .pointer (some ⟨w.heap.size, 3, none⟩) := slot_of (hdep 13 (by decide +kernel))
    have m0 := cell_keep hR HC3.out
    go_simp
    exact hK _ _ (Below.refl _ _) (by first | rfl | simp)
  refine soup_cons rfl rfl (fun a W hR hS hdep K hK => ?_) ?_
  · obtain ⟨g3, q, hg3, hh3⟩ := hdep 12 (by decide +kernel)
    have e15 : a.tmps[15]?.getD undef = .slice ((some ⟨g3, 0, none⟩)) 0 0 := slot_of q
    clear q
    have e17 : a.tmps[17]?.getD undef = .slice xa xl xc := slot_of (hdep 14 (by decide +kernel))
    have hbx := below_on (B := ((w.alloc (.cells #[.slice ba bl bc, .slice ha hl hc, .slice ma ml mc, .slice xa xl xc, .slice ta tl tc] 34)).alloc (.cells noD 34)).heap.size) (Below.drew (Below.refl _ _)) hR (Nat.le_refl _)
    have hsx : w.heap.size + 2 ≤ W.heap.size := Nat.le_trans (Nat.le_of_eq HSZ.out.symm) hbx.size
    rw [if_pos (by rfl)]
    obtain ⟨i0, hi, hz0, hz1, hz2⟩ := info_parts infoInt
    obtain ⟨a', c', w', hrun, hrow, hb⟩ := append_own1 (P := Tryz.prog) W 32 32 3 i0 _ 8 Tryz.underlying32 hi hz0 hz1 hz2 g3 hg3 xa xl xc _ (HD.out.nums.below hbx (Nat.le_refl _)) (by have := HFT.out.fn; simp only at this; omega)
    refine wp_append_run _ _ _ rfl _ _ ((Array.getD_eq_getD_getElem?).trans e15) ((Array.getD_eq_getD_getElem?).trans e17) hrun ?_
    exact hK _ _ hb ⟨_, _, rfl, hrow.mono hh3⟩
  refine soup_cons rfl rfl (fun a W hR hS hdep K hK => ?_) ?_
  · go_simp
    have hbx := below_on (B := ((w.alloc (.cells #[.slice ba bl bc, .slice ha hl hc, .slice ma ml mc, .slice xa xl xc, .slice ta tl tc] 34)).alloc (.cells noD 34)).heap.size) (Below.drew (Below.refl _ _)) hR (Nat.le_refl _)
    have hsx : w.heap.size + 2 ≤ W.heap.size := Nat.le_trans (Nat.le_of_eq HSZ.out.symm) hbx.size
    exact hK _ _ ((Below.refl _ _).alloc (Nat.le_refl _) _) ⟨_, rfl, by simp, hsx⟩
  refine soup_cons rfl rfl (fun a W hR hS hdep K hK => ?_) ?_
  · have e1 : a.tmps[1]?.getD undef = .pointer (some ⟨w.heap.size, 0, none⟩) := slot_of (hS.keep 1 (by kernel_rfl))
    go_simp
    exact hK _ _ (Below.refl _ _) (by first | rfl | simp)
  refine soup_cons rfl rfl (fun a W hR hS hdep K hK => ?_) ?_
  · have e20 : a.tmps[20]?.getD undef = .pointer (some ⟨w.heap.size, 4, none⟩) := slot_of (hdep 17 (by decide +kernel))
    have m0 := cell_keep hR HC4.out
    go_simp
    exact hK _ _ (Below.refl _ _) (by first | rfl | simp)
  refine soup_cons rfl rfl (fun a W hR hS hdep K hK => ?_) ?_
  · obtain ⟨g4, q, hg4, hh4⟩ := hdep 16 (by decide +kernel)
    have e19 : a.tmps[19]?.getD undef = .slice ((some ⟨g4, 0, none⟩)) 0 0 := slot_of q
    clear q
    have e21 : a.tmps[21]?.getD undef = .slice ta tl tc := slot_of (hdep 18 (by decide +kernel))
    have hbx := below_on (B := ((w.alloc (.cells #[.slice ba bl bc, .slice ha hl hc, .slice ma ml mc, .slice xa xl xc, .slice ta tl tc] 34)).alloc (.cells noD 34)).heap.size) (Below.drew (Below.refl _ _)) hR (Nat.le_refl _)
    have hsx : w.heap.size + 2 ≤ W.heap.size := Nat.le_trans (Nat.le_of_eq HSZ.out.symm) hbx.size
    rw [if_pos (by rfl)]
    obtain ⟨i0, hi, hz0, hz1, hz2⟩ := info_parts strInfo
    obtain ⟨a', c', w', hrun, hrow, hb⟩ := append_own1 (P := Tryz.prog) W 23 23 9 i0 _ 16 Tryz.underlying23 hi hz0 hz1 hz2 g4 hg4 ta tl tc _ (HD.out.texts.row.below hbx (Nat.le_refl _)) (by have := HFT.out.ft; simp only at this; omega)
    refine wp_append_run _ _ _ rfl _ _ ((Array.getD_eq_getD_getElem?).trans e19) ((Array.getD_eq_getD_getElem?).trans e21) hrun ?_
    exact hK _ _ hb ⟨_, _, rfl, hrow.mono hh4⟩
  refine soup_cons rfl rfl (fun a W hR hS hdep K hK => ?_) ?_
  · obtain ⟨a0, c0, q, r0⟩ := hdep 3 (by decide +kernel)
    have e6 : a.tmps[6]?.getD undef = .slice ((some a0)) bl c0 := slot_of q
    clear q
    obtain ⟨a1, c1, q, r1⟩ := hdep 7 (by decide +kernel)
    have e10 : a.tmps[10]?.getD undef = .slice ((some a1)) hl c1 := slot_of q
    clear q
    obtain ⟨a2, c2, q, r2⟩ := hdep 11 (by decide +kernel)
    have e14 : a.tmps[14]?.getD undef = .slice ((some a2)) ml c2 := slot_of q
    clear q
    obtain ⟨a3, c3, q, r3⟩ := hdep 15 (by decide +kernel)
    have e18 : a.tmps[18]?.getD undef = .slice ((some a3)) xl c3 := slot_of q
    clear q
    obtain ⟨a4, c4, q, r4⟩ := hdep 19 (by decide +kernel)
    have e22 : a.tmps[22]?.getD undef = .slice ((some a4)) tl c4 := slot_of q
    clear q
    go_simp
    have hfi := HD.out.fits
    have hft := HFT.out
    exact hK _ _ (Below.refl _ _) ⟨⟨some a0, bl, c0, some a1, hl, c1, some a2, ml, c2, some a3, xl, c3, some a4, tl, c4⟩, rfl, ⟨⟨r0.row, ⟨r1.row, HD.out.host.small⟩, ⟨r2.row, HD.out.mail.small⟩, r3.row, ⟨r4.row, HD.out.texts.small⟩, hfi⟩, ⟨own1_in r0 (by decide), own1_in r1 (by decide), own1_in r2 (by decide), own1_in r3 (by decide), own1_in r4 (by decide)⟩⟩, ⟨hft.fh, hft.fm, hft.fn, hft.ft⟩⟩
  exact fun j h1 h2 => absurd h1 (by omega)
end Go.Proofs.YtpemdieejgldiaaGreat

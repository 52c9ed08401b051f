/- The contracts of OwnData, file.Words and the statements' own Words. -/
import Derived.Test.YtipbakdodbmfjaaGreatDoorDatas
import Derived.Test.YtipbakdodbmfjaaGreatDoorSoups
import Derived.Test.YtipbakdodbmfjaaGreatDoorLists
import Derived.Test.YtipbakdodbmfjaaGreatDoorBase2
import Derived.Test.YtipbakdodbmfjaaGreatDoorWordsl
namespace Go.Proofs.YtipbakdodbmfjaaGreatDoor
section
open Go.ChangeShapes Go.WideShapes Go.ChangeAt Go.RowKit

/-- append to what has just been made empty -/
theorem append_made {P : Program} (w : World) (t ty e : TypeId) (i : TypeInfo) (z : Value) (bytes : Nat) (ht : P.underlying t = some (.slice e)) (hi : P.info? e = some i) (hz : i.zero = some z)
    (hsize : i.size = 1) (hby : i.bytes = bytes) (g : Nat) (hg : g < w.heap.size) (ao : Option Addr) (m c : Nat) (news : List Value) (hr : Row w ao m c news) (hbytes : m * bytes ≤ 140737488355328) :
    ∃ a' c' w', (Builtin.append_ #[t, t] ty #[.slice (some ⟨g, 0, none⟩) 0 0, .slice ao m c]).run P w = .ok (.slice (some a') m c') w' ∧ Row w' (some a') m c' news ∧ g ≤ a'.block ∧ Below w.heap.size w w' := by
  have hl := hr.hlen
  have hle := hr.hle
  have hcc := hr.hcap
  rcases Nat.eq_zero_or_pos m with rfl | h0
  · obtain rfl : news = [] := List.eq_nil_of_length_eq_zero hl
    refine ⟨⟨g, 0, none⟩, 0, w, ?_, Row.empty (by omega) (fun h => by cases h), Nat.le_refl _, Below.refl _ _⟩
    cases ao with
    | none => simp [Builtin.append_, run_underlying ht, sizeOf, typeInfo, hi, Builtin.lenOf, run_firstCells_none, storeCells, Result.andThen]
    | some a =>
      have hf := run_firstCells_some (P := P) w i.size 0 a 0 c [] (by simp) (by intro j v h; simp at h)
      simp [Builtin.append_, run_underlying ht, sizeOf, typeInfo, hi, Builtin.lenOf, hf, storeCells, Result.andThen]
  · obtain ⟨b, off, rfl, hc⟩ := hr.hcells h0
    have hcap : 0 < c := by omega
    have hrun := run_append_grow (P := P) (w := w) t ty e i z ht hi hz ⟨g, 0, none⟩ 0 0 [] (by simp) (by intro j v h; simp at h) ⟨b, off, none⟩ m c news (by simp [hsize, hl]) (by
      intro j u hj
      have hj' : j < news.length := by
        rcases Nat.lt_or_ge j news.length with h | h
        · exact h
        · rw [List.getElem?_eq_none h] at hj; cases hj
      rw [addr_add, hc j hj', ← hj, List.getElem?_eq_getElem hj']) (by omega) (by have := hr.hmax; omega) (by
        rw [hby, Nat.zero_add, nextslicecap_zero h0]; omega)
    have hge := grownCap_ge w (0 + m) 0 e
    have hgl := grownCap_le_maxLen w (0 + m) 0 e (by unfold maxLen; omega)
    refine ⟨⟨w.heap.size, 0, none⟩, _, _, by rw [hrun, Nat.zero_add], ?_, by simp only; omega, (Below.drew (Below.refl _ _)).alloc (Nat.le_refl _) _⟩
    rw [Nat.zero_add] at hge hgl
    refine ⟨hl, hge, by unfold maxLen at hgl; exact hgl, hr.hmax, fun h => (by cases h), fun _ => ⟨w.heap.size, 0, rfl, fun j hj => ?_⟩⟩
    rw [Nat.zero_add]
    refine (World.cell?_alloc_new w.drew _ e j).trans ?_
    rw [Array.getElem?_append_left (by simpa using hj)]
    simp [hj]
theorem infoInt : (Tryz.prog.info? 3).map (fun i => (i.zero, i.size, i.bytes)) = some (some (.int .i64 0), 1, 8) := by kernel_rfl
/-- one operation that appends, by its run -/
theorem wp_append_run {P : Program} {w : World} {o : Oper} {a : Act} {K : Act → World → Prop} {Q : Exit → Act → World → Prop} (s x : Operand) (t : TypeId)
    (ho : o.op = .call { callee := .builtin .append, args := #[s, x], argTypes := #[t, t] }) (v xv : Value) (hs : a.eval s = v) (hx : a.eval x = xv) {v' : Value} {w' : World}
    (hrun : (Builtin.append_ #[t, t] o.type #[v, xv]).run P w = .ok v' w') (h : K (a.put o.dst v') w') : Oper.wp P o a w K Q := by
  unfold Oper.wp
  simp [execOp, ho, resolve, invoke, builtin, hs, hx, hrun, Result.andThen]
  exact h
/-- where a data's memory lies -/
structure FreshD (B : Nat) (k : DataH) : Prop where
  bytes : ∀ a, k.ba = some a → B ≤ a.block
  host : ∀ a, k.ha = some a → B ≤ a.block
  mail : ∀ a, k.ma = some a → B ≤ a.block
  nums : ∀ a, k.na = some a → B ≤ a.block
  texts : ∀ a, k.ta = some a → B ≤ a.block
theorem FreshD.mono {B C : Nat} {k : DataH} (h : FreshD C k) (hB : B ≤ C) : FreshD B k :=
  ⟨fun a e => Nat.le_trans hB (h.bytes a e), fun a e => Nat.le_trans hB (h.host a e), fun a e => Nat.le_trans hB (h.mail a e), fun a e => Nat.le_trans hB (h.nums a e), fun a e => Nat.le_trans hB (h.texts a e)⟩
theorem ne_of_le {B g : Nat} {a : Addr} (h : B ≤ a.block) (hg : g < B) : some a.block ≠ some g := fun e => by
  have := Option.some.inj e
  omega
theorem IsData.but {w w' : World} {k : DataH} {d : DataP} {B g : Nat} (hd : IsData w k d) (hf : FreshD B k) (hg : g < B) (hb : w.grownBy w' (some g)) : IsData w' k d :=
  ⟨hd.bytes.grown hb fun a e => ne_of_le (hf.bytes a e) hg, hd.host.grown hb fun a e => ne_of_le (hf.host a e) hg, hd.mail.grown hb fun a e => ne_of_le (hf.mail a e) hg, hd.nums.grown hb fun a e => ne_of_le (hf.nums a e) hg, hd.texts.grown hb fun a e => ne_of_le (hf.texts a e) hg, hd.fits⟩
theorem own_results {tmps : Array Value} {w : World} {R : Nat} {k : DataH} (h2 : tmps[2]? = some (.pointer (some ⟨R, 0, none⟩))) (hB : Blk w R (dataC k) 33) :
    (results Tryz.f21 tmps).run Tryz.prog w = .ok (.agg (dataC k)) w := by
  have c0 := hB.cell 0
  have c1 := hB.cell 1
  have c2 := hB.cell 2
  have c3 := hB.cell 3
  have c4 := hB.cell 4
  simp [dataC] at c0 c1 c2 c3 c4
  simp [results, go_sem, h2, c0, c1, c2, c3, c4, dataC]
def noData : Array Value := #[.slice none 0 0, .slice none 0 0, .slice none 0 0, .slice none 0 0, .slice none 0 0]
set_option maxHeartbeats 8000000 in
set_option maxRecDepth 100000 in
theorem own_any (w : World) (h : DataH) (d : DataP) (hd : IsData w h d) (hl : LightData d) :
    Calls Tryz.prog 21 #[.agg (dataC h)] w fun e w' => ∃ k, e = .returned (.agg (dataC k)) ∧ IsData w' k d ∧ FreshD w.heap.size k ∧ Below w.heap.size w w' := by
  have hlen := hd.len
  have HL0 := Lib.hid (show h.bl * 1 ≤ 140737488355328 by have := hl.bytes; have := hlen.bytes; omega)
  have HL1 := Lib.hid (show h.hl * 16 ≤ 140737488355328 by have := hl.host; have := hlen.host; omega)
  have HL2 := Lib.hid (show h.ml * 16 ≤ 140737488355328 by have := hl.mail; have := hlen.mail; omega)
  have HL3 := Lib.hid (show h.nl * 8 ≤ 140737488355328 by have := hl.nums; have := hlen.nums; omega)
  have HL4 := Lib.hid (show h.tl * 16 ≤ 140737488355328 by have := hl.texts; have := hlen.texts; omega)
  have hA0 : Blk (w.alloc (.cells (dataC h) 33)) w.heap.size (dataC h) 33 := heap_alloc_new w _
  have hA : Blk ((w.alloc (.cells (dataC h) 33)).alloc (.cells noData 33)) w.heap.size (dataC h) 33 := hA0.on ((Below.refl _ _).alloc (Nat.le_refl _) _)
  have hN : Blk ((w.alloc (.cells (dataC h) 33)).alloc (.cells noData 33)) (w.heap.size + 1) noData 33 := by
    have := heap_alloc_new (w.alloc (.cells (dataC h) 33)) (.cells noData 33)
    simpa [Blk] using this
  have HB := Lib.hid (show Below w.heap.size w ((w.alloc (.cells (dataC h) 33)).alloc (.cells noData 33)).drew from Below.drew (((Below.refl _ _).alloc (Nat.le_refl _) _).alloc (by simp) _))
  have HC0 := Lib.hid (show ((w.alloc (.cells (dataC h) 33)).alloc (.cells noData 33)).drew.cell? ⟨w.heap.size, 0, none⟩ = some (.slice h.ba h.bl h.bc) from hA.cell 0)
  have HC1 := Lib.hid (show ((w.alloc (.cells (dataC h) 33)).alloc (.cells noData 33)).drew.cell? ⟨w.heap.size, 1, none⟩ = some (.slice h.ha h.hl h.hc) from hA.cell 1)
  have HC2 := Lib.hid (show ((w.alloc (.cells (dataC h) 33)).alloc (.cells noData 33)).drew.cell? ⟨w.heap.size, 2, none⟩ = some (.slice h.ma h.ml h.mc) from hA.cell 2)
  have HC3 := Lib.hid (show ((w.alloc (.cells (dataC h) 33)).alloc (.cells noData 33)).drew.cell? ⟨w.heap.size, 3, none⟩ = some (.slice h.na h.nl h.nc) from hA.cell 3)
  have HC4 := Lib.hid (show ((w.alloc (.cells (dataC h) 33)).alloc (.cells noData 33)).drew.cell? ⟨w.heap.size, 4, none⟩ = some (.slice h.ta h.tl h.tc) from hA.cell 4)
  have HN := Lib.hid (show Blk ((w.alloc (.cells (dataC h) 33)).alloc (.cells noData 33)).drew (w.heap.size + 1) noData 33 from hN)
  have HSZ := Lib.hid (show ((w.alloc (.cells (dataC h) 33)).alloc (.cells noData 33)).drew.heap.size = w.heap.size + 2 from (show ((w.alloc (.cells (dataC h) 33)).alloc (.cells noData 33)).heap.size = w.heap.size + 2 by simp))
  have HD := Lib.hid hd
  clear hA0 hA hN hd hl hlen
  simp only [dataC, noData] at HB HSZ HC0 HC1 HC2 HC3 HC4 HN
  go_enter Tryz.func21, Tryz.ntmps21
  simp only [dataC]
  go_wp2_with fail
  refine wp_soup0_last (m := 24) 21 (by kernel_rfl) (fun x y => Below x.heap.size x y) (fun i v x => match i with | 0 => ∃ g, v = .slice (some ⟨g, 0, none⟩) 0 0 ∧ g < x.heap.size ∧ w.heap.size + 2 ≤ g | 1 => v = .pointer (some ⟨w.heap.size, 0, none⟩) | 2 => v = .slice h.ba h.bl h.bc | 3 => ∃ a c, v = .slice (some a) h.bl c ∧ Byts x (some a) h.bl c d.bytes ∧ w.heap.size + 2 ≤ a.block | 4 => ∃ g, v = .slice (some ⟨g, 0, none⟩) 0 0 ∧ g < x.heap.size ∧ w.heap.size + 2 ≤ g | 5 => v = .pointer (some ⟨w.heap.size, 1, none⟩) | 6 => v = .slice h.ha h.hl h.hc | 7 => ∃ a c, v = .slice (some a) h.hl c ∧ Strs x (some a) h.hl c d.host ∧ w.heap.size + 2 ≤ a.block | 8 => ∃ g, v = .slice (some ⟨g, 0, none⟩) 0 0 ∧ g < x.heap.size ∧ w.heap.size + 2 ≤ g | 9 => v = .pointer (some ⟨w.heap.size, 2, none⟩) | 10 => v = .slice h.ma h.ml h.mc | 11 => ∃ a c, v = .slice (some a) h.ml c ∧ Strs x (some a) h.ml c d.mail ∧ w.heap.size + 2 ≤ a.block | 12 => ∃ g, v = .slice (some ⟨g, 0, none⟩) 0 0 ∧ g < x.heap.size ∧ w.heap.size + 2 ≤ g | 13 => v = .pointer (some ⟨w.heap.size, 3, none⟩) | 14 => v = .slice h.na h.nl h.nc | 15 => ∃ a c, v = .slice (some a) h.nl c ∧ Nums x (some a) h.nl c d.nums ∧ w.heap.size + 2 ≤ a.block | 16 => ∃ g, v = .slice (some ⟨g, 0, none⟩) 0 0 ∧ g < x.heap.size ∧ w.heap.size + 2 ≤ g | 17 => v = .pointer (some ⟨w.heap.size, 4, none⟩) | 18 => v = .slice h.ta h.tl h.tc | 19 => ∃ a c, v = .slice (some a) h.tl c ∧ Strs x (some a) h.tl c d.texts ∧ w.heap.size + 2 ≤ a.block | 20 => ∃ k, v = .agg (dataC k) ∧ IsData x k d ∧ FreshD (w.heap.size + 2) k | _ => True) rfl (by kernel_rfl) (by kernel_rfl) (fun _ _ _ h1 h2 => below_on h1 h2 (Nat.le_refl _)) (Below.refl _ _) (by intro i v x y h hxy; match i, h with | 0, ⟨g, e, hg, hg2⟩ => exact ⟨g, e, Nat.lt_of_lt_of_le hg hxy.size, hg2⟩ | 1, h => exact h | 2, h => exact h | 3, ⟨a, c, e, hr, hg⟩ => exact ⟨a, c, e, hr.below hxy (Nat.le_refl _), hg⟩ | 4, ⟨g, e, hg, hg2⟩ => exact ⟨g, e, Nat.lt_of_lt_of_le hg hxy.size, hg2⟩ | 5, h => exact h | 6, h => exact h | 7, ⟨a, c, e, hr, hg⟩ => exact ⟨a, c, e, hr.below hxy (Nat.le_refl _), hg⟩ | 8, ⟨g, e, hg, hg2⟩ => exact ⟨g, e, Nat.lt_of_lt_of_le hg hxy.size, hg2⟩ | 9, h => exact h | 10, h => exact h | 11, ⟨a, c, e, hr, hg⟩ => exact ⟨a, c, e, hr.below hxy (Nat.le_refl _), hg⟩ | 12, ⟨g, e, hg, hg2⟩ => exact ⟨g, e, Nat.lt_of_lt_of_le hg hxy.size, hg2⟩ | 13, h => exact h | 14, h => exact h | 15, ⟨a, c, e, hr, hg⟩ => exact ⟨a, c, e, hr.below hxy (Nat.le_refl _), hg⟩ | 16, ⟨g, e, hg, hg2⟩ => exact ⟨g, e, Nat.lt_of_lt_of_le hg hxy.size, hg2⟩ | 17, h => exact h | 18, h => exact h | 19, ⟨a, c, e, hr, hg⟩ => exact ⟨a, c, e, hr.below hxy (Nat.le_refl _), hg⟩ | 20, ⟨k, e, hk, hfr⟩ => exact ⟨k, e, hk.on hxy, hfr⟩ | _ + 21, _ => trivial) (dst_but 21 (by kernel_rfl) (fun _ _ h => h)) ?_ ?_
  rotate_left
  · intro o ho a W hR hS hdep K hK
    obtain rfl := Option.some.inj ho
    obtain ⟨⟨l⟩, df⟩ := a
    match l, (show l.length = 24 from hS.size), hS, hdep with
    | [u0, u1, u2, u3, u4, u5, u6, u7, u8, u9, u10, u11, u12, u13, u14, u15, u16, u17, u18, u19, u20, u21, u22, u23], _, hS, hdep =>
      obtain rfl : u1 = .pointer (some ⟨w.heap.size, 0, none⟩) := hS.keep 1 (by kernel_rfl)
      obtain rfl : u2 = .pointer (some ⟨w.heap.size + 1, 0, none⟩) := hS.keep 2 (by kernel_rfl)
      obtain rfl : df = [] := hS.defers
      obtain ⟨k, rfl, hk, hfr⟩ := hdep 20 (by decide +kernel)
      have hNW := HN.out.on hR
      have n0 := hNW.cell 0
      have n1 := hNW.cell 1
      have n2 := hNW.cell 2
      have n3 := hNW.cell 3
      have n4 := hNW.cell 4
      simp at n0 n1 n2 n3 n4
      have f0 := hNW.free 0
      have f1 := hNW.free 1
      have f2 := hNW.free 2
      have f3 := hNW.free 3
      have f4 := hNW.free 4
      simp only [dataC]
      go_simp
      refine hK _ _ ?_
      have hN5 : Blk (((((W.setCell ⟨w.heap.size + 1, 0, none⟩ (.slice k.ba k.bl k.bc)).setCell ⟨w.heap.size + 1, 1, none⟩ (.slice k.ha k.hl k.hc)).setCell ⟨w.heap.size + 1, 2, none⟩ (.slice k.ma k.ml k.mc)).setCell ⟨w.heap.size + 1, 3, none⟩ (.slice k.na k.nl k.nc)).setCell ⟨w.heap.size + 1, 4, none⟩ (.slice k.ta k.tl k.tc)) (w.heap.size + 1) (dataC k) 33 := (((((hNW.set 0 _).set 1 _).set 2 _).set 3 _).set 4 _)
      have hG5 : W.grownBy (((((W.setCell ⟨w.heap.size + 1, 0, none⟩ (.slice k.ba k.bl k.bc)).setCell ⟨w.heap.size + 1, 1, none⟩ (.slice k.ha k.hl k.hc)).setCell ⟨w.heap.size + 1, 2, none⟩ (.slice k.ma k.ml k.mc)).setCell ⟨w.heap.size + 1, 3, none⟩ (.slice k.na k.nl k.nc)).setCell ⟨w.heap.size + 1, 4, none⟩ (.slice k.ta k.tl k.tc)) (some (w.heap.size + 1)) :=
        but_trans (but_trans (but_trans (but_trans (but_set _ _ _ _) (but_set _ _ _ _)) (but_set _ _ _ _)) (but_set _ _ _ _)) (but_set _ _ _ _)
      have hz := hR.size
      rw [HSZ.out] at hz
      have HI := Lib.hid (hk.but hfr (by omega) hG5)
      have HBE := Lib.hid ((below_on HB.out hR (Nat.le_refl _)).trans (below_of_but hG5 (B := w.heap.size) (by omega) (by omega)))
      have HN5 := Lib.hid hN5
      clear hN5 hG5 n0 n1 n2 n3 n4 f0 f1 f2 f3 f4
      go_wp2_with fail
      refine bodyPost_ret (v := .agg (dataC k)) (own_results rfl HN5.out) rfl ?_
      exact ⟨k, rfl, HI.out, hfr.mono (by omega), HBE.out⟩
  refine soup_cons rfl rfl (fun a W hR hS hdep K hK => ?_) ?_
  · obtain ⟨⟨l⟩, df⟩ := a
    match l, (show l.length = 24 from hS.size), hS, hdep with
    | [u0, u1, u2, u3, u4, u5, u6, u7, u8, u9, u10, u11, u12, u13, u14, u15, u16, u17, u18, u19, u20, u21, u22, u23], _, hS, hdep =>
      have hz := hR.size
      rw [HSZ.out] at hz
      go_simp
      exact hK _ _ ((Below.refl _ _).alloc (Nat.le_refl _) _) ⟨_, rfl, by simp, hz⟩
  refine soup_cons rfl rfl (fun a W hR hS hdep K hK => ?_) ?_
  · obtain ⟨⟨l⟩, df⟩ := a
    match l, (show l.length = 24 from hS.size), hS, hdep with
    | [u0, u1, u2, u3, u4, u5, u6, u7, u8, u9, u10, u11, u12, u13, u14, u15, u16, u17, u18, u19, u20, u21, u22, u23], _, hS, hdep =>
      obtain rfl : u1 = .pointer (some ⟨w.heap.size, 0, none⟩) := hS.keep 1 (by kernel_rfl)
      go_simp
      exact hK _ _ (Below.refl _ _) rfl
  refine soup_cons rfl rfl (fun a W hR hS hdep K hK => ?_) ?_
  · obtain ⟨⟨l⟩, df⟩ := a
    match l, (show l.length = 24 from hS.size), hS, hdep with
    | [u0, u1, u2, u3, u4, u5, u6, u7, u8, u9, u10, u11, u12, u13, u14, u15, u16, u17, u18, u19, u20, u21, u22, u23], _, hS, hdep =>
      obtain rfl := hdep 1 (by decide +kernel)
      have hc := cell_keep hR HC0.out
      go_simp
      exact hK _ _ (Below.refl _ _) rfl
  refine soup_cons rfl rfl (fun a W hR hS hdep K hK => ?_) ?_
  · obtain ⟨⟨l⟩, df⟩ := a
    match l, (show l.length = 24 from hS.size), hS, hdep with
    | [u0, u1, u2, u3, u4, u5, u6, u7, u8, u9, u10, u11, u12, u13, u14, u15, u16, u17, u18, u19, u20, u21, u22, u23], _, hS, hdep =>
      obtain ⟨g, rfl, hg, hg2⟩ := hdep 0 (by decide +kernel)
      obtain rfl := hdep 2 (by decide +kernel)
      have hdW := HD.out.on (below_on HB.out hR (Nat.le_refl _))
      obtain ⟨i0, hi, hz0, hz1, hz2⟩ := info_parts infoByte
      obtain ⟨a', c', w', hrun, hrow, hgr, hb⟩ := append_made (P := Tryz.prog) W 29 29 5 i0 _ 1 Tryz.underlying29 hi hz0 hz1 hz2 g hg h.ba h.bl h.bc _ (hdW.bytes) (HL0.out)
      rw [if_pos (by rfl)]
      refine wp_append_run _ _ _ rfl _ _ rfl rfl hrun ?_
      exact hK _ _ hb ⟨_, _, rfl, hrow, Nat.le_trans hg2 hgr⟩
  refine soup_cons rfl rfl (fun a W hR hS hdep K hK => ?_) ?_
  · obtain ⟨⟨l⟩, df⟩ := a
    match l, (show l.length = 24 from hS.size), hS, hdep with
    | [u0, u1, u2, u3, u4, u5, u6, u7, u8, u9, u10, u11, u12, u13, u14, u15, u16, u17, u18, u19, u20, u21, u22, u23], _, hS, hdep =>
      have hz := hR.size
      rw [HSZ.out] at hz
      go_simp
      exact hK _ _ ((Below.refl _ _).alloc (Nat.le_refl _) _) ⟨_, rfl, by simp, hz⟩
  refine soup_cons rfl rfl (fun a W hR hS hdep K hK => ?_) ?_
  · obtain ⟨⟨l⟩, df⟩ := a
    match l, (show l.length = 24 from hS.size), hS, hdep with
    | [u0, u1, u2, u3, u4, u5, u6, u7, u8, u9, u10, u11, u12, u13, u14, u15, u16, u17, u18, u19, u20, u21, u22, u23], _, hS, hdep =>
      obtain rfl : u1 = .pointer (some ⟨w.heap.size, 0, none⟩) := hS.keep 1 (by kernel_rfl)
      go_simp
      exact hK _ _ (Below.refl _ _) rfl
  refine soup_cons rfl rfl (fun a W hR hS hdep K hK => ?_) ?_
  · obtain ⟨⟨l⟩, df⟩ := a
    match l, (show l.length = 24 from hS.size), hS, hdep with
    | [u0, u1, u2, u3, u4, u5, u6, u7, u8, u9, u10, u11, u12, u13, u14, u15, u16, u17, u18, u19, u20, u21, u22, u23], _, hS, hdep =>
      obtain rfl := hdep 5 (by decide +kernel)
      have hc := cell_keep hR HC1.out
      go_simp
      exact hK _ _ (Below.refl _ _) rfl
  refine soup_cons rfl rfl (fun a W hR hS hdep K hK => ?_) ?_
  · obtain ⟨⟨l⟩, df⟩ := a
    match l, (show l.length = 24 from hS.size), hS, hdep with
    | [u0, u1, u2, u3, u4, u5, u6, u7, u8, u9, u10, u11, u12, u13, u14, u15, u16, u17, u18, u19, u20, u21, u22, u23], _, hS, hdep =>
      obtain ⟨g, rfl, hg, hg2⟩ := hdep 4 (by decide +kernel)
      obtain rfl := hdep 6 (by decide +kernel)
      have hdW := HD.out.on (below_on HB.out hR (Nat.le_refl _))
      obtain ⟨i0, hi, hz0, hz1, hz2⟩ := info_parts strInfo
      obtain ⟨a', c', w', hrun, hrow, hgr, hb⟩ := append_made (P := Tryz.prog) W 30 30 9 i0 _ 16 Tryz.underlying30 hi hz0 hz1 hz2 g hg h.ha h.hl h.hc _ (hdW.host.row) (HL1.out)
      rw [if_pos (by rfl)]
      refine wp_append_run _ _ _ rfl _ _ rfl rfl hrun ?_
      exact hK _ _ hb ⟨_, _, rfl, ⟨hrow, hdW.host.small⟩, Nat.le_trans hg2 hgr⟩
  refine soup_cons rfl rfl (fun a W hR hS hdep K hK => ?_) ?_
  · obtain ⟨⟨l⟩, df⟩ := a
    match l, (show l.length = 24 from hS.size), hS, hdep with
    | [u0, u1, u2, u3, u4, u5, u6, u7, u8, u9, u10, u11, u12, u13, u14, u15, u16, u17, u18, u19, u20, u21, u22, u23], _, hS, hdep =>
      have hz := hR.size
      rw [HSZ.out] at hz
      go_simp
      exact hK _ _ ((Below.refl _ _).alloc (Nat.le_refl _) _) ⟨_, rfl, by simp, hz⟩
  refine soup_cons rfl rfl (fun a W hR hS hdep K hK => ?_) ?_
  · obtain ⟨⟨l⟩, df⟩ := a
    match l, (show l.length = 24 from hS.size), hS, hdep with
    | [u0, u1, u2, u3, u4, u5, u6, u7, u8, u9, u10, u11, u12, u13, u14, u15, u16, u17, u18, u19, u20, u21, u22, u23], _, hS, hdep =>
      obtain rfl : u1 = .pointer (some ⟨w.heap.size, 0, none⟩) := hS.keep 1 (by kernel_rfl)
      go_simp
      exact hK _ _ (Below.refl _ _) rfl
  refine soup_cons rfl rfl (fun a W hR hS hdep K hK => ?_) ?_
  · obtain ⟨⟨l⟩, df⟩ := a
    match l, (show l.length = 24 from hS.size), hS, hdep with
    | [u0, u1, u2, u3, u4, u5, u6, u7, u8, u9, u10, u11, u12, u13, u14, u15, u16, u17, u18, u19, u20, u21, u22, u23], _, hS, hdep =>
      obtain rfl := hdep 9 (by decide +kernel)
      have hc := cell_keep hR HC2.out
      go_simp
      exact hK _ _ (Below.refl _ _) rfl
  refine soup_cons rfl rfl (fun a W hR hS hdep K hK => ?_) ?_
  · obtain ⟨⟨l⟩, df⟩ := a
    match l, (show l.length = 24 from hS.size), hS, hdep with
    | [u0, u1, u2, u3, u4, u5, u6, u7, u8, u9, u10, u11, u12, u13, u14, u15, u16, u17, u18, u19, u20, u21, u22, u23], _, hS, hdep =>
      obtain ⟨g, rfl, hg, hg2⟩ := hdep 8 (by decide +kernel)
      obtain rfl := hdep 10 (by decide +kernel)
      have hdW := HD.out.on (below_on HB.out hR (Nat.le_refl _))
      obtain ⟨i0, hi, hz0, hz1, hz2⟩ := info_parts strInfo
      obtain ⟨a', c', w', hrun, hrow, hgr, hb⟩ := append_made (P := Tryz.prog) W 30 30 9 i0 _ 16 Tryz.underlying30 hi hz0 hz1 hz2 g hg h.ma h.ml h.mc _ (hdW.mail.row) (HL2.out)
      rw [if_pos (by rfl)]
      refine wp_append_run _ _ _ rfl _ _ rfl rfl hrun ?_
      exact hK _ _ hb ⟨_, _, rfl, ⟨hrow, hdW.mail.small⟩, Nat.le_trans hg2 hgr⟩
  refine soup_cons rfl rfl (fun a W hR hS hdep K hK => ?_) ?_
  · obtain ⟨⟨l⟩, df⟩ := a
    match l, (show l.length = 24 from hS.size), hS, hdep with
    | [u0, u1, u2, u3, u4, u5, u6, u7, u8, u9, u10, u11, u12, u13, u14, u15, u16, u17, u18, u19, u20, u21, u22, u23], _, hS, hdep =>
      have hz := hR.size
      rw [HSZ.out] at hz
      go_simp
      exact hK _ _ ((Below.refl _ _).alloc (Nat.le_refl _) _) ⟨_, rfl, by simp, hz⟩
  refine soup_cons rfl rfl (fun a W hR hS hdep K hK => ?_) ?_
  · obtain ⟨⟨l⟩, df⟩ := a
    match l, (show l.length = 24 from hS.size), hS, hdep with
    | [u0, u1, u2, u3, u4, u5, u6, u7, u8, u9, u10, u11, u12, u13, u14, u15, u16, u17, u18, u19, u20, u21, u22, u23], _, hS, hdep =>
      obtain rfl : u1 = .pointer (some ⟨w.heap.size, 0, none⟩) := hS.keep 1 (by kernel_rfl)
      go_simp
      exact hK _ _ (Below.refl _ _) rfl
  refine soup_cons rfl rfl (fun a W hR hS hdep K hK => ?_) ?_
  · obtain ⟨⟨l⟩, df⟩ := a
    match l, (show l.length = 24 from hS.size), hS, hdep with
    | [u0, u1, u2, u3, u4, u5, u6, u7, u8, u9, u10, u11, u12, u13, u14, u15, u16, u17, u18, u19, u20, u21, u22, u23], _, hS, hdep =>
      obtain rfl := hdep 13 (by decide +kernel)
      have hc := cell_keep hR HC3.out
      go_simp
      exact hK _ _ (Below.refl _ _) rfl
  refine soup_cons rfl rfl (fun a W hR hS hdep K hK => ?_) ?_
  · obtain ⟨⟨l⟩, df⟩ := a
    match l, (show l.length = 24 from hS.size), hS, hdep with
    | [u0, u1, u2, u3, u4, u5, u6, u7, u8, u9, u10, u11, u12, u13, u14, u15, u16, u17, u18, u19, u20, u21, u22, u23], _, hS, hdep =>
      obtain ⟨g, rfl, hg, hg2⟩ := hdep 12 (by decide +kernel)
      obtain rfl := hdep 14 (by decide +kernel)
      have hdW := HD.out.on (below_on HB.out hR (Nat.le_refl _))
      obtain ⟨i0, hi, hz0, hz1, hz2⟩ := info_parts infoInt
      obtain ⟨a', c', w', hrun, hrow, hgr, hb⟩ := append_made (P := Tryz.prog) W 31 31 3 i0 _ 8 Tryz.underlying31 hi hz0 hz1 hz2 g hg h.na h.nl h.nc _ (hdW.nums) (HL3.out)
      rw [if_pos (by rfl)]
      refine wp_append_run _ _ _ rfl _ _ rfl rfl hrun ?_
      exact hK _ _ hb ⟨_, _, rfl, hrow, Nat.le_trans hg2 hgr⟩
  refine soup_cons rfl rfl (fun a W hR hS hdep K hK => ?_) ?_
  · obtain ⟨⟨l⟩, df⟩ := a
    match l, (show l.length = 24 from hS.size), hS, hdep with
    | [u0, u1, u2, u3, u4, u5, u6, u7, u8, u9, u10, u11, u12, u13, u14, u15, u16, u17, u18, u19, u20, u21, u22, u23], _, hS, hdep =>
      have hz := hR.size
      rw [HSZ.out] at hz
      go_simp
      exact hK _ _ ((Below.refl _ _).alloc (Nat.le_refl _) _) ⟨_, rfl, by simp, hz⟩
  refine soup_cons rfl rfl (fun a W hR hS hdep K hK => ?_) ?_
  · obtain ⟨⟨l⟩, df⟩ := a
    match l, (show l.length = 24 from hS.size), hS, hdep with
    | [u0, u1, u2, u3, u4, u5, u6, u7, u8, u9, u10, u11, u12, u13, u14, u15, u16, u17, u18, u19, u20, u21, u22, u23], _, hS, hdep =>
      obtain rfl : u1 = .pointer (some ⟨w.heap.size, 0, none⟩) := hS.keep 1 (by kernel_rfl)
      go_simp
      exact hK _ _ (Below.refl _ _) rfl
  refine soup_cons rfl rfl (fun a W hR hS hdep K hK => ?_) ?_
  · obtain ⟨⟨l⟩, df⟩ := a
    match l, (show l.length = 24 from hS.size), hS, hdep with
    | [u0, u1, u2, u3, u4, u5, u6, u7, u8, u9, u10, u11, u12, u13, u14, u15, u16, u17, u18, u19, u20, u21, u22, u23], _, hS, hdep =>
      obtain rfl := hdep 17 (by decide +kernel)
      have hc := cell_keep hR HC4.out
      go_simp
      exact hK _ _ (Below.refl _ _) rfl
  refine soup_cons rfl rfl (fun a W hR hS hdep K hK => ?_) ?_
  · obtain ⟨⟨l⟩, df⟩ := a
    match l, (show l.length = 24 from hS.size), hS, hdep with
    | [u0, u1, u2, u3, u4, u5, u6, u7, u8, u9, u10, u11, u12, u13, u14, u15, u16, u17, u18, u19, u20, u21, u22, u23], _, hS, hdep =>
      obtain ⟨g, rfl, hg, hg2⟩ := hdep 16 (by decide +kernel)
      obtain rfl := hdep 18 (by decide +kernel)
      have hdW := HD.out.on (below_on HB.out hR (Nat.le_refl _))
      obtain ⟨i0, hi, hz0, hz1, hz2⟩ := info_parts strInfo
      obtain ⟨a', c', w', hrun, hrow, hgr, hb⟩ := append_made (P := Tryz.prog) W 30 30 9 i0 _ 16 Tryz.underlying30 hi hz0 hz1 hz2 g hg h.ta h.tl h.tc _ (hdW.texts.row) (HL4.out)
      rw [if_pos (by rfl)]
      refine wp_append_run _ _ _ rfl _ _ rfl rfl hrun ?_
      exact hK _ _ hb ⟨_, _, rfl, ⟨hrow, hdW.texts.small⟩, Nat.le_trans hg2 hgr⟩
  refine soup_cons rfl rfl (fun a W hR hS hdep K hK => ?_) ?_
  · obtain ⟨⟨l⟩, df⟩ := a
    match l, (show l.length = 24 from hS.size), hS, hdep with
    | [u0, u1, u2, u3, u4, u5, u6, u7, u8, u9, u10, u11, u12, u13, u14, u15, u16, u17, u18, u19, u20, u21, u22, u23], _, hS, hdep =>
      obtain ⟨a0, c0, rfl, r0, g0⟩ := hdep 3 (by decide +kernel)
      obtain ⟨a1, c1, rfl, r1, g1⟩ := hdep 7 (by decide +kernel)
      obtain ⟨a2, c2, rfl, r2, g2⟩ := hdep 11 (by decide +kernel)
      obtain ⟨a3, c3, rfl, r3, g3⟩ := hdep 15 (by decide +kernel)
      obtain ⟨a4, c4, rfl, r4, g4⟩ := hdep 19 (by decide +kernel)
      go_simp
      exact hK _ _ (Below.refl _ _) ⟨⟨some a0, h.bl, c0, some a1, h.hl, c1, some a2, h.ml, c2, some a3, h.nl, c3, some a4, h.tl, c4⟩, rfl, ⟨r0, r1, r2, r3, r4, HD.out.fits⟩, ⟨fun _ e => by cases e; exact g0, fun _ e => by cases e; exact g1, fun _ e => by cases e; exact g2, fun _ e => by cases e; exact g3, fun _ e => by cases e; exact g4⟩⟩
  exact fun j h1 h2 => absurd h1 (by omega)
end
section
open Go.ChangeShapes Go.WideShapes Go.ChangeAt Go.RowKit

theorem append_full {P : Program} (w : World) (t ty e : TypeId) (i : TypeInfo) (z : Value) (bytes : Nat) (ht : P.underlying t = some (.slice e)) (hi : P.info? e = some i) (hz : i.zero = some z)
    (hsize : i.size = 1) (hby : i.bytes = bytes) (g n : Nat) (olds : List Value) (hro : Row w (some ⟨g, 0, none⟩) n n olds) (ao : Option Addr) (m c : Nat) (news : List Value) (hr : Row w ao m c news) (hm : 0 < m)
    (hfit : Builtin.nextslicecap (n + m) n * bytes ≤ 281474976710656) (hmx : n + m ≤ 1000) :
    ∃ a' c' w', (Builtin.append_ #[t, t] ty #[.slice (some ⟨g, 0, none⟩) n n, .slice ao m c]).run P w = .ok (.slice (some a') (n + m) c') w' ∧ Row w' (some a') (n + m) c' (olds ++ news) ∧ Below w.heap.size w w' := by
  have hl := hr.hlen
  have hlo := hro.hlen
  obtain ⟨b, off, rfl, hc⟩ := hr.hcells hm
  have hrun := run_append_grow (P := P) (w := w) t ty e i z ht hi hz ⟨g, 0, none⟩ n n olds (by simp [hsize, hlo]) (by
    intro j u hj
    have hj' : j < olds.length := by
      rcases Nat.lt_or_ge j olds.length with h | h
      · exact h
      · rw [List.getElem?_eq_none h] at hj; cases hj
    rw [addr_add, hro.at (by omega), ← hj, List.getElem?_eq_getElem hj']) ⟨b, off, none⟩ m c news (by simp [hsize, hl]) (by
    intro j u hj
    have hj' : j < news.length := by
      rcases Nat.lt_or_ge j news.length with h | h
      · exact h
      · rw [List.getElem?_eq_none h] at hj; cases hj
    rw [addr_add, hc j hj', ← hj, List.getElem?_eq_getElem hj']) (by omega) (by omega) (by rw [hby]; exact hfit)
  have hge := grownCap_ge w (n + m) n e
  have hgl := grownCap_le_maxLen w (n + m) n e (by unfold maxLen; omega)
  refine ⟨⟨w.heap.size, 0, none⟩, _, _, hrun, ?_, (Below.drew (Below.refl _ _)).alloc (Nat.le_refl _) _⟩
  refine ⟨by rw [List.length_append]; omega, hge, by unfold maxLen at hgl; exact hgl, by omega, fun h => (by cases h), fun _ => ⟨w.heap.size, 0, rfl, fun j hj => ?_⟩⟩
  rw [Nat.zero_add]
  refine (World.cell?_alloc_new w.drew _ e j).trans ?_
  rw [Array.getElem?_append_left (by simpa using hj)]
  rw [← List.getElem?_eq_getElem hj]
  simp
def decS (l : List Int) : List ByteArray := l.map fun z => strOf (Lib.itoa z)
def quoS (l : List ByteArray) : List ByteArray := l.map fun t => strOf (quotedP t.data.toList)
theorem sound_size {ss : List ByteArray} (h : soundB ss = true) : sizeN ss ≤ 255 := by
  simp only [soundB, Bool.and_eq_true, decide_eq_true_eq] at h
  omega
theorem ftext_small {ss : List ByteArray} (h : soundB ss = true) : (strOf (ftextP ss)).size ≤ 9223372036854775807 := by
  have h1 := sound_size h
  have h2 := ftextP_len ss
  show (ftextP ss).toArray.size ≤ _
  simp
  omega
theorem itoa_small (z : Int) (h : wfi z) : (strOf (Lib.itoa z)).size ≤ 9223372036854775807 := by
  have := Lib.itoa_length_le z h.1 h.2
  show (Lib.itoa z).toArray.size ≤ _
  simp
  omega
theorem decS_small {l : List Int} (h : ∀ z ∈ l, wfi z) : ∀ s ∈ decS l, s.size ≤ 9223372036854775807 := by
  intro s hs
  obtain ⟨z, hz, rfl⟩ := List.mem_map.1 hs
  exact itoa_small z (h z hz)
theorem quoS_small {l : List ByteArray} (h : ∀ s ∈ l, s.size ≤ 300) : ∀ s ∈ quoS l, s.size ≤ 9223372036854775807 := by
  intro s hs
  obtain ⟨z, hz, rfl⟩ := List.mem_map.1 hs
  have h1 := quotedP_len z.data.toList
  have h2 := h z hz
  have h3 : z.data.toList.length = z.size := by simp
  show (quotedP z.data.toList).toArray.size ≤ _
  simp at h1 h3 ⊢
  omega
/-- what sound data is, kind by kind -/
theorem data_host {d : DataP} {k : Int} (hk : k = 2 ∨ k = 5 ∨ k = 12) (h : dataB k d = true) : soundB d.host = true ∧ d.nums = [] := by
  have e : dataB k d = (soundB d.host && emptyB d false true false false false) := by rcases hk with rfl | rfl | rfl <;> rfl
  rw [e] at h
  simp only [emptyB, Bool.and_eq_true, decide_eq_true_eq, Bool.false_or, Bool.true_or] at h
  exact ⟨h.1, List.eq_nil_of_length_eq_zero h.2.2.2.2.1⟩
theorem data_15 {d : DataP} (h : dataB 15 d = true) : soundB d.host = true := by
  have e : dataB 15 d = ((soundB d.host && fitB d.nums 1 2) && emptyB d false true false true false) := rfl
  rw [e] at h
  simp only [Bool.and_eq_true] at h
  exact h.1.1
theorem data_33 {d : DataP} (h : dataB 33 d = true) : soundB d.host = true := by
  have e : dataB 33 d = ((soundB d.host && fitB d.nums 3 2) && emptyB d false true false true false) := rfl
  rw [e] at h
  simp only [Bool.and_eq_true] at h
  exact h.1.1
theorem data_6 {d : DataP} (h : dataB 6 d = true) : soundB d.host = true ∧ soundB d.mail = true ∧ d.nums.length = 5 := by
  have e : dataB 6 d = (((soundB d.host && soundB d.mail) && fitB d.nums 5 4) && emptyB d false true true true false) := rfl
  rw [e] at h
  simp only [Bool.and_eq_true, fitB, decide_eq_true_eq] at h
  exact ⟨h.1.1.1, h.1.1.2, h.1.2.1⟩
theorem data_1 {d : DataP} (h : dataB 1 d = true) : d.bytes.length = 4 := by
  have e : dataB 1 d = (decide (d.bytes.length = 4) && emptyB d true false false false false) := rfl
  rw [e] at h
  simp only [Bool.and_eq_true, decide_eq_true_eq] at h
  exact h.1
theorem data_28 {d : DataP} (h : dataB 28 d = true) : d.bytes.length = 16 := by
  have e : dataB 28 d = (decide (d.bytes.length = 16) && emptyB d true false false false false) := rfl
  rw [e] at h
  simp only [Bool.and_eq_true, decide_eq_true_eq] at h
  exact h.1
theorem words_none {k : Int} {d : DataP} (h : dataB k d = false) : wordsP k d = [] := by rw [wordsP, h]; rfl
theorem words_some {k : Int} {d : DataP} (h : dataB k d = true) : wordsP k d = (wordsL k d).map strOf := by rw [wordsP, h]; rfl
theorem wordsL_host {k : Int} {d : DataP} (hk : k = 2 ∨ k = 5 ∨ k = 12 ∨ k = 15 ∨ k = 33) : (wordsL k d).map strOf = decS d.nums ++ [strOf (ftextP d.host)] := by
  have e : wordsL k d = d.nums.map Lib.itoa ++ [ftextP d.host] := by rcases hk with rfl | rfl | rfl | rfl | rfl <;> rfl
  rw [e]
  simp [decS]
theorem wordsL_6 {d : DataP} : (wordsL 6 d).map strOf = [strOf (ftextP d.host), strOf (ftextP d.mail)] ++ decS d.nums := by
  have e : wordsL 6 d = [ftextP d.host, ftextP d.mail] ++ d.nums.map Lib.itoa := rfl
  rw [e]
  simp [decS]
theorem wordsL_16 {d : DataP} : (wordsL 16 d).map strOf = quoS d.texts := by
  have e : wordsL 16 d = d.texts.map fun t => quotedP t.data.toList := rfl
  rw [e]
  simp [quoS]
theorem wordsL_other {k : Int} {d : DataP} (h : k ≠ 1 ∧ k ≠ 28 ∧ k ≠ 2 ∧ k ≠ 5 ∧ k ≠ 12 ∧ k ≠ 15 ∧ k ≠ 6 ∧ k ≠ 33 ∧ k ≠ 16) : wordsL k d = rawP d.bytes := by
  obtain ⟨a1, a2, a3, a4, a5, a6, a7, a8, a9⟩ := h
  rw [wordsL, if_neg a1, if_neg a2, if_neg a7, if_neg a9, if_neg (by omega), rawP]
theorem res_owns {w0 w : World} {v : Value} {n base : Nat} {ss us : List ByteArray} (hss : us = ss) (h : w.ownsRow base 9 1 v n (ss.map .string)) (hl : ss.length = n) (hmx : n ≤ 1000) (hs : ∀ s ∈ ss, s.size ≤ 9223372036854775807) (hb : Below w0.heap.size w0 w) : StrsRes w0 us (.returned v) w := by
  subst hss
  obtain ⟨ao, cap, rfl, hst⟩ := strs_of_owns h (by omega) hs
  subst hl
  exact ⟨ao, cap, rfl, hst, hb⟩
theorem res_one {w0 w1 : World} {s : ByteArray} {us : List ByteArray} (hss : us = [s]) (hs : s.size ≤ 9223372036854775807) (hb : Below w0.heap.size w0 w1) : StrsRes w0 us (.returned (.slice (some ⟨w1.heap.size, 0, none⟩) 1 1)) (w1.alloc (.cells #[.string s] 9)) := by
  subst hss
  exact ⟨_, _, rfl, ⟨row_one w1 _ _, by intro t ht; simp at ht; rw [ht]; exact hs⟩, below_on hb ((Below.refl _ _).alloc (Nat.le_refl _) _) (Nat.le_refl _)⟩
theorem res_row {w0 w : World} {a : Addr} {n cap : Nat} {ss us : List ByteArray} {vs : List Value} (hss : us = ss) (h : Row w (some a) n cap vs) (hs : ∀ s ∈ ss, s.size ≤ 9223372036854775807) (hb : Below w0.heap.size w0 w) (hv : vs = ss.map .string := by simp) : StrsRes w0 us (.returned (.slice (some a) n cap)) w := by
  subst hss
  subst hv
  have hl : us.length = n := by simpa using h.hlen
  subst hl
  exact ⟨some a, cap, rfl, ⟨h, hs⟩, hb⟩

set_option maxHeartbeats 8000000 in
set_option maxRecDepth 100000 in
theorem fwords_any (w : World) (k : Int) (h : DataH) (d : DataP) (hd : IsData w h d) (hl : LightData d) (hT : Tab w) (hB : Bru w) :
    Calls Tryz.prog 20 #[.int .i64 k, .agg (dataC h)] w fun e w' => StrsRes w (wordsP k d) e w' := by
  have hlen := hd.len
  have hwa : Below w.heap.size w (w.alloc (.cells (dataC h) 33)) := (Below.refl _ _).alloc (Nat.le_refl _) _
  have hA : Blk (w.alloc (.cells (dataC h) 33)) w.heap.size (dataC h) 33 := heap_alloc_new w _
  have HSD := Lib.hid (dsound_any _ k h d (hd.on hwa))
  have HWA := Lib.hid hwa
  have HA := Lib.hid hA
  have HD := Lib.hid hd
  have HLT := Lib.hid hl
  clear hl
  have HT := Lib.hid hT
  have HB := Lib.hid hB
  obtain ⟨ba, bl, bc, ha, hl, hc, ma, ml, mc, na, nl, nc, ta, tl, tc⟩ := h
  obtain ⟨e0, e1, e2, e3, e4⟩ := hlen
  simp only [dataC] at HSD HWA HA e0 e1 e2 e3 e4
  have HE := Lib.hid (And.intro e0 (And.intro e1 (And.intro e2 (And.intro e3 e4))))
  have hnle := hd.nums.hle
  have hncap := hd.nums.hcap
  have htle := hd.texts.row.hle
  have htcap := hd.texts.row.hcap
  have hnl : nl ≤ 70 := by have := HLT.out.nums; omega
  have htl : tl ≤ 70 := by have := HLT.out.texts; omega
  simp only at hnle hncap htle htcap
  obtain ⟨us, hus⟩ : ∃ us, us = wordsP k d := ⟨_, rfl⟩
  obtain ⟨V, hV⟩ : ∃ V, V = dataB k d := ⟨_, rfl⟩
  rw [← hus]
  rw [← hV] at HSD
  have HUS := Lib.hid hus
  have HVV := Lib.hid hV
  clear hwa hA hd hT hB e0 e1 e2 e3 e4 hus hV
  go_enter Tryz.func20, Tryz.ntmps20
  simp only [dataC]
  go_wp2_with fail
  refine HSD.out.mono ?_
  rintro e w2 ⟨rfl, hb2⟩
  have HA2 := Lib.hid (HA.out.on hb2)
  have HB2 := Lib.hid (below_on HWA.out hb2 (Nat.le_refl _))
  have HD2 := Lib.hid (HD.out.on HB2.out)
  clear HSD HA HWA hb2
  cases V
  · have hu : us = [] := HUS.out.trans (words_none HVV.out.symm)
    subst hu
    go_wp2_with fail
    go_ret
    exact ⟨none, 0, rfl, ⟨Row.empty (by omega) (fun _ => rfl), by simp⟩, HB2.out⟩
  have HV := Lib.hid HVV.out.symm
  have HU := Lib.hid (HUS.out.trans (words_some HVV.out.symm))
  clear HVV HUS
  have c3 := HA2.out.cell 3
  have c4 := HA2.out.cell 4
  simp at c3
  go_wp2_with fail
  clear c3 c4
  go_loopw [18, 8, 5] (fun i _ o wr => ∃ n : Nat, n ≤ nl ∧ i = .int .i64 n ∧ Hid (Below w2.heap.size w2 wr ∧ wr.ownsRow w2.heap.size 9 1 o n ((decS (d.nums.take n)).map .string))) (fun i _ _ _ => nl - (intOf i).toNat)
  case atStart => exact ⟨0, Nat.zero_le _, rfl, Below.refl _ _, World.ownsRow_nil _ _ _ _⟩
  case round =>
    obtain ⟨n, hn, rfl, hinv⟩ := hrel
    by_cases hlt : n < nl
    · have hR := HD2.out.nums.below hinv.out.1 (Nat.le_refl _)
      obtain ⟨b, off, hao⟩ := hR.addr hlt
      simp only at hao
      subst hao
      have hkl : n < d.nums.length := by have := HE.out.2.2.2.1; omega
      have hc := hR.at hlt
      rw [List.getElem_map] at hc
      have hsn := map_snoc (fun z => strOf (Lib.itoa z)) d.nums n hkl
      have hfit := HD2.out.fits _ (List.getElem_mem hkl)
      obtain ⟨z, hz⟩ : ∃ z, z = d.nums[n] := ⟨_, rfl⟩
      rw [← hz] at hc hsn hfit
      have HCALL := Lib.hid (itoa_below (w := wr) hfit.1 hfit.2 (tab_on HT.out (below_on HB2.out hinv.out.1 (Nat.le_refl _))))
      have HSN := Lib.hid hsn
      clear hz hsn hR
      go_wp2_with fail
      refine HCALL.out.mono ?_
      rintro e w3 ⟨rfl, hb3⟩
      obtain ⟨i0, hi, hz0, hz1, hz2⟩ := info_parts strInfo
      have hb4 := below_on hinv.out.1 hb3 (Nat.le_refl _)
      obtain ⟨v', w5, hrun, hown5, _, hb6⟩ := append_one (P := Tryz.prog) w3 w2 w2.heap.size 30 30 9 i0 _ 16 Tryz.underlying30 hi hz0 hz1 hz2 rfl _ _ _ (owns_keep hinv.out.2 hb3) (.string ⟨(Lib.itoa z).toArray⟩) rfl (by omega) (by omega) hb4 hb4.size
      have HRUN := Lib.hid hrun
      have HOW := Lib.hid (show w5.ownsRow w2.heap.size 9 1 v' (n + 1) ((decS (d.nums.take (n + 1))).map .string) by
        unfold decS
        rw [HSN.out, List.map_append]
        exact hown5)
      have HB6 := Lib.hid hb6
      clear hrun hown5 hb6 hi hz0 hz1 hz2 hb3 hb4
      go_wp2_with (at_builtin; refine wpList_append_run rfl _ _ _ rfl _ _ rfl rfl HRUN.out ?_)
      go_roundw
      case rel => exact ⟨n + 1, by omega, by go_num, HB6.out, HOW.out⟩
      case measure => simp [intOf]; omega
    · have hall : d.nums.take n = d.nums := List.take_of_length_le (by have := HE.out.2.2.2.1; omega)
      have hi2 := hinv.out
      rw [hall] at hi2
      obtain rfl : n = nl := by omega
      have HI1 := Lib.hid hi2
      have c4 := cell_keep hi2.1 (HA2.out.cell 4)
      simp at c4
      clear hall hi2 hinv
      rename World => w3
      go_wp2_with fail
      clear c4
      go_loopw [31, 10, 6] (fun i _ o wr => ∃ n : Nat, n ≤ tl ∧ i = .int .i64 n ∧ Hid (Below w3.heap.size w3 wr ∧ wr.ownsRow w3.heap.size 9 1 o n ((quoS (d.texts.take n)).map .string))) (fun i _ _ _ => tl - (intOf i).toNat)
      case atStart => exact ⟨0, Nat.zero_le _, rfl, Below.refl _ _, World.ownsRow_nil _ _ _ _⟩
      case round =>
        obtain ⟨m, hm, rfl, hinv⟩ := hrel
        have HBW := Lib.hid (below_on HI1.out.1 hinv.out.1 (Nat.le_refl _))
        by_cases hlt : m < tl
        · have hR := HD2.out.texts.below HBW.out (Nat.le_refl _)
          obtain ⟨b, off, hao⟩ := hR.row.addr hlt
          simp only at hao
          subst hao
          have hkl : m < d.texts.length := by have := HE.out.2.2.2.2; omega
          have hc := hR.at hlt
          have hsn := map_snoc (fun t : ByteArray => strOf (quotedP t.data.toList)) d.texts m hkl
          have hsz := HLT.out.text _ (List.getElem_mem hkl)
          obtain ⟨z, hz⟩ : ∃ z, z = d.texts[m] := ⟨_, rfl⟩
          rw [← hz] at hc hsn hsz
          have HCALL := Lib.hid (quoted_any wr z (by omega) (tab_on HT.out (below_on HB2.out HBW.out (Nat.le_refl _))))
          have HSN := Lib.hid hsn
          clear hz hsn hR
          go_wp2_with fail
          refine HCALL.out.mono ?_
          rintro e w4 ⟨rfl, hb3⟩
          obtain ⟨i0, hi, hz0, hz1, hz2⟩ := info_parts strInfo
          have hb4 := below_on hinv.out.1 hb3 (Nat.le_refl _)
          obtain ⟨v', w5, hrun, hown5, _, hb6⟩ := append_one (P := Tryz.prog) w4 w3 w3.heap.size 30 30 9 i0 _ 16 Tryz.underlying30 hi hz0 hz1 hz2 rfl _ _ _ (owns_keep hinv.out.2 hb3) (.string ⟨(quotedP z.data.toList).toArray⟩) rfl (by omega) (by omega) hb4 hb4.size
          have HRUN := Lib.hid hrun
          have HOW := Lib.hid (show w5.ownsRow w3.heap.size 9 1 v' (m + 1) ((quoS (d.texts.take (m + 1))).map .string) by
            unfold quoS
            rw [HSN.out, List.map_append]
            exact hown5)
          have HB6 := Lib.hid hb6
          clear hrun hown5 hb6 hi hz0 hz1 hz2 hb3 hb4
          go_wp2_with (at_builtin; refine wpList_append_run rfl _ _ _ rfl _ _ rfl rfl HRUN.out ?_)
          go_roundw
          case rel => exact ⟨m + 1, by omega, by go_num, HB6.out, HOW.out⟩
          case measure => simp [intOf]; omega
        · have hall : d.texts.take m = d.texts := List.take_of_length_le (by have := HE.out.2.2.2.2; omega)
          have hi2 := hinv.out
          rw [hall] at hi2
          obtain rfl : m = tl := by omega
          have HN := Lib.hid (owns_keep HI1.out.2 hi2.1)
          have HX := Lib.hid hi2.2
          have HBF := Lib.hid (below_on HB2.out HBW.out (Nat.le_refl _))
          have HD3 := Lib.hid (HD2.out.on HBW.out)
          have HA3 := Lib.hid (HA2.out.on HBW.out)
          have HTW := Lib.hid (tab_on HT.out HBF.out)
          have HBU := Lib.hid (HB.out.on HBF.out)
          clear hall hi2 hinv HI1 HD2 HA2 HD HB HT hlt
          rcases kind_cases k with hk | rfl | rfl | hk | rfl | rfl | rfl | rfl | ⟨⟨k1, k2⟩, hk⟩
          · exfalso
            have := HV.out
            rw [dataB_out hk] at this
            cases this
          · obtain rfl : bl = 4 := by have := HE.out.1; have := data_1 HV.out; omega
            have c0 := HA3.out.cell 0
            simp at c0
            have HCALL := Lib.hid (addr4_any wr ba bc d.bytes HD3.out.bytes HTW.out)
            have hsz := joinP_len 46 20 (d.bytes.map fun c => Lib.decDigits c.toNat) (by
              intro x hx
              obtain ⟨c, _, rfl⟩ := List.mem_map.1 hx
              exact dec_len20 _ (by have := c.toNat_lt; omega))
            rw [List.length_map, HE.out.1] at hsz
            have HSZ := Lib.hid hsz
            clear hsz
            go_wp2_with fail
            refine HCALL.out.mono ?_
            rintro e w4 ⟨rfl, hb4⟩
            have HB4 := Lib.hid (below_on HBF.out hb4 (Nat.le_refl _))
            clear hb4
            go_wp2_with fail
            go_ret
            exact res_one (HU.out.trans rfl) (by show (joinP _ _).toArray.size ≤ _; have := HSZ.out; simp only [List.size_toArray]; omega) HB4.out
          · obtain rfl : bl = 16 := by have := HE.out.1; have := data_28 HV.out; omega
            have c0 := HA3.out.cell 0
            simp at c0
            have HCALL := Lib.hid (addr16_any wr ba bc d.bytes HD3.out.bytes HBU.out)
            have hsz := joinP_len 58 20 ((pairsP d.bytes).map groupP) (by
              intro x hx
              obtain ⟨u, hu, rfl⟩ := List.mem_map.1 hx
              have := groupP_len u (pairs_lt _ u hu)
              omega)
            rw [List.length_map, pairs_len 8 _ HE.out.1] at hsz
            have HSZ := Lib.hid hsz
            clear hsz
            go_wp2_with fail
            refine HCALL.out.mono ?_
            rintro e w4 ⟨rfl, hb4⟩
            have HB4 := Lib.hid (below_on HBF.out hb4 (Nat.le_refl _))
            clear hb4
            go_wp2_with fail
            go_ret
            exact res_one (HU.out.trans rfl) (by show (joinP _ _).toArray.size ≤ _; have := HSZ.out; simp only [List.size_toArray]; omega) HB4.out
          · have hdh := data_host hk HV.out
            have hsn := sound_size hdh.1
            have c1 := HA3.out.cell 1
            simp at c1
            have HCALL := Lib.hid (ftext_any wr ha hl hc d.host HD3.out.host (by omega) HTW.out)
            have HW := Lib.hid (HU.out.trans (wordsL_host (by omega)))
            rw [hdh.2] at HW
            have HSM := Lib.hid (ftext_small hdh.1)
            clear hdh hsn
            rcases hk with rfl | rfl | rfl
            all_goals
              go_wp2_with fail
              refine HCALL.out.mono ?_
              rintro e w4 ⟨rfl, hb4⟩
              have HB4 := Lib.hid (below_on HBF.out hb4 (Nat.le_refl _))
              clear hb4
              go_wp2_with fail
              go_ret
              exact res_one HW.out HSM.out HB4.out
          · have hsn := sound_size (data_15 HV.out)
            have c1 := HA3.out.cell 1
            simp at c1
            have HCALL := Lib.hid (ftext_any wr ha hl hc d.host HD3.out.host (by omega) HTW.out)
            have HW := Lib.hid (HU.out.trans (wordsL_host (by omega)))
            have HSM := Lib.hid (ftext_small (data_15 HV.out))
            clear hsn
            go_wp2_with fail
            refine HCALL.out.mono ?_
            rintro e w4 ⟨rfl, hb4⟩
            obtain ⟨i0, hi, hz0, hz1, hz2⟩ := info_parts strInfo
            have hb5 := below_on HBW.out hb4 (Nat.le_refl _)
            obtain ⟨v', w5, hrun, hown5, _, hb6⟩ := append_one (P := Tryz.prog) w4 w2 w2.heap.size 30 30 9 i0 _ 16 Tryz.underlying30 hi hz0 hz1 hz2 rfl _ _ _ (owns_keep HN.out hb4) (.string ⟨(ftextP d.host).toArray⟩) rfl (by omega) (by omega) hb5 hb5.size
            have HRUN := Lib.hid hrun
            have HOW := Lib.hid (show w5.ownsRow w2.heap.size 9 1 v' (n + 1) ((decS d.nums ++ [strOf (ftextP d.host)]).map .string) by
              rw [List.map_append]
              exact hown5)
            have HB6 := Lib.hid (below_on HB2.out hb6 (Nat.le_refl _))
            clear hrun hown5 hb6 hi hz0 hz1 hz2 hb4 hb5
            go_wp2_with (at_builtin; refine wpList_append_run rfl _ _ _ rfl _ _ rfl rfl HRUN.out ?_)
            go_ret
            exact res_owns HW.out HOW.out (by simp [decS]; exact HE.out.2.2.2.1) (by omega) (by
              intro s hs
              rcases List.mem_append.1 hs with h | h
              · exact decS_small HD3.out.fits s h
              · simp at h; rw [h]; exact HSM.out) HB6.out
          · have h6 := data_6 HV.out
            obtain rfl : n = 5 := by have := HE.out.2.2.2.1; omega
            obtain ⟨gn, cp, rfl, hge, hrow⟩ := row_own HN.out (by omega) (by omega)
            have HROW := Lib.hid (hrow.below (Below.drew (Below.refl wr.heap.size wr)) (Nat.le_refl _))
            have HSZA := Lib.hid (show 8 * sizeN d.host + 2 ≤ 70368744177664 by have := sound_size h6.1; omega)
            have HSZM := Lib.hid (show 8 * sizeN d.mail + 2 ≤ 70368744177664 by have := sound_size h6.2.1; omega)
            have HC1 := Lib.hid (show wr.drew.cell? ⟨w.heap.size, 1, none⟩ = some (.slice ha hl hc) from HA3.out.cell 1)
            have HC2 := Lib.hid (show wr.drew.cell? ⟨w.heap.size, 2, none⟩ = some (.slice ma ml mc) from HA3.out.cell 2)
            have hw := HU.out.trans wordsL_6
            have hsa := ftext_small h6.1
            have hsm := ftext_small h6.2.1
            obtain ⟨A, hAe⟩ : ∃ A, A = strOf (ftextP d.host) := ⟨_, rfl⟩
            obtain ⟨M, hMe⟩ : ∃ M, M = strOf (ftextP d.mail) := ⟨_, rfl⟩
            rw [← hAe] at hw hsa
            rw [← hMe] at hw hsm
            have HEA := Lib.hid hAe
            have HEM := Lib.hid hMe
            have HW := Lib.hid hw
            have HALL := Lib.hid (show ∀ s ∈ [A, M] ++ decS d.nums, s.size ≤ 9223372036854775807 by
              intro s hs
              rcases List.mem_append.1 hs with h | h
              · simp at h
                rcases h with rfl | rfl
                · exact hsa
                · exact hsm
              · exact decS_small HD3.out.fits s h)
            clear h6 hge hrow hw hsa hsm hAe hMe
            go_wp2_with fail
            refine wp_soup0 (m := 83) (by kernel_rfl) (fun x y => Below x.heap.size x y) (fun i v x => match i with | 0 => v = .pointer (some ⟨w.heap.size, 1, none⟩) | 1 => v = .slice ha hl hc | 2 => v = .string A | 3 => v = .pointer (some ⟨w.heap.size, 2, none⟩) | 4 => v = .slice ma ml mc | 5 => v = .string M | 6 => ∃ g, v = .slice (some ⟨g, 0, none⟩) 2 2 ∧ Row x (some ⟨g, 0, none⟩) 2 2 [.string A, .string M] | 7 => v = .slice (some ⟨gn, 0, none⟩) 5 cp | 8 => ∃ a c, v = .slice (some a) 7 c ∧ Row x (some a) 7 c ([.string A, .string M] ++ (decS d.nums).map .string) | 9 => ∃ a c, v = .slice (some a) 7 c ∧ Row x (some a) 7 c ([.string A, .string M] ++ (decS d.nums).map .string) | _ => True) rfl (by kernel_rfl) (fun _ _ _ h1 h2 => below_on h1 h2 (Nat.le_refl _)) (Below.refl _ _) (by intro i v x y h hxy; match i, h with | 0, h => exact h | 1, h => exact h | 2, h => exact h | 3, h => exact h | 4, h => exact h | 5, h => exact h | 6, ⟨g, e, hr⟩ => exact ⟨g, e, hr.below hxy (Nat.le_refl _)⟩ | 7, h => exact h | 8, ⟨a, c, e, hr⟩ => exact ⟨a, c, e, hr.below hxy (Nat.le_refl _)⟩ | 9, ⟨a, c, e, hr⟩ => exact ⟨a, c, e, hr.below hxy (Nat.le_refl _)⟩ | _ + 10, _ => trivial) (dst_but 10 (by kernel_rfl) (fun _ _ h => h)) ?_ ?_
            rotate_left
            · intro a W hR hS hdep
              obtain ⟨a9, c9, q, r9⟩ := hdep 9 (by decide +kernel)
              have e4 : a.tmps.getD 4 undef = .slice (some a9) 7 c9 := q
              clear q
              obtain ⟨T, df⟩ := a
              obtain rfl : df = [] := hS.defers
              have hT : T = #[T.getD 0 undef, T.getD 1 undef, T.getD 2 undef, T.getD 3 undef, T.getD 4 undef, T.getD 5 undef, T.getD 6 undef, T.getD 7 undef, T.getD 8 undef, T.getD 9 undef, T.getD 10 undef, T.getD 11 undef, T.getD 12 undef, T.getD 13 undef, T.getD 14 undef, T.getD 15 undef, T.getD 16 undef, T.getD 17 undef, T.getD 18 undef, T.getD 19 undef, T.getD 20 undef, T.getD 21 undef, T.getD 22 undef, T.getD 23 undef, T.getD 24 undef, T.getD 25 undef, T.getD 26 undef, T.getD 27 undef, T.getD 28 undef, T.getD 29 undef, T.getD 30 undef, T.getD 31 undef, T.getD 32 undef, T.getD 33 undef, T.getD 34 undef, T.getD 35 undef, T.getD 36 undef, T.getD 37 undef, T.getD 38 undef, T.getD 39 undef, T.getD 40 undef, T.getD 41 undef, T.getD 42 undef, T.getD 43 undef, T.getD 44 undef, T.getD 45 undef, T.getD 46 undef, T.getD 47 undef, T.getD 48 undef, T.getD 49 undef, T.getD 50 undef, T.getD 51 undef, T.getD 52 undef, T.getD 53 undef, T.getD 54 undef, T.getD 55 undef, T.getD 56 undef, T.getD 57 undef, T.getD 58 undef, T.getD 59 undef, T.getD 60 undef, T.getD 61 undef, T.getD 62 undef, T.getD 63 undef, T.getD 64 undef, T.getD 65 undef, T.getD 66 undef, T.getD 67 undef, T.getD 68 undef, T.getD 69 undef, T.getD 70 undef, T.getD 71 undef, T.getD 72 undef, T.getD 73 undef, T.getD 74 undef, T.getD 75 undef, T.getD 76 undef, T.getD 77 undef, T.getD 78 undef, T.getD 79 undef, T.getD 80 undef, T.getD 81 undef, T.getD 82 undef] := arr_eta T 83 hS.size
              have k4 : T.getD 4 undef = .slice (some a9) 7 c9 := e4
              clear hS hdep
              rw [hT]
              rw [k4]
              clear k4 e4
              clear hT
              generalize T.getD 0 undef = u0
              generalize T.getD 1 undef = u1
              generalize T.getD 2 undef = u2
              generalize T.getD 3 undef = u3
              generalize T.getD 5 undef = u5
              generalize T.getD 6 undef = u6
              generalize T.getD 7 undef = u7
              generalize T.getD 8 undef = u8
              generalize T.getD 9 undef = u9
              generalize T.getD 10 undef = u10
              generalize T.getD 11 undef = u11
              generalize T.getD 12 undef = u12
              generalize T.getD 13 undef = u13
              generalize T.getD 14 undef = u14
              generalize T.getD 15 undef = u15
              generalize T.getD 16 undef = u16
              generalize T.getD 17 undef = u17
              generalize T.getD 18 undef = u18
              generalize T.getD 19 undef = u19
              generalize T.getD 20 undef = u20
              generalize T.getD 21 undef = u21
              generalize T.getD 22 undef = u22
              generalize T.getD 23 undef = u23
              generalize T.getD 24 undef = u24
              generalize T.getD 25 undef = u25
              generalize T.getD 26 undef = u26
              generalize T.getD 27 undef = u27
              generalize T.getD 28 undef = u28
              generalize T.getD 29 undef = u29
              generalize T.getD 30 undef = u30
              generalize T.getD 31 undef = u31
              generalize T.getD 32 undef = u32
              generalize T.getD 33 undef = u33
              generalize T.getD 34 undef = u34
              generalize T.getD 35 undef = u35
              generalize T.getD 36 undef = u36
              generalize T.getD 37 undef = u37
              generalize T.getD 38 undef = u38
              generalize T.getD 39 undef = u39
              generalize T.getD 40 undef = u40
              generalize T.getD 41 undef = u41
              generalize T.getD 42 undef = u42
              generalize T.getD 43 undef = u43
              generalize T.getD 44 undef = u44
              generalize T.getD 45 undef = u45
              generalize T.getD 46 undef = u46
              generalize T.getD 47 undef = u47
              generalize T.getD 48 undef = u48
              generalize T.getD 49 undef = u49
              generalize T.getD 50 undef = u50
              generalize T.getD 51 undef = u51
              generalize T.getD 52 undef = u52
              generalize T.getD 53 undef = u53
              generalize T.getD 54 undef = u54
              generalize T.getD 55 undef = u55
              generalize T.getD 56 undef = u56
              generalize T.getD 57 undef = u57
              generalize T.getD 58 undef = u58
              generalize T.getD 59 undef = u59
              generalize T.getD 60 undef = u60
              generalize T.getD 61 undef = u61
              generalize T.getD 62 undef = u62
              generalize T.getD 63 undef = u63
              generalize T.getD 64 undef = u64
              generalize T.getD 65 undef = u65
              generalize T.getD 66 undef = u66
              generalize T.getD 67 undef = u67
              generalize T.getD 68 undef = u68
              generalize T.getD 69 undef = u69
              generalize T.getD 70 undef = u70
              generalize T.getD 71 undef = u71
              generalize T.getD 72 undef = u72
              generalize T.getD 73 undef = u73
              generalize T.getD 74 undef = u74
              generalize T.getD 75 undef = u75
              generalize T.getD 76 undef = u76
              generalize T.getD 77 undef = u77
              generalize T.getD 78 undef = u78
              generalize T.getD 79 undef = u79
              generalize T.getD 80 undef = u80
              generalize T.getD 81 undef = u81
              generalize T.getD 82 undef = u82
              go_wp2_with fail
              go_ret
              exact res_row HW.out r9 HALL.out (below_on HBF.out (below_on (B := wr.heap.size) (Below.drew (Below.refl _ _)) hR (Nat.le_refl _)) (Nat.le_refl _))
            refine soup_cons rfl rfl (fun a W hR hS hdep K hK => ?_) ?_
            · have e3 : a.tmps[3]?.getD undef = .pointer (some ⟨w.heap.size, 0, none⟩) := slot_of (hS.keep 3 (by kernel_rfl))
              go_simp
              exact hK _ _ (Below.refl _ _) rfl
            refine soup_cons rfl rfl (fun a W hR hS hdep K hK => ?_) ?_
            · have e68 : a.tmps[68]?.getD undef = .pointer (some ⟨w.heap.size, 1, none⟩) := slot_of (hdep 0 (by decide +kernel))
              have q1 := cell_keep hR HC1.out
              go_simp
              exact hK _ _ (Below.refl _ _) rfl
            refine soup_cons rfl rfl (fun a W hR hS hdep K hK => ?_) ?_
            · have e69 : a.tmps[69]?.getD undef = .slice ha hl hc := slot_of (hdep 1 (by decide +kernel))
              have hbW := below_on (B := wr.heap.size) (Below.drew (Below.refl _ _)) hR (Nat.le_refl _)
              go_simp
              refine (ftext_any W ha hl hc d.host (HD3.out.host.below hbW (Nat.le_refl _)) HSZA.out (tab_on HTW.out hbW)).mono ?_
              rintro e W' ⟨rfl, hb⟩
              exact hK _ _ hb (congrArg Value.string HEA.out.symm)
            refine soup_cons rfl rfl (fun a W hR hS hdep K hK => ?_) ?_
            · have e3 : a.tmps[3]?.getD undef = .pointer (some ⟨w.heap.size, 0, none⟩) := slot_of (hS.keep 3 (by kernel_rfl))
              go_simp
              exact hK _ _ (Below.refl _ _) rfl
            refine soup_cons rfl rfl (fun a W hR hS hdep K hK => ?_) ?_
            · have e71 : a.tmps[71]?.getD undef = .pointer (some ⟨w.heap.size, 2, none⟩) := slot_of (hdep 3 (by decide +kernel))
              have q1 := cell_keep hR HC2.out
              go_simp
              exact hK _ _ (Below.refl _ _) rfl
            refine soup_cons rfl rfl (fun a W hR hS hdep K hK => ?_) ?_
            · have e72 : a.tmps[72]?.getD undef = .slice ma ml mc := slot_of (hdep 4 (by decide +kernel))
              have hbW := below_on (B := wr.heap.size) (Below.drew (Below.refl _ _)) hR (Nat.le_refl _)
              go_simp
              refine (ftext_any W ma ml mc d.mail (HD3.out.mail.below hbW (Nat.le_refl _)) HSZM.out (tab_on HTW.out hbW)).mono ?_
              rintro e W' ⟨rfl, hb⟩
              exact hK _ _ hb (congrArg Value.string HEM.out.symm)
            refine soup_cons rfl rfl (fun a W hR hS hdep K hK => ?_) ?_
            · have e70 : a.tmps[70]?.getD undef = .string A := slot_of (hdep 2 (by decide +kernel))
              have e73 : a.tmps[73]?.getD undef = .string M := slot_of (hdep 5 (by decide +kernel))
              go_simp
              exact hK _ _ ((Below.refl _ _).alloc (Nat.le_refl _) _) ⟨_, rfl, row_lit W [.string A, .string M] 9 (by simp)⟩
            refine soup_cons rfl rfl (fun a W hR hS hdep K hK => ?_) ?_
            · have e5 : a.tmps[5]?.getD undef = .slice (some ⟨gn, 0, none⟩) 5 cp := slot_of (hS.keep 5 (by kernel_rfl))
              go_simp
              exact hK _ _ (Below.refl _ _) rfl
            refine soup_cons rfl rfl (fun a W hR hS hdep K hK => ?_) ?_
            · obtain ⟨g, q, r6⟩ := hdep 6 (by decide +kernel)
              have e74 : a.tmps[74]?.getD undef = .slice (some ⟨g, 0, none⟩) 2 2 := slot_of (q)
              clear q
              have e75 : a.tmps[75]?.getD undef = .slice (some ⟨gn, 0, none⟩) 5 cp := slot_of (hdep 7 (by decide +kernel))
              obtain ⟨i0, hi, hz0, hz1, hz2⟩ := info_parts strInfo
              obtain ⟨a', c', w', hrun, hrow', hb⟩ := append_full (P := Tryz.prog) W 30 30 9 i0 _ 16 Tryz.underlying30 hi hz0 hz1 hz2 g 2 _ r6 (some ⟨gn, 0, none⟩) 5 cp _ (HROW.out.below hR (Nat.le_refl _)) (by decide) (by decide) (by decide)
              rw [if_pos (by rfl)]
              refine wp_append_run _ _ _ rfl _ _ (Array.getD_eq_getD_getElem?.trans e74) (Array.getD_eq_getD_getElem?.trans e75) hrun ?_
              exact hK _ _ hb ⟨_, _, rfl, hrow'⟩
            refine soup_cons rfl rfl (fun a W hR hS hdep K hK => ?_) ?_
            · obtain ⟨a8, c8, q, r8⟩ := hdep 8 (by decide +kernel)
              have e76 : a.tmps[76]?.getD undef = .slice (some a8) 7 c8 := slot_of (q)
              clear q
              go_simp
              exact hK _ _ (Below.refl _ _) ⟨_, _, rfl, r8⟩
            exact fun j h1 h2 => absurd h1 (by simp only [List.size_toArray, List.length_cons, List.length_nil]; omega)
          · have hsn := sound_size (data_33 HV.out)
            have c1 := HA3.out.cell 1
            simp at c1
            have HCALL := Lib.hid (ftext_any wr ha hl hc d.host HD3.out.host (by omega) HTW.out)
            have HW := Lib.hid (HU.out.trans (wordsL_host (by omega)))
            have HSM := Lib.hid (ftext_small (data_33 HV.out))
            clear hsn
            go_wp2_with fail
            refine HCALL.out.mono ?_
            rintro e w4 ⟨rfl, hb4⟩
            obtain ⟨i0, hi, hz0, hz1, hz2⟩ := info_parts strInfo
            have hb5 := below_on HBW.out hb4 (Nat.le_refl _)
            obtain ⟨v', w5, hrun, hown5, _, hb6⟩ := append_one (P := Tryz.prog) w4 w2 w2.heap.size 30 30 9 i0 _ 16 Tryz.underlying30 hi hz0 hz1 hz2 rfl _ _ _ (owns_keep HN.out hb4) (.string ⟨(ftextP d.host).toArray⟩) rfl (by omega) (by omega) hb5 hb5.size
            have HRUN := Lib.hid hrun
            have HOW := Lib.hid (show w5.ownsRow w2.heap.size 9 1 v' (n + 1) ((decS d.nums ++ [strOf (ftextP d.host)]).map .string) by
              rw [List.map_append]
              exact hown5)
            have HB6 := Lib.hid (below_on HB2.out hb6 (Nat.le_refl _))
            clear hrun hown5 hb6 hi hz0 hz1 hz2 hb4 hb5
            go_wp2_with (at_builtin; refine wpList_append_run rfl _ _ _ rfl _ _ rfl rfl HRUN.out ?_)
            go_ret
            exact res_owns HW.out HOW.out (by simp [decS]; exact HE.out.2.2.2.1) (by omega) (by
              intro s hs
              rcases List.mem_append.1 hs with h | h
              · exact decS_small HD3.out.fits s h
              · simp at h; rw [h]; exact HSM.out) HB6.out
          · have hsm := Lib.hid (quoS_small HLT.out.text)
            go_wp2_with fail
            go_ret
            exact res_owns (HU.out.trans wordsL_16) HX.out (by simp [quoS]; exact HE.out.2.2.2.2) (by omega) hsm.out HBF.out
          · have c0 := HA3.out.cell 0
            simp at c0
            have HCALL := Lib.hid (unknown_any wr ba bl bc d.bytes HD3.out.bytes (by have := HLT.out.bytes; have := HE.out.1; omega) HTW.out)
            have HW := Lib.hid (HU.out.trans (congrArg _ (wordsL_other hk)))
            obtain ⟨a1, a2, a3, a4, a5, a6, a7, a8, a9⟩ := hk
            have g1 : (k == 1) = false := by rw [beq_eq_false_iff_ne]; exact a1
            have g2 : (k == 28) = false := by rw [beq_eq_false_iff_ne]; exact a2
            have g3 : (k == 2) = false := by rw [beq_eq_false_iff_ne]; exact a3
            have g4 : (k == 5) = false := by rw [beq_eq_false_iff_ne]; exact a4
            have g5 : (k == 12) = false := by rw [beq_eq_false_iff_ne]; exact a5
            have g6 : (k == 15) = false := by rw [beq_eq_false_iff_ne]; exact a6
            have g7 : (k == 6) = false := by rw [beq_eq_false_iff_ne]; exact a7
            have g8 : (k == 33) = false := by rw [beq_eq_false_iff_ne]; exact a8
            have g9 : (k == 16) = false := by rw [beq_eq_false_iff_ne]; exact a9
            clear a1 a2 a3 a4 a5 a6 a7 a8 a9
            go_wp2_with fail
            refine HCALL.out.mono ?_
            rintro e w4 ⟨ao, cap, rfl, hst, hb4⟩
            have HST := Lib.hid hst
            have HB4 := Lib.hid (below_on HBF.out hb4 (Nat.le_refl _))
            clear hb4 hst
            go_wp2_with fail
            go_ret
            exact ⟨ao, cap, by rw [HW.out]; simp only [List.length_map]; rfl, by rw [HW.out]; exact HST.out, HB4.out⟩
end
section
open Go.ChangeShapes Go.WideShapes Go.ChangeAt Go.RowKit
theorem join_snoc (c : UInt8) (v : List UInt8) : ∀ ws : List (List UInt8), ws ≠ [] → joinP c (ws ++ [v]) = joinP c ws ++ c :: v
  | [], h => absurd rfl h
  | [w], _ => by simp [joinP]
  | w :: x :: ws, _ => by
    have ih := join_snoc c v (x :: ws) (by simp)
    simp only [List.cons_append, joinP] at ih ⊢
    rw [ih]
    simp
theorem fold_set (T : Array Value) : ∀ (ds : List Nat) (acc : Array Value) (i : Nat), (ds.foldl (fun acc d => acc.setIfInBounds d (T.getD d undef)) acc)[i]? = if i ∈ ds ∧ i < acc.size then some (T.getD i undef) else acc[i]?
  | [], acc, i => by simp
  | d :: ds, acc, i => by
    rw [List.foldl_cons, fold_set T ds]
    simp only [Array.size_setIfInBounds, List.mem_cons]
    by_cases h1 : i ∈ ds
    · simp only [h1, or_true, true_and]
      split
      · rfl
      · rename_i h2
        rw [Array.getElem?_eq_none (by simp; omega), Array.getElem?_eq_none (by omega)]
    · simp only [h1, or_false, false_and, if_false]
      by_cases h3 : i = d
      · subst h3
        simp only [true_and]
        rw [Array.getElem?_setIfInBounds]
        simp only [if_true]
        split
        · rfl
        · rw [Array.getElem?_eq_none (by omega)]
      · simp only [h3, false_and, if_false]
        rw [Array.getElem?_setIfInBounds, if_neg (fun h => h3 h.symm)]
def coverB (ks : Array Oper) (m : Nat) (ds : List Nat) : Bool := (List.range m).all fun t => ds.contains t || noDst ks t
/-- the frame is the one ahead, but for the slots named -/
theorem tmps_same {ks : Array Oper} {a0 a : Act} (h : SameBut ks a0 a) (m : Nat) (hm : a0.tmps.size = m) (ds : List Nat) (hds : coverB ks m ds = true) : a.tmps = ds.foldl (fun acc d => acc.setIfInBounds d (a.tmps.getD d undef)) a0.tmps := by
  apply Array.ext_getElem?
  intro i
  rw [fold_set]
  by_cases hi : i < a.tmps.size
  · have hi0 : i < a0.tmps.size := by rw [← h.size]; exact hi
    have h2 : a.tmps[i]? = some (a.tmps.getD i undef) := by rw [Array.getD_eq_getD_getElem?, Array.getElem?_eq_getElem hi]; rfl
    by_cases hn : i ∈ ds ∧ i < a0.tmps.size
    · rw [if_pos hn]; exact h2
    · rw [if_neg hn]
      have h3 : i ∉ ds := fun h => hn ⟨h, hi0⟩
      have h4 := List.all_eq_true.1 hds i (List.mem_range.2 (by omega))
      simp only [Bool.or_eq_true, List.contains_iff_mem, h3, false_or] at h4
      have h5 := h.keep i h4
      rw [h2, h5, Array.getD_eq_getD_getElem?, Array.getElem?_eq_getElem hi0]
      rfl
  · have hs := h.size
    rw [Array.getElem?_eq_none (by omega), if_neg (by omega), Array.getElem?_eq_none (by omega)]
set_option maxHeartbeats 8000000 in
set_option maxRecDepth 100000 in
theorem rwords_any (w : World) (k : Int) (h : DataH) (d : DataP) (hd : IsData w h d) (hl : LightData d) :
    Calls Tryz.prog 22 #[.int .i64 k, .agg (dataC h)] w fun e w' => StrsRes w (wordsP k d) e w' := by
  have hlen := hd.len
  have hwa : Below w.heap.size w (w.alloc (.cells (dataC h) 33)) := (Below.refl _ _).alloc (Nat.le_refl _) _
  have hA : Blk (w.alloc (.cells (dataC h) 33)) w.heap.size (dataC h) 33 := heap_alloc_new w _
  have HSD := Lib.hid (rdata_any _ k h d (hd.on hwa))
  have HWA := Lib.hid hwa
  have HA := Lib.hid hA
  have HD := Lib.hid hd
  have HLT := Lib.hid hl
  clear hl
  obtain ⟨ba, bl, bc, ha, hl, hc, ma, ml, mc, na, nl, nc, ta, tl, tc⟩ := h
  obtain ⟨e0, e1, e2, e3, e4⟩ := hlen
  simp only [dataC] at HSD HWA HA e0 e1 e2 e3 e4
  have HE := Lib.hid (And.intro e0 (And.intro e1 (And.intro e2 (And.intro e3 e4))))
  have hnle := hd.nums.hle
  have hncap := hd.nums.hcap
  have htle := hd.texts.row.hle
  have htcap := hd.texts.row.hcap
  have hble := hd.bytes.hle
  have hbcap := hd.bytes.hcap
  have hnl : nl ≤ 70 := by have := HLT.out.nums; omega
  have htl : tl ≤ 70 := by have := HLT.out.texts; omega
  simp only at hnle hncap htle htcap hble hbcap
  obtain ⟨us, hus⟩ : ∃ us, us = wordsP k d := ⟨_, rfl⟩
  obtain ⟨V, hV⟩ : ∃ V, V = dataB k d := ⟨_, rfl⟩
  rw [← hus]
  rw [← hV] at HSD
  have HUS := Lib.hid hus
  have HVV := Lib.hid hV
  clear hwa hA hd e0 e1 e2 e3 e4 hus hV
  go_enter Tryz.func22, Tryz.ntmps22
  simp only [dataC]
  go_wp2_with fail
  refine HSD.out.mono ?_
  rintro e w2 ⟨rfl, hb2⟩
  have HA2 := Lib.hid (HA.out.on hb2)
  have HB2 := Lib.hid (below_on HWA.out hb2 (Nat.le_refl _))
  have HD2 := Lib.hid (HD.out.on HB2.out)
  clear HSD HA HWA hb2
  cases V
  · have hu : us = [] := HUS.out.trans (words_none HVV.out.symm)
    subst hu
    go_wp2_with fail
    go_ret
    exact ⟨none, 0, rfl, ⟨Row.empty (by omega) (fun _ => rfl), by simp⟩, HB2.out⟩
  have HV := Lib.hid HVV.out.symm
  have HU := Lib.hid (HUS.out.trans (words_some HVV.out.symm))
  have c0 := HA2.out.cell 0
  simp at c0
  clear HVV HUS HD
  rcases kind_cases k with hk | rfl | rfl | hk | rfl | rfl | rfl | rfl | ⟨⟨k1, k2⟩, hk⟩
  · exfalso
    have := HV.out
    rw [dataB_out hk] at this
    cases this
  · have h4 := data_1 HV.out
    obtain rfl : bl = 4 := by have := HE.out.1; omega
    obtain ⟨b, off, hao⟩ := HD2.out.bytes.addr (k := 0) (by show 0 < 4; omega)
    simp only at hao
    subst hao
    obtain ⟨l, hl⟩ : ∃ l, l = d.bytes := ⟨_, rfl⟩
    rw [← hl] at h4
    have HBY := HD2.out.bytes
    rw [← hl] at HBY
    match l, h4, HBY with
    | [c0, c1, c2, c3], _, HBY =>
      have g0 := HBY.at (i := 0) (by show 0 < 4; omega)
      have g1 := HBY.at (i := 1) (by show 1 < 4; omega)
      have g2 := HBY.at (i := 2) (by show 2 < 4; omega)
      have g3 := HBY.at (i := 3) (by show 3 < 4; omega)
      simp at g0 g1 g2 g3
      obtain ⟨x0, hx0⟩ : ∃ x, x = c0.toNat := ⟨_, rfl⟩
      have hz0 : x0 < 256 := by have := c0.toNat_lt; omega
      rw [← hx0] at g0
      have HC0 := Lib.hid (show w2.drew.cell? ⟨b, off, none⟩ = some (.int .u8 (x0 : Int)) from g0)
      obtain ⟨x1, hx1⟩ : ∃ x, x = c1.toNat := ⟨_, rfl⟩
      have hz1 : x1 < 256 := by have := c1.toNat_lt; omega
      rw [← hx1] at g1
      have HC1 := Lib.hid (show w2.drew.cell? ⟨b, off + 1, none⟩ = some (.int .u8 (x1 : Int)) from g1)
      obtain ⟨x2, hx2⟩ : ∃ x, x = c2.toNat := ⟨_, rfl⟩
      have hz2 : x2 < 256 := by have := c2.toNat_lt; omega
      rw [← hx2] at g2
      have HC2 := Lib.hid (show w2.drew.cell? ⟨b, off + 2, none⟩ = some (.int .u8 (x2 : Int)) from g2)
      obtain ⟨x3, hx3⟩ : ∃ x, x = c3.toNat := ⟨_, rfl⟩
      have hz3 : x3 < 256 := by have := c3.toNat_lt; omega
      rw [← hx3] at g3
      have HC3 := Lib.hid (show w2.drew.cell? ⟨b, off + 3, none⟩ = some (.int .u8 (x3 : Int)) from g3)
      have hi0 : Lib.itoa (x0 : Int) = Lib.decDigits x0 := by simp [Lib.itoa]
      have hw0 : IntKind.i64.wrap (x0 : Int) = (x0 : Int) := IntWalk.i64_in _ (by omega)
      have hs0 := dec_len20 x0 (by omega)
      obtain ⟨D0, hD0⟩ : ∃ D, D = strOf (Lib.decDigits x0) := ⟨_, rfl⟩
      have hds0 : D0.size ≤ 20 := by rw [hD0]; show (Lib.decDigits x0).toArray.size ≤ 20; simpa using hs0
      have HD0 := Lib.hid (show (⟨(Lib.itoa (x0 : Int)).toArray⟩ : ByteArray) = D0 by rw [hi0, hD0]; rfl)
      have hdl0 : D0.data.toList = Lib.decDigits x0 := by rw [hD0]; rfl
      have hi1 : Lib.itoa (x1 : Int) = Lib.decDigits x1 := by simp [Lib.itoa]
      have hw1 : IntKind.i64.wrap (x1 : Int) = (x1 : Int) := IntWalk.i64_in _ (by omega)
      have hs1 := dec_len20 x1 (by omega)
      obtain ⟨D1, hD1⟩ : ∃ D, D = strOf (Lib.decDigits x1) := ⟨_, rfl⟩
      have hds1 : D1.size ≤ 20 := by rw [hD1]; show (Lib.decDigits x1).toArray.size ≤ 20; simpa using hs1
      have HD1 := Lib.hid (show (⟨(Lib.itoa (x1 : Int)).toArray⟩ : ByteArray) = D1 by rw [hi1, hD1]; rfl)
      have hdl1 : D1.data.toList = Lib.decDigits x1 := by rw [hD1]; rfl
      have hi2 : Lib.itoa (x2 : Int) = Lib.decDigits x2 := by simp [Lib.itoa]
      have hw2 : IntKind.i64.wrap (x2 : Int) = (x2 : Int) := IntWalk.i64_in _ (by omega)
      have hs2 := dec_len20 x2 (by omega)
      obtain ⟨D2, hD2⟩ : ∃ D, D = strOf (Lib.decDigits x2) := ⟨_, rfl⟩
      have hds2 : D2.size ≤ 20 := by rw [hD2]; show (Lib.decDigits x2).toArray.size ≤ 20; simpa using hs2
      have HD2 := Lib.hid (show (⟨(Lib.itoa (x2 : Int)).toArray⟩ : ByteArray) = D2 by rw [hi2, hD2]; rfl)
      have hdl2 : D2.data.toList = Lib.decDigits x2 := by rw [hD2]; rfl
      have hi3 : Lib.itoa (x3 : Int) = Lib.decDigits x3 := by simp [Lib.itoa]
      have hw3 : IntKind.i64.wrap (x3 : Int) = (x3 : Int) := IntWalk.i64_in _ (by omega)
      have hs3 := dec_len20 x3 (by omega)
      obtain ⟨D3, hD3⟩ : ∃ D, D = strOf (Lib.decDigits x3) := ⟨_, rfl⟩
      have hds3 : D3.size ≤ 20 := by rw [hD3]; show (Lib.decDigits x3).toArray.size ≤ 20; simpa using hs3
      have HD3 := Lib.hid (show (⟨(Lib.itoa (x3 : Int)).toArray⟩ : ByteArray) = D3 by rw [hi3, hD3]; rfl)
      have hdl3 : D3.data.toList = Lib.decDigits x3 := by rw [hD3]; rfl
      obtain ⟨E1, q1⟩ : ∃ E, D0 ++ ⟨#[46]⟩ = E := ⟨_, rfl⟩
      obtain ⟨E2, q2⟩ : ∃ E, E1 ++ D1 = E := ⟨_, rfl⟩
      obtain ⟨E3, q3⟩ : ∃ E, E2 ++ ⟨#[46]⟩ = E := ⟨_, rfl⟩
      obtain ⟨E4, q4⟩ : ∃ E, E3 ++ D2 = E := ⟨_, rfl⟩
      obtain ⟨E5, q5⟩ : ∃ E, E4 ++ ⟨#[46]⟩ = E := ⟨_, rfl⟩
      obtain ⟨E6, q6⟩ : ∃ E, E5 ++ D3 = E := ⟨_, rfl⟩
      have l1 := cat_list hdl0 (show (⟨#[46]⟩ : ByteArray).data.toList = [46] from rfl)
      rw [q1] at l1
      have l2 := cat_list l1 hdl1
      rw [q2] at l2
      have l3 := cat_list l2 (show (⟨#[46]⟩ : ByteArray).data.toList = [46] from rfl)
      rw [q3] at l3
      have l4 := cat_list l3 hdl2
      rw [q4] at l4
      have l5 := cat_list l4 (show (⟨#[46]⟩ : ByteArray).data.toList = [46] from rfl)
      rw [q5] at l5
      have l6 := cat_list l5 hdl3
      rw [q6] at l6
      have z1 := size_of l1
      have z2 := size_of l2
      have z3 := size_of l3
      have z4 := size_of l4
      have z5 := size_of l5
      have z6 := size_of l6
      simp only [List.length_append, List.length_cons, List.length_nil] at z1 z2 z3 z4 z5 z6
      have HW := Lib.hid (show us = [E6] by
        have e : (wordsL 1 d).map strOf = [strOf (joinP 46 (d.bytes.map fun c => Lib.decDigits c.toNat))] := rfl
        rw [HU.out, e, ← hl]
        congr 1
        refine (bytes_eq _ _ ?_).symm
        rw [l6]
        simp [joinP, hx0, hx1, hx2, hx3])
      have HSM := Lib.hid (show ∀ s ∈ [E6], s.size ≤ 9223372036854775807 by intro s hs; simp at hs; rw [hs]; omega)
      have hE1 : E1.size ≤ 100 := by omega
      have hE2 : E2.size ≤ 100 := by omega
      have hE3 : E3.size ≤ 100 := by omega
      have hE4 : E4.size ≤ 100 := by omega
      have hE5 : E5.size ≤ 100 := by omega
      clear g0 g1 g2 g3 hx0 hx1 hx2 hx3 hi0 hi1 hi2 hi3 hs0 hs1 hs2 hs3 hD0 hD1 hD2 hD3 hdl0 hdl1 hdl2 hdl3 l1 l2 l3 l4 l5 l6 z1 z2 z3 z4 z5 z6 hl HBY
      go_wp2_with fail
      refine wp_soup0 (m := 147) (by kernel_rfl) (fun x y => Below x.heap.size x y) (fun i v xw => match i with | 0 => v = .slice (some ⟨b, off, none⟩) 4 bc | 1 => v = .pointer (some ⟨b, off, none⟩) | 2 => v = .int .u8 (x0 : Int) | 3 => v = .int .i64 (x0 : Int) | 4 => v = .string D0 | 5 => v = .string E1 | 6 => v = .slice (some ⟨b, off, none⟩) 4 bc | 7 => v = .pointer (some ⟨b, off + 1, none⟩) | 8 => v = .int .u8 (x1 : Int) | 9 => v = .int .i64 (x1 : Int) | 10 => v = .string D1 | 11 => v = .string E2 | 12 => v = .string E3 | 13 => v = .slice (some ⟨b, off, none⟩) 4 bc | 14 => v = .pointer (some ⟨b, off + 2, none⟩) | 15 => v = .int .u8 (x2 : Int) | 16 => v = .int .i64 (x2 : Int) | 17 => v = .string D2 | 18 => v = .string E4 | 19 => v = .string E5 | 20 => v = .slice (some ⟨b, off, none⟩) 4 bc | 21 => v = .pointer (some ⟨b, off + 3, none⟩) | 22 => v = .int .u8 (x3 : Int) | 23 => v = .int .i64 (x3 : Int) | 24 => v = .string D3 | 25 => v = .string E6 | 26 => ∃ g, v = .slice (some ⟨g, 0, none⟩) 1 1 ∧ Row xw (some ⟨g, 0, none⟩) 1 1 [.string E6] | 27 => ∃ g, v = .slice (some ⟨g, 0, none⟩) 1 1 ∧ Row xw (some ⟨g, 0, none⟩) 1 1 [.string E6] | _ => True) rfl (by kernel_rfl) (fun _ _ _ h1 h2 => below_on h1 h2 (Nat.le_refl _)) (Below.refl _ _) (by intro i v x y h hxy; match i, h with | 0, h => exact h | 1, h => exact h | 2, h => exact h | 3, h => exact h | 4, h => exact h | 5, h => exact h | 6, h => exact h | 7, h => exact h | 8, h => exact h | 9, h => exact h | 10, h => exact h | 11, h => exact h | 12, h => exact h | 13, h => exact h | 14, h => exact h | 15, h => exact h | 16, h => exact h | 17, h => exact h | 18, h => exact h | 19, h => exact h | 20, h => exact h | 21, h => exact h | 22, h => exact h | 23, h => exact h | 24, h => exact h | 25, h => exact h | 26, ⟨g, e, hr⟩ => exact ⟨g, e, hr.below hxy (Nat.le_refl _)⟩ | 27, ⟨g, e, hr⟩ => exact ⟨g, e, hr.below hxy (Nat.le_refl _)⟩ | _ + 28, _ => trivial) (dst_but 28 (by kernel_rfl) (fun _ _ h => h)) ?_ ?_
      rotate_left
      · intro a W hR hS hdep
        obtain ⟨g, q, r⟩ := hdep 27 (by decide +kernel)
        have e4 : a.tmps.getD 4 undef = .slice (some ⟨g, 0, none⟩) 1 1 := q
        clear q
        obtain ⟨T, df⟩ := a
        obtain rfl : df = [] := hS.defers
        have hT : T = #[T.getD 0 undef, T.getD 1 undef, T.getD 2 undef, T.getD 3 undef, T.getD 4 undef, T.getD 5 undef, T.getD 6 undef, T.getD 7 undef, T.getD 8 undef, T.getD 9 undef, T.getD 10 undef, T.getD 11 undef, T.getD 12 undef, T.getD 13 undef, T.getD 14 undef, T.getD 15 undef, T.getD 16 undef, T.getD 17 undef, T.getD 18 undef, T.getD 19 undef, T.getD 20 undef, T.getD 21 undef, T.getD 22 undef, T.getD 23 undef, T.getD 24 undef, T.getD 25 undef, T.getD 26 undef, T.getD 27 undef, T.getD 28 undef, T.getD 29 undef, T.getD 30 undef, T.getD 31 undef, T.getD 32 undef, T.getD 33 undef, T.getD 34 undef, T.getD 35 undef, T.getD 36 undef, T.getD 37 undef, T.getD 38 undef, T.getD 39 undef, T.getD 40 undef, T.getD 41 undef, T.getD 42 undef, T.getD 43 undef, T.getD 44 undef, T.getD 45 undef, T.getD 46 undef, T.getD 47 undef, T.getD 48 undef, T.getD 49 undef, T.getD 50 undef, T.getD 51 undef, T.getD 52 undef, T.getD 53 undef, T.getD 54 undef, T.getD 55 undef, T.getD 56 undef, T.getD 57 undef, T.getD 58 undef, T.getD 59 undef, T.getD 60 undef, T.getD 61 undef, T.getD 62 undef, T.getD 63 undef, T.getD 64 undef, T.getD 65 undef, T.getD 66 undef, T.getD 67 undef, T.getD 68 undef, T.getD 69 undef, T.getD 70 undef, T.getD 71 undef, T.getD 72 undef, T.getD 73 undef, T.getD 74 undef, T.getD 75 undef, T.getD 76 undef, T.getD 77 undef, T.getD 78 undef, T.getD 79 undef, T.getD 80 undef, T.getD 81 undef, T.getD 82 undef, T.getD 83 undef, T.getD 84 undef, T.getD 85 undef, T.getD 86 undef, T.getD 87 undef, T.getD 88 undef, T.getD 89 undef, T.getD 90 undef, T.getD 91 undef, T.getD 92 undef, T.getD 93 undef, T.getD 94 undef, T.getD 95 undef, T.getD 96 undef, T.getD 97 undef, T.getD 98 undef, T.getD 99 undef, T.getD 100 undef, T.getD 101 undef, T.getD 102 undef, T.getD 103 undef, T.getD 104 undef, T.getD 105 undef, T.getD 106 undef, T.getD 107 undef, T.getD 108 undef, T.getD 109 undef, T.getD 110 undef, T.getD 111 undef, T.getD 112 undef, T.getD 113 undef, T.getD 114 undef, T.getD 115 undef, T.getD 116 undef, T.getD 117 undef, T.getD 118 undef, T.getD 119 undef, T.getD 120 undef, T.getD 121 undef, T.getD 122 undef, T.getD 123 undef, T.getD 124 undef, T.getD 125 undef, T.getD 126 undef, T.getD 127 undef, T.getD 128 undef, T.getD 129 undef, T.getD 130 undef, T.getD 131 undef, T.getD 132 undef, T.getD 133 undef, T.getD 134 undef, T.getD 135 undef, T.getD 136 undef, T.getD 137 undef, T.getD 138 undef, T.getD 139 undef, T.getD 140 undef, T.getD 141 undef, T.getD 142 undef, T.getD 143 undef, T.getD 144 undef, T.getD 145 undef, T.getD 146 undef] := arr_eta T 147 hS.size
        have k4 : T.getD 4 undef = .slice (some ⟨g, 0, none⟩) 1 1 := e4
        clear hS hdep
        rw [hT]
        rw [k4]
        clear k4 e4
        clear hT
        generalize T.getD 0 undef = u0
        generalize T.getD 1 undef = u1
        generalize T.getD 2 undef = u2
        generalize T.getD 3 undef = u3
        generalize T.getD 5 undef = u5
        generalize T.getD 6 undef = u6
        generalize T.getD 7 undef = u7
        generalize T.getD 8 undef = u8
        generalize T.getD 9 undef = u9
        generalize T.getD 10 undef = u10
        generalize T.getD 11 undef = u11
        generalize T.getD 12 undef = u12
        generalize T.getD 13 undef = u13
        generalize T.getD 14 undef = u14
        generalize T.getD 15 undef = u15
        generalize T.getD 16 undef = u16
        generalize T.getD 17 undef = u17
        generalize T.getD 18 undef = u18
        generalize T.getD 19 undef = u19
        generalize T.getD 20 undef = u20
        generalize T.getD 21 undef = u21
        generalize T.getD 22 undef = u22
        generalize T.getD 23 undef = u23
        generalize T.getD 24 undef = u24
        generalize T.getD 25 undef = u25
        generalize T.getD 26 undef = u26
        generalize T.getD 27 undef = u27
        generalize T.getD 28 undef = u28
        generalize T.getD 29 undef = u29
        generalize T.getD 30 undef = u30
        generalize T.getD 31 undef = u31
        generalize T.getD 32 undef = u32
        generalize T.getD 33 undef = u33
        generalize T.getD 34 undef = u34
        generalize T.getD 35 undef = u35
        generalize T.getD 36 undef = u36
        generalize T.getD 37 undef = u37
        generalize T.getD 38 undef = u38
        generalize T.getD 39 undef = u39
        generalize T.getD 40 undef = u40
        generalize T.getD 41 undef = u41
        generalize T.getD 42 undef = u42
        generalize T.getD 43 undef = u43
        generalize T.getD 44 undef = u44
        generalize T.getD 45 undef = u45
        generalize T.getD 46 undef = u46
        generalize T.getD 47 undef = u47
        generalize T.getD 48 undef = u48
        generalize T.getD 49 undef = u49
        generalize T.getD 50 undef = u50
        generalize T.getD 51 undef = u51
        generalize T.getD 52 undef = u52
        generalize T.getD 53 undef = u53
        generalize T.getD 54 undef = u54
        generalize T.getD 55 undef = u55
        generalize T.getD 56 undef = u56
        generalize T.getD 57 undef = u57
        generalize T.getD 58 undef = u58
        generalize T.getD 59 undef = u59
        generalize T.getD 60 undef = u60
        generalize T.getD 61 undef = u61
        generalize T.getD 62 undef = u62
        generalize T.getD 63 undef = u63
        generalize T.getD 64 undef = u64
        generalize T.getD 65 undef = u65
        generalize T.getD 66 undef = u66
        generalize T.getD 67 undef = u67
        generalize T.getD 68 undef = u68
        generalize T.getD 69 undef = u69
        generalize T.getD 70 undef = u70
        generalize T.getD 71 undef = u71
        generalize T.getD 72 undef = u72
        generalize T.getD 73 undef = u73
        generalize T.getD 74 undef = u74
        generalize T.getD 75 undef = u75
        generalize T.getD 76 undef = u76
        generalize T.getD 77 undef = u77
        generalize T.getD 78 undef = u78
        generalize T.getD 79 undef = u79
        generalize T.getD 80 undef = u80
        generalize T.getD 81 undef = u81
        generalize T.getD 82 undef = u82
        generalize T.getD 83 undef = u83
        generalize T.getD 84 undef = u84
        generalize T.getD 85 undef = u85
        generalize T.getD 86 undef = u86
        generalize T.getD 87 undef = u87
        generalize T.getD 88 undef = u88
        generalize T.getD 89 undef = u89
        generalize T.getD 90 undef = u90
        generalize T.getD 91 undef = u91
        generalize T.getD 92 undef = u92
        generalize T.getD 93 undef = u93
        generalize T.getD 94 undef = u94
        generalize T.getD 95 undef = u95
        generalize T.getD 96 undef = u96
        generalize T.getD 97 undef = u97
        generalize T.getD 98 undef = u98
        generalize T.getD 99 undef = u99
        generalize T.getD 100 undef = u100
        generalize T.getD 101 undef = u101
        generalize T.getD 102 undef = u102
        generalize T.getD 103 undef = u103
        generalize T.getD 104 undef = u104
        generalize T.getD 105 undef = u105
        generalize T.getD 106 undef = u106
        generalize T.getD 107 undef = u107
        generalize T.getD 108 undef = u108
        generalize T.getD 109 undef = u109
        generalize T.getD 110 undef = u110
        generalize T.getD 111 undef = u111
        generalize T.getD 112 undef = u112
        generalize T.getD 113 undef = u113
        generalize T.getD 114 undef = u114
        generalize T.getD 115 undef = u115
        generalize T.getD 116 undef = u116
        generalize T.getD 117 undef = u117
        generalize T.getD 118 undef = u118
        generalize T.getD 119 undef = u119
        generalize T.getD 120 undef = u120
        generalize T.getD 121 undef = u121
        generalize T.getD 122 undef = u122
        generalize T.getD 123 undef = u123
        generalize T.getD 124 undef = u124
        generalize T.getD 125 undef = u125
        generalize T.getD 126 undef = u126
        generalize T.getD 127 undef = u127
        generalize T.getD 128 undef = u128
        generalize T.getD 129 undef = u129
        generalize T.getD 130 undef = u130
        generalize T.getD 131 undef = u131
        generalize T.getD 132 undef = u132
        generalize T.getD 133 undef = u133
        generalize T.getD 134 undef = u134
        generalize T.getD 135 undef = u135
        generalize T.getD 136 undef = u136
        generalize T.getD 137 undef = u137
        generalize T.getD 138 undef = u138
        generalize T.getD 139 undef = u139
        generalize T.getD 140 undef = u140
        generalize T.getD 141 undef = u141
        generalize T.getD 142 undef = u142
        generalize T.getD 143 undef = u143
        generalize T.getD 144 undef = u144
        generalize T.getD 145 undef = u145
        generalize T.getD 146 undef = u146
        go_wp2_with fail
        go_ret
        exact res_row HW.out r HSM.out (below_on HB2.out (below_on (B := w2.heap.size) (Below.drew (Below.refl _ _)) hR (Nat.le_refl _)) (Nat.le_refl _))
      refine soup_cons rfl rfl (fun a W hR hS hdep K hK => ?_) ?_
      · have e6 : a.tmps[6]?.getD undef = .slice (some ⟨b, off, none⟩) 4 bc := slot_of (hS.keep 6 (by kernel_rfl))
        go_simp
        exact hK _ _ (Below.refl _ _) rfl
      refine soup_cons rfl rfl (fun a W hR hS hdep K hK => ?_) ?_
      · have e33 : a.tmps[33]?.getD undef = .slice (some ⟨b, off, none⟩) 4 bc := slot_of (hdep 0 (by decide +kernel))
        go_simp
        exact hK _ _ (Below.refl _ _) rfl
      refine soup_cons rfl rfl (fun a W hR hS hdep K hK => ?_) ?_
      · have e34 : a.tmps[34]?.getD undef = .pointer (some ⟨b, off, none⟩) := slot_of (hdep 1 (by decide +kernel))
        have q1 := cell_keep hR HC0.out
        go_simp
        exact hK _ _ (Below.refl _ _) rfl
      refine soup_cons rfl rfl (fun a W hR hS hdep K hK => ?_) ?_
      · have e35 : a.tmps[35]?.getD undef = .int .u8 (x0 : Int) := slot_of (hdep 2 (by decide +kernel))
        go_simp
        exact hK _ _ (Below.refl _ _) rfl
      refine soup_cons rfl rfl (fun a W hR hS hdep K hK => ?_) ?_
      · have e36 : a.tmps[36]?.getD undef = .int .i64 (x0 : Int) := slot_of (hdep 3 (by decide +kernel))
        go_simp
        refine (dec_any W (x0 : Int) (by omega) (by omega)).mono ?_
        rintro e W' ⟨rfl, hb⟩
        exact hK _ _ hb (congrArg Value.string HD0.out)
      refine soup_cons rfl rfl (fun a W hR hS hdep K hK => ?_) ?_
      · have e37 : a.tmps[37]?.getD undef = .string D0 := slot_of (hdep 4 (by decide +kernel))
        go_simp
        rw [if_neg (by omega)]
        exact hK _ _ (Below.refl _ _) rfl
      refine soup_cons rfl rfl (fun a W hR hS hdep K hK => ?_) ?_
      · have e6 : a.tmps[6]?.getD undef = .slice (some ⟨b, off, none⟩) 4 bc := slot_of (hS.keep 6 (by kernel_rfl))
        go_simp
        exact hK _ _ (Below.refl _ _) rfl
      refine soup_cons rfl rfl (fun a W hR hS hdep K hK => ?_) ?_
      · have e39 : a.tmps[39]?.getD undef = .slice (some ⟨b, off, none⟩) 4 bc := slot_of (hdep 6 (by decide +kernel))
        go_simp
        exact hK _ _ (Below.refl _ _) rfl
      refine soup_cons rfl rfl (fun a W hR hS hdep K hK => ?_) ?_
      · have e40 : a.tmps[40]?.getD undef = .pointer (some ⟨b, off + 1, none⟩) := slot_of (hdep 7 (by decide +kernel))
        have q1 := cell_keep hR HC1.out
        go_simp
        exact hK _ _ (Below.refl _ _) rfl
      refine soup_cons rfl rfl (fun a W hR hS hdep K hK => ?_) ?_
      · have e41 : a.tmps[41]?.getD undef = .int .u8 (x1 : Int) := slot_of (hdep 8 (by decide +kernel))
        go_simp
        exact hK _ _ (Below.refl _ _) rfl
      refine soup_cons rfl rfl (fun a W hR hS hdep K hK => ?_) ?_
      · have e42 : a.tmps[42]?.getD undef = .int .i64 (x1 : Int) := slot_of (hdep 9 (by decide +kernel))
        go_simp
        refine (dec_any W (x1 : Int) (by omega) (by omega)).mono ?_
        rintro e W' ⟨rfl, hb⟩
        exact hK _ _ hb (congrArg Value.string HD1.out)
      refine soup_cons rfl rfl (fun a W hR hS hdep K hK => ?_) ?_
      · have e38 : a.tmps[38]?.getD undef = .string E1 := slot_of (hdep 5 (by decide +kernel))
        have e43 : a.tmps[43]?.getD undef = .string D1 := slot_of (hdep 10 (by decide +kernel))
        go_simp
        rw [if_neg (by omega)]
        exact hK _ _ (Below.refl _ _) rfl
      refine soup_cons rfl rfl (fun a W hR hS hdep K hK => ?_) ?_
      · have e44 : a.tmps[44]?.getD undef = .string E2 := slot_of (hdep 11 (by decide +kernel))
        go_simp
        rw [if_neg (by omega)]
        exact hK _ _ (Below.refl _ _) rfl
      refine soup_cons rfl rfl (fun a W hR hS hdep K hK => ?_) ?_
      · have e6 : a.tmps[6]?.getD undef = .slice (some ⟨b, off, none⟩) 4 bc := slot_of (hS.keep 6 (by kernel_rfl))
        go_simp
        exact hK _ _ (Below.refl _ _) rfl
      refine soup_cons rfl rfl (fun a W hR hS hdep K hK => ?_) ?_
      · have e46 : a.tmps[46]?.getD undef = .slice (some ⟨b, off, none⟩) 4 bc := slot_of (hdep 13 (by decide +kernel))
        go_simp
        exact hK _ _ (Below.refl _ _) rfl
      refine soup_cons rfl rfl (fun a W hR hS hdep K hK => ?_) ?_
      · have e47 : a.tmps[47]?.getD undef = .pointer (some ⟨b, off + 2, none⟩) := slot_of (hdep 14 (by decide +kernel))
        have q1 := cell_keep hR HC2.out
        go_simp
        exact hK _ _ (Below.refl _ _) rfl
      refine soup_cons rfl rfl (fun a W hR hS hdep K hK => ?_) ?_
      · have e48 : a.tmps[48]?.getD undef = .int .u8 (x2 : Int) := slot_of (hdep 15 (by decide +kernel))
        go_simp
        exact hK _ _ (Below.refl _ _) rfl
      refine soup_cons rfl rfl (fun a W hR hS hdep K hK => ?_) ?_
      · have e49 : a.tmps[49]?.getD undef = .int .i64 (x2 : Int) := slot_of (hdep 16 (by decide +kernel))
        go_simp
        refine (dec_any W (x2 : Int) (by omega) (by omega)).mono ?_
        rintro e W' ⟨rfl, hb⟩
        exact hK _ _ hb (congrArg Value.string HD2.out)
      refine soup_cons rfl rfl (fun a W hR hS hdep K hK => ?_) ?_
      · have e45 : a.tmps[45]?.getD undef = .string E3 := slot_of (hdep 12 (by decide +kernel))
        have e50 : a.tmps[50]?.getD undef = .string D2 := slot_of (hdep 17 (by decide +kernel))
        go_simp
        rw [if_neg (by omega)]
        exact hK _ _ (Below.refl _ _) rfl
      refine soup_cons rfl rfl (fun a W hR hS hdep K hK => ?_) ?_
      · have e51 : a.tmps[51]?.getD undef = .string E4 := slot_of (hdep 18 (by decide +kernel))
        go_simp
        rw [if_neg (by omega)]
        exact hK _ _ (Below.refl _ _) rfl
      refine soup_cons rfl rfl (fun a W hR hS hdep K hK => ?_) ?_
      · have e6 : a.tmps[6]?.getD undef = .slice (some ⟨b, off, none⟩) 4 bc := slot_of (hS.keep 6 (by kernel_rfl))
        go_simp
        exact hK _ _ (Below.refl _ _) rfl
      refine soup_cons rfl rfl (fun a W hR hS hdep K hK => ?_) ?_
      · have e53 : a.tmps[53]?.getD undef = .slice (some ⟨b, off, none⟩) 4 bc := slot_of (hdep 20 (by decide +kernel))
        go_simp
        exact hK _ _ (Below.refl _ _) rfl
      refine soup_cons rfl rfl (fun a W hR hS hdep K hK => ?_) ?_
      · have e54 : a.tmps[54]?.getD undef = .pointer (some ⟨b, off + 3, none⟩) := slot_of (hdep 21 (by decide +kernel))
        have q1 := cell_keep hR HC3.out
        go_simp
        exact hK _ _ (Below.refl _ _) rfl
      refine soup_cons rfl rfl (fun a W hR hS hdep K hK => ?_) ?_
      · have e55 : a.tmps[55]?.getD undef = .int .u8 (x3 : Int) := slot_of (hdep 22 (by decide +kernel))
        go_simp
        exact hK _ _ (Below.refl _ _) rfl
      refine soup_cons rfl rfl (fun a W hR hS hdep K hK => ?_) ?_
      · have e56 : a.tmps[56]?.getD undef = .int .i64 (x3 : Int) := slot_of (hdep 23 (by decide +kernel))
        go_simp
        refine (dec_any W (x3 : Int) (by omega) (by omega)).mono ?_
        rintro e W' ⟨rfl, hb⟩
        exact hK _ _ hb (congrArg Value.string HD3.out)
      refine soup_cons rfl rfl (fun a W hR hS hdep K hK => ?_) ?_
      · have e52 : a.tmps[52]?.getD undef = .string E5 := slot_of (hdep 19 (by decide +kernel))
        have e57 : a.tmps[57]?.getD undef = .string D3 := slot_of (hdep 24 (by decide +kernel))
        go_simp
        rw [if_neg (by omega)]
        exact hK _ _ (Below.refl _ _) rfl
      refine soup_cons rfl rfl (fun a W hR hS hdep K hK => ?_) ?_
      · have e58 : a.tmps[58]?.getD undef = .string E6 := slot_of (hdep 25 (by decide +kernel))
        go_simp
        exact hK _ _ ((Below.refl _ _).alloc (Nat.le_refl _) _) ⟨_, rfl, row_one W (.string E6) 9⟩
      refine soup_cons rfl rfl (fun a W hR hS hdep K hK => ?_) ?_
      · obtain ⟨g, q, r⟩ := hdep 26 (by decide +kernel)
        have e59 : a.tmps[59]?.getD undef = .slice (some ⟨g, 0, none⟩) 1 1 := slot_of (q)
        clear q
        go_simp
        exact hK _ _ (Below.refl _ _) ⟨_, rfl, r⟩
      exact fun j h1 h2 => absurd h1 (by simp only [List.size_toArray, List.length_cons, List.length_nil]; omega)
  · have h4 := data_28 HV.out
    obtain rfl : bl = 16 := by have := HE.out.1; omega
    obtain ⟨b, off, hao⟩ := HD2.out.bytes.addr (k := 0) (by show 0 < 16; omega)
    simp only at hao
    subst hao
    have HL := Lib.hid h4
    clear h4
    go_wp2_with fail
    go_loopw [8, 7] (fun i s wr => ∃ (k : Nat) (p : ByteArray), k ≤ 8 ∧ i = .int .i64 (2 * (k : Int)) ∧ s = .string p ∧ p.size ≤ 5 * k ∧ Hid (p.data.toList = joinP 58 (((pairsP d.bytes).take k).map groupP) ∧ Below w2.heap.size w2 wr)) (fun i _ _ => 16 - (intOf i).toNat)
    case atStart => exact ⟨0, ⟨#[]⟩, Nat.zero_le _, rfl, rfl, by decide, rfl, Below.refl _ _⟩
    case round =>
      obtain ⟨k, p, hk, rfl, rfl, hps, hinv0⟩ := hrel
      have hinv := Lib.hid hinv0.out
      clear hinv0
      by_cases hlt : k < 8
      · have hl2 := HL.out
        have hS := HD2.out.bytes.below hinv.out.2 (Nat.le_refl _)
        have g0 := hS.at (i := 2 * k) (by show 2 * k < 16; omega)
        have g1 := hS.at (i := 2 * k + 1) (by show 2 * k + 1 < 16; omega)
        rw [List.getElem_map] at g0 g1
        have hsn := prs_snoc k d.bytes (by omega)
        obtain ⟨x, hx⟩ : ∃ x, x = d.bytes[2 * k].toNat := ⟨_, rfl⟩
        obtain ⟨y, hy⟩ : ∃ y, y = d.bytes[2 * k + 1].toNat := ⟨_, rfl⟩
        have hx2 : x < 256 := by have := d.bytes[2 * k].toNat_lt; omega
        have hy2 : y < 256 := by have := d.bytes[2 * k + 1].toNat_lt; omega
        rw [← hx] at g0
        rw [← hy] at g1
        rw [← hx, ← hy] at hsn
        obtain ⟨z, hz⟩ : ∃ z : Nat, z = x * 256 + y := ⟨_, rfl⟩
        rw [← hz] at hsn
        have hz2 : z < 65536 := by omega
        have hgl := groupP_len z hz2
        obtain ⟨G, hG⟩ : ∃ G : ByteArray, (⟨(groupP z).toArray⟩ : ByteArray) = G := ⟨_, rfl⟩
        have hGl : G.data.toList = groupP z := by rw [← hG]
        have hGs : G.size ≤ 4 := by rw [size_of hGl]; exact hgl
        have HG := Lib.hid hG
        have HC0 := Lib.hid (show wr.drew.cell? ⟨b, off + 2 * k, none⟩ = some (.int .u8 (x : Int)) from g0)
        have HC1 := Lib.hid (show wr.drew.cell? ⟨b, off + (2 * k + 1), none⟩ = some (.int .u8 (y : Int)) from g1)
        have a1 : IntKind.i64.wrap (x : Int) = (x : Int) := IntWalk.i64_in _ (by omega)
        have a2 : IntKind.i64.wrap (y : Int) = (y : Int) := IntWalk.i64_in _ (by omega)
        have a3 : IntKind.i64.wrap ((x : Int) * 256) = (x : Int) * 256 := IntWalk.i64_in _ (by omega)
        have a5 : IntKind.i64.wrap (2 * (k : Int) + 1) = 2 * (k : Int) + 1 := IntWalk.i64_in _ (by omega)
        have a6 : IntKind.i64.wrap ((x : Int) * 256 + (y : Int)) = (z : Int) := by rw [IntWalk.i64_in _ (by omega)]; omega
        have b0 : (0 : Int) ≤ 2 * (k : Int) := by omega
        have b1 : 2 * (k : Int) < 16 := by omega
        have b2 : 2 * (k : Int) + 1 < 16 := by omega
        have b3 : (2 * (k : Int)).toNat = 2 * k := by omega
        have b4 : (2 * (k : Int) + 1).toNat = 2 * k + 1 := by omega
        have b5 : (0 : Int) ≤ 2 * (k : Int) + 1 := by omega
        by_cases h0 : k = 0
        · obtain ⟨Q, hQ⟩ : ∃ Q, Q = p := ⟨_, rfl⟩
          subst hQ
          obtain ⟨P, hP⟩ : ∃ P, Q ++ G = P := ⟨_, rfl⟩
          have HP := Lib.hid (show P.size ≤ 5 * (k + 1) ∧ P.data.toList = joinP 58 (((pairsP d.bytes).take (k + 1)).map groupP) by
            have h1 := cat_list hinv.out.1 hGl
            rw [hP] at h1
            have h2 : P.data.toList = joinP 58 (((pairsP d.bytes).take (k + 1)).map groupP) := by
              subst h0
              rw [h1, hsn]; simp [joinP]
            refine ⟨?_, h2⟩
            have h3 := size_of h1
            have h4 := size_of hinv.out.1
            rw [List.length_append, ← h4] at h3
            omega)
          clear hsn hx hy hz hgl hGl hS g0 g1 hl2 hG
          have d0 : decide ((0 : Int) < 2 * (k : Int)) = false := by rw [decide_eq_false_iff_not]; omega
          clear h0
          go_wp2_with fail
          refine wp_soup0_last (m := 147) 16 (by kernel_rfl) (fun x y => Below x.heap.size x y) (fun i v xw => match i with | 0 => v = .string Q | 1 => v = .slice (some ⟨b, off, none⟩) 16 bc | 2 => v = .int .i64 (2 * (k : Int)) | 3 => v = .pointer (some ⟨b, off + 2 * k, none⟩) | 4 => v = .int .u8 (x : Int) | 5 => v = .int .i64 (x : Int) | 6 => v = .int .i64 ((x : Int) * 256) | 7 => v = .slice (some ⟨b, off, none⟩) 16 bc | 8 => v = .int .i64 (2 * (k : Int)) | 9 => v = .int .i64 (2 * (k : Int) + 1) | 10 => v = .pointer (some ⟨b, off + (2 * k + 1), none⟩) | 11 => v = .int .u8 (y : Int) | 12 => v = .int .i64 (y : Int) | 13 => v = .int .i64 (z : Int) | 14 => v = .string G | 15 => v = .string P | _ => True) rfl (by kernel_rfl) (by kernel_rfl) (fun _ _ _ h1 h2 => below_on h1 h2 (Nat.le_refl _)) (Below.refl _ _) (by intro i v x y h hxy; match i, h with | 0, h => exact h | 1, h => exact h | 2, h => exact h | 3, h => exact h | 4, h => exact h | 5, h => exact h | 6, h => exact h | 7, h => exact h | 8, h => exact h | 9, h => exact h | 10, h => exact h | 11, h => exact h | 12, h => exact h | 13, h => exact h | 14, h => exact h | 15, h => exact h | _ + 16, _ => trivial) (dst_but 17 (by kernel_rfl) (fun _ _ h => h)) ?_ ?_
          rotate_left
          · intro o ho a W hR hS hdep K hK
            obtain rfl := Option.some.inj ho
            have e85 : a.tmps.getD 85 undef = .string P := hdep 15 (by decide +kernel)
            obtain ⟨T, df⟩ := a
            obtain rfl : df = [] := hS.defers
            have hT := tmps_same hS 147 rfl [70, 71, 72, 73, 74, 75, 76, 77, 78, 79, 80, 81, 82, 83, 84, 85] (by kernel_rfl)
            simp only [List.foldl_cons, List.foldl_nil, List.setIfInBounds_toArray, List.set_cons_succ, List.set_cons_zero] at hT
            have k85 : T.getD 85 undef = .string P := e85
            clear hS hdep
            rw [hT]
            rw [k85]
            clear k85 e85
            clear hT
            generalize T.getD 70 undef = u70
            generalize T.getD 71 undef = u71
            generalize T.getD 72 undef = u72
            generalize T.getD 73 undef = u73
            generalize T.getD 74 undef = u74
            generalize T.getD 75 undef = u75
            generalize T.getD 76 undef = u76
            generalize T.getD 77 undef = u77
            generalize T.getD 78 undef = u78
            generalize T.getD 79 undef = u79
            generalize T.getD 80 undef = u80
            generalize T.getD 81 undef = u81
            generalize T.getD 82 undef = u82
            generalize T.getD 83 undef = u83
            generalize T.getD 84 undef = u84
            go_simp
            refine hK _ _ ?_
            try simp only [Act.put, List.setIfInBounds_toArray, List.set_cons_succ, List.set_cons_zero]
            have HBR := Lib.hid (below_on hinv.out.2 (below_on (B := wr.heap.size) (Below.drew (Below.refl _ _)) hR (Nat.le_refl _)) (Nat.le_refl _))
            clear hR hK
            go_wp2_with fail
            go_roundw
            case rel => exact ⟨k + 1, P, by omega, by congr 1, rfl, HP.out.1, HP.out.2, HBR.out⟩
            case measure => simp [intOf]; omega
          refine soup_cons rfl rfl (fun a W hR hS hdep K hK => ?_) ?_
          · have e7 : a.tmps[7]?.getD undef = .string Q := slot_of (hS.keep 7 (by kernel_rfl))
            go_simp
            exact hK _ _ (Below.refl _ _) rfl
          refine soup_cons rfl rfl (fun a W hR hS hdep K hK => ?_) ?_
          · have e6 : a.tmps[6]?.getD undef = .slice (some ⟨b, off, none⟩) 16 bc := slot_of (hS.keep 6 (by kernel_rfl))
            go_simp
            exact hK _ _ (Below.refl _ _) rfl
          refine soup_cons rfl rfl (fun a W hR hS hdep K hK => ?_) ?_
          · have e8 : a.tmps[8]?.getD undef = .int .i64 (2 * (k : Int)) := slot_of (hS.keep 8 (by kernel_rfl))
            go_simp
            exact hK _ _ (Below.refl _ _) rfl
          refine soup_cons rfl rfl (fun a W hR hS hdep K hK => ?_) ?_
          · have e71 : a.tmps[71]?.getD undef = .slice (some ⟨b, off, none⟩) 16 bc := slot_of (hdep 1 (by decide +kernel))
            have e72 : a.tmps[72]?.getD undef = .int .i64 (2 * (k : Int)) := slot_of (hdep 2 (by decide +kernel))
            go_simp
            exact hK _ _ (Below.refl _ _) rfl
          refine soup_cons rfl rfl (fun a W hR hS hdep K hK => ?_) ?_
          · have e73 : a.tmps[73]?.getD undef = .pointer (some ⟨b, off + 2 * k, none⟩) := slot_of (hdep 3 (by decide +kernel))
            have q1 := cell_keep hR HC0.out
            go_simp
            exact hK _ _ (Below.refl _ _) rfl
          refine soup_cons rfl rfl (fun a W hR hS hdep K hK => ?_) ?_
          · have e74 : a.tmps[74]?.getD undef = .int .u8 (x : Int) := slot_of (hdep 4 (by decide +kernel))
            go_simp
            exact hK _ _ (Below.refl _ _) rfl
          refine soup_cons rfl rfl (fun a W hR hS hdep K hK => ?_) ?_
          · have e75 : a.tmps[75]?.getD undef = .int .i64 (x : Int) := slot_of (hdep 5 (by decide +kernel))
            go_simp
            exact hK _ _ (Below.refl _ _) rfl
          refine soup_cons rfl rfl (fun a W hR hS hdep K hK => ?_) ?_
          · have e6 : a.tmps[6]?.getD undef = .slice (some ⟨b, off, none⟩) 16 bc := slot_of (hS.keep 6 (by kernel_rfl))
            go_simp
            exact hK _ _ (Below.refl _ _) rfl
          refine soup_cons rfl rfl (fun a W hR hS hdep K hK => ?_) ?_
          · have e8 : a.tmps[8]?.getD undef = .int .i64 (2 * (k : Int)) := slot_of (hS.keep 8 (by kernel_rfl))
            go_simp
            exact hK _ _ (Below.refl _ _) rfl
          refine soup_cons rfl rfl (fun a W hR hS hdep K hK => ?_) ?_
          · have e78 : a.tmps[78]?.getD undef = .int .i64 (2 * (k : Int)) := slot_of (hdep 8 (by decide +kernel))
            go_simp
            exact hK _ _ (Below.refl _ _) rfl
          refine soup_cons rfl rfl (fun a W hR hS hdep K hK => ?_) ?_
          · have e77 : a.tmps[77]?.getD undef = .slice (some ⟨b, off, none⟩) 16 bc := slot_of (hdep 7 (by decide +kernel))
            have e79 : a.tmps[79]?.getD undef = .int .i64 (2 * (k : Int) + 1) := slot_of (hdep 9 (by decide +kernel))
            go_simp
            exact hK _ _ (Below.refl _ _) rfl
          refine soup_cons rfl rfl (fun a W hR hS hdep K hK => ?_) ?_
          · have e80 : a.tmps[80]?.getD undef = .pointer (some ⟨b, off + (2 * k + 1), none⟩) := slot_of (hdep 10 (by decide +kernel))
            have q1 := cell_keep hR HC1.out
            go_simp
            exact hK _ _ (Below.refl _ _) rfl
          refine soup_cons rfl rfl (fun a W hR hS hdep K hK => ?_) ?_
          · have e81 : a.tmps[81]?.getD undef = .int .u8 (y : Int) := slot_of (hdep 11 (by decide +kernel))
            go_simp
            exact hK _ _ (Below.refl _ _) rfl
          refine soup_cons rfl rfl (fun a W hR hS hdep K hK => ?_) ?_
          · have e76 : a.tmps[76]?.getD undef = .int .i64 ((x : Int) * 256) := slot_of (hdep 6 (by decide +kernel))
            have e82 : a.tmps[82]?.getD undef = .int .i64 (y : Int) := slot_of (hdep 12 (by decide +kernel))
            go_simp
            exact hK _ _ (Below.refl _ _) rfl
          refine soup_cons rfl rfl (fun a W hR hS hdep K hK => ?_) ?_
          · have e83 : a.tmps[83]?.getD undef = .int .i64 (z : Int) := slot_of (hdep 13 (by decide +kernel))
            go_simp
            refine (group_any z W hz2).mono ?_
            rintro e W' ⟨rfl, hb⟩
            exact hK _ _ hb (congrArg Value.string HG.out)
          refine soup_cons rfl rfl (fun a W hR hS hdep K hK => ?_) ?_
          · have e70 : a.tmps[70]?.getD undef = .string Q := slot_of (hdep 0 (by decide +kernel))
            have e84 : a.tmps[84]?.getD undef = .string G := slot_of (hdep 14 (by decide +kernel))
            go_simp
            rw [if_neg (by omega)]
            exact hK _ _ (Below.refl _ _) rfl
          exact fun j h1 h2 => absurd h1 (by omega)
        · obtain ⟨Q, hQ⟩ : ∃ Q, p ++ ⟨#[58]⟩ = Q := ⟨_, rfl⟩
          have hql := cat_list hinv.out.1 (show (⟨#[58]⟩ : ByteArray).data.toList = [58] from rfl)
          rw [hQ] at hql
          have hQs : Q.size ≤ 5 * k + 1 := by
            have h1 := size_of hql
            have h2 := size_of hinv.out.1
            rw [List.length_append, ← h2] at h1
            simp at h1
            omega
          obtain ⟨P, hP⟩ : ∃ P, Q ++ G = P := ⟨_, rfl⟩
          have HP := Lib.hid (show P.size ≤ 5 * (k + 1) ∧ P.data.toList = joinP 58 (((pairsP d.bytes).take (k + 1)).map groupP) by
            have h1 := cat_list hql hGl
            rw [hP] at h1
            have h2 : P.data.toList = joinP 58 (((pairsP d.bytes).take (k + 1)).map groupP) := by
              rw [h1, hsn, List.map_append, List.map_singleton, join_snoc]
              · simp
              · intro h
                have h5 := congrArg List.length h
                have h6 := pairs_len 8 _ HL.out
                simp only [List.length_map, List.length_take, List.length_nil] at h5
                omega
            refine ⟨?_, h2⟩
            have h3 := size_of h1
            have h4 := size_of hql
            rw [List.length_append, ← h4] at h3
            omega)
          have h5 : p.size + 1 ≤ 9223372036854775807 := by omega
          clear hsn hx hy hz hgl hGl hS g0 g1 hl2 hG hql
          have d0 : decide ((0 : Int) < 2 * (k : Int)) = true := by rw [decide_eq_true_eq]; omega
          clear h0
          go_wp2_with fail
          refine wp_soup0_last (m := 147) 16 (by kernel_rfl) (fun x y => Below x.heap.size x y) (fun i v xw => match i with | 0 => v = .string Q | 1 => v = .slice (some ⟨b, off, none⟩) 16 bc | 2 => v = .int .i64 (2 * (k : Int)) | 3 => v = .pointer (some ⟨b, off + 2 * k, none⟩) | 4 => v = .int .u8 (x : Int) | 5 => v = .int .i64 (x : Int) | 6 => v = .int .i64 ((x : Int) * 256) | 7 => v = .slice (some ⟨b, off, none⟩) 16 bc | 8 => v = .int .i64 (2 * (k : Int)) | 9 => v = .int .i64 (2 * (k : Int) + 1) | 10 => v = .pointer (some ⟨b, off + (2 * k + 1), none⟩) | 11 => v = .int .u8 (y : Int) | 12 => v = .int .i64 (y : Int) | 13 => v = .int .i64 (z : Int) | 14 => v = .string G | 15 => v = .string P | _ => True) rfl (by kernel_rfl) (by kernel_rfl) (fun _ _ _ h1 h2 => below_on h1 h2 (Nat.le_refl _)) (Below.refl _ _) (by intro i v x y h hxy; match i, h with | 0, h => exact h | 1, h => exact h | 2, h => exact h | 3, h => exact h | 4, h => exact h | 5, h => exact h | 6, h => exact h | 7, h => exact h | 8, h => exact h | 9, h => exact h | 10, h => exact h | 11, h => exact h | 12, h => exact h | 13, h => exact h | 14, h => exact h | 15, h => exact h | _ + 16, _ => trivial) (dst_but 17 (by kernel_rfl) (fun _ _ h => h)) ?_ ?_
          rotate_left
          · intro o ho a W hR hS hdep K hK
            obtain rfl := Option.some.inj ho
            have e85 : a.tmps.getD 85 undef = .string P := hdep 15 (by decide +kernel)
            obtain ⟨T, df⟩ := a
            obtain rfl : df = [] := hS.defers
            have hT := tmps_same hS 147 rfl [70, 71, 72, 73, 74, 75, 76, 77, 78, 79, 80, 81, 82, 83, 84, 85] (by kernel_rfl)
            simp only [List.foldl_cons, List.foldl_nil, List.setIfInBounds_toArray, List.set_cons_succ, List.set_cons_zero] at hT
            have k85 : T.getD 85 undef = .string P := e85
            clear hS hdep
            rw [hT]
            rw [k85]
            clear k85 e85
            clear hT
            generalize T.getD 70 undef = u70
            generalize T.getD 71 undef = u71
            generalize T.getD 72 undef = u72
            generalize T.getD 73 undef = u73
            generalize T.getD 74 undef = u74
            generalize T.getD 75 undef = u75
            generalize T.getD 76 undef = u76
            generalize T.getD 77 undef = u77
            generalize T.getD 78 undef = u78
            generalize T.getD 79 undef = u79
            generalize T.getD 80 undef = u80
            generalize T.getD 81 undef = u81
            generalize T.getD 82 undef = u82
            generalize T.getD 83 undef = u83
            generalize T.getD 84 undef = u84
            go_simp
            refine hK _ _ ?_
            try simp only [Act.put, List.setIfInBounds_toArray, List.set_cons_succ, List.set_cons_zero]
            have HBR := Lib.hid (below_on hinv.out.2 (below_on (B := wr.heap.size) (Below.drew (Below.refl _ _)) hR (Nat.le_refl _)) (Nat.le_refl _))
            clear hR hK
            go_wp2_with fail
            go_roundw
            case rel => exact ⟨k + 1, P, by omega, by congr 1, rfl, HP.out.1, HP.out.2, HBR.out⟩
            case measure => simp [intOf]; omega
          refine soup_cons rfl rfl (fun a W hR hS hdep K hK => ?_) ?_
          · have e7 : a.tmps[7]?.getD undef = .string Q := slot_of (hS.keep 7 (by kernel_rfl))
            go_simp
            exact hK _ _ (Below.refl _ _) rfl
          refine soup_cons rfl rfl (fun a W hR hS hdep K hK => ?_) ?_
          · have e6 : a.tmps[6]?.getD undef = .slice (some ⟨b, off, none⟩) 16 bc := slot_of (hS.keep 6 (by kernel_rfl))
            go_simp
            exact hK _ _ (Below.refl _ _) rfl
          refine soup_cons rfl rfl (fun a W hR hS hdep K hK => ?_) ?_
          · have e8 : a.tmps[8]?.getD undef = .int .i64 (2 * (k : Int)) := slot_of (hS.keep 8 (by kernel_rfl))
            go_simp
            exact hK _ _ (Below.refl _ _) rfl
          refine soup_cons rfl rfl (fun a W hR hS hdep K hK => ?_) ?_
          · have e71 : a.tmps[71]?.getD undef = .slice (some ⟨b, off, none⟩) 16 bc := slot_of (hdep 1 (by decide +kernel))
            have e72 : a.tmps[72]?.getD undef = .int .i64 (2 * (k : Int)) := slot_of (hdep 2 (by decide +kernel))
            go_simp
            exact hK _ _ (Below.refl _ _) rfl
          refine soup_cons rfl rfl (fun a W hR hS hdep K hK => ?_) ?_
          · have e73 : a.tmps[73]?.getD undef = .pointer (some ⟨b, off + 2 * k, none⟩) := slot_of (hdep 3 (by decide +kernel))
            have q1 := cell_keep hR HC0.out
            go_simp
            exact hK _ _ (Below.refl _ _) rfl
          refine soup_cons rfl rfl (fun a W hR hS hdep K hK => ?_) ?_
          · have e74 : a.tmps[74]?.getD undef = .int .u8 (x : Int) := slot_of (hdep 4 (by decide +kernel))
            go_simp
            exact hK _ _ (Below.refl _ _) rfl
          refine soup_cons rfl rfl (fun a W hR hS hdep K hK => ?_) ?_
          · have e75 : a.tmps[75]?.getD undef = .int .i64 (x : Int) := slot_of (hdep 5 (by decide +kernel))
            go_simp
            exact hK _ _ (Below.refl _ _) rfl
          refine soup_cons rfl rfl (fun a W hR hS hdep K hK => ?_) ?_
          · have e6 : a.tmps[6]?.getD undef = .slice (some ⟨b, off, none⟩) 16 bc := slot_of (hS.keep 6 (by kernel_rfl))
            go_simp
            exact hK _ _ (Below.refl _ _) rfl
          refine soup_cons rfl rfl (fun a W hR hS hdep K hK => ?_) ?_
          · have e8 : a.tmps[8]?.getD undef = .int .i64 (2 * (k : Int)) := slot_of (hS.keep 8 (by kernel_rfl))
            go_simp
            exact hK _ _ (Below.refl _ _) rfl
          refine soup_cons rfl rfl (fun a W hR hS hdep K hK => ?_) ?_
          · have e78 : a.tmps[78]?.getD undef = .int .i64 (2 * (k : Int)) := slot_of (hdep 8 (by decide +kernel))
            go_simp
            exact hK _ _ (Below.refl _ _) rfl
          refine soup_cons rfl rfl (fun a W hR hS hdep K hK => ?_) ?_
          · have e77 : a.tmps[77]?.getD undef = .slice (some ⟨b, off, none⟩) 16 bc := slot_of (hdep 7 (by decide +kernel))
            have e79 : a.tmps[79]?.getD undef = .int .i64 (2 * (k : Int) + 1) := slot_of (hdep 9 (by decide +kernel))
            go_simp
            exact hK _ _ (Below.refl _ _) rfl
          refine soup_cons rfl rfl (fun a W hR hS hdep K hK => ?_) ?_
          · have e80 : a.tmps[80]?.getD undef = .pointer (some ⟨b, off + (2 * k + 1), none⟩) := slot_of (hdep 10 (by decide +kernel))
            have q1 := cell_keep hR HC1.out
            go_simp
            exact hK _ _ (Below.refl _ _) rfl
          refine soup_cons rfl rfl (fun a W hR hS hdep K hK => ?_) ?_
          · have e81 : a.tmps[81]?.getD undef = .int .u8 (y : Int) := slot_of (hdep 11 (by decide +kernel))
            go_simp
            exact hK _ _ (Below.refl _ _) rfl
          refine soup_cons rfl rfl (fun a W hR hS hdep K hK => ?_) ?_
          · have e76 : a.tmps[76]?.getD undef = .int .i64 ((x : Int) * 256) := slot_of (hdep 6 (by decide +kernel))
            have e82 : a.tmps[82]?.getD undef = .int .i64 (y : Int) := slot_of (hdep 12 (by decide +kernel))
            go_simp
            exact hK _ _ (Below.refl _ _) rfl
          refine soup_cons rfl rfl (fun a W hR hS hdep K hK => ?_) ?_
          · have e83 : a.tmps[83]?.getD undef = .int .i64 (z : Int) := slot_of (hdep 13 (by decide +kernel))
            go_simp
            refine (group_any z W hz2).mono ?_
            rintro e W' ⟨rfl, hb⟩
            exact hK _ _ hb (congrArg Value.string HG.out)
          refine soup_cons rfl rfl (fun a W hR hS hdep K hK => ?_) ?_
          · have e70 : a.tmps[70]?.getD undef = .string Q := slot_of (hdep 0 (by decide +kernel))
            have e84 : a.tmps[84]?.getD undef = .string G := slot_of (hdep 14 (by decide +kernel))
            go_simp
            rw [if_neg (by omega)]
            exact hK _ _ (Below.refl _ _) rfl
          exact fun j h1 h2 => absurd h1 (by omega)
      · have hke : k = 8 := by omega
        subst hke
        have hi2 := hinv.out
        have h6 := pairs_len 8 _ HL.out
        rw [List.take_of_length_le (by omega)] at hi2
        have HW := Lib.hid (show us = [p] by
          have e : (wordsL 28 d).map strOf = [strOf (joinP 58 ((pairsP d.bytes).map groupP))] := rfl
          rw [HU.out, e]
          congr 1
          exact (bytes_eq _ _ hi2.1).symm)
        have HBE := Lib.hid (below_on HB2.out hi2.2 (Nat.le_refl _))
        clear hi2 hinv h6
        go_wp2_with fail
        go_ret
        exact res_one HW.out (by omega) HBE.out
  · have hsd := (data_host hk HV.out).1
    have HSZ := Lib.hid (show 8 * sizeN d.host + 2 ≤ 70368744177664 by have := sound_size hsd; omega)
    have HW := Lib.hid (HU.out.trans (wordsL_host (by omega)))
    have HSM := Lib.hid (ftext_small hsd)
    clear hsd
    rcases hk with rfl | rfl | rfl
    all_goals
      go_wp2_with fail
      go_loopw [10, 5] (fun i o wr => ∃ n : Nat, n ≤ nl ∧ i = .int .i64 n ∧ Hid (Below w2.heap.size w2 wr ∧ wr.ownsRow w2.heap.size 9 1 o (0 + n) (([] ++ decS (d.nums.take n)).map .string))) (fun i _ _ => nl - (intOf i).toNat)
      case atStart => exact ⟨0, Nat.zero_le _, rfl, Below.refl _ _, World.ownsRow_nil _ _ _ _⟩
      case round =>
        obtain ⟨n, hn, rfl, hinv⟩ := hrel
        have c3 := cell_keep hinv.out.1 (HA2.out.cell 3)
        simp at c3
        by_cases hlt : n < nl
        · have hR := HD2.out.nums.below hinv.out.1 (Nat.le_refl _)
          obtain ⟨b, off, hao⟩ := hR.addr hlt
          simp only at hao
          subst hao
          have hkl : n < d.nums.length := by have := HE.out.2.2.2.1; omega
          have q1 := hR.at hlt
          rw [List.getElem_map] at q1
          have hsn := map_snoc (fun z => strOf (Lib.itoa z)) d.nums n hkl
          have hfit := HD2.out.fits _ (List.getElem_mem hkl)
          obtain ⟨z, hz⟩ : ∃ z, z = d.nums[n] := ⟨_, rfl⟩
          rw [← hz] at q1 hsn hfit
          have HCALL := Lib.hid (dec_any wr z hfit.1 hfit.2)
          have HSN := Lib.hid hsn
          clear hz hsn hR
          go_wp2_with fail
          refine HCALL.out.mono ?_
          rintro e w3 ⟨rfl, hb3⟩
          obtain ⟨i0, hi, hz0, hz1, hz2⟩ := info_parts strInfo
          have hb4 := below_on hinv.out.1 hb3 (Nat.le_refl _)
          obtain ⟨v', w5, hrun, hown5, _, hb6⟩ := append_one (P := Tryz.prog) w3 w2 w2.heap.size 30 30 9 i0 _ 16 Tryz.underlying30 hi hz0 hz1 hz2 rfl _ _ _ (owns_keep hinv.out.2 hb3) (.string ⟨(Lib.itoa z).toArray⟩) rfl (by omega) (by omega) hb4 hb4.size
          have HRUN := Lib.hid hrun
          have HOW := Lib.hid (show w5.ownsRow w2.heap.size 9 1 v' (0 + (n + 1)) (([] ++ decS (d.nums.take (n + 1))).map .string) by
            unfold decS
            rw [HSN.out, List.map_append, List.map_append, ← List.append_assoc, ← List.map_append]
            exact hown5)
          have HB6 := Lib.hid hb6
          clear hrun hown5 hb6 hi hz0 hz1 hz2 hb3 hb4
          go_wp2_with (at_builtin; refine wpList_append_run rfl _ _ _ rfl _ _ rfl rfl HRUN.out ?_)
          go_roundw
          case rel => exact ⟨n + 1, by omega, by go_num, HB6.out, HOW.out⟩
          case measure => simp [intOf]; omega
        · have hall : d.nums.take n = d.nums := List.take_of_length_le (by have := HE.out.2.2.2.1; omega)
          have hi2 := hinv.out
          rw [hall] at hi2
          obtain rfl : n = nl := by omega
          have HI := Lib.hid hi2
          have HBF := Lib.hid (below_on HB2.out hi2.1 (Nat.le_refl _))
          clear hall hi2 hinv
          have c1 := cell_keep HI.out.1 (HA2.out.cell 1)
          simp at c1
          have HCALL := Lib.hid (rftext_any wr ha hl hc d.host (HD2.out.host.below HI.out.1 (Nat.le_refl _)) HSZ.out)
          go_wp2_with fail
          refine HCALL.out.mono ?_
          rintro e w4 ⟨rfl, hb4⟩
          obtain ⟨i0, hi, hz0, hz1, hz2⟩ := info_parts strInfo
          have hb5 := below_on HI.out.1 hb4 (Nat.le_refl _)
          obtain ⟨v', w5, hrun, hown5, _, hb6⟩ := append_one (P := Tryz.prog) w4 w2 w2.heap.size 30 30 9 i0 _ 16 Tryz.underlying30 hi hz0 hz1 hz2 rfl _ _ _ (owns_keep HI.out.2 hb4) (.string ⟨(ftextP d.host).toArray⟩) rfl (by omega) (by omega) hb5 hb5.size
          have HRUN := Lib.hid hrun
          have HOW := Lib.hid (show w5.ownsRow w2.heap.size 9 1 v' (0 + n + 1) ((decS d.nums ++ [strOf (ftextP d.host)]).map .string) by
            rw [List.map_append]
            exact hown5)
          have HB6 := Lib.hid (below_on HB2.out hb6 (Nat.le_refl _))
          clear hrun hown5 hb6 hi hz0 hz1 hz2 hb4 hb5
          go_wp2_with (at_builtin; refine wpList_append_run rfl _ _ _ rfl _ _ rfl rfl HRUN.out ?_)
          go_ret
          exact res_owns HW.out HOW.out (by simp [decS]; exact HE.out.2.2.2.1) (by omega) (by
            intro s hs
            rcases List.mem_append.1 hs with h | h
            · exact decS_small HD2.out.fits s h
            · simp at h; rw [h]; exact HSM.out) HB6.out
  · have hsd := data_15 HV.out
    have HSZ := Lib.hid (show 8 * sizeN d.host + 2 ≤ 70368744177664 by have := sound_size hsd; omega)
    have HW := Lib.hid (HU.out.trans (wordsL_host (by omega)))
    have HSM := Lib.hid (ftext_small hsd)
    clear hsd
    go_wp2_with fail
    go_loopw [10, 5] (fun i o wr => ∃ n : Nat, n ≤ nl ∧ i = .int .i64 n ∧ Hid (Below w2.heap.size w2 wr ∧ wr.ownsRow w2.heap.size 9 1 o (0 + n) (([] ++ decS (d.nums.take n)).map .string))) (fun i _ _ => nl - (intOf i).toNat)
    case atStart => exact ⟨0, Nat.zero_le _, rfl, Below.refl _ _, World.ownsRow_nil _ _ _ _⟩
    case round =>
      obtain ⟨n, hn, rfl, hinv⟩ := hrel
      have c3 := cell_keep hinv.out.1 (HA2.out.cell 3)
      simp at c3
      by_cases hlt : n < nl
      · have hR := HD2.out.nums.below hinv.out.1 (Nat.le_refl _)
        obtain ⟨b, off, hao⟩ := hR.addr hlt
        simp only at hao
        subst hao
        have hkl : n < d.nums.length := by have := HE.out.2.2.2.1; omega
        have q1 := hR.at hlt
        rw [List.getElem_map] at q1
        have hsn := map_snoc (fun z => strOf (Lib.itoa z)) d.nums n hkl
        have hfit := HD2.out.fits _ (List.getElem_mem hkl)
        obtain ⟨z, hz⟩ : ∃ z, z = d.nums[n] := ⟨_, rfl⟩
        rw [← hz] at q1 hsn hfit
        have HCALL := Lib.hid (dec_any wr z hfit.1 hfit.2)
        have HSN := Lib.hid hsn
        clear hz hsn hR
        go_wp2_with fail
        refine HCALL.out.mono ?_
        rintro e w3 ⟨rfl, hb3⟩
        obtain ⟨i0, hi, hz0, hz1, hz2⟩ := info_parts strInfo
        have hb4 := below_on hinv.out.1 hb3 (Nat.le_refl _)
        obtain ⟨v', w5, hrun, hown5, _, hb6⟩ := append_one (P := Tryz.prog) w3 w2 w2.heap.size 30 30 9 i0 _ 16 Tryz.underlying30 hi hz0 hz1 hz2 rfl _ _ _ (owns_keep hinv.out.2 hb3) (.string ⟨(Lib.itoa z).toArray⟩) rfl (by omega) (by omega) hb4 hb4.size
        have HRUN := Lib.hid hrun
        have HOW := Lib.hid (show w5.ownsRow w2.heap.size 9 1 v' (0 + (n + 1)) (([] ++ decS (d.nums.take (n + 1))).map .string) by
          unfold decS
          rw [HSN.out, List.map_append, List.map_append, ← List.append_assoc, ← List.map_append]
          exact hown5)
        have HB6 := Lib.hid hb6
        clear hrun hown5 hb6 hi hz0 hz1 hz2 hb3 hb4
        go_wp2_with (at_builtin; refine wpList_append_run rfl _ _ _ rfl _ _ rfl rfl HRUN.out ?_)
        go_roundw
        case rel => exact ⟨n + 1, by omega, by go_num, HB6.out, HOW.out⟩
        case measure => simp [intOf]; omega
      · have hall : d.nums.take n = d.nums := List.take_of_length_le (by have := HE.out.2.2.2.1; omega)
        have hi2 := hinv.out
        rw [hall] at hi2
        obtain rfl : n = nl := by omega
        have HI := Lib.hid hi2
        have HBF := Lib.hid (below_on HB2.out hi2.1 (Nat.le_refl _))
        clear hall hi2 hinv
        have c1 := cell_keep HI.out.1 (HA2.out.cell 1)
        simp at c1
        have HCALL := Lib.hid (rftext_any wr ha hl hc d.host (HD2.out.host.below HI.out.1 (Nat.le_refl _)) HSZ.out)
        go_wp2_with fail
        refine HCALL.out.mono ?_
        rintro e w4 ⟨rfl, hb4⟩
        obtain ⟨i0, hi, hz0, hz1, hz2⟩ := info_parts strInfo
        have hb5 := below_on HI.out.1 hb4 (Nat.le_refl _)
        obtain ⟨v', w5, hrun, hown5, _, hb6⟩ := append_one (P := Tryz.prog) w4 w2 w2.heap.size 30 30 9 i0 _ 16 Tryz.underlying30 hi hz0 hz1 hz2 rfl _ _ _ (owns_keep HI.out.2 hb4) (.string ⟨(ftextP d.host).toArray⟩) rfl (by omega) (by omega) hb5 hb5.size
        have HRUN := Lib.hid hrun
        have HOW := Lib.hid (show w5.ownsRow w2.heap.size 9 1 v' (0 + n + 1) ((decS d.nums ++ [strOf (ftextP d.host)]).map .string) by
          rw [List.map_append]
          exact hown5)
        have HB6 := Lib.hid (below_on HB2.out hb6 (Nat.le_refl _))
        clear hrun hown5 hb6 hi hz0 hz1 hz2 hb4 hb5
        go_wp2_with (at_builtin; refine wpList_append_run rfl _ _ _ rfl _ _ rfl rfl HRUN.out ?_)
        go_ret
        exact res_owns HW.out HOW.out (by simp [decS]; exact HE.out.2.2.2.1) (by omega) (by
          intro s hs
          rcases List.mem_append.1 hs with h | h
          · exact decS_small HD2.out.fits s h
          · simp at h; rw [h]; exact HSM.out) HB6.out
  · have h6 := data_6 HV.out
    have HSZA := Lib.hid (show 8 * sizeN d.host + 2 ≤ 70368744177664 by have := sound_size h6.1; omega)
    have HSZM := Lib.hid (show 8 * sizeN d.mail + 2 ≤ 70368744177664 by have := sound_size h6.2.1; omega)
    have HC1 := Lib.hid (show w2.drew.cell? ⟨w.heap.size, 1, none⟩ = some (.slice ha hl hc) from HA2.out.cell 1)
    have HC2 := Lib.hid (show w2.drew.cell? ⟨w.heap.size, 2, none⟩ = some (.slice ma ml mc) from HA2.out.cell 2)
    have hw := HU.out.trans wordsL_6
    have hsa := ftext_small h6.1
    have hsm := ftext_small h6.2.1
    obtain ⟨A, hAe⟩ : ∃ A, A = strOf (ftextP d.host) := ⟨_, rfl⟩
    obtain ⟨M, hMe⟩ : ∃ M, M = strOf (ftextP d.mail) := ⟨_, rfl⟩
    rw [← hAe] at hw hsa
    rw [← hMe] at hw hsm
    have HEA := Lib.hid hAe
    have HEM := Lib.hid hMe
    have HW := Lib.hid hw
    have HALL := Lib.hid (show ∀ s ∈ [A, M] ++ decS d.nums, s.size ≤ 9223372036854775807 by
      intro s hs
      rcases List.mem_append.1 hs with h | h
      · simp at h
        rcases h with rfl | rfl
        · exact hsa
        · exact hsm
      · exact decS_small HD2.out.fits s h)
    clear h6 hw hsa hsm hAe hMe
    go_wp2_with fail
    refine wp_soup0 (m := 147) (by kernel_rfl) (fun x y => Below x.heap.size x y) (fun i v xw => match i with | 0 => v = .pointer (some ⟨w.heap.size, 1, none⟩) | 1 => v = .slice ha hl hc | 2 => v = .string A | 3 => v = .pointer (some ⟨w.heap.size, 2, none⟩) | 4 => v = .slice ma ml mc | 5 => v = .string M | 6 => ∃ g, v = .slice (some ⟨g, 0, none⟩) 2 2 ∧ xw.ownsRow w2.heap.size 9 1 (.slice (some ⟨g, 0, none⟩) 2 2) 2 [.string A, .string M] | 7 => ∃ g, v = .slice (some ⟨g, 0, none⟩) 2 2 ∧ xw.ownsRow w2.heap.size 9 1 (.slice (some ⟨g, 0, none⟩) 2 2) 2 [.string A, .string M] | _ => True) rfl (by kernel_rfl) (fun _ _ _ h1 h2 => below_on h1 h2 (Nat.le_refl _)) (Below.refl _ _) (by intro i v x y h hxy; match i, h with | 0, h => exact h | 1, h => exact h | 2, h => exact h | 3, h => exact h | 4, h => exact h | 5, h => exact h | 6, ⟨g, e, hr⟩ => exact ⟨g, e, owns_keep hr hxy⟩ | 7, ⟨g, e, hr⟩ => exact ⟨g, e, owns_keep hr hxy⟩ | _ + 8, _ => trivial) (dst_but 8 (by kernel_rfl) (fun _ _ h => h)) ?_ ?_
    rotate_left
    · intro a W hR hS hdep
      have e0 : a.tmps.getD 0 undef = .int .i64 6 := hS.keep 0 (by kernel_rfl)
      have e3 : a.tmps.getD 3 undef = .pointer (some ⟨w.heap.size, 0, none⟩) := hS.keep 3 (by kernel_rfl)
      have e17 : a.tmps.getD 17 undef = .int .i64 6 := hS.keep 17 (by kernel_rfl)
      have e6 : a.tmps.getD 6 undef = .slice ba bl bc := hS.keep 6 (by kernel_rfl)
      obtain ⟨g, q, r7⟩ := hdep 7 (by decide +kernel)
      have e5 : a.tmps.getD 5 undef = .slice (some ⟨g, 0, none⟩) 2 2 := q
      clear q
      obtain ⟨T, df⟩ := a
      obtain rfl : df = [] := hS.defers
      have hT : T = #[T.getD 0 undef, T.getD 1 undef, T.getD 2 undef, T.getD 3 undef, T.getD 4 undef, T.getD 5 undef, T.getD 6 undef, T.getD 7 undef, T.getD 8 undef, T.getD 9 undef, T.getD 10 undef, T.getD 11 undef, T.getD 12 undef, T.getD 13 undef, T.getD 14 undef, T.getD 15 undef, T.getD 16 undef, T.getD 17 undef, T.getD 18 undef, T.getD 19 undef, T.getD 20 undef, T.getD 21 undef, T.getD 22 undef, T.getD 23 undef, T.getD 24 undef, T.getD 25 undef, T.getD 26 undef, T.getD 27 undef, T.getD 28 undef, T.getD 29 undef, T.getD 30 undef, T.getD 31 undef, T.getD 32 undef, T.getD 33 undef, T.getD 34 undef, T.getD 35 undef, T.getD 36 undef, T.getD 37 undef, T.getD 38 undef, T.getD 39 undef, T.getD 40 undef, T.getD 41 undef, T.getD 42 undef, T.getD 43 undef, T.getD 44 undef, T.getD 45 undef, T.getD 46 undef, T.getD 47 undef, T.getD 48 undef, T.getD 49 undef, T.getD 50 undef, T.getD 51 undef, T.getD 52 undef, T.getD 53 undef, T.getD 54 undef, T.getD 55 undef, T.getD 56 undef, T.getD 57 undef, T.getD 58 undef, T.getD 59 undef, T.getD 60 undef, T.getD 61 undef, T.getD 62 undef, T.getD 63 undef, T.getD 64 undef, T.getD 65 undef, T.getD 66 undef, T.getD 67 undef, T.getD 68 undef, T.getD 69 undef, T.getD 70 undef, T.getD 71 undef, T.getD 72 undef, T.getD 73 undef, T.getD 74 undef, T.getD 75 undef, T.getD 76 undef, T.getD 77 undef, T.getD 78 undef, T.getD 79 undef, T.getD 80 undef, T.getD 81 undef, T.getD 82 undef, T.getD 83 undef, T.getD 84 undef, T.getD 85 undef, T.getD 86 undef, T.getD 87 undef, T.getD 88 undef, T.getD 89 undef, T.getD 90 undef, T.getD 91 undef, T.getD 92 undef, T.getD 93 undef, T.getD 94 undef, T.getD 95 undef, T.getD 96 undef, T.getD 97 undef, T.getD 98 undef, T.getD 99 undef, T.getD 100 undef, T.getD 101 undef, T.getD 102 undef, T.getD 103 undef, T.getD 104 undef, T.getD 105 undef, T.getD 106 undef, T.getD 107 undef, T.getD 108 undef, T.getD 109 undef, T.getD 110 undef, T.getD 111 undef, T.getD 112 undef, T.getD 113 undef, T.getD 114 undef, T.getD 115 undef, T.getD 116 undef, T.getD 117 undef, T.getD 118 undef, T.getD 119 undef, T.getD 120 undef, T.getD 121 undef, T.getD 122 undef, T.getD 123 undef, T.getD 124 undef, T.getD 125 undef, T.getD 126 undef, T.getD 127 undef, T.getD 128 undef, T.getD 129 undef, T.getD 130 undef, T.getD 131 undef, T.getD 132 undef, T.getD 133 undef, T.getD 134 undef, T.getD 135 undef, T.getD 136 undef, T.getD 137 undef, T.getD 138 undef, T.getD 139 undef, T.getD 140 undef, T.getD 141 undef, T.getD 142 undef, T.getD 143 undef, T.getD 144 undef, T.getD 145 undef, T.getD 146 undef] := arr_eta T 147 hS.size
      have k0 : T.getD 0 undef = .int .i64 6 := e0
      have k3 : T.getD 3 undef = .pointer (some ⟨w.heap.size, 0, none⟩) := e3
      have k17 : T.getD 17 undef = .int .i64 6 := e17
      have k6 : T.getD 6 undef = .slice ba bl bc := e6
      have k5 : T.getD 5 undef = .slice (some ⟨g, 0, none⟩) 2 2 := e5
      clear hS hdep
      rw [hT]
      rw [k0]
      clear k0 e0
      rw [k3]
      clear k3 e3
      rw [k17]
      clear k17 e17
      rw [k6]
      clear k6 e6
      rw [k5]
      clear k5 e5
      clear hT
      generalize T.getD 1 undef = u1
      generalize T.getD 2 undef = u2
      generalize T.getD 4 undef = u4
      generalize T.getD 7 undef = u7
      generalize T.getD 8 undef = u8
      generalize T.getD 9 undef = u9
      generalize T.getD 10 undef = u10
      generalize T.getD 11 undef = u11
      generalize T.getD 12 undef = u12
      generalize T.getD 13 undef = u13
      generalize T.getD 14 undef = u14
      generalize T.getD 15 undef = u15
      generalize T.getD 16 undef = u16
      generalize T.getD 18 undef = u18
      generalize T.getD 19 undef = u19
      generalize T.getD 20 undef = u20
      generalize T.getD 21 undef = u21
      generalize T.getD 22 undef = u22
      generalize T.getD 23 undef = u23
      generalize T.getD 24 undef = u24
      generalize T.getD 25 undef = u25
      generalize T.getD 26 undef = u26
      generalize T.getD 27 undef = u27
      generalize T.getD 28 undef = u28
      generalize T.getD 29 undef = u29
      generalize T.getD 30 undef = u30
      generalize T.getD 31 undef = u31
      generalize T.getD 32 undef = u32
      generalize T.getD 33 undef = u33
      generalize T.getD 34 undef = u34
      generalize T.getD 35 undef = u35
      generalize T.getD 36 undef = u36
      generalize T.getD 37 undef = u37
      generalize T.getD 38 undef = u38
      generalize T.getD 39 undef = u39
      generalize T.getD 40 undef = u40
      generalize T.getD 41 undef = u41
      generalize T.getD 42 undef = u42
      generalize T.getD 43 undef = u43
      generalize T.getD 44 undef = u44
      generalize T.getD 45 undef = u45
      generalize T.getD 46 undef = u46
      generalize T.getD 47 undef = u47
      generalize T.getD 48 undef = u48
      generalize T.getD 49 undef = u49
      generalize T.getD 50 undef = u50
      generalize T.getD 51 undef = u51
      generalize T.getD 52 undef = u52
      generalize T.getD 53 undef = u53
      generalize T.getD 54 undef = u54
      generalize T.getD 55 undef = u55
      generalize T.getD 56 undef = u56
      generalize T.getD 57 undef = u57
      generalize T.getD 58 undef = u58
      generalize T.getD 59 undef = u59
      generalize T.getD 60 undef = u60
      generalize T.getD 61 undef = u61
      generalize T.getD 62 undef = u62
      generalize T.getD 63 undef = u63
      generalize T.getD 64 undef = u64
      generalize T.getD 65 undef = u65
      generalize T.getD 66 undef = u66
      generalize T.getD 67 undef = u67
      generalize T.getD 68 undef = u68
      generalize T.getD 69 undef = u69
      generalize T.getD 70 undef = u70
      generalize T.getD 71 undef = u71
      generalize T.getD 72 undef = u72
      generalize T.getD 73 undef = u73
      generalize T.getD 74 undef = u74
      generalize T.getD 75 undef = u75
      generalize T.getD 76 undef = u76
      generalize T.getD 77 undef = u77
      generalize T.getD 78 undef = u78
      generalize T.getD 79 undef = u79
      generalize T.getD 80 undef = u80
      generalize T.getD 81 undef = u81
      generalize T.getD 82 undef = u82
      generalize T.getD 83 undef = u83
      generalize T.getD 84 undef = u84
      generalize T.getD 85 undef = u85
      generalize T.getD 86 undef = u86
      generalize T.getD 87 undef = u87
      generalize T.getD 88 undef = u88
      generalize T.getD 89 undef = u89
      generalize T.getD 90 undef = u90
      generalize T.getD 91 undef = u91
      generalize T.getD 92 undef = u92
      generalize T.getD 93 undef = u93
      generalize T.getD 94 undef = u94
      generalize T.getD 95 undef = u95
      generalize T.getD 96 undef = u96
      generalize T.getD 97 undef = u97
      generalize T.getD 98 undef = u98
      generalize T.getD 99 undef = u99
      generalize T.getD 100 undef = u100
      generalize T.getD 101 undef = u101
      generalize T.getD 102 undef = u102
      generalize T.getD 103 undef = u103
      generalize T.getD 104 undef = u104
      generalize T.getD 105 undef = u105
      generalize T.getD 106 undef = u106
      generalize T.getD 107 undef = u107
      generalize T.getD 108 undef = u108
      generalize T.getD 109 undef = u109
      generalize T.getD 110 undef = u110
      generalize T.getD 111 undef = u111
      generalize T.getD 112 undef = u112
      generalize T.getD 113 undef = u113
      generalize T.getD 114 undef = u114
      generalize T.getD 115 undef = u115
      generalize T.getD 116 undef = u116
      generalize T.getD 117 undef = u117
      generalize T.getD 118 undef = u118
      generalize T.getD 119 undef = u119
      generalize T.getD 120 undef = u120
      generalize T.getD 121 undef = u121
      generalize T.getD 122 undef = u122
      generalize T.getD 123 undef = u123
      generalize T.getD 124 undef = u124
      generalize T.getD 125 undef = u125
      generalize T.getD 126 undef = u126
      generalize T.getD 127 undef = u127
      generalize T.getD 128 undef = u128
      generalize T.getD 129 undef = u129
      generalize T.getD 130 undef = u130
      generalize T.getD 131 undef = u131
      generalize T.getD 132 undef = u132
      generalize T.getD 133 undef = u133
      generalize T.getD 134 undef = u134
      generalize T.getD 135 undef = u135
      generalize T.getD 136 undef = u136
      generalize T.getD 137 undef = u137
      generalize T.getD 138 undef = u138
      generalize T.getD 139 undef = u139
      generalize T.getD 140 undef = u140
      generalize T.getD 141 undef = u141
      generalize T.getD 142 undef = u142
      generalize T.getD 143 undef = u143
      generalize T.getD 144 undef = u144
      generalize T.getD 145 undef = u145
      generalize T.getD 146 undef = u146
      have HBR := Lib.hid (below_on (B := w2.heap.size) (Below.drew (Below.refl _ _)) hR (Nat.le_refl _))
      have HR7 := Lib.hid r7
      clear hR r7
      go_wp2_with fail
      go_loopw [10, 5] (fun i o wr => ∃ n : Nat, n ≤ nl ∧ i = .int .i64 n ∧ Hid (Below w2.heap.size w2 wr ∧ wr.ownsRow w2.heap.size 9 1 o (2 + n) (([A, M] ++ decS (d.nums.take n)).map .string))) (fun i _ _ => nl - (intOf i).toNat)
      case atStart => exact ⟨0, Nat.zero_le _, rfl, HBR.out, HR7.out⟩
      case round =>
        obtain ⟨n, hn, rfl, hinv⟩ := hrel
        have c3 := cell_keep hinv.out.1 (HA2.out.cell 3)
        simp at c3
        by_cases hlt : n < nl
        · have hR := HD2.out.nums.below hinv.out.1 (Nat.le_refl _)
          obtain ⟨b, off, hao⟩ := hR.addr hlt
          simp only at hao
          subst hao
          have hkl : n < d.nums.length := by have := HE.out.2.2.2.1; omega
          have q1 := hR.at hlt
          rw [List.getElem_map] at q1
          have hsn := map_snoc (fun z => strOf (Lib.itoa z)) d.nums n hkl
          have hfit := HD2.out.fits _ (List.getElem_mem hkl)
          obtain ⟨z, hz⟩ : ∃ z, z = d.nums[n] := ⟨_, rfl⟩
          rw [← hz] at q1 hsn hfit
          have HCALL := Lib.hid (dec_any wr z hfit.1 hfit.2)
          have HSN := Lib.hid hsn
          clear hz hsn hR
          go_wp2_with fail
          refine HCALL.out.mono ?_
          rintro e w3 ⟨rfl, hb3⟩
          obtain ⟨i0, hi, hz0, hz1, hz2⟩ := info_parts strInfo
          have hb4 := below_on hinv.out.1 hb3 (Nat.le_refl _)
          obtain ⟨v', w5, hrun, hown5, _, hb6⟩ := append_one (P := Tryz.prog) w3 w2 w2.heap.size 30 30 9 i0 _ 16 Tryz.underlying30 hi hz0 hz1 hz2 rfl _ _ _ (owns_keep hinv.out.2 hb3) (.string ⟨(Lib.itoa z).toArray⟩) rfl (by omega) (by omega) hb4 hb4.size
          have HRUN := Lib.hid hrun
          have HOW := Lib.hid (show w5.ownsRow w2.heap.size 9 1 v' (2 + (n + 1)) (([A, M] ++ decS (d.nums.take (n + 1))).map .string) by
            unfold decS
            rw [HSN.out, List.map_append, List.map_append, ← List.append_assoc, ← List.map_append]
            exact hown5)
          have HB6 := Lib.hid hb6
          clear hrun hown5 hb6 hi hz0 hz1 hz2 hb3 hb4
          go_wp2_with (at_builtin; refine wpList_append_run rfl _ _ _ rfl _ _ rfl rfl HRUN.out ?_)
          go_roundw
          case rel => exact ⟨n + 1, by omega, by go_num, HB6.out, HOW.out⟩
          case measure => simp [intOf]; omega
        · have hall : d.nums.take n = d.nums := List.take_of_length_le (by have := HE.out.2.2.2.1; omega)
          have hi2 := hinv.out
          rw [hall] at hi2
          obtain rfl : n = nl := by omega
          have HI := Lib.hid hi2
          have HBF := Lib.hid (below_on HB2.out hi2.1 (Nat.le_refl _))
          clear hall hi2 hinv
          go_wp2_with fail
          go_ret
          exact res_owns HW.out HI.out.2 (by simp [decS]; have := HE.out.2.2.2.1; omega) (by omega) HALL.out HBF.out
    refine soup_cons rfl rfl (fun a W hR hS hdep K hK => ?_) ?_
    · have e3 : a.tmps[3]?.getD undef = .pointer (some ⟨w.heap.size, 0, none⟩) := slot_of (hS.keep 3 (by kernel_rfl))
      go_simp
      exact hK _ _ (Below.refl _ _) rfl
    refine soup_cons rfl rfl (fun a W hR hS hdep K hK => ?_) ?_
    · have e90 : a.tmps[90]?.getD undef = .pointer (some ⟨w.heap.size, 1, none⟩) := slot_of (hdep 0 (by decide +kernel))
      have q1 := cell_keep hR HC1.out
      go_simp
      exact hK _ _ (Below.refl _ _) rfl
    refine soup_cons rfl rfl (fun a W hR hS hdep K hK => ?_) ?_
    · have e91 : a.tmps[91]?.getD undef = .slice ha hl hc := slot_of (hdep 1 (by decide +kernel))
      have hbW := below_on (B := w2.heap.size) (Below.drew (Below.refl _ _)) hR (Nat.le_refl _)
      go_simp
      refine (rftext_any W ha hl hc d.host (HD2.out.host.below hbW (Nat.le_refl _)) HSZA.out).mono ?_
      rintro e W' ⟨rfl, hb⟩
      exact hK _ _ hb (congrArg Value.string HEA.out.symm)
    refine soup_cons rfl rfl (fun a W hR hS hdep K hK => ?_) ?_
    · have e3 : a.tmps[3]?.getD undef = .pointer (some ⟨w.heap.size, 0, none⟩) := slot_of (hS.keep 3 (by kernel_rfl))
      go_simp
      exact hK _ _ (Below.refl _ _) rfl
    refine soup_cons rfl rfl (fun a W hR hS hdep K hK => ?_) ?_
    · have e93 : a.tmps[93]?.getD undef = .pointer (some ⟨w.heap.size, 2, none⟩) := slot_of (hdep 3 (by decide +kernel))
      have q1 := cell_keep hR HC2.out
      go_simp
      exact hK _ _ (Below.refl _ _) rfl
    refine soup_cons rfl rfl (fun a W hR hS hdep K hK => ?_) ?_
    · have e94 : a.tmps[94]?.getD undef = .slice ma ml mc := slot_of (hdep 4 (by decide +kernel))
      have hbW := below_on (B := w2.heap.size) (Below.drew (Below.refl _ _)) hR (Nat.le_refl _)
      go_simp
      refine (rftext_any W ma ml mc d.mail (HD2.out.mail.below hbW (Nat.le_refl _)) HSZM.out).mono ?_
      rintro e W' ⟨rfl, hb⟩
      exact hK _ _ hb (congrArg Value.string HEM.out.symm)
    refine soup_cons rfl rfl (fun a W hR hS hdep K hK => ?_) ?_
    · have e92 : a.tmps[92]?.getD undef = .string A := slot_of (hdep 2 (by decide +kernel))
      have e95 : a.tmps[95]?.getD undef = .string M := slot_of (hdep 5 (by decide +kernel))
      have hzz := hR.size
      go_simp
      exact hK _ _ ((Below.refl _ _).alloc (Nat.le_refl _) _) ⟨_, rfl, owns_mono (World.ownsRow_lit W #[.string A, .string M] 2 (Nat.le_refl _) (by unfold maxLen; omega) rfl) hzz⟩
    refine soup_cons rfl rfl (fun a W hR hS hdep K hK => ?_) ?_
    · obtain ⟨g, q, r6⟩ := hdep 6 (by decide +kernel)
      have e96 : a.tmps[96]?.getD undef = .slice (some ⟨g, 0, none⟩) 2 2 := slot_of (q)
      clear q
      go_simp
      exact hK _ _ (Below.refl _ _) ⟨_, rfl, r6⟩
    exact fun j h1 h2 => absurd h1 (by simp only [List.size_toArray, List.length_cons, List.length_nil]; omega)
  · have hsd := data_33 HV.out
    have HSZ := Lib.hid (show 8 * sizeN d.host + 2 ≤ 70368744177664 by have := sound_size hsd; omega)
    have HW := Lib.hid (HU.out.trans (wordsL_host (by omega)))
    have HSM := Lib.hid (ftext_small hsd)
    clear hsd
    go_wp2_with fail
    go_loopw [10, 5] (fun i o wr => ∃ n : Nat, n ≤ nl ∧ i = .int .i64 n ∧ Hid (Below w2.heap.size w2 wr ∧ wr.ownsRow w2.heap.size 9 1 o (0 + n) (([] ++ decS (d.nums.take n)).map .string))) (fun i _ _ => nl - (intOf i).toNat)
    case atStart => exact ⟨0, Nat.zero_le _, rfl, Below.refl _ _, World.ownsRow_nil _ _ _ _⟩
    case round =>
      obtain ⟨n, hn, rfl, hinv⟩ := hrel
      have c3 := cell_keep hinv.out.1 (HA2.out.cell 3)
      simp at c3
      by_cases hlt : n < nl
      · have hR := HD2.out.nums.below hinv.out.1 (Nat.le_refl _)
        obtain ⟨b, off, hao⟩ := hR.addr hlt
        simp only at hao
        subst hao
        have hkl : n < d.nums.length := by have := HE.out.2.2.2.1; omega
        have q1 := hR.at hlt
        rw [List.getElem_map] at q1
        have hsn := map_snoc (fun z => strOf (Lib.itoa z)) d.nums n hkl
        have hfit := HD2.out.fits _ (List.getElem_mem hkl)
        obtain ⟨z, hz⟩ : ∃ z, z = d.nums[n] := ⟨_, rfl⟩
        rw [← hz] at q1 hsn hfit
        have HCALL := Lib.hid (dec_any wr z hfit.1 hfit.2)
        have HSN := Lib.hid hsn
        clear hz hsn hR
        go_wp2_with fail
        refine HCALL.out.mono ?_
        rintro e w3 ⟨rfl, hb3⟩
        obtain ⟨i0, hi, hz0, hz1, hz2⟩ := info_parts strInfo
        have hb4 := below_on hinv.out.1 hb3 (Nat.le_refl _)
        obtain ⟨v', w5, hrun, hown5, _, hb6⟩ := append_one (P := Tryz.prog) w3 w2 w2.heap.size 30 30 9 i0 _ 16 Tryz.underlying30 hi hz0 hz1 hz2 rfl _ _ _ (owns_keep hinv.out.2 hb3) (.string ⟨(Lib.itoa z).toArray⟩) rfl (by omega) (by omega) hb4 hb4.size
        have HRUN := Lib.hid hrun
        have HOW := Lib.hid (show w5.ownsRow w2.heap.size 9 1 v' (0 + (n + 1)) (([] ++ decS (d.nums.take (n + 1))).map .string) by
          unfold decS
          rw [HSN.out, List.map_append, List.map_append, ← List.append_assoc, ← List.map_append]
          exact hown5)
        have HB6 := Lib.hid hb6
        clear hrun hown5 hb6 hi hz0 hz1 hz2 hb3 hb4
        go_wp2_with (at_builtin; refine wpList_append_run rfl _ _ _ rfl _ _ rfl rfl HRUN.out ?_)
        go_roundw
        case rel => exact ⟨n + 1, by omega, by go_num, HB6.out, HOW.out⟩
        case measure => simp [intOf]; omega
      · have hall : d.nums.take n = d.nums := List.take_of_length_le (by have := HE.out.2.2.2.1; omega)
        have hi2 := hinv.out
        rw [hall] at hi2
        obtain rfl : n = nl := by omega
        have HI := Lib.hid hi2
        have HBF := Lib.hid (below_on HB2.out hi2.1 (Nat.le_refl _))
        clear hall hi2 hinv
        have c1 := cell_keep HI.out.1 (HA2.out.cell 1)
        simp at c1
        have HCALL := Lib.hid (rftext_any wr ha hl hc d.host (HD2.out.host.below HI.out.1 (Nat.le_refl _)) HSZ.out)
        go_wp2_with fail
        refine HCALL.out.mono ?_
        rintro e w4 ⟨rfl, hb4⟩
        obtain ⟨i0, hi, hz0, hz1, hz2⟩ := info_parts strInfo
        have hb5 := below_on HI.out.1 hb4 (Nat.le_refl _)
        obtain ⟨v', w5, hrun, hown5, _, hb6⟩ := append_one (P := Tryz.prog) w4 w2 w2.heap.size 30 30 9 i0 _ 16 Tryz.underlying30 hi hz0 hz1 hz2 rfl _ _ _ (owns_keep HI.out.2 hb4) (.string ⟨(ftextP d.host).toArray⟩) rfl (by omega) (by omega) hb5 hb5.size
        have HRUN := Lib.hid hrun
        have HOW := Lib.hid (show w5.ownsRow w2.heap.size 9 1 v' (0 + n + 1) ((decS d.nums ++ [strOf (ftextP d.host)]).map .string) by
          rw [List.map_append]
          exact hown5)
        have HB6 := Lib.hid (below_on HB2.out hb6 (Nat.le_refl _))
        clear hrun hown5 hb6 hi hz0 hz1 hz2 hb4 hb5
        go_wp2_with (at_builtin; refine wpList_append_run rfl _ _ _ rfl _ _ rfl rfl HRUN.out ?_)
        go_ret
        exact res_owns HW.out HOW.out (by simp [decS]; exact HE.out.2.2.2.1) (by omega) (by
          intro s hs
          rcases List.mem_append.1 hs with h | h
          · exact decS_small HD2.out.fits s h
          · simp at h; rw [h]; exact HSM.out) HB6.out
  · go_wp2_with fail
    go_loopw [9, 5] (fun i o wr => ∃ n : Nat, n ≤ tl ∧ i = .int .i64 n ∧ Hid (Below w2.heap.size w2 wr ∧ wr.ownsRow w2.heap.size 9 1 o n ((quoS (d.texts.take n)).map .string))) (fun i _ _ => tl - (intOf i).toNat)
    case atStart => exact ⟨0, Nat.zero_le _, rfl, Below.refl _ _, World.ownsRow_nil _ _ _ _⟩
    case round =>
      obtain ⟨m, hm, rfl, hinv⟩ := hrel
      have c4 := cell_keep hinv.out.1 (HA2.out.cell 4)
      simp at c4
      by_cases hlt : m < tl
      · have hR := HD2.out.texts.below hinv.out.1 (Nat.le_refl _)
        obtain ⟨b, off, hao⟩ := hR.row.addr hlt
        simp only at hao
        subst hao
        have hkl : m < d.texts.length := by have := HE.out.2.2.2.2; omega
        have q1 := hR.at hlt
        have hsn := map_snoc (fun t : ByteArray => strOf (quotedP t.data.toList)) d.texts m hkl
        have hsz := HLT.out.text _ (List.getElem_mem hkl)
        obtain ⟨z, hz⟩ : ∃ z, z = d.texts[m] := ⟨_, rfl⟩
        rw [← hz] at q1 hsn hsz
        have HCALL := Lib.hid (rquoted_any wr z (by omega))
        have HSN := Lib.hid hsn
        clear hz hsn hR
        go_wp2_with fail
        refine HCALL.out.mono ?_
        rintro e w4 ⟨rfl, hb3⟩
        obtain ⟨i0, hi, hz0, hz1, hz2⟩ := info_parts strInfo
        have hb4 := below_on hinv.out.1 hb3 (Nat.le_refl _)
        obtain ⟨v', w5, hrun, hown5, _, hb6⟩ := append_one (P := Tryz.prog) w4 w2 w2.heap.size 30 30 9 i0 _ 16 Tryz.underlying30 hi hz0 hz1 hz2 rfl _ _ _ (owns_keep hinv.out.2 hb3) (.string ⟨(quotedP z.data.toList).toArray⟩) rfl (by omega) (by omega) hb4 hb4.size
        have HRUN := Lib.hid hrun
        have HOW := Lib.hid (show w5.ownsRow w2.heap.size 9 1 v' (m + 1) ((quoS (d.texts.take (m + 1))).map .string) by
          unfold quoS
          rw [HSN.out, List.map_append]
          exact hown5)
        have HB6 := Lib.hid hb6
        clear hrun hown5 hb6 hi hz0 hz1 hz2 hb3 hb4
        go_wp2_with (at_builtin; refine wpList_append_run rfl _ _ _ rfl _ _ rfl rfl HRUN.out ?_)
        go_roundw
        case rel => exact ⟨m + 1, by omega, by go_num, HB6.out, HOW.out⟩
        case measure => simp [intOf]; omega
      · have hall : d.texts.take m = d.texts := List.take_of_length_le (by have := HE.out.2.2.2.2; omega)
        have hi2 := hinv.out
        rw [hall] at hi2
        obtain rfl : m = tl := by omega
        have HI := Lib.hid hi2
        have HBF := Lib.hid (below_on HB2.out hi2.1 (Nat.le_refl _))
        have hsm := Lib.hid (quoS_small HLT.out.text)
        clear hall hi2 hinv
        go_wp2_with fail
        go_ret
        exact res_owns (HU.out.trans wordsL_16) HI.out.2 (by simp [quoS]; exact HE.out.2.2.2.2) (by omega) hsm.out HBF.out
  · have HWO := Lib.hid (HU.out.trans (congrArg _ (wordsL_other hk)))
    obtain ⟨a1, a2, a3, a4, a5, a6, a7, a8, a9⟩ := hk
    have g1 : (k == 1) = false := by rw [beq_eq_false_iff_ne]; exact a1
    have g2 : (k == 28) = false := by rw [beq_eq_false_iff_ne]; exact a2
    have g3 : (k == 2) = false := by rw [beq_eq_false_iff_ne]; exact a3
    have g4 : (k == 5) = false := by rw [beq_eq_false_iff_ne]; exact a4
    have g5 : (k == 12) = false := by rw [beq_eq_false_iff_ne]; exact a5
    have g6 : (k == 15) = false := by rw [beq_eq_false_iff_ne]; exact a6
    have g7 : (k == 6) = false := by rw [beq_eq_false_iff_ne]; exact a7
    have g8 : (k == 33) = false := by rw [beq_eq_false_iff_ne]; exact a8
    have g9 : (k == 16) = false := by rw [beq_eq_false_iff_ne]; exact a9
    clear a1 a2 a3 a4 a5 a6 a7 a8 a9
    have hbl : bl ≤ 3000 := by have := HLT.out.bytes; have := HE.out.1; omega
    have HDC := Lib.hid (dec_any w2 (bl : Int) (by omega) (by omega))
    have hil := itoa_nat_len bl (by omega)
    obtain ⟨I, hI⟩ : ∃ I : ByteArray, I = strOf (Lib.itoa (bl : Int)) := ⟨_, rfl⟩
    have hIs : I.size ≤ 20 := by rw [hI]; show (Lib.itoa (bl : Int)).toArray.size ≤ 20; simpa using hil
    have HI := Lib.hid (show (⟨(Lib.itoa (bl : Int)).toArray⟩ : ByteArray) = I from hI.symm)
    have HSL := Lib.hid (show ∀ s ∈ [(⟨#[92, 35]⟩ : ByteArray), I], s.size ≤ 9223372036854775807 by
      intro s hs
      simp at hs
      rcases hs with rfl | rfl
      · decide
      · omega)
    rw [HI.out] at HDC
    have HIE := Lib.hid hI
    clear hil hI
    go_wp2_with fail
    refine HDC.out.mono ?_
    rintro e w3 ⟨rfl, hb3⟩
    have HB3 := Lib.hid hb3
    have HRL := Lib.hid (row_lit w3 [.string ⟨#[92, 35]⟩, .string I] 9 (by simp))
    have HOW := Lib.hid (World.ownsRow_lit w3 #[.string ⟨#[92, 35]⟩, .string I] 2 (Nat.le_refl _) (by unfold maxLen; omega) rfl : (w3.alloc (.cells #[.string ⟨#[92, 35]⟩, .string I] 9)).ownsRow w3.heap.size 9 1 (.slice (some ⟨w3.heap.size, 0, none⟩) 2 2) 2 [.string ⟨#[92, 35]⟩, .string I])
    have HBA := Lib.hid ((Below.refl w3.heap.size w3).alloc (Nat.le_refl _) (.cells #[.string ⟨#[92, 35]⟩, .string I] 9))
    clear hb3
    by_cases h0 : bl = 0
    · subst h0
      have hraw : Hid (us = [(⟨#[92, 35]⟩ : ByteArray), I]) := by
        have hn : d.bytes.length = 0 := HE.out.1
        show us = _
        rw [HWO.out]
        simp only [rawP, hn, if_pos, List.append_nil, List.map_cons, List.map_nil]
        rw [HIE.out]
        rfl
      go_wp2_with fail
      go_ret
      exact res_row (ss := [(⟨#[92, 35]⟩ : ByteArray), I]) hraw.out HRL.out HSL.out (below_on HB2.out (below_on HB3.out HBA.out (Nat.le_refl _)) (Nat.le_refl _))
    · have hraw : Hid (us = [(⟨#[92, 35]⟩ : ByteArray), I] ++ [strOf (hexB d.bytes)]) := by
        have hn : ¬ d.bytes.length = 0 := by have := HE.out.1; omega
        show us = _
        rw [HWO.out]
        simp only [rawP, if_neg hn, List.map_append, List.map_cons, List.map_nil]
        rw [HIE.out, HE.out.1]
        rfl
      have hq : decide ((0 : Int) < (bl : Int)) = true := by rw [decide_eq_true_eq]; omega
      have hpos : 0 < bl := by omega
      have hpos2 : (0 : Int) < (bl : Int) := by omega
      have HHX := Lib.hid (hexa_any _ ba bl bc d.bytes ((HD2.out.bytes.below HB3.out (Nat.le_refl _)).below HBA.out (Nat.le_refl _)) (by omega))
      clear h0
      go_wp2_with fail
      refine HHX.out.mono ?_
      rintro e w4 ⟨rfl, hb4⟩
      obtain ⟨i0, hi, hz0, hz1, hz2⟩ := info_parts strInfo
      have hb5 := below_on HBA.out hb4 (by have := HBA.out.size; omega)
      obtain ⟨v', w5, hrun, hown5, _, hb6⟩ := append_one (P := Tryz.prog) w4 w3 w3.heap.size 30 30 9 i0 _ 16 Tryz.underlying30 hi hz0 hz1 hz2 rfl _ _ _ (owns_keep HOW.out hb4) (.string ⟨(hexB d.bytes).toArray⟩) rfl (by omega) (by omega) hb5 hb5.size
      have HRUN := Lib.hid hrun
      have HOW5 := Lib.hid (show w5.ownsRow w3.heap.size 9 1 v' (2 + 1) (([(⟨#[92, 35]⟩ : ByteArray), I] ++ [strOf (hexB d.bytes)]).map .string) from hown5)
      have HB6 := Lib.hid (below_on HB2.out (below_on HB3.out hb6 (Nat.le_refl _)) (Nat.le_refl _))
      clear hrun hown5 hb6 hi hz0 hz1 hz2 hb4 hb5
      go_wp2_with (at_builtin; refine wpList_append_run rfl _ _ _ rfl _ _ rfl rfl HRUN.out ?_)
      go_ret
      exact res_owns hraw.out HOW5.out rfl (by omega) (by
        intro s hs
        rcases List.mem_append.1 hs with h | h
        · exact HSL.out s h
        · simp at h
          rw [h]
          show (hexB d.bytes).toArray.size ≤ _
          have := hexB_len d.bytes
          have := HE.out.1
          simp
          omega) HB6.out
end
end Go.Proofs.YtipbakdodbmfjaaGreatDoor

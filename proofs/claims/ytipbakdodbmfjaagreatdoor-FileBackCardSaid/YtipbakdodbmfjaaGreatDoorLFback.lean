/- The law FileBack returns true for every input and leaves its arguments as they were; no condition, the package-level tables that it reads tied to the program's text. -/
import Derived.Test.YtipbakdodbmfjaaGreatDoorAns25
import Derived.Test.YtipbakdodbmfjaaGreatDoorReadm
import Derived.Test.YtipbakdodbmfjaaGreatDoorWrap
import Derived.Test.YtipbakdodbmfjaaGreatDoorErrs
import Derived.Test.YtipbakdodbmfjaaGreatDoorOpen
import Derived.Test.YtipbakdodbmfjaaGreatDoorRows
import Derived.Test.YtipbakdodbmfjaaGreatDoorCards
import Derived.Test.YtipbakdodbmfjaaGreatDoorTie
import Derived.SevenTiedAt
import Derived.LaidMore
import Derived.Stop.Joined
import Derived.Stop.LaidErr
import Derived.Lib.LaidTab
import Derived.MakeChecks
import Derived.Lay
import Derived.WalkKit
import Derived.ProofKit
import Derived.OpenShut
import Derived.Below
namespace Go.Proofs.YtipbakdodbmfjaaGreatDoor.fileBack
open Go.ChangeShapes Go.WideShapes Go.ChangeAt Go.RowKit
open Go.ChangeMaps (open_string shut_string)
set_option linter.unusedVariables false

/-- what the walk reads -/
theorem env_of {W : World} (hL : laidMetH Tryz.prog Rows.fileBackRow.laid W) (hM : ∃ m, W.cell? ⟨1, 0, none⟩ = some (.int .i64 m)) : Env W ∧ Types W ∧ Bru W := by
  rw [MakeChecks.laidMetH_plain _ _ _ (by kernel_rfl)] at hL
  refine ⟨⟨Lib.tabIs_of_head (g := 2) (by kernel_rfl) (by kernel_rfl) Tryz.underlying199 Tryz.underlying58 (by kernel_rfl) (by kernel_rfl) hL.tail.tail,
    ⟨err_cell hL.tail.tail.tail.tail.tail (by kernel_rfl) (by kernel_rfl), err_cell hL.tail.tail.tail.tail (by kernel_rfl) (by kernel_rfl)⟩, hM⟩, types_of_laid hL.tail.tail.tail.tail.tail.tail, ?_⟩
  have h := hL.tail
  have ht : Lib.TabIs Tryz.prog W "math/bits.deBruijn64tab" IntKind.u8 [0, 1, 56, 2, 57, 49, 28, 3, 61, 58, 42, 50, 38, 29, 17, 4, 62, 47, 59, 36, 45, 43, 51, 22, 53, 39, 33, 30, 24, 18, 12, 5, 63, 55, 48, 27, 60, 41, 37, 16, 46, 35, 44, 21, 52, 32, 23, 11, 54, 26, 40, 15, 34, 20, 31, 10, 25, 14, 19, 9, 13, 8, 7, 6] :=
    Lib.tabIs_of_head (g := 8) (by kernel_rfl) (by kernel_rfl) Tryz.underlying221 Tryz.underlying5 (by kernel_rfl) (by kernel_rfl) h
  exact ht.cell (g := 8) (by kernel_rfl) 15 (by decide)
set_option maxHeartbeats 16000000 in
set_option maxRecDepth 100000 in
theorem walk (a0 : Int) (x1 : DataP) (dh1 : DataH) (a2 : Option Addr) (l2 c2 : Nat) (s2 : List ByteArray) (W : World) (w0 : (Lit.int .i64 a0).wf = true) (sx1 : IsData W dh1 x1) (w2 : Strs W a2 l2 c2 s2) (b2 : c2 * 16 ≤ 140737488355328) (hL : laidMetH Tryz.prog Rows.fileBackRow.laid W) (hM : ∃ m, W.cell? ⟨1, 0, none⟩ = some (.int .i64 m)) :
    Calls Tryz.prog 5 #[.int .i64 a0, .agg (dataC dh1), .slice a2 l2 c2] W fun e w' => e = .returned (.bool true) ∧ Below W.heap.size W w' := by
  have hES := env_of hL hM
  have HE := Lib.hid hES.1
  have HT := Lib.hid hES.2.1
  have HB := Lib.hid hES.2.2
  have hwa : Below W.heap.size W (W.alloc (.cells (dataC dh1) 33)) := (Below.refl _ _).alloc (Nat.le_refl _) _
  have hA : Blk (W.alloc (.cells (dataC dh1) 33)) W.heap.size (dataC dh1) 33 := heap_alloc_new W _
  have HWA := Lib.hid hwa
  have HA := Lib.hid hA
  have HD := Lib.hid sx1
  have HO := Lib.hid w2
  have holen := w2.len
  have hofit := b2
  have hole := w2.row.hle
  have hocap := w2.row.hcap
  have HLG := Lib.hid (fun (w' : World) (h : IsData w' dh1 x1) => light_any w' dh1 x1 h)
  have HRD := Lib.hid (fun (w' : World) (h : IsData w' dh1 x1) => rdata_any w' a0 dh1 x1 h)
  have HRS := Lib.hid (fun (w' : World) (h : Strs w' a2 l2 c2 s2) => rsound_any w' a2 l2 c2 s2 h)
  have HAN := Lib.hid (fun w' (h1 : Env w') (h2 : Types w') => answers25_any w' h1 h2)
  obtain ⟨L, hLe⟩ : ∃ L, L = lightB x1 := ⟨_, rfl⟩
  obtain ⟨SO, hSe⟩ : ∃ L, L = soundB s2 := ⟨_, rfl⟩
  obtain ⟨DD, hDe⟩ : ∃ L, L = dataB a0 x1 := ⟨_, rfl⟩
  rw [← hLe] at HLG
  rw [← hSe] at HRS
  rw [← hDe] at HRD
  have HLL := Lib.hid hLe
  have HSL := Lib.hid hSe
  have HDL := Lib.hid hDe
  clear hL hM hES w0 hwa hA sx1 w2 b2 hLe hSe hDe
  obtain ⟨ba, bl, bc, ha, hl, hc, ma, ml, mc, na, nl, nc, ta, tl, tc⟩ := dh1
  simp only [dataC] at HWA HA HLG HRD
  go_enter Tryz.func5, Tryz.ntmps5
  simp only [dataC]
  go_wp2_with fail
  refine (HAN.out _ (HE.out.on HWA.out) (HT.out.on HWA.out)).mono ?_
  rintro e w2 ⟨rfl, hb2⟩
  have HB2 := Lib.hid (below_on HWA.out hb2 (Nat.le_refl _))
  have HA2 := Lib.hid (HA.out.on hb2)
  have c0 := HA2.out.cell 0
  have c1 := HA2.out.cell 1
  have c2 := HA2.out.cell 2
  have c3 := HA2.out.cell 3
  have c4 := HA2.out.cell 4
  simp at c0 c1 c2 c3 c4
  clear hb2 HA HWA
  go_wp2_with fail
  clear c0 c1 c2 c3 c4
  refine (HLG.out _ (HD.out.on HB2.out)).mono ?_
  rintro e w4 ⟨rfl, hb4⟩
  have HA4 := Lib.hid (HA2.out.on hb4)
  have HB4 := Lib.hid (below_on HB2.out hb4 (Nat.le_refl _))
  have HD4 := Lib.hid (HD.out.on HB4.out)
  have HE4 := Lib.hid (HE.out.on HB4.out)
  have HT4 := Lib.hid (HT.out.on HB4.out)
  have HBU := Lib.hid (HB.out.on HB4.out)
  have HO4 := Lib.hid (HO.out.below HB4.out (Nat.le_refl _))
  clear hb4 HA2 HB2 HD HE HT HB HLG HO
  cases L
  · go_wp2_with fail
    refine (HAN.out _ HE4.out HT4.out).mono ?_
    rintro e w9 ⟨rfl, hb9⟩
    go_wp2_with fail
    go_ret
    exact ⟨rfl, below_on HB4.out hb9 (Nat.le_refl _)⟩
  by_cases h130 : 130 < l2
  · have d3 : decide ((130 : Int) < (l2 : Int)) = true := by rw [decide_eq_true_eq]; omega
    go_wp2_with fail
    refine (HAN.out _ HE4.out HT4.out).mono ?_
    rintro e w9 ⟨rfl, hb9⟩
    go_wp2_with fail
    go_ret
    exact ⟨rfl, below_on HB4.out hb9 (Nat.le_refl _)⟩
  have d3 : decide ((130 : Int) < (l2 : Int)) = false := by rw [decide_eq_false_iff_not]; omega
  go_wp2_with fail
  refine (HRS.out _ HO4.out).mono ?_
  rintro e w5 ⟨rfl, rfl⟩
  cases SO
  · go_wp2_with fail
    refine (HAN.out _ HE4.out HT4.out).mono ?_
    rintro e w9 ⟨rfl, hb9⟩
    go_wp2_with fail
    go_ret
    exact ⟨rfl, below_on HB4.out hb9 (Nat.le_refl _)⟩
  have c0 := HA4.out.cell 0
  have c1 := HA4.out.cell 1
  have c2 := HA4.out.cell 2
  have c3 := HA4.out.cell 3
  have c4 := HA4.out.cell 4
  simp at c0 c1 c2 c3 c4
  go_wp2_with fail
  clear c0 c1 c2 c3 c4
  refine (HRD.out _ HD4.out).mono ?_
  rintro e w6 ⟨rfl, hb6⟩
  have HA6 := Lib.hid (HA4.out.on hb6)
  have HB6 := Lib.hid (below_on HB4.out hb6 (Nat.le_refl _))
  have HD6 := Lib.hid (HD4.out.on hb6)
  have HE6 := Lib.hid (HE4.out.on hb6)
  have HT6 := Lib.hid (HT4.out.on hb6)
  have HBU6 := Lib.hid (HBU.out.on hb6)
  have HO6 := Lib.hid (HO4.out.below hb6 (Nat.le_refl _))
  clear hb6 HA4 HB4 HD4 HE4 HT4 HBU HO4 HRD HRS
  cases DD
  · go_wp2_with fail
    refine (HAN.out _ HE6.out HT6.out).mono ?_
    rintro e w9 ⟨rfl, hb9⟩
    go_wp2_with fail
    go_ret
    exact ⟨rfl, below_on HB6.out hb9 (Nat.le_refl _)⟩
  have HLI := Lib.hid (light_data HLL.out.symm)
  have c0 := HA6.out.cell 0
  have c1 := HA6.out.cell 1
  have c2 := HA6.out.cell 2
  have c3 := HA6.out.cell 3
  have c4 := HA6.out.cell 4
  simp at c0 c1 c2 c3 c4
  have HOW := Lib.hid (own_any w6 ⟨ba, bl, bc, ha, hl, hc, ma, ml, mc, na, nl, nc, ta, tl, tc⟩ x1 HD6.out HLI.out)
  simp only [dataC] at HOW
  go_wp2_with fail
  clear c0 c1 c2 c3 c4
  refine HOW.out.mono ?_
  rintro e w7 ⟨kk, rfl, hk7, _, hb7⟩
  have HFW := Lib.hid (fwords_any w7 a0 kk x1 hk7 HLI.out (HE6.out.on hb7).tab (HBU6.out.on hb7))
  simp only [dataC] at HFW
  have HB7 := Lib.hid hb7
  clear hb7 hk7 HOW
  go_wp2_with fail
  refine HFW.out.mono ?_
  rintro e w8 ⟨ao, cp, rfl, hst8, hb8⟩
  have hB8 := below_on HB7.out hb8 (Nat.le_refl _)
  have hba : Below w8.heap.size w8 (w8.alloc (.cells #[] 9)) := (Below.refl _ _).alloc (Nat.le_refl _) _
  have hB9 := below_on hB8 hba (Nat.le_refl _)
  obtain ⟨i0, hi, hz0, hz1, hz2⟩ := info_parts strInfo
  obtain ⟨a', c', w9, hrun, hrow, _, hb9⟩ := append_made (P := Tryz.prog) (w8.alloc (.cells #[] 9)) 30 30 9 i0 _ 16 Tryz.underlying30 hi hz0 hz1 hz2 w8.heap.size (by simp) a2 l2 c2 _ (HO6.out.below hB9 (Nat.le_refl _)).row (by omega)
  have HRUN := Lib.hid hrun
  have hB10 := below_on hB9 hb9 (Nat.le_refl _)
  have HB10 := Lib.hid hB10
  have HA10 := Lib.hid (HA6.out.on hB10)
  have HD10 := Lib.hid (HD6.out.on hB10)
  have hws := (words_some (k := a0) (d := x1) HDL.out.symm)
  rw [hws] at hst8
  have hlw : (wordsP a0 x1).length = ((wordsL a0 x1).map strOf).length := by rw [hws]
  have HFD := Lib.hid (fdata_any w9 a0 x1 ao ((wordsL a0 x1).map strOf).length cp (some a') l2 c' s2 ((hst8.below hba (Nat.le_refl _)).below hb9 (Nat.le_refl _)) ⟨hrow, HO6.out.small⟩ HSL.out.symm HDL.out.symm HLI.out HD10.out.fits (HE6.out.on hB10) (HBU6.out.on hB10))
  rw [← hlw] at HFD
  clear hrun hrow hb9 hB10 hB9 hba hB8 hb8 hst8 hi hz0 hz1 hz2 hws hlw HFW
  go_wp2_with (at_builtin; refine wpList_append_run rfl _ _ _ rfl _ _ rfl rfl HRUN.out ?_)
  refine HFD.out.mono ?_
  rintro e w11 ⟨h', rfl, his, hb11⟩
  have hb12 : Below w11.heap.size w11 (w11.alloc (.cells (dataC h') 33)) := (Below.refl _ _).alloc (Nat.le_refl _) _
  have hD12 : Blk (w11.alloc (.cells (dataC h') 33)) w11.heap.size (dataC h') 33 := heap_alloc_new w11 _
  have HD12 := Lib.hid hD12
  have hB12 := below_on hb11 hb12 (Nat.le_refl _)
  have HA12 := Lib.hid (HA10.out.on hB12)
  have HEX := Lib.hid (exact_data (w11.alloc (.cells (dataC h') 33)) h' ⟨ba, bl, bc, ha, hl, hc, ma, ml, mc, na, nl, nc, ta, tl, tc⟩ x1 (his.on hb12) (HD10.out.on hB12))
  have HBE := Lib.hid (below_on HB6.out (below_on HB10.out hB12 (Nat.le_refl _)) (Nat.le_refl _))
  simp only [dataC] at HD12 HEX HA12 HBE
  have d0 := HD12.out.cell 0
  have d1 := HD12.out.cell 1
  have d2 := HD12.out.cell 2
  have d3 := HD12.out.cell 3
  have d4 := HD12.out.cell 4
  simp at d0 d1 d2 d3 d4
  have c0 := HA12.out.cell 0
  have c1 := HA12.out.cell 1
  have c2 := HA12.out.cell 2
  have c3 := HA12.out.cell 3
  have c4 := HA12.out.cell 4
  simp at c0 c1 c2 c3 c4
  simp only [dataC]
  clear hb11 hb12 hD12 hB12 his HFD
  go_wp2_with fail
  refine HEX.out.mono ?_
  rintro e w13 ⟨rfl, hb13⟩
  go_wp2_with fail
  go_ret
  exact ⟨rfl, below_on HBE.out hb13 (Nat.le_refl _)⟩

theorem door_met (os : Os) (args : Array Value) : laidMetH Tryz.prog Rows.fileBackRow.laid ((World.laidAll Tryz.prog os Rows.fileBackRow.laid).forCall (fun _ _ => 0) ⟨#[], args, []⟩).memory := by
  rw [MakeChecks.laidMetH_plain _ _ _ (by kernel_rfl)]
  exact laidMet_laidAll _ (by kernel_rfl) (by kernel_rfl)

set_option maxHeartbeats 1000000 in
set_option maxRecDepth 100000 in
theorem lifted (os : Os) (started : os.Started) (H : Type) (enc : TypeId × Value → H) :
    ReturnsInHanded {} Tryz.checked os 5 .any (fun w args => (Rows.fileBackSpec.pre enc Tryz.prog Tryz.f5 [] false w args ∧ laidMetH Tryz.prog Rows.fileBackRow.laid w) ∧ sizedMet enc Tryz.prog Tryz.f5 (OpenSpec.ofChange Rows.fileBackSpec) false w args) (Rows.fileBackSpec.post enc Tryz.prog Tryz.f5 false true false false) := by
  refine wrap_and_shaped (C := Tryz.checked) (X := fun w _ => laidMetH Tryz.prog Rows.fileBackRow.laid w) (fun _ _ _ hh h => h.of_heap hh) own started (by kernel_rfl) Tryz.func5
    (ChangeSpec.witness_shaped (enc := enc) (C := Tryz.checked) (os := os) (X := fun w _ => laidMetH Tryz.prog Rows.fileBackRow.laid w) false (World.laidAll Tryz.prog os Rows.fileBackRow.laid) #[.int .i64 0, .agg #[.slice none 0 0, .slice none 0 0, .slice none 0 0, .slice none 0 0, .slice none 0 0], .slice none 0 0] 8 (World.laidAll_os _ _ _) (World.shaped_of_ZipB (by kernel_rfl) (by kernel_rfl)) (by kernel_rfl) (by kernel_rfl) (by kernel_rfl) (door_met os _)) ?_
  intro W base args ds gs before hval0 hW hcnd hsz0 hL hsh _
  have hval : ∀ (j : Nat) t v, Tryz.f5.params[j]? = some t → args[j]? = some v → Value.okWide Tryz.prog W .any base t v := hval0
  have hW' := hW
  obtain ⟨p, q, hA0, hV, rfl, hfz, hnd⟩ := hW
  have hA : DataW.TrodAll enc Tryz.prog W 0 (fun _ => true) true Tryz.f5.params.toList args.toList ds p := hA0
  have hsz : (DataW.weightsEach Tryz.prog (Tryz.f5.params.toList ++ Rows.fileBackSpec.plain.varTypes Tryz.prog) (ds ++ gs)).all (· ≤ reachBytes) = true := hsz0
  rw [Tryz.params5] at hA hval hsz
  obtain ⟨v0, vs0, d0, ds0, p0, q0, hargs, rfl, rfl, h0, r0⟩ := trodAll_cons hA
  obtain ⟨v1, vs1, d1, ds1, p1, q1, rfl, rfl, rfl, h1, r1⟩ := trodAll_cons r0
  obtain ⟨v2, vs2, d2, ds2, p2, q2, rfl, rfl, rfl, h2, r2⟩ := trodAll_cons r1
  obtain ⟨rfl, rfl, rfl⟩ := trodAll_nil r2
  obtain rfl : args = #[v0, v1, v2] := by cases args; simp_all
  obtain ⟨rfl, rfl⟩ := trodVars_none hV
  have k0 := h0
  have lt0 : ∀ x ∈ p0, x.block < W.heap.size := by obtain ⟨m, hm⟩ := k0; exact DataW.trod_lt m _ _ _ hm
  obtain ⟨a0, rfl, rfl, rfl, w0⟩ := open_int Tryz.underlying3 (hval 0 3 v0 rfl rfl) h0
  have k1 := h1
  have lt1 : ∀ x ∈ p1, x.block < W.heap.size := by obtain ⟨m, hm⟩ := k1; exact DataW.trod_lt m _ _ _ hm
  obtain ⟨x1, dh1, hv1, sx1⟩ := open_data_arg (hval 1 33 v1 rfl rfl) h1 (weights_at hsz (j := 1) rfl rfl)
  have k2 := h2
  have lt2 : ∀ x ∈ p2, x.block < W.heap.size := by obtain ⟨m, hm⟩ := k2; exact DataW.trod_lt m _ _ _ hm
  obtain ⟨x2, y2, z2, hsl2⟩ := okWide_slice Tryz.underlying30 (hval 2 30 v2 rfl rfl)
  obtain ⟨a2, l2, c2, s2, hv2, w2, b2⟩ := open_strs_arg Tryz.underlying30 h2 hsz (j := 2) rfl rfl ⟨_, _, _, hsl2⟩
  clear hA0 hval0
  subst hv1
  subst hv2
  refine (walk a0 x1 dh1 a2 l2 c2 s2 W w0 sx1 w2 b2 hL (max_of_shape hsh)).mono fun e W' ⟨he, bel⟩ => ?_
  subst he
  exact ⟨_, rfl, _, _, _, [], _, [], hW', trodAll_mk1 (shut_bool Tryz.underlying4 _), (trodAll_cons_mk (Below.trod laidOut (by kernel_rfl) (of_decide_eq_true (by kernel_rfl)) k0 bel lt0) (trodAll_cons_mk (Below.trod laidOut (by kernel_rfl) (of_decide_eq_true (by kernel_rfl)) k1 bel lt1) (trodAll_cons_mk (Below.trod laidOut (by kernel_rfl) (of_decide_eq_true (by kernel_rfl)) k2 bel lt2) trodAll_mk0))), rfl, bel.frame _, fun h => by cases h⟩

theorem over : Rows.fileBackRow.holds Tryz.pinned (OpenSpec.ofChange Rows.fileBackSpec) :=
  OpenClaim.holds_of_wide 5 Tryz.f5 rfl rfl rfl rfl rfl rfl rfl ⟨rfl, rfl, rfl, rfl, rfl⟩ rfl rfl rfl rfl rfl (by kernel_rfl) Tryz.func5 (by kernel_rfl)
    (of_decide_eq_true (by kernel_rfl)) (by unfold Func.isWrapper; first | (rw [if_pos (by decide +kernel)]; kernel_rfl) | (rw [if_neg (by decide +kernel)]; exact ⟨rfl, rfl⟩))
    (fun os started H enc _ => lifted os started H enc)

theorem proved : Rows.FileBackCardSaid :=
  Claim7.holds_tied_plain_at .later [] [.data, .data, .data, .data, .sentinel, .sentinel, .data, .pinned] true (true, "fab5b64761970f4e0cf9cb2320c20c52afa86df77447b640b54cc28f6a1e98a6") true
    over (fun _ h => by cases h) (by kernel_rfl) (fun _ h => by cases h) fileBack_row_tie rfl ⟨rfl, rfl⟩ (by kernel_rfl) rfl
    (fun f fn hf hfn => by
      obtain rfl : f = 5 := Option.some.inj ((show Tryz.prog.funcNamed "gazetteer/gazetteerlaw25.FileBack" = some 5 by kernel_rfl).symm.trans hf) |>.symm
      obtain rfl : fn = Tryz.f5 := (Option.some.inj (Tryz.func5.symm.trans hfn)).symm
      exact ⟨by kernel_rfl, fun j t ht => by
        rw [Tryz.params5] at ht
        have hm : t ∈ [3, 33, 30] := by simpa using Array.mem_of_getElem? ht
        have hall : ([3, 33, 30].all fun u => !Tryz.prog.wantsStandIn u) = true := by kernel_rfl
        exact (show Tryz.prog.wantsStandIn t = false by simpa using List.all_eq_true.1 hall t hm)⟩)
    (by kernel_rfl)
end Go.Proofs.YtipbakdodbmfjaaGreatDoor.fileBack

/- The law ScriptLines returns true for every input and leaves its arguments as they were; no condition, the package-level tables that it reads tied to the program's text. -/
import Derived.Test.YtipbakdodbmfjaaGreatDoorLawLine
import Derived.Test.YtipbakdodbmfjaaGreatDoorLawSame
import Derived.Test.YtipbakdodbmfjaaGreatDoorWrap
import Derived.Test.YtipbakdodbmfjaaGreatDoorErrs
import Derived.Test.YtipbakdodbmfjaaGreatDoorActs
import Derived.Test.YtipbakdodbmfjaaGreatDoorOpen
import Derived.Test.YtipbakdodbmfjaaGreatDoorRows
import Derived.Test.YtipbakdodbmfjaaGreatDoorCards
import Derived.Test.YtipbakdodbmfjaaGreatDoorTie
import Derived.SevenTiedAt
import Derived.LaidMore
import Derived.Stop.Joined
import Derived.Stop.LaidErr
import Derived.Lib.LaidTab
import Derived.MakeChecks
import Derived.Lay
import Derived.WalkKit
import Derived.ProofKit
import Derived.OpenShut
import Derived.Below
namespace Go.Proofs.YtipbakdodbmfjaaGreatDoor.scriptLines
open Go.ChangeShapes Go.WideShapes Go.ChangeAt Go.RowKit
open Go.ChangeMaps (open_string shut_string)
set_option linter.unusedVariables false

/-- what the walk reads -/
theorem env_of {W : World} (hL : laidMetH Tryz.prog Rows.scriptLinesRow.laid W) (hM : ∃ m, W.cell? ⟨1, 0, none⟩ = some (.int .i64 m)) : Env W := by
  rw [MakeChecks.laidMetH_plain _ _ _ (by kernel_rfl)] at hL
  exact ⟨Lib.tabIs_of_head (g := 2) (by kernel_rfl) (by kernel_rfl) Tryz.underlying199 Tryz.underlying58 (by kernel_rfl) (by kernel_rfl) hL.tail.tail,
    ⟨err_cell hL.tail.tail.tail.tail.tail (by kernel_rfl) (by kernel_rfl), err_cell hL.tail.tail.tail.tail (by kernel_rfl) (by kernel_rfl)⟩, hM⟩
set_option maxHeartbeats 4000000 in
set_option maxRecDepth 100000 in
theorem walk (x0 : ActP) (na0 : Option Addr) (nl0 nc0 : Nat) (da0 : Option Addr) (dl0 dc0 : Nat) (W : World) (sn0 : Strs W na0 nl0 nc0 x0.name) (sd0 : Byts W da0 dl0 dc0 x0.data) (fx0 : x0.fits) (kx0 : wfi x0.kind) (hL : laidMetH Tryz.prog Rows.scriptLinesRow.laid W) (hM : ∃ m, W.cell? ⟨1, 0, none⟩ = some (.int .i64 m)) :
    Calls Tryz.prog 7 #[.agg (actCells x0 na0 nl0 nc0 da0 dl0 dc0)] W fun e w' => e = .returned (.bool true) ∧ Below W.heap.size W w' := by
  have hE := env_of hL hM
  clear hL hM
  have hb1 : Below W.heap.size W (W.alloc (.cells (actCells x0 na0 nl0 nc0 da0 dl0 dc0) 60)) := (Below.refl _ _).alloc (Nat.le_refl _) _
  have hA : Blk (W.alloc (.cells (actCells x0 na0 nl0 nc0 da0 dl0 dc0) 60)) W.heap.size (actCells x0 na0 nl0 nc0 da0 dl0 dc0) 60 := heap_alloc_new W _
  have HE1 := Lib.hid (hE.on hb1)
  have HA := Lib.hid hA
  have HN := Lib.hid (sn0.below hb1 (Nat.le_refl _))
  have HD := Lib.hid (sd0.below hb1 (Nat.le_refl _))
  have HB1 := Lib.hid hb1
  have HFX := Lib.hid fx0
  have HDL := Lib.hid (show x0.data.length = dl0 by simpa using sd0.hlen)
  clear hb1 hA hE sn0 sd0 fx0 kx0
  obtain ⟨T, hT⟩ : ∃ z : ByteArray, z = ⟨((lineL x0).getD []).toArray⟩ := ⟨_, rfl⟩
  obtain ⟨b, hbb⟩ : ∃ z : Bool, z = (lineL x0).isSome := ⟨_, rfl⟩
  have HT := Lib.hid hT
  have HBB := Lib.hid hbb
  clear hT hbb
  go_enter Tryz.func7, Tryz.ntmps7
  simp only [actCells]
  go_wp2_with fail
  refine (answers_any _ HE1.out).mono ?_
  rintro e x1 ⟨rfl, hb⟩
  have HE2 := Lib.hid (HE1.out.on hb)
  have HA2 := Lib.hid (HA.out.on hb)
  have HN2 := Lib.hid (HN.out.below hb (Nat.le_refl _))
  have HD2 := Lib.hid (HD.out.below hb (Nat.le_refl _))
  have HB2 := Lib.hid (below_on HB1.out hb (Nat.le_refl _))
  clear hb HE1 HA HN HD HB1
  have a0 := HA2.out.cell 0
  have a1 := HA2.out.cell 1
  have a2 := HA2.out.cell 2
  have a3 := HA2.out.cell 3
  have a4 := HA2.out.cell 4
  have a5 := HA2.out.cell 5
  have a6 := HA2.out.cell 6
  have a7 := HA2.out.cell 7
  simp [actCells] at a0 a1 a2 a3 a4 a5 a6 a7
  have hlt := light_any x1 x0 na0 nl0 nc0 da0 dl0 dc0 HN2.out HD2.out
  simp only [actCells] at hlt
  have HLT := Lib.hid hlt
  clear hlt
  go_wp2_with fail
  refine HLT.out.mono ?_
  rintro e x2 ⟨rfl, hb⟩
  have HE3 := Lib.hid (HE2.out.on hb)
  have HA3 := Lib.hid (HA2.out.on hb)
  have HN3 := Lib.hid (HN2.out.below hb (Nat.le_refl _))
  have HD3 := Lib.hid (HD2.out.below hb (Nat.le_refl _))
  have HB3 := Lib.hid (below_on HB2.out hb (Nat.le_refl _))
  clear hb HE2 HA2 HN2 HD2 HB2 a0 a1 a2 a3 a4 a5 a6 a7 HLT
  cases hq : lightA x0
  · clear hq
    go_wp2_with fail
    refine (answers_any _ HE3.out).mono ?_
    rintro e x3 ⟨rfl, hb⟩
    have HB4 := Lib.hid (below_on HB3.out hb (Nat.le_refl _))
    clear hb
    go_wp2_with fail
    go_ret
    exact ⟨rfl, HB4.out⟩
  · have hfit := lightA_fit hq HFX.out
    have a0 := HA3.out.cell 0
    have a1 := HA3.out.cell 1
    have a2 := HA3.out.cell 2
    have a3 := HA3.out.cell 3
    have a4 := HA3.out.cell 4
    have a5 := HA3.out.cell 5
    have a6 := HA3.out.cell 6
    have a7 := HA3.out.cell 7
    simp [actCells] at a0 a1 a2 a3 a4 a5 a6 a7
    have hli := line_any x2 x0 na0 nl0 nc0 da0 dl0 dc0 HN3.out HD3.out hfit.light (by have := hfit.size; omega) HE3.out
    rw [line_same x0 HFX.out] at hli
    simp only [actCells] at hli
    have HLI := Lib.hid hli
    have HFIT := Lib.hid hfit
    clear hli hfit hq
    go_wp2_with fail
    refine HLI.out.mono ?_
    rintro e x3 ⟨hb, rfl⟩
    rw [← HT.out, ← HBB.out]
    have HA4 := Lib.hid (HA3.out.on hb)
    have HN4 := Lib.hid (HN3.out.below hb (Nat.le_refl _))
    have HD4 := Lib.hid (HD3.out.below hb (Nat.le_refl _))
    have HB4 := Lib.hid (below_on HB3.out hb (Nat.le_refl _))
    clear hb HA3 HN3 HD3 HB3 a0 a1 a2 a3 a4 a5 a6 a7 HLI HE3
    have a0 := HA4.out.cell 0
    have a1 := HA4.out.cell 1
    have a2 := HA4.out.cell 2
    have a3 := HA4.out.cell 3
    have a4 := HA4.out.cell 4
    have a5 := HA4.out.cell 5
    have a6 := HA4.out.cell 6
    have a7 := HA4.out.cell 7
    simp [actCells] at a0 a1 a2 a3 a4 a5 a6 a7
    have hll := lline_any x3 x0 na0 nl0 nc0 da0 dl0 dc0 HN4.out HD4.out HFX.out (by have := HFIT.out.size; omega) (by have := HFIT.out.size; have := HDL.out; omega)
    simp only [actCells] at hll
    have HLL := Lib.hid hll
    clear hll
    go_wp2_with fail
    refine HLL.out.mono ?_
    rintro e x4 ⟨hb, rfl⟩
    rw [← HT.out, ← HBB.out]
    have HB5 := Lib.hid (below_on HB4.out hb (Nat.le_refl _))
    clear hb
    have hte : (T.toList == T.toList) = true := by simp
    cases b
    · go_wp2_with fail
      go_ret
      exact ⟨rfl, HB5.out⟩
    · go_wp2_with fail
      go_ret
      exact ⟨rfl, HB5.out⟩

theorem door_met (os : Os) (args : Array Value) : laidMetH Tryz.prog Rows.scriptLinesRow.laid ((World.laidAll Tryz.prog os Rows.scriptLinesRow.laid).forCall (fun _ _ => 0) ⟨#[], args, []⟩).memory := by
  rw [MakeChecks.laidMetH_plain _ _ _ (by kernel_rfl)]
  exact laidMet_laidAll _ (by kernel_rfl) (by kernel_rfl)

set_option maxHeartbeats 1000000 in
set_option maxRecDepth 100000 in
theorem lifted (os : Os) (started : os.Started) (H : Type) (enc : TypeId × Value → H) :
    ReturnsInHanded {} Tryz.checked os 7 .any (fun w args => (Rows.scriptLinesSpec.pre enc Tryz.prog Tryz.f7 [] false w args ∧ laidMetH Tryz.prog Rows.scriptLinesRow.laid w) ∧ sizedMet enc Tryz.prog Tryz.f7 (OpenSpec.ofChange Rows.scriptLinesSpec) false w args) (Rows.scriptLinesSpec.post enc Tryz.prog Tryz.f7 false true false false) := by
  refine wrap_and_shaped (C := Tryz.checked) (X := fun w _ => laidMetH Tryz.prog Rows.scriptLinesRow.laid w) (fun _ _ _ hh h => h.of_heap hh) own started (by kernel_rfl) Tryz.func7
    (ChangeSpec.witness_shaped (enc := enc) (C := Tryz.checked) (os := os) (X := fun w _ => laidMetH Tryz.prog Rows.scriptLinesRow.laid w) false (World.laidAll Tryz.prog os Rows.scriptLinesRow.laid) #[.agg #[.int .i64 0, .int .i64 0, .int .i64 0, .int .i64 0, .slice none 0 0, .int .u64 0, .int .u64 0, .slice none 0 0]] 8 (World.laidAll_os _ _ _) (World.shaped_of_ZipB (by kernel_rfl) (by kernel_rfl)) (by kernel_rfl) (by kernel_rfl) (by kernel_rfl) (door_met os _)) ?_
  intro W base args ds gs before hval0 hW hcnd hsz0 hL hsh _
  have hval : ∀ (j : Nat) t v, Tryz.f7.params[j]? = some t → args[j]? = some v → Value.okWide Tryz.prog W .any base t v := hval0
  have hW' := hW
  obtain ⟨p, q, hA0, hV, rfl, hfz, hnd⟩ := hW
  have hA : DataW.TrodAll enc Tryz.prog W 0 (fun _ => true) true Tryz.f7.params.toList args.toList ds p := hA0
  have hsz : (DataW.weightsEach Tryz.prog (Tryz.f7.params.toList ++ Rows.scriptLinesSpec.plain.varTypes Tryz.prog) (ds ++ gs)).all (· ≤ reachBytes) = true := hsz0
  rw [Tryz.params7] at hA hval hsz
  obtain ⟨v0, vs0, d0, ds0, p0, q0, hargs, rfl, rfl, h0, r0⟩ := trodAll_cons hA
  obtain ⟨rfl, rfl, rfl⟩ := trodAll_nil r0
  obtain rfl : args = #[v0] := by cases args; simp_all
  obtain ⟨rfl, rfl⟩ := trodVars_none hV
  have k0 := h0
  have lt0 : ∀ x ∈ p0, x.block < W.heap.size := by obtain ⟨m, hm⟩ := k0; exact DataW.trod_lt m _ _ _ hm
  obtain ⟨x0, na0, nl0, nc0, da0, dl0, dc0, hv0, sn0, sd0, fx0, kx0⟩ := open_act_arg (hval 0 60 v0 rfl rfl) h0 (weights_at hsz (j := 0) rfl rfl)
  clear hA0 hval0
  subst hv0
  refine (walk x0 na0 nl0 nc0 da0 dl0 dc0 W sn0 sd0 fx0 kx0 hL (max_of_shape hsh)).mono fun e W' ⟨he, bel⟩ => ?_
  subst he
  exact ⟨_, rfl, _, _, _, [], _, [], hW', trodAll_mk1 (shut_bool Tryz.underlying4 _), (trodAll_cons_mk (Below.trod laidOut (by kernel_rfl) (of_decide_eq_true (by kernel_rfl)) k0 bel lt0) trodAll_mk0), rfl, bel.frame _, fun h => by cases h⟩

theorem over : Rows.scriptLinesRow.holds Tryz.pinned (OpenSpec.ofChange Rows.scriptLinesSpec) :=
  OpenClaim.holds_of_wide 7 Tryz.f7 rfl rfl rfl rfl rfl rfl rfl ⟨rfl, rfl, rfl, rfl, rfl⟩ rfl rfl rfl rfl rfl (by kernel_rfl) Tryz.func7 (by kernel_rfl)
    (of_decide_eq_true (by kernel_rfl)) (by unfold Func.isWrapper; first | (rw [if_pos (by decide +kernel)]; kernel_rfl) | (rw [if_neg (by decide +kernel)]; exact ⟨rfl, rfl⟩))
    (fun os started H enc _ => lifted os started H enc)

theorem proved : Rows.ScriptLinesCardSaid :=
  Claim7.holds_tied_plain_at .later [] [.data, .data, .data, .data, .sentinel, .sentinel, .pinned] true (true, "fab5b64761970f4e0cf9cb2320c20c52afa86df77447b640b54cc28f6a1e98a6") true
    over (fun _ h => by cases h) (by kernel_rfl) (fun _ h => by cases h) scriptLines_row_tie rfl ⟨rfl, rfl⟩ (by kernel_rfl) rfl
    (fun f fn hf hfn => by
      obtain rfl : f = 7 := Option.some.inj ((show Tryz.prog.funcNamed "gazetteer/gazetteerlaw23.ScriptLines" = some 7 by kernel_rfl).symm.trans hf) |>.symm
      obtain rfl : fn = Tryz.f7 := (Option.some.inj (Tryz.func7.symm.trans hfn)).symm
      exact ⟨by kernel_rfl, fun j t ht => by
        rw [Tryz.params7] at ht
        have hm : t ∈ [60] := by simpa using Array.mem_of_getElem? ht
        have hall : ([60].all fun u => !Tryz.prog.wantsStandIn u) = true := by kernel_rfl
        exact (show Tryz.prog.wantsStandIn t = false by simpa using List.all_eq_true.1 hall t hm)⟩)
    (by kernel_rfl)
end Go.Proofs.YtipbakdodbmfjaaGreatDoor.scriptLines

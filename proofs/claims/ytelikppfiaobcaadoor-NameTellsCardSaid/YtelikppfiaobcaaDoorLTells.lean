/- The law NameTells returns true for every input and leaves its arguments as they were; no condition, the package-level tables that it reads tied to the program's text. -/
import Derived.Test.YtelikppfiaobcaaDoorAns02
import Derived.Test.YtelikppfiaobcaaDoorRtext
import Derived.Test.YtelikppfiaobcaaDoorOpen
import Derived.Test.YtelikppfiaobcaaDoorRows
import Derived.Test.YtelikppfiaobcaaDoorCards
import Derived.Test.YtelikppfiaobcaaDoorTie
import Derived.SevenTiedAt
import Derived.LaidMore
import Derived.Stop.Joined
import Derived.Stop.LaidErr
import Derived.Lib.LaidTab
import Derived.MakeChecks
import Derived.WalkKit
import Derived.ProofKit
import Derived.OpenShut
import Derived.Below
namespace Go.Proofs.YtelikppfiaobcaaDoor.nameTells
open Go.ChangeShapes Go.WideShapes Go.ChangeAt Go.RowKit
open Go.ChangeMaps (open_string shut_string)
set_option linter.unusedVariables false

/-- the table that the walk reads -/
theorem tab_of {W : World} (hL : laidMetH Tryd.prog Rows.nameTellsRow.laid W) : Tab W := by
  rw [MakeChecks.laidMetH_plain _ _ _ (by kernel_rfl)] at hL
  exact Lib.tabIs_of_head (g := 3) (by kernel_rfl) (by kernel_rfl) Tryd.underlying108 Tryd.underlying62 (by kernel_rfl) (by kernel_rfl) hL.tail.tail
set_option maxHeartbeats 4000000 in
set_option maxRecDepth 100000 in
theorem walk (a0 : Option Addr) (l0 c0 : Nat) (s0 : List ByteArray) (W : World) (w0 : Strs W a0 l0 c0 s0) (b0 : c0 * 16 ≤ 140737488355328) (hL : laidMetH Tryd.prog Rows.nameTellsRow.laid W) :
    Calls Tryd.prog 3 #[.slice a0 l0 c0] W fun e w' => e = .returned (.bool true) ∧ Below W.heap.size W w' := by
  have HT := Lib.hid (tab_of hL)
  clear hL
  have hm0 := w0.row.hle
  have hl0 : l0 * 16 ≤ 140737488355328 := by omega
  have L0 := Lib.hid (fun w' (h : Below W.heap.size W w') => light_any w' a0 l0 c0 s0 (w0.below h (Nat.le_refl _)) hl0)
  have O0 := Lib.hid (fun w' (h : Below W.heap.size W w') => own_any w' a0 l0 c0 s0 (w0.below h (Nat.le_refl _)) hl0)
  have P0 := Lib.hid (fun w' (h : Below W.heap.size W w') => w0.below h (Nat.le_refl _))
  clear hm0 b0 hl0
  cases g0 : lightB s0
  · go_enter Tryd.func3, Tryd.ntmps3
    go_wp2_with fail
    refine (answers_any _ HT.out).mono ?_
    rintro e x1 ⟨rfl, hc1⟩
    have hb1 := hc1
    go_wp2_with fail
    refine (L0.out _ hb1).mono ?_
    rintro e y2 ⟨rfl, rfl⟩
    go_wp2_with fail
    refine (answers_any _ (tab_on HT.out hb1)).mono ?_
    rintro e x3 ⟨rfl, hc3⟩
    have hb3 := below_on hb1 hc3 (Nat.le_refl _)
    go_wp2
    go_ret
    exact ⟨rfl, hb3⟩
  have hlt := lightB_out g0
  have hz1 : sizeN s0 < 4611686018427387904 := by omega
  have hz2 : 4 * sizeN s0 ≤ 140737488355328 := by omega
  have H1 := Lib.hid hz1
  have H2 := Lib.hid hz2
  have hq : (((1 : Int) + (sizeN s0 : Int)) == 1 + (sizeN s0 : Int)) = true := by rw [beq_iff_eq]
  clear hlt hz1 hz2
  go_enter Tryd.func3, Tryd.ntmps3
  go_wp2_with fail
  refine (answers_any _ HT.out).mono ?_
  rintro e x1 ⟨rfl, hc1⟩
  have hb1 := hc1
  go_wp2_with fail
  refine (L0.out _ hb1).mono ?_
  rintro e y2 ⟨rfl, rfl⟩
  go_wp2_with fail
  refine (O0.out _ hb1).mono ?_
  rintro e x3 ⟨p3, q3, rfl, t3, hc3⟩
  have hb3 := below_on hb1 hc3 (Nat.le_refl _)
  go_wp2_with fail
  refine (sound_any _ _ _ _ _ t3).mono ?_
  rintro e y4 ⟨rfl, rfl⟩
  go_wp2_with fail
  refine (rsound_any _ _ _ _ _ (P0.out _ hb3)).mono ?_
  rintro e y5 ⟨rfl, rfl⟩
  go_wp2_with fail
  refine (O0.out _ hb3).mono ?_
  rintro e x6 ⟨p6, q6, rfl, t6, hc6⟩
  have hb6 := below_on hb3 hc6 (Nat.le_refl _)
  go_wp2_with fail
  refine (size_any _ _ _ _ _ t6 H1.out).mono ?_
  rintro e y7 ⟨rfl, rfl⟩
  go_wp2_with fail
  refine (rsize_any _ _ _ _ _ (P0.out _ hb6) H1.out).mono ?_
  rintro e y8 ⟨rfl, rfl⟩
  go_wp2_with fail
  refine (O0.out _ hb6).mono ?_
  rintro e x9 ⟨p9, q9, rfl, t9, hc9⟩
  have hb9 := below_on hb6 hc9 (Nat.le_refl _)
  go_wp2_with fail
  refine (text_any _ _ _ _ _ t9 H2.out (tab_on HT.out hb9)).mono ?_
  rintro e x10 ⟨rfl, hc10⟩
  have hb10 := below_on hb9 hc10 (Nat.le_refl _)
  go_wp2_with fail
  refine (rtext_any _ _ _ _ _ (P0.out _ hb10) H2.out).mono ?_
  rintro e x11 ⟨rfl, hc11⟩
  have hb11 := below_on hb10 hc11 (Nat.le_refl _)
  go_wp2
  go_ret
  exact ⟨rfl, hb11⟩

theorem door_met (os : Os) (args : Array Value) : laidMetH Tryd.prog Rows.nameTellsRow.laid ((World.doorLaid Tryd.prog 72 os).forCall (fun _ _ => 0) ⟨#[], args, []⟩).memory :=
  laidMetH_of_parts3 (fuel := 8) (laidMet_of_run' 8 (by kernel_rfl) (by kernel_rfl)) (by kernel_rfl) (by kernel_rfl)

set_option maxHeartbeats 1000000 in
set_option maxRecDepth 100000 in
theorem lifted (os : Os) (started : os.Started) (H : Type) (enc : TypeId × Value → H) :
    ReturnsInHanded {} Tryd.checked os 3 .any (fun w args => (Rows.nameTellsSpec.pre enc Tryd.prog Tryd.f3 [] false w args ∧ laidMetH Tryd.prog Rows.nameTellsRow.laid w) ∧ sizedMet enc Tryd.prog Tryd.f3 (OpenSpec.ofChange Rows.nameTellsSpec) false w args) (Rows.nameTellsSpec.post enc Tryd.prog Tryd.f3 false true false false) := by
  refine returnsInHanded_of_change_and (C := Tryd.checked) (X := fun w _ => laidMetH Tryd.prog Rows.nameTellsRow.laid w) (fun _ _ _ hh h => h.of_heap hh) own started (by kernel_rfl) Tryd.func3
    (ChangeSpec.witness_shaped (enc := enc) (C := Tryd.checked) (os := os) (X := fun w _ => laidMetH Tryd.prog Rows.nameTellsRow.laid w) false (World.doorLaid Tryd.prog 72 os) #[.slice none 0 0] 8 rfl (World.shaped_of_RefB (by kernel_rfl) (by kernel_rfl)) (by kernel_rfl) (by kernel_rfl) (by kernel_rfl) (door_met os _)) ?_
  intro W base args ds gs before hval0 hW hcnd hsz0 hL _
  have hval : ∀ (j : Nat) t v, Tryd.f3.params[j]? = some t → args[j]? = some v → Value.okWide Tryd.prog W .any base t v := hval0
  have hW' := hW
  obtain ⟨p, q, hA0, hV, rfl, hfz, hnd⟩ := hW
  have hA : DataW.TrodAll enc Tryd.prog W 0 (fun _ => true) true Tryd.f3.params.toList args.toList ds p := hA0
  have hsz : (DataW.weightsEach Tryd.prog (Tryd.f3.params.toList ++ Rows.nameTellsSpec.plain.varTypes Tryd.prog) (ds ++ gs)).all (· ≤ reachBytes) = true := hsz0
  rw [Tryd.params3] at hA hval hsz
  obtain ⟨v0, vs0, d0, ds0, p0, q0, hargs, rfl, rfl, h0, r0⟩ := trodAll_cons hA
  obtain ⟨rfl, rfl, rfl⟩ := trodAll_nil r0
  obtain rfl : args = #[v0] := by cases args; simp_all
  obtain ⟨rfl, rfl⟩ := trodVars_none hV
  have k0 := h0
  have lt0 : ∀ x ∈ p0, x.block < W.heap.size := by obtain ⟨m, hm⟩ := k0; exact DataW.trod_lt m _ _ _ hm
  obtain ⟨x0, y0, z0, hsl0⟩ := okWide_slice Tryd.underlying22 (hval 0 22 v0 rfl rfl)
  obtain ⟨a0, l0, c0, s0, hv0, w0, b0⟩ := open_strs_arg Tryd.underlying22 h0 hsz (j := 0) rfl rfl ⟨_, _, _, hsl0⟩
  clear hA0 hval0
  subst hv0
  refine (walk a0 l0 c0 s0 W w0 b0 hL).mono fun e W' ⟨he, bel⟩ => ?_
  subst he
  exact ⟨_, rfl, _, _, _, [], _, [], hW', trodAll_mk1 (shut_bool Tryd.underlying4 _), (trodAll_cons_mk (Below.trod laidOut (by kernel_rfl) (of_decide_eq_true (by kernel_rfl)) k0 bel lt0) trodAll_mk0), rfl, bel.frame _, fun h => by cases h⟩

theorem over : Rows.nameTellsRow.holds Tryd.pinned (OpenSpec.ofChange Rows.nameTellsSpec) :=
  OpenClaim.holds_of_wide 3 Tryd.f3 rfl rfl rfl rfl rfl rfl rfl ⟨rfl, rfl, rfl, rfl, rfl⟩ rfl rfl rfl rfl rfl (by kernel_rfl) Tryd.func3 (by kernel_rfl)
    (of_decide_eq_true (by kernel_rfl)) (by unfold Func.isWrapper; first | (rw [if_pos (by decide +kernel)]; kernel_rfl) | (rw [if_neg (by decide +kernel)]; exact ⟨rfl, rfl⟩))
    (fun os started H enc _ => lifted os started H enc)

theorem proved : Rows.NameTellsCardSaid :=
  Claim7.holds_tied_plain_at .later [] [.data, .data, .data] true (true, "4ec24589f0f5f26137b02521d2e0afadc07f64e7626361e1c896d6f108f38193") true
    over (fun _ h => by cases h) (by kernel_rfl) (fun _ h => by cases h) nameTells_row_tie rfl ⟨rfl, rfl⟩ (by kernel_rfl) rfl
    (fun f fn hf hfn => by
      obtain rfl : f = 3 := Option.some.inj ((show Tryd.prog.funcNamed "gazetteer/gazetteerlaw02.NameTells" = some 3 by kernel_rfl).symm.trans hf) |>.symm
      obtain rfl : fn = Tryd.f3 := (Option.some.inj (Tryd.func3.symm.trans hfn)).symm
      exact ⟨by kernel_rfl, fun j t ht => by
        rw [Tryd.params3] at ht
        have hm : t ∈ [22] := by simpa using Array.mem_of_getElem? ht
        have hall : ([22].all fun u => !Tryd.prog.wantsStandIn u) = true := by kernel_rfl
        exact (show Tryd.prog.wantsStandIn t = false by simpa using List.all_eq_true.1 hall t hm)⟩)
    (by kernel_rfl)
end Go.Proofs.YtelikppfiaobcaaDoor.nameTells

/- The law NameParses returns true for every input and leaves its arguments as they were; no condition, the package-level tables that it reads tied to the program's text. -/
import Derived.Test.YtelikppfiaobcaaDoorAns02
import Derived.Test.YtelikppfiaobcaaDoorRparse
import Derived.Test.YtelikppfiaobcaaDoorErrs
import Derived.Test.YtelikppfiaobcaaDoorOpen
import Derived.Test.YtelikppfiaobcaaDoorRows
import Derived.Test.YtelikppfiaobcaaDoorCards
import Derived.Test.YtelikppfiaobcaaDoorTie
import Derived.SevenTiedAt
import Derived.LaidMore
import Derived.Stop.Joined
import Derived.Stop.LaidErr
import Derived.Lib.LaidTab
import Derived.MakeChecks
import Derived.Lay
import Derived.WalkKit
import Derived.ProofKit
import Derived.OpenShut
import Derived.Below
namespace Go.Proofs.YtelikppfiaobcaaDoor.nameParses
open Go.ChangeShapes Go.WideShapes Go.ChangeAt Go.RowKit
open Go.ChangeMaps (open_string shut_string)
set_option linter.unusedVariables false

/-- the table that the walk reads -/
theorem tab_of {W : World} (hL : laidMetH Tryd.prog Rows.nameParsesRow.laid W) : Tab W ∧ Errs W := by
  rw [MakeChecks.laidMetH_plain _ _ _ (by kernel_rfl)] at hL
  exact ⟨Lib.tabIs_of_head (g := 3) (by kernel_rfl) (by kernel_rfl) Tryd.underlying108 Tryd.underlying62 (by kernel_rfl) (by kernel_rfl) hL.tail.tail,
    err_cell hL.tail.tail.tail.tail.tail (by kernel_rfl) (by kernel_rfl), err_cell hL.tail.tail.tail.tail (by kernel_rfl) (by kernel_rfl)⟩
set_option maxHeartbeats 4000000 in
set_option maxRecDepth 100000 in
theorem walk (a0 : ByteArray) (W : World) (w0 : a0.size ≤ maxLen) (hL : laidMetH Tryd.prog Rows.nameParsesRow.laid W) :
    Calls Tryd.prog 8 #[.string a0] W fun e w' => e = .returned (.bool true) ∧ Below W.heap.size W w' := by
  have HT := Lib.hid (tab_of hL).1
  have HE := Lib.hid (tab_of hL).2
  clear hL
  by_cases h3 : 3000 < a0.size
  · go_enter Tryd.func8, Tryd.ntmps8
    go_wp2_with fail
    refine (answers_any _ HT.out).mono ?_
    rintro e x1 ⟨rfl, hc1⟩
    go_wp2
    go_ret
    exact ⟨rfl, hc1⟩
  have h3' : a0.size ≤ 3000 := by omega
  clear h3
  have HP := Lib.hid (parse_any W a0 (by omega) HE.out)
  have HQ := Lib.hid (fun w' => rparse_any w' a0 (by omega))
  obtain ⟨R, hR⟩ : ∃ R, R = parseB a0.data.toList := ⟨_, rfl⟩
  rw [← hR] at HP HQ
  clear hR
  cases R with
  | none =>
    go_enter Tryd.func8, Tryd.ntmps8
    go_wp2_with fail
    refine HP.out.mono ?_
    rintro e x1 ⟨rfl, hc1⟩
    have hb1 := hc1
    go_wp2_with fail
    refine (HQ.out _).mono ?_
    rintro e x2 ⟨rfl, hc2⟩
    have hb2 := below_on hb1 hc2 (Nat.le_refl _)
    go_wp2_with fail
    refine (answers_any _ (tab_on HT.out hb2)).mono ?_
    rintro e x3 ⟨rfl, hc3⟩
    have hb3 := below_on hb2 hc3 (Nat.le_refl _)
    have hx : exactB [] [] = true := by decide
    go_wp2_with fail
    refine (exact_any _ _ _ _ _ _ _ [] [] ⟨Row.empty (by omega) (fun _ => rfl), fun s hs => by cases hs⟩ ⟨Row.empty (by omega) (fun _ => rfl), fun s hs => by cases hs⟩).mono ?_
    rw [hx]
    rintro e x4 ⟨rfl, hc4⟩
    have hb4 := below_on hb3 hc4 (Nat.le_refl _)
    go_wp2
    go_ret
    exact ⟨rfl, hb4⟩
  | some ss =>
    go_enter Tryd.func8, Tryd.ntmps8
    go_wp2_with fail
    refine HP.out.mono ?_
    rintro e x1 ⟨p1, n1, q1, rfl, t1, hc1, f1⟩
    have hb1 := hc1
    go_wp2_with fail
    refine (HQ.out _).mono ?_
    rintro e x2 ⟨p2, n2, q2, rfl, t2, hc2, f2⟩
    have hb2 := below_on hb1 hc2 (Nat.le_refl _)
    have t3 := t1.below hc2 (Nat.le_refl _)
    go_wp2_with fail
    refine (answers_any _ (tab_on HT.out hb2)).mono ?_
    rintro e x3 ⟨rfl, hc3⟩
    have hb3 := below_on hb2 hc3 (Nat.le_refl _)
    have hx : exactB ss ss = true := by simp [exactB]
    go_wp2_with fail
    refine (exact_any _ _ _ _ _ _ _ _ _ (t3.below hc3 (Nat.le_refl _)) (t2.below hc3 (Nat.le_refl _))).mono ?_
    rw [hx]
    rintro e x4 ⟨rfl, hc4⟩
    have hb4 := below_on hb3 hc4 (Nat.le_refl _)
    go_wp2
    go_ret
    exact ⟨rfl, hb4⟩

theorem door_met (os : Os) (args : Array Value) : laidMetH Tryd.prog Rows.nameParsesRow.laid ((World.laidAll Tryd.prog os Rows.nameParsesRow.laid).forCall (fun _ _ => 0) ⟨#[], args, []⟩).memory := by
  rw [MakeChecks.laidMetH_plain _ _ _ (by kernel_rfl)]
  exact laidMet_laidAll _ (by kernel_rfl) (by kernel_rfl)

set_option maxHeartbeats 1000000 in
set_option maxRecDepth 100000 in
theorem lifted (os : Os) (started : os.Started) (H : Type) (enc : TypeId × Value → H) :
    ReturnsInHanded {} Tryd.checked os 8 .any (fun w args => (Rows.nameParsesSpec.pre enc Tryd.prog Tryd.f8 [] false w args ∧ laidMetH Tryd.prog Rows.nameParsesRow.laid w) ∧ sizedMet enc Tryd.prog Tryd.f8 (OpenSpec.ofChange Rows.nameParsesSpec) false w args) (Rows.nameParsesSpec.post enc Tryd.prog Tryd.f8 false true false false) := by
  refine returnsInHanded_of_change_and (C := Tryd.checked) (X := fun w _ => laidMetH Tryd.prog Rows.nameParsesRow.laid w) (fun _ _ _ hh h => h.of_heap hh) own started (by kernel_rfl) Tryd.func8
    (ChangeSpec.witness_shaped (enc := enc) (C := Tryd.checked) (os := os) (X := fun w _ => laidMetH Tryd.prog Rows.nameParsesRow.laid w) false (World.laidAll Tryd.prog os Rows.nameParsesRow.laid) #[.string ByteArray.empty] 8 (World.laidAll_os _ _ _) (World.shaped_of_ZipB (by kernel_rfl) (by kernel_rfl)) (by kernel_rfl) (by kernel_rfl) (by kernel_rfl) (door_met os _)) ?_
  intro W base args ds gs before hval0 hW hcnd hsz0 hL _
  have hval : ∀ (j : Nat) t v, Tryd.f8.params[j]? = some t → args[j]? = some v → Value.okWide Tryd.prog W .any base t v := hval0
  have hW' := hW
  obtain ⟨p, q, hA0, hV, rfl, hfz, hnd⟩ := hW
  have hA : DataW.TrodAll enc Tryd.prog W 0 (fun _ => true) true Tryd.f8.params.toList args.toList ds p := hA0
  have hsz : (DataW.weightsEach Tryd.prog (Tryd.f8.params.toList ++ Rows.nameParsesSpec.plain.varTypes Tryd.prog) (ds ++ gs)).all (· ≤ reachBytes) = true := hsz0
  rw [Tryd.params8] at hA hval hsz
  obtain ⟨v0, vs0, d0, ds0, p0, q0, hargs, rfl, rfl, h0, r0⟩ := trodAll_cons hA
  obtain ⟨rfl, rfl, rfl⟩ := trodAll_nil r0
  obtain rfl : args = #[v0] := by cases args; simp_all
  obtain ⟨rfl, rfl⟩ := trodVars_none hV
  have k0 := h0
  have lt0 : ∀ x ∈ p0, x.block < W.heap.size := by obtain ⟨m, hm⟩ := k0; exact DataW.trod_lt m _ _ _ hm
  obtain ⟨a0, rfl, rfl, rfl, w0⟩ := open_string Tryd.underlying9 (hval 0 9 v0 rfl rfl) h0
  clear hA0 hval0
  refine (walk a0 W w0 hL).mono fun e W' ⟨he, bel⟩ => ?_
  subst he
  exact ⟨_, rfl, _, _, _, [], _, [], hW', trodAll_mk1 (shut_bool Tryd.underlying4 _), (trodAll_cons_mk (Below.trod laidOut (by kernel_rfl) (of_decide_eq_true (by kernel_rfl)) k0 bel lt0) trodAll_mk0), rfl, bel.frame _, fun h => by cases h⟩

theorem over : Rows.nameParsesRow.holds Tryd.pinned (OpenSpec.ofChange Rows.nameParsesSpec) :=
  OpenClaim.holds_of_wide 8 Tryd.f8 rfl rfl rfl rfl rfl rfl rfl ⟨rfl, rfl, rfl, rfl, rfl⟩ rfl rfl rfl rfl rfl (by kernel_rfl) Tryd.func8 (by kernel_rfl)
    (of_decide_eq_true (by kernel_rfl)) (by unfold Func.isWrapper; first | (rw [if_pos (by decide +kernel)]; kernel_rfl) | (rw [if_neg (by decide +kernel)]; exact ⟨rfl, rfl⟩))
    (fun os started H enc _ => lifted os started H enc)

theorem proved : Rows.NameParsesCardSaid :=
  Claim7.holds_tied_plain_at .later [] [.data, .data, .data, .data, .sentinel, .sentinel, .pinned] true (true, "4ec24589f0f5f26137b02521d2e0afadc07f64e7626361e1c896d6f108f38193") true
    over (fun _ h => by cases h) (by kernel_rfl) (fun _ h => by cases h) nameParses_row_tie rfl ⟨rfl, rfl⟩ (by kernel_rfl) rfl
    (fun f fn hf hfn => by
      obtain rfl : f = 8 := Option.some.inj ((show Tryd.prog.funcNamed "gazetteer/gazetteerlaw02.NameParses" = some 8 by kernel_rfl).symm.trans hf) |>.symm
      obtain rfl : fn = Tryd.f8 := (Option.some.inj (Tryd.func8.symm.trans hfn)).symm
      exact ⟨by kernel_rfl, fun j t ht => by
        rw [Tryd.params8] at ht
        have hm : t ∈ [9] := by simpa using Array.mem_of_getElem? ht
        have hall : ([9].all fun u => !Tryd.prog.wantsStandIn u) = true := by kernel_rfl
        exact (show Tryd.prog.wantsStandIn t = false by simpa using List.all_eq_true.1 hall t hm)⟩)
    (by kernel_rfl)
end Go.Proofs.YtelikppfiaobcaaDoor.nameParses

/- The law NameOrders returns true for every input and leaves its arguments as they were; no condition, the package-level tables that it reads tied to the program's text. -/
import Derived.Test.YtelikppfiaobcaaDoorAns02
import Derived.Test.YtelikppfiaobcaaDoorRcmp
import Derived.Test.YtelikppfiaobcaaDoorOpen
import Derived.Test.YtelikppfiaobcaaDoorRows
import Derived.Test.YtelikppfiaobcaaDoorCards
import Derived.Test.YtelikppfiaobcaaDoorTie
import Derived.SevenTiedAt
import Derived.LaidMore
import Derived.Stop.Joined
import Derived.Stop.LaidErr
import Derived.Lib.LaidTab
import Derived.MakeChecks
import Derived.WalkKit
import Derived.ProofKit
import Derived.OpenShut
import Derived.Below
namespace Go.Proofs.YtelikppfiaobcaaDoor.nameOrders
open Go.ChangeShapes Go.WideShapes Go.ChangeAt Go.RowKit
open Go.ChangeMaps (open_string shut_string)
set_option linter.unusedVariables false

/-- the table that the walk reads -/
theorem tab_of {W : World} (hL : laidMetH Tryd.prog Rows.nameOrdersRow.laid W) : Tab W := by
  rw [MakeChecks.laidMetH_plain _ _ _ (by kernel_rfl)] at hL
  exact Lib.tabIs_of_head (g := 3) (by kernel_rfl) (by kernel_rfl) Tryd.underlying108 Tryd.underlying62 (by kernel_rfl) (by kernel_rfl) hL.tail.tail
set_option maxHeartbeats 4000000 in
set_option maxRecDepth 100000 in
theorem walk (a0 : Option Addr) (l0 c0 : Nat) (s0 : List ByteArray) (a1 : Option Addr) (l1 c1 : Nat) (s1 : List ByteArray) (W : World) (w0 : Strs W a0 l0 c0 s0) (b0 : c0 * 16 ≤ 140737488355328) (w1 : Strs W a1 l1 c1 s1) (b1 : c1 * 16 ≤ 140737488355328) (hL : laidMetH Tryd.prog Rows.nameOrdersRow.laid W) :
    Calls Tryd.prog 6 #[.slice a0 l0 c0, .slice a1 l1 c1] W fun e w' => e = .returned (.bool true) ∧ Below W.heap.size W w' := by
  have HT := Lib.hid (tab_of hL)
  clear hL
  have hm0 := w0.row.hle
  have hl0 : l0 * 16 ≤ 140737488355328 := by omega
  have L0 := Lib.hid (fun w' (h : Below W.heap.size W w') => light_any w' a0 l0 c0 s0 (w0.below h (Nat.le_refl _)) hl0)
  have O0 := Lib.hid (fun w' (h : Below W.heap.size W w') => own_any w' a0 l0 c0 s0 (w0.below h (Nat.le_refl _)) hl0)
  have P0 := Lib.hid (fun w' (h : Below W.heap.size W w') => w0.below h (Nat.le_refl _))
  clear hm0 b0 hl0
  have hm1 := w1.row.hle
  have hl1 : l1 * 16 ≤ 140737488355328 := by omega
  have L1 := Lib.hid (fun w' (h : Below W.heap.size W w') => light_any w' a1 l1 c1 s1 (w1.below h (Nat.le_refl _)) hl1)
  have O1 := Lib.hid (fun w' (h : Below W.heap.size W w') => own_any w' a1 l1 c1 s1 (w1.below h (Nat.le_refl _)) hl1)
  have P1 := Lib.hid (fun w' (h : Below W.heap.size W w') => w1.below h (Nat.le_refl _))
  clear hm1 b1 hl1
  have HB := Lib.hid (Below.refl W.heap.size W)
  cases g0 : lightB s0
  · go_enter Tryd.func6, Tryd.ntmps6
    go_wp2_with fail
    refine (answers_any _ HT.out).mono ?_
    rintro e x1 ⟨rfl, hc1⟩
    have hb1 := hc1
    go_wp2_with fail
    refine (L0.out _ hb1).mono ?_
    rintro e y2 ⟨rfl, rfl⟩
    go_wp2_with fail
    refine (answers_any _ (tab_on HT.out hb1)).mono ?_
    rintro e x3 ⟨rfl, hc3⟩
    have hb3 := below_on hb1 hc3 (Nat.le_refl _)
    go_wp2
    go_ret
    exact ⟨rfl, hb3⟩
  cases g1 : lightB s1
  · go_enter Tryd.func6, Tryd.ntmps6
    go_wp2_with fail
    refine (answers_any _ HT.out).mono ?_
    rintro e x1 ⟨rfl, hc1⟩
    have hb1 := hc1
    go_wp2_with fail
    refine (L0.out _ hb1).mono ?_
    rintro e y2 ⟨rfl, rfl⟩
    go_wp2_with fail
    refine (L1.out _ hb1).mono ?_
    rintro e y3 ⟨rfl, rfl⟩
    go_wp2_with fail
    refine (answers_any _ (tab_on HT.out hb1)).mono ?_
    rintro e x4 ⟨rfl, hc4⟩
    have hb4 := below_on hb1 hc4 (Nat.le_refl _)
    go_wp2
    go_ret
    exact ⟨rfl, hb4⟩
  have z1 : cmpN s1 s0 = - cmpN s0 s1 := order_name.anti s0 s1
  have zb := cmpN_bound s0 s1
  have q1 : (cmpN s0 s1 == cmpN s0 s1) = true := by rw [beq_iff_eq]
  have q2 : (cmpN s1 s0 == - cmpN s0 s1) = true := by rw [beq_iff_eq]; exact z1
  have q3 : IntKind.i64.wrap (- cmpN s0 s1) = - cmpN s0 s1 := IntWalk.i64_in _ (by omega)
  clear z1
  go_enter Tryd.func6, Tryd.ntmps6
  go_wp2_with fail
  refine (answers_any _ HT.out).mono ?_
  rintro e x1 ⟨rfl, hc1⟩
  have hb1 := hc1
  go_wp2_with fail
  refine (L0.out _ hb1).mono ?_
  rintro e y2 ⟨rfl, rfl⟩
  go_wp2_with fail
  refine (L1.out _ hb1).mono ?_
  rintro e y3 ⟨rfl, rfl⟩
  go_wp2_with fail
  refine (O0.out _ hb1).mono ?_
  rintro e x4 ⟨p4, q4, rfl, t4, hc4⟩
  have hb4 := below_on hb1 hc4 (Nat.le_refl _)
  go_wp2_with fail
  refine (O1.out _ hb4).mono ?_
  rintro e x5 ⟨p5, q5, rfl, t5, hc5⟩
  have hb5 := below_on hb4 hc5 (Nat.le_refl _)
  go_wp2_with fail
  refine (cmp_any _ _ _ _ _ _ _ _ _ (t4.below hc5 (Nat.le_refl _)) t5).mono ?_
  rintro e x6 ⟨rfl, hc6⟩
  have hb6 := below_on hb5 hc6 (Nat.le_refl _)
  go_wp2_with fail
  refine (rcmp_any _ _ _ _ _ _ _ _ _ (P0.out _ hb6) (P1.out _ hb6)).mono ?_
  rintro e x7 ⟨rfl, hc7⟩
  have hb7 := below_on hb6 hc7 (Nat.le_refl _)
  go_wp2_with fail
  refine (O1.out _ hb7).mono ?_
  rintro e x8 ⟨p8, q8, rfl, t8, hc8⟩
  have hb8 := below_on hb7 hc8 (Nat.le_refl _)
  go_wp2_with fail
  refine (O0.out _ hb8).mono ?_
  rintro e x9 ⟨p9, q9, rfl, t9, hc9⟩
  have hb9 := below_on hb8 hc9 (Nat.le_refl _)
  go_wp2_with fail
  refine (cmp_any _ _ _ _ _ _ _ _ _ (t8.below hc9 (Nat.le_refl _)) t9).mono ?_
  rintro e x10 ⟨rfl, hc10⟩
  have hb10 := below_on hb9 hc10 (Nat.le_refl _)
  go_wp2_with fail
  refine (O0.out _ hb10).mono ?_
  rintro e x11 ⟨p11, q11, rfl, t11, hc11⟩
  have hb11 := below_on hb10 hc11 (Nat.le_refl _)
  go_wp2_with fail
  refine (O1.out _ hb11).mono ?_
  rintro e x12 ⟨p12, q12, rfl, t12, hc12⟩
  have hb12 := below_on hb11 hc12 (Nat.le_refl _)
  go_wp2_with fail
  refine (equal_any _ _ _ _ _ _ _ _ _ (t11.below hc12 (Nat.le_refl _)) t12).mono ?_
  rintro e x13 ⟨rfl, hc13⟩
  have hb13 := below_on hb12 hc13 (Nat.le_refl _)
  go_wp2_with fail
  refine (requal_any _ _ _ _ _ _ _ _ _ (P0.out _ hb13) (P1.out _ hb13)).mono ?_
  rintro e x14 ⟨rfl, hc14⟩
  have hb14 := below_on hb13 hc14 (Nat.le_refl _)
  go_wp2_with fail
  refine (O0.out _ hb14).mono ?_
  rintro e x15 ⟨p15, q15, rfl, t15, hc15⟩
  have hb15 := below_on hb14 hc15 (Nat.le_refl _)
  go_wp2_with fail
  refine (O1.out _ hb15).mono ?_
  rintro e x16 ⟨p16, q16, rfl, t16, hc16⟩
  have hb16 := below_on hb15 hc16 (Nat.le_refl _)
  go_wp2_with fail
  refine (under_any _ _ _ _ _ _ _ _ _ (t15.below hc16 (Nat.le_refl _)) t16).mono ?_
  rintro e x17 ⟨rfl, hc17⟩
  have hb17 := below_on hb16 hc17 (Nat.le_refl _)
  go_wp2_with fail
  refine (runder_any _ _ _ _ _ _ _ _ _ (P0.out _ hb17) (P1.out _ hb17)).mono ?_
  rintro e x18 ⟨rfl, hc18⟩
  have hb18 := below_on hb17 hc18 (Nat.le_refl _)
  go_wp2
  go_ret
  exact ⟨rfl, hb18⟩

theorem door_met (os : Os) (args : Array Value) : laidMetH Tryd.prog Rows.nameOrdersRow.laid ((World.doorLaid Tryd.prog 72 os).forCall (fun _ _ => 0) ⟨#[], args, []⟩).memory :=
  laidMetH_of_parts3 (fuel := 8) (laidMet_of_run' 8 (by kernel_rfl) (by kernel_rfl)) (by kernel_rfl) (by kernel_rfl)

set_option maxHeartbeats 1000000 in
set_option maxRecDepth 100000 in
theorem lifted (os : Os) (started : os.Started) (H : Type) (enc : TypeId × Value → H) :
    ReturnsInHanded {} Tryd.checked os 6 .any (fun w args => (Rows.nameOrdersSpec.pre enc Tryd.prog Tryd.f6 [] false w args ∧ laidMetH Tryd.prog Rows.nameOrdersRow.laid w) ∧ sizedMet enc Tryd.prog Tryd.f6 (OpenSpec.ofChange Rows.nameOrdersSpec) false w args) (Rows.nameOrdersSpec.post enc Tryd.prog Tryd.f6 false true false false) := by
  refine returnsInHanded_of_change_and (C := Tryd.checked) (X := fun w _ => laidMetH Tryd.prog Rows.nameOrdersRow.laid w) (fun _ _ _ hh h => h.of_heap hh) own started (by kernel_rfl) Tryd.func6
    (ChangeSpec.witness_shaped (enc := enc) (C := Tryd.checked) (os := os) (X := fun w _ => laidMetH Tryd.prog Rows.nameOrdersRow.laid w) false (World.doorLaid Tryd.prog 72 os) #[.slice none 0 0, .slice none 0 0] 8 rfl (World.shaped_of_RefB (by kernel_rfl) (by kernel_rfl)) (by kernel_rfl) (by kernel_rfl) (by kernel_rfl) (door_met os _)) ?_
  intro W base args ds gs before hval0 hW hcnd hsz0 hL _
  have hval : ∀ (j : Nat) t v, Tryd.f6.params[j]? = some t → args[j]? = some v → Value.okWide Tryd.prog W .any base t v := hval0
  have hW' := hW
  obtain ⟨p, q, hA0, hV, rfl, hfz, hnd⟩ := hW
  have hA : DataW.TrodAll enc Tryd.prog W 0 (fun _ => true) true Tryd.f6.params.toList args.toList ds p := hA0
  have hsz : (DataW.weightsEach Tryd.prog (Tryd.f6.params.toList ++ Rows.nameOrdersSpec.plain.varTypes Tryd.prog) (ds ++ gs)).all (· ≤ reachBytes) = true := hsz0
  rw [Tryd.params6] at hA hval hsz
  obtain ⟨v0, vs0, d0, ds0, p0, q0, hargs, rfl, rfl, h0, r0⟩ := trodAll_cons hA
  obtain ⟨v1, vs1, d1, ds1, p1, q1, rfl, rfl, rfl, h1, r1⟩ := trodAll_cons r0
  obtain ⟨rfl, rfl, rfl⟩ := trodAll_nil r1
  obtain rfl : args = #[v0, v1] := by cases args; simp_all
  obtain ⟨rfl, rfl⟩ := trodVars_none hV
  have k0 := h0
  have lt0 : ∀ x ∈ p0, x.block < W.heap.size := by obtain ⟨m, hm⟩ := k0; exact DataW.trod_lt m _ _ _ hm
  obtain ⟨x0, y0, z0, hsl0⟩ := okWide_slice Tryd.underlying22 (hval 0 22 v0 rfl rfl)
  obtain ⟨a0, l0, c0, s0, hv0, w0, b0⟩ := open_strs_arg Tryd.underlying22 h0 hsz (j := 0) rfl rfl ⟨_, _, _, hsl0⟩
  have k1 := h1
  have lt1 : ∀ x ∈ p1, x.block < W.heap.size := by obtain ⟨m, hm⟩ := k1; exact DataW.trod_lt m _ _ _ hm
  obtain ⟨x1, y1, z1, hsl1⟩ := okWide_slice Tryd.underlying22 (hval 1 22 v1 rfl rfl)
  obtain ⟨a1, l1, c1, s1, hv1, w1, b1⟩ := open_strs_arg Tryd.underlying22 h1 hsz (j := 1) rfl rfl ⟨_, _, _, hsl1⟩
  clear hA0 hval0
  subst hv0
  subst hv1
  refine (walk a0 l0 c0 s0 a1 l1 c1 s1 W w0 b0 w1 b1 hL).mono fun e W' ⟨he, bel⟩ => ?_
  subst he
  exact ⟨_, rfl, _, _, _, [], _, [], hW', trodAll_mk1 (shut_bool Tryd.underlying4 _), (trodAll_cons_mk (Below.trod laidOut (by kernel_rfl) (of_decide_eq_true (by kernel_rfl)) k0 bel lt0) (trodAll_cons_mk (Below.trod laidOut (by kernel_rfl) (of_decide_eq_true (by kernel_rfl)) k1 bel lt1) trodAll_mk0)), rfl, bel.frame _, fun h => by cases h⟩

theorem over : Rows.nameOrdersRow.holds Tryd.pinned (OpenSpec.ofChange Rows.nameOrdersSpec) :=
  OpenClaim.holds_of_wide 6 Tryd.f6 rfl rfl rfl rfl rfl rfl rfl ⟨rfl, rfl, rfl, rfl, rfl⟩ rfl rfl rfl rfl rfl (by kernel_rfl) Tryd.func6 (by kernel_rfl)
    (of_decide_eq_true (by kernel_rfl)) (by unfold Func.isWrapper; first | (rw [if_pos (by decide +kernel)]; kernel_rfl) | (rw [if_neg (by decide +kernel)]; exact ⟨rfl, rfl⟩))
    (fun os started H enc _ => lifted os started H enc)

theorem proved : Rows.NameOrdersCardSaid :=
  Claim7.holds_tied_plain_at .later [] [.data, .data, .data] true (true, "4ec24589f0f5f26137b02521d2e0afadc07f64e7626361e1c896d6f108f38193") true
    over (fun _ h => by cases h) (by kernel_rfl) (fun _ h => by cases h) nameOrders_row_tie rfl ⟨rfl, rfl⟩ (by kernel_rfl) rfl
    (fun f fn hf hfn => by
      obtain rfl : f = 6 := Option.some.inj ((show Tryd.prog.funcNamed "gazetteer/gazetteerlaw02.NameOrders" = some 6 by kernel_rfl).symm.trans hf) |>.symm
      obtain rfl : fn = Tryd.f6 := (Option.some.inj (Tryd.func6.symm.trans hfn)).symm
      exact ⟨by kernel_rfl, fun j t ht => by
        rw [Tryd.params6] at ht
        have hm : t ∈ [22, 22] := by simpa using Array.mem_of_getElem? ht
        have hall : ([22, 22].all fun u => !Tryd.prog.wantsStandIn u) = true := by kernel_rfl
        exact (show Tryd.prog.wantsStandIn t = false by simpa using List.all_eq_true.1 hall t hm)⟩)
    (by kernel_rfl)
end Go.Proofs.YtelikppfiaobcaaDoor.nameOrders

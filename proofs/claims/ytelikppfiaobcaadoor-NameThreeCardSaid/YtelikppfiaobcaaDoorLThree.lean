/- The law NameThree returns true for every input and leaves its arguments as they were; no condition, the package-level tables that it reads tied to the program's text. -/
import Derived.Test.YtelikppfiaobcaaDoorAns02
import Derived.Test.YtelikppfiaobcaaDoorCmpLaw
import Derived.Test.YtelikppfiaobcaaDoorOpen
import Derived.Test.YtelikppfiaobcaaDoorRows
import Derived.Test.YtelikppfiaobcaaDoorCards
import Derived.Test.YtelikppfiaobcaaDoorTie
import Derived.SevenTiedAt
import Derived.LaidMore
import Derived.Stop.Joined
import Derived.Stop.LaidErr
import Derived.Lib.LaidTab
import Derived.MakeChecks
import Derived.WalkKit
import Derived.ProofKit
import Derived.OpenShut
import Derived.Below
namespace Go.Proofs.YtelikppfiaobcaaDoor.nameThree
open Go.ChangeShapes Go.WideShapes Go.ChangeAt Go.RowKit
open Go.ChangeMaps (open_string shut_string)
set_option linter.unusedVariables false

/-- the tables that the walk reads -/
theorem tab_of {W : World} (hL : laidMetH Tryd.prog Rows.nameThreeRow.laid W) : Tab W := by
  rw [MakeChecks.laidMetH_plain _ _ _ (by kernel_rfl)] at hL
  exact Lib.tabIs_of_head (g := 3) (by kernel_rfl) (by kernel_rfl) Tryd.underlying108 Tryd.underlying62 (by kernel_rfl) (by kernel_rfl) hL.tail.tail
set_option maxHeartbeats 4000000 in
set_option maxRecDepth 100000 in
theorem walk (a0 : Option Addr) (l0 c0 : Nat) (s0 : List ByteArray) (a1 : Option Addr) (l1 c1 : Nat) (s1 : List ByteArray) (a2 : Option Addr) (l2 c2 : Nat) (s2 : List ByteArray) (W : World) (w0 : Strs W a0 l0 c0 s0) (b0 : c0 * 16 ≤ 140737488355328) (w1 : Strs W a1 l1 c1 s1) (b1 : c1 * 16 ≤ 140737488355328) (w2 : Strs W a2 l2 c2 s2) (b2 : c2 * 16 ≤ 140737488355328) (hL : laidMetH Tryd.prog Rows.nameThreeRow.laid W) :
    Calls Tryd.prog 5 #[.slice a0 l0 c0, .slice a1 l1 c1, .slice a2 l2 c2] W fun e w' => e = .returned (.bool true) ∧ Below W.heap.size W w' := by
  have hT := tab_of hL
  clear hL
  have hm0 := w0.row.hle
  have hm1 := w1.row.hle
  have hm2 := w2.row.hle
  have hl0 : l0 * 16 ≤ 140737488355328 := by omega
  have hl1 : l1 * 16 ≤ 140737488355328 := by omega
  have hl2 : l2 * 16 ≤ 140737488355328 := by omega
  clear hm0 hm1 hm2 b0 b1 b2
  have HT := Lib.hid hT
  have L0 := Lib.hid (fun w' (h : Below W.heap.size W w') => light_any w' a0 l0 c0 s0 (w0.below h (Nat.le_refl _)) hl0)
  have L1 := Lib.hid (fun w' (h : Below W.heap.size W w') => light_any w' a1 l1 c1 s1 (w1.below h (Nat.le_refl _)) hl1)
  have L2 := Lib.hid (fun w' (h : Below W.heap.size W w') => light_any w' a2 l2 c2 s2 (w2.below h (Nat.le_refl _)) hl2)
  have O0 := Lib.hid (fun w' (h : Below W.heap.size W w') => own_any w' a0 l0 c0 s0 (w0.below h (Nat.le_refl _)) hl0)
  have O1 := Lib.hid (fun w' (h : Below W.heap.size W w') => own_any w' a1 l1 c1 s1 (w1.below h (Nat.le_refl _)) hl1)
  have O2 := Lib.hid (fun w' (h : Below W.heap.size W w') => own_any w' a2 l2 c2 s2 (w2.below h (Nat.le_refl _)) hl2)
  clear hl0 hl1 hl2
  clear hT
  cases g0 : lightB s0
  · go_enter Tryd.func5, Tryd.ntmps5
    go_wp2_with fail
    refine (answers_any _ HT.out).mono ?_
    rintro e x1 ⟨rfl, hb1⟩
    go_wp2_with fail
    refine (L0.out _ hb1).mono ?_
    rintro e y0 ⟨rfl, rfl⟩
    go_wp2_with fail
    refine (answers_any _ (tab_on HT.out hb1)).mono ?_
    rintro e x3 ⟨rfl, hb3⟩
    go_wp2
    go_ret
    exact ⟨rfl, below_on hb1 hb3 (Nat.le_refl _)⟩
  cases g1 : lightB s1
  · go_enter Tryd.func5, Tryd.ntmps5
    go_wp2_with fail
    refine (answers_any _ HT.out).mono ?_
    rintro e x1 ⟨rfl, hb1⟩
    go_wp2_with fail
    refine (L0.out _ hb1).mono ?_
    rintro e y0 ⟨rfl, rfl⟩
    go_wp2_with fail
    refine (L1.out _ hb1).mono ?_
    rintro e y1 ⟨rfl, rfl⟩
    go_wp2_with fail
    refine (answers_any _ (tab_on HT.out hb1)).mono ?_
    rintro e x3 ⟨rfl, hb3⟩
    go_wp2
    go_ret
    exact ⟨rfl, below_on hb1 hb3 (Nat.le_refl _)⟩
  cases g2 : lightB s2
  · go_enter Tryd.func5, Tryd.ntmps5
    go_wp2_with fail
    refine (answers_any _ HT.out).mono ?_
    rintro e x1 ⟨rfl, hb1⟩
    go_wp2_with fail
    refine (L0.out _ hb1).mono ?_
    rintro e y0 ⟨rfl, rfl⟩
    go_wp2_with fail
    refine (L1.out _ hb1).mono ?_
    rintro e y1 ⟨rfl, rfl⟩
    go_wp2_with fail
    refine (L2.out _ hb1).mono ?_
    rintro e y2 ⟨rfl, rfl⟩
    go_wp2_with fail
    refine (answers_any _ (tab_on HT.out hb1)).mono ?_
    rintro e x3 ⟨rfl, hb3⟩
    go_wp2
    go_ret
    exact ⟨rfl, below_on hb1 hb3 (Nat.le_refl _)⟩
  have hord := order_name.trans s0 s1 s2
  by_cases hX : cmpN s0 s1 ≤ 0
  · by_cases hY : cmpN s1 s2 ≤ 0
    · have hZ := hord hX hY
      clear hord
      by_cases hz : cmpN s0 s2 = 0
      · have ⟨z1, z2⟩ := hZ.2 hz
        have q1 : (cmpN s0 s1 == 0) = true := by rw [beq_iff_eq]; exact z1
        have q2 : (cmpN s1 s2 == 0) = true := by rw [beq_iff_eq]; exact z2
        have q3 : decide (cmpN s0 s2 ≤ 0) = true := by rw [decide_eq_true_iff]; omega
        have q4 : decide (cmpN s0 s2 < 0) = false := by rw [decide_eq_false_iff_not]; omega
        have q5 : decide (cmpN s0 s1 ≤ 0) = true := by rw [decide_eq_true_iff]; omega
        have q6 : decide (cmpN s1 s2 ≤ 0) = true := by rw [decide_eq_true_iff]; omega
        clear hX hY hZ hz z1 z2
        go_enter Tryd.func5, Tryd.ntmps5
        go_wp2_with fail
        refine (answers_any _ HT.out).mono ?_
        rintro e x1 ⟨rfl, hb1⟩
        go_wp2_with fail
        refine (L0.out _ hb1).mono ?_
        rintro e y0 ⟨rfl, rfl⟩
        go_wp2_with fail
        refine (L1.out _ hb1).mono ?_
        rintro e y1 ⟨rfl, rfl⟩
        go_wp2_with fail
        refine (L2.out _ hb1).mono ?_
        rintro e y2 ⟨rfl, rfl⟩
        go_wp2_with fail
        refine (O0.out _ hb1).mono ?_
        rintro e x2 ⟨p2, q2, rfl, s2, hc2⟩
        have hb2 := below_on hb1 hc2 (Nat.le_refl _)
        go_wp2_with fail
        refine (O1.out _ hb2).mono ?_
        rintro e x3 ⟨p3, q3, rfl, s3, hc3⟩
        have hb3 := below_on hb2 hc3 (Nat.le_refl _)
        go_wp2_with fail
        refine (cmp_any _ _ _ _ _ _ _ _ _ (s2.below hc3 (Nat.le_refl _)) s3).mono ?_
        rintro e x4 ⟨rfl, hc4⟩
        have hb4 := below_on hb3 hc4 (Nat.le_refl _)
        go_wp2_with fail
        refine (O1.out _ hb4).mono ?_
        rintro e x5 ⟨p5, q5, rfl, s5, hc5⟩
        have hb5 := below_on hb4 hc5 (Nat.le_refl _)
        go_wp2_with fail
        refine (O2.out _ hb5).mono ?_
        rintro e x6 ⟨p6, q6, rfl, s6, hc6⟩
        have hb6 := below_on hb5 hc6 (Nat.le_refl _)
        go_wp2_with fail
        refine (cmp_any _ _ _ _ _ _ _ _ _ (s5.below hc6 (Nat.le_refl _)) s6).mono ?_
        rintro e x7 ⟨rfl, hc7⟩
        have hb7 := below_on hb6 hc7 (Nat.le_refl _)
        go_wp2_with fail
        refine (O0.out _ hb7).mono ?_
        rintro e x8 ⟨p8, q8, rfl, s8, hc8⟩
        have hb8 := below_on hb7 hc8 (Nat.le_refl _)
        go_wp2_with fail
        refine (O2.out _ hb8).mono ?_
        rintro e x9 ⟨p9, q9, rfl, s9, hc9⟩
        have hb9 := below_on hb8 hc9 (Nat.le_refl _)
        go_wp2_with fail
        refine (cmp_any _ _ _ _ _ _ _ _ _ (s8.below hc9 (Nat.le_refl _)) s9).mono ?_
        rintro e x10 ⟨rfl, hc10⟩
        have hb10 := below_on hb9 hc10 (Nat.le_refl _)
        go_wp2
        go_ret
        exact ⟨rfl, hb10⟩
      · have q3 : decide (cmpN s0 s2 ≤ 0) = true := by rw [decide_eq_true_iff]; omega
        have q4 : decide (cmpN s0 s2 < 0) = true := by rw [decide_eq_true_iff]; omega
        have q5 : decide (cmpN s0 s1 ≤ 0) = true := by rw [decide_eq_true_iff]; omega
        have q6 : decide (cmpN s1 s2 ≤ 0) = true := by rw [decide_eq_true_iff]; omega
        clear hX hY hZ hz
        go_enter Tryd.func5, Tryd.ntmps5
        go_wp2_with fail
        refine (answers_any _ HT.out).mono ?_
        rintro e x1 ⟨rfl, hb1⟩
        go_wp2_with fail
        refine (L0.out _ hb1).mono ?_
        rintro e y0 ⟨rfl, rfl⟩
        go_wp2_with fail
        refine (L1.out _ hb1).mono ?_
        rintro e y1 ⟨rfl, rfl⟩
        go_wp2_with fail
        refine (L2.out _ hb1).mono ?_
        rintro e y2 ⟨rfl, rfl⟩
        go_wp2_with fail
        refine (O0.out _ hb1).mono ?_
        rintro e x2 ⟨p2, q2, rfl, s2, hc2⟩
        have hb2 := below_on hb1 hc2 (Nat.le_refl _)
        go_wp2_with fail
        refine (O1.out _ hb2).mono ?_
        rintro e x3 ⟨p3, q3, rfl, s3, hc3⟩
        have hb3 := below_on hb2 hc3 (Nat.le_refl _)
        go_wp2_with fail
        refine (cmp_any _ _ _ _ _ _ _ _ _ (s2.below hc3 (Nat.le_refl _)) s3).mono ?_
        rintro e x4 ⟨rfl, hc4⟩
        have hb4 := below_on hb3 hc4 (Nat.le_refl _)
        go_wp2_with fail
        refine (O1.out _ hb4).mono ?_
        rintro e x5 ⟨p5, q5, rfl, s5, hc5⟩
        have hb5 := below_on hb4 hc5 (Nat.le_refl _)
        go_wp2_with fail
        refine (O2.out _ hb5).mono ?_
        rintro e x6 ⟨p6, q6, rfl, s6, hc6⟩
        have hb6 := below_on hb5 hc6 (Nat.le_refl _)
        go_wp2_with fail
        refine (cmp_any _ _ _ _ _ _ _ _ _ (s5.below hc6 (Nat.le_refl _)) s6).mono ?_
        rintro e x7 ⟨rfl, hc7⟩
        have hb7 := below_on hb6 hc7 (Nat.le_refl _)
        go_wp2_with fail
        refine (O0.out _ hb7).mono ?_
        rintro e x8 ⟨p8, q8, rfl, s8, hc8⟩
        have hb8 := below_on hb7 hc8 (Nat.le_refl _)
        go_wp2_with fail
        refine (O2.out _ hb8).mono ?_
        rintro e x9 ⟨p9, q9, rfl, s9, hc9⟩
        have hb9 := below_on hb8 hc9 (Nat.le_refl _)
        go_wp2_with fail
        refine (cmp_any _ _ _ _ _ _ _ _ _ (s8.below hc9 (Nat.le_refl _)) s9).mono ?_
        rintro e x10 ⟨rfl, hc10⟩
        have hb10 := below_on hb9 hc10 (Nat.le_refl _)
        go_wp2
        go_ret
        exact ⟨rfl, hb10⟩
    · have q5 : decide (cmpN s0 s1 ≤ 0) = true := by rw [decide_eq_true_iff]; omega
      have q6 : decide (cmpN s1 s2 ≤ 0) = false := by rw [decide_eq_false_iff_not]; omega
      clear hX hY hord
      go_enter Tryd.func5, Tryd.ntmps5
      go_wp2_with fail
      refine (answers_any _ HT.out).mono ?_
      rintro e x1 ⟨rfl, hb1⟩
      go_wp2_with fail
      refine (L0.out _ hb1).mono ?_
      rintro e y0 ⟨rfl, rfl⟩
      go_wp2_with fail
      refine (L1.out _ hb1).mono ?_
      rintro e y1 ⟨rfl, rfl⟩
      go_wp2_with fail
      refine (L2.out _ hb1).mono ?_
      rintro e y2 ⟨rfl, rfl⟩
      go_wp2_with fail
      refine (O0.out _ hb1).mono ?_
      rintro e x2 ⟨p2, q2, rfl, s2, hc2⟩
      have hb2 := below_on hb1 hc2 (Nat.le_refl _)
      go_wp2_with fail
      refine (O1.out _ hb2).mono ?_
      rintro e x3 ⟨p3, q3, rfl, s3, hc3⟩
      have hb3 := below_on hb2 hc3 (Nat.le_refl _)
      go_wp2_with fail
      refine (cmp_any _ _ _ _ _ _ _ _ _ (s2.below hc3 (Nat.le_refl _)) s3).mono ?_
      rintro e x4 ⟨rfl, hc4⟩
      have hb4 := below_on hb3 hc4 (Nat.le_refl _)
      go_wp2_with fail
      refine (O1.out _ hb4).mono ?_
      rintro e x5 ⟨p5, q5, rfl, s5, hc5⟩
      have hb5 := below_on hb4 hc5 (Nat.le_refl _)
      go_wp2_with fail
      refine (O2.out _ hb5).mono ?_
      rintro e x6 ⟨p6, q6, rfl, s6, hc6⟩
      have hb6 := below_on hb5 hc6 (Nat.le_refl _)
      go_wp2_with fail
      refine (cmp_any _ _ _ _ _ _ _ _ _ (s5.below hc6 (Nat.le_refl _)) s6).mono ?_
      rintro e x7 ⟨rfl, hc7⟩
      have hb7 := below_on hb6 hc7 (Nat.le_refl _)
      go_wp2_with fail
      refine (O0.out _ hb7).mono ?_
      rintro e x8 ⟨p8, q8, rfl, s8, hc8⟩
      have hb8 := below_on hb7 hc8 (Nat.le_refl _)
      go_wp2_with fail
      refine (O2.out _ hb8).mono ?_
      rintro e x9 ⟨p9, q9, rfl, s9, hc9⟩
      have hb9 := below_on hb8 hc9 (Nat.le_refl _)
      go_wp2_with fail
      refine (cmp_any _ _ _ _ _ _ _ _ _ (s8.below hc9 (Nat.le_refl _)) s9).mono ?_
      rintro e x10 ⟨rfl, hc10⟩
      have hb10 := below_on hb9 hc10 (Nat.le_refl _)
      go_wp2
      go_ret
      exact ⟨rfl, hb10⟩
  · have q5 : decide (cmpN s0 s1 ≤ 0) = false := by rw [decide_eq_false_iff_not]; omega
    clear hX hord
    go_enter Tryd.func5, Tryd.ntmps5
    go_wp2_with fail
    refine (answers_any _ HT.out).mono ?_
    rintro e x1 ⟨rfl, hb1⟩
    go_wp2_with fail
    refine (L0.out _ hb1).mono ?_
    rintro e y0 ⟨rfl, rfl⟩
    go_wp2_with fail
    refine (L1.out _ hb1).mono ?_
    rintro e y1 ⟨rfl, rfl⟩
    go_wp2_with fail
    refine (L2.out _ hb1).mono ?_
    rintro e y2 ⟨rfl, rfl⟩
    go_wp2_with fail
    refine (O0.out _ hb1).mono ?_
    rintro e x2 ⟨p2, q2, rfl, s2, hc2⟩
    have hb2 := below_on hb1 hc2 (Nat.le_refl _)
    go_wp2_with fail
    refine (O1.out _ hb2).mono ?_
    rintro e x3 ⟨p3, q3, rfl, s3, hc3⟩
    have hb3 := below_on hb2 hc3 (Nat.le_refl _)
    go_wp2_with fail
    refine (cmp_any _ _ _ _ _ _ _ _ _ (s2.below hc3 (Nat.le_refl _)) s3).mono ?_
    rintro e x4 ⟨rfl, hc4⟩
    have hb4 := below_on hb3 hc4 (Nat.le_refl _)
    go_wp2_with fail
    refine (O1.out _ hb4).mono ?_
    rintro e x5 ⟨p5, q5, rfl, s5, hc5⟩
    have hb5 := below_on hb4 hc5 (Nat.le_refl _)
    go_wp2_with fail
    refine (O2.out _ hb5).mono ?_
    rintro e x6 ⟨p6, q6, rfl, s6, hc6⟩
    have hb6 := below_on hb5 hc6 (Nat.le_refl _)
    go_wp2_with fail
    refine (cmp_any _ _ _ _ _ _ _ _ _ (s5.below hc6 (Nat.le_refl _)) s6).mono ?_
    rintro e x7 ⟨rfl, hc7⟩
    have hb7 := below_on hb6 hc7 (Nat.le_refl _)
    go_wp2_with fail
    refine (O0.out _ hb7).mono ?_
    rintro e x8 ⟨p8, q8, rfl, s8, hc8⟩
    have hb8 := below_on hb7 hc8 (Nat.le_refl _)
    go_wp2_with fail
    refine (O2.out _ hb8).mono ?_
    rintro e x9 ⟨p9, q9, rfl, s9, hc9⟩
    have hb9 := below_on hb8 hc9 (Nat.le_refl _)
    go_wp2_with fail
    refine (cmp_any _ _ _ _ _ _ _ _ _ (s8.below hc9 (Nat.le_refl _)) s9).mono ?_
    rintro e x10 ⟨rfl, hc10⟩
    have hb10 := below_on hb9 hc10 (Nat.le_refl _)
    go_wp2
    go_ret
    exact ⟨rfl, hb10⟩

theorem door_met (os : Os) (args : Array Value) : laidMetH Tryd.prog Rows.nameThreeRow.laid ((World.doorLaid Tryd.prog 72 os).forCall (fun _ _ => 0) ⟨#[], args, []⟩).memory :=
  laidMetH_of_parts3 (fuel := 8) (laidMet_of_run' 8 (by kernel_rfl) (by kernel_rfl)) (by kernel_rfl) (by kernel_rfl)

set_option maxHeartbeats 1000000 in
set_option maxRecDepth 100000 in
theorem lifted (os : Os) (started : os.Started) (H : Type) (enc : TypeId × Value → H) :
    ReturnsInHanded {} Tryd.checked os 5 .any (fun w args => (Rows.nameThreeSpec.pre enc Tryd.prog Tryd.f5 [] false w args ∧ laidMetH Tryd.prog Rows.nameThreeRow.laid w) ∧ sizedMet enc Tryd.prog Tryd.f5 (OpenSpec.ofChange Rows.nameThreeSpec) false w args) (Rows.nameThreeSpec.post enc Tryd.prog Tryd.f5 false true false false) := by
  refine returnsInHanded_of_change_and (C := Tryd.checked) (X := fun w _ => laidMetH Tryd.prog Rows.nameThreeRow.laid w) (fun _ _ _ hh h => h.of_heap hh) own started (by kernel_rfl) Tryd.func5
    (ChangeSpec.witness_shaped (enc := enc) (C := Tryd.checked) (os := os) (X := fun w _ => laidMetH Tryd.prog Rows.nameThreeRow.laid w) false (World.doorLaid Tryd.prog 72 os) #[.slice none 0 0, .slice none 0 0, .slice none 0 0] 8 rfl (World.shaped_of_RefB (by kernel_rfl) (by kernel_rfl)) (by kernel_rfl) (by kernel_rfl) (by kernel_rfl) (door_met os _)) ?_
  intro W base args ds gs before hval0 hW hcnd hsz0 hL _
  have hval : ∀ (j : Nat) t v, Tryd.f5.params[j]? = some t → args[j]? = some v → Value.okWide Tryd.prog W .any base t v := hval0
  have hW' := hW
  obtain ⟨p, q, hA0, hV, rfl, hfz, hnd⟩ := hW
  have hA : DataW.TrodAll enc Tryd.prog W 0 (fun _ => true) true Tryd.f5.params.toList args.toList ds p := hA0
  have hsz : (DataW.weightsEach Tryd.prog (Tryd.f5.params.toList ++ Rows.nameThreeSpec.plain.varTypes Tryd.prog) (ds ++ gs)).all (· ≤ reachBytes) = true := hsz0
  rw [Tryd.params5] at hA hval hsz
  obtain ⟨v0, vs0, d0, ds0, p0, q0, hargs, rfl, rfl, h0, r0⟩ := trodAll_cons hA
  obtain ⟨v1, vs1, d1, ds1, p1, q1, rfl, rfl, rfl, h1, r1⟩ := trodAll_cons r0
  obtain ⟨v2, vs2, d2, ds2, p2, q2, rfl, rfl, rfl, h2, r2⟩ := trodAll_cons r1
  obtain ⟨rfl, rfl, rfl⟩ := trodAll_nil r2
  obtain rfl : args = #[v0, v1, v2] := by cases args; simp_all
  obtain ⟨rfl, rfl⟩ := trodVars_none hV
  have k0 := h0
  have lt0 : ∀ x ∈ p0, x.block < W.heap.size := by obtain ⟨m, hm⟩ := k0; exact DataW.trod_lt m _ _ _ hm
  obtain ⟨x0, y0, z0, hsl0⟩ := okWide_slice Tryd.underlying22 (hval 0 22 v0 rfl rfl)
  obtain ⟨a0, l0, c0, s0, hv0, w0, b0⟩ := open_strs_arg Tryd.underlying22 h0 hsz (j := 0) rfl rfl ⟨_, _, _, hsl0⟩
  have k1 := h1
  have lt1 : ∀ x ∈ p1, x.block < W.heap.size := by obtain ⟨m, hm⟩ := k1; exact DataW.trod_lt m _ _ _ hm
  obtain ⟨x1, y1, z1, hsl1⟩ := okWide_slice Tryd.underlying22 (hval 1 22 v1 rfl rfl)
  obtain ⟨a1, l1, c1, s1, hv1, w1, b1⟩ := open_strs_arg Tryd.underlying22 h1 hsz (j := 1) rfl rfl ⟨_, _, _, hsl1⟩
  have k2 := h2
  have lt2 : ∀ x ∈ p2, x.block < W.heap.size := by obtain ⟨m, hm⟩ := k2; exact DataW.trod_lt m _ _ _ hm
  obtain ⟨x2, y2, z2, hsl2⟩ := okWide_slice Tryd.underlying22 (hval 2 22 v2 rfl rfl)
  obtain ⟨a2, l2, c2, s2, hv2, w2, b2⟩ := open_strs_arg Tryd.underlying22 h2 hsz (j := 2) rfl rfl ⟨_, _, _, hsl2⟩
  clear hA0 hval0
  subst hv0
  subst hv1
  subst hv2
  refine (walk a0 l0 c0 s0 a1 l1 c1 s1 a2 l2 c2 s2 W w0 b0 w1 b1 w2 b2 hL).mono fun e W' ⟨he, bel⟩ => ?_
  subst he
  exact ⟨_, rfl, _, _, _, [], _, [], hW', trodAll_mk1 (shut_bool Tryd.underlying4 _), (trodAll_cons_mk (Below.trod laidOut (by kernel_rfl) (of_decide_eq_true (by kernel_rfl)) k0 bel lt0) (trodAll_cons_mk (Below.trod laidOut (by kernel_rfl) (of_decide_eq_true (by kernel_rfl)) k1 bel lt1) (trodAll_cons_mk (Below.trod laidOut (by kernel_rfl) (of_decide_eq_true (by kernel_rfl)) k2 bel lt2) trodAll_mk0))), rfl, bel.frame _, fun h => by cases h⟩

theorem over : Rows.nameThreeRow.holds Tryd.pinned (OpenSpec.ofChange Rows.nameThreeSpec) :=
  OpenClaim.holds_of_wide 5 Tryd.f5 rfl rfl rfl rfl rfl rfl rfl ⟨rfl, rfl, rfl, rfl, rfl⟩ rfl rfl rfl rfl rfl (by kernel_rfl) Tryd.func5 (by kernel_rfl)
    (of_decide_eq_true (by kernel_rfl)) (by unfold Func.isWrapper; first | (rw [if_pos (by decide +kernel)]; kernel_rfl) | (rw [if_neg (by decide +kernel)]; exact ⟨rfl, rfl⟩))
    (fun os started H enc _ => lifted os started H enc)

theorem proved : Rows.NameThreeCardSaid :=
  Claim7.holds_tied_plain_at .later [] [.data, .data, .data] true (true, "4ec24589f0f5f26137b02521d2e0afadc07f64e7626361e1c896d6f108f38193") true
    over (fun _ h => by cases h) (by kernel_rfl) (fun _ h => by cases h) nameThree_row_tie rfl ⟨rfl, rfl⟩ (by kernel_rfl) rfl
    (fun f fn hf hfn => by
      obtain rfl : f = 5 := Option.some.inj ((show Tryd.prog.funcNamed "gazetteer/gazetteerlaw02.NameThree" = some 5 by kernel_rfl).symm.trans hf) |>.symm
      obtain rfl : fn = Tryd.f5 := (Option.some.inj (Tryd.func5.symm.trans hfn)).symm
      exact ⟨by kernel_rfl, fun j t ht => by
        rw [Tryd.params5] at ht
        have hm : t ∈ [22, 22, 22] := by simpa using Array.mem_of_getElem? ht
        have hall : ([22, 22, 22].all fun u => !Tryd.prog.wantsStandIn u) = true := by kernel_rfl
        exact (show Tryd.prog.wantsStandIn t = false by simpa using List.all_eq_true.1 hall t hm)⟩)
    (by kernel_rfl)
end Go.Proofs.YtelikppfiaobcaaDoor.nameThree

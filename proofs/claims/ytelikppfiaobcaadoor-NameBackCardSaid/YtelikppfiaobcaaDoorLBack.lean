/- The law NameBack returns true for every input and leaves its arguments as they were; no condition, the package-level tables that it reads tied to the program's text. -/
import Derived.Test.YtelikppfiaobcaaDoorAns02
import Derived.Test.YtelikppfiaobcaaDoorRparse
import Derived.Test.YtelikppfiaobcaaDoorErrs
import Derived.Test.YtelikppfiaobcaaDoorParseLaw
import Derived.Test.YtelikppfiaobcaaDoorOpen
import Derived.Test.YtelikppfiaobcaaDoorRows
import Derived.Test.YtelikppfiaobcaaDoorCards
import Derived.Test.YtelikppfiaobcaaDoorTie
import Derived.SevenTiedAt
import Derived.LaidMore
import Derived.Stop.Joined
import Derived.Stop.LaidErr
import Derived.Lib.LaidTab
import Derived.MakeChecks
import Derived.Lay
import Derived.WalkKit
import Derived.ProofKit
import Derived.OpenShut
import Derived.Below
namespace Go.Proofs.YtelikppfiaobcaaDoor.nameBack
open Go.ChangeShapes Go.WideShapes Go.ChangeAt Go.RowKit
open Go.ChangeMaps (open_string shut_string)
set_option linter.unusedVariables false

/-- the table that the walk reads -/
theorem tab_of {W : World} (hL : laidMetH Tryd.prog Rows.nameBackRow.laid W) : Tab W ∧ Errs W := by
  rw [MakeChecks.laidMetH_plain _ _ _ (by kernel_rfl)] at hL
  exact ⟨Lib.tabIs_of_head (g := 3) (by kernel_rfl) (by kernel_rfl) Tryd.underlying108 Tryd.underlying62 (by kernel_rfl) (by kernel_rfl) hL.tail.tail,
    err_cell hL.tail.tail.tail.tail.tail (by kernel_rfl) (by kernel_rfl), err_cell hL.tail.tail.tail.tail (by kernel_rfl) (by kernel_rfl)⟩
theorem textT_len (ss : List ByteArray) (h : soundB ss = true) : (textT ss).length ≤ 1100 := by
  have hb := bodyT_len ss
  simp only [soundB, Bool.and_eq_true, decide_eq_true_eq] at h
  unfold textT
  split
  · simp
  · omega
theorem sound_size {ss : List ByteArray} (h : soundB ss = true) : sizeN ss ≤ 254 ∧ ss.length ≤ 255 := by
  simp only [soundB, Bool.and_eq_true, decide_eq_true_eq] at h
  omega
theorem textT_ne (ss : List ByteArray) : textT ss ≠ [] := by
  unfold textT
  split
  · simp
  · rename_i h
    cases ss with
    | nil => simp at h
    | cons s ss => simp [bodyT]
theorem drop_last (l : List UInt8) (h : l ≠ []) : ((⟨l.toArray⟩ : ByteArray).extract 0 (l.length - 1)).data.toList = l.dropLast := by
  rw [Lib.extract_data]
  simp [List.dropLast_eq_take]
set_option maxHeartbeats 4000000 in
set_option maxRecDepth 100000 in
theorem walk (a0 : Option Addr) (l0 c0 : Nat) (s0 : List ByteArray) (W : World) (w0 : Strs W a0 l0 c0 s0) (b0 : c0 * 16 ≤ 140737488355328) (hL : laidMetH Tryd.prog Rows.nameBackRow.laid W) :
    Calls Tryd.prog 9 #[.slice a0 l0 c0] W fun e w' => e = .returned (.bool true) ∧ Below W.heap.size W w' := by
  have HT := Lib.hid (tab_of hL).1
  have HE := Lib.hid (tab_of hL).2
  clear hL
  have hm0 := w0.row.hle
  have hl0 : l0 * 16 ≤ 140737488355328 := by omega
  have L0 := Lib.hid (fun w' (h : Below W.heap.size W w') => light_any w' a0 l0 c0 s0 (w0.below h (Nat.le_refl _)) hl0)
  have O0 := Lib.hid (fun w' (h : Below W.heap.size W w') => own_any w' a0 l0 c0 s0 (w0.below h (Nat.le_refl _)) hl0)
  have S0 := Lib.hid (fun w' (h : Below W.heap.size W w') => rsound_any w' a0 l0 c0 s0 (w0.below h (Nat.le_refl _)))
  have P0 := Lib.hid (fun w' (h : Below W.heap.size W w') => w0.below h (Nat.le_refl _))
  clear hm0 b0 hl0
  have HL := Lib.hid w0.len
  cases g0 : lightB s0
  · go_enter Tryd.func9, Tryd.ntmps9
    go_wp2_with fail
    refine (answers_any _ HT.out).mono ?_
    rintro e x1 ⟨rfl, hb1⟩
    go_wp2_with fail
    refine (L0.out _ hb1).mono ?_
    rintro e y2 ⟨rfl, rfl⟩
    go_wp2_with fail
    refine (answers_any _ (tab_on HT.out hb1)).mono ?_
    rintro e x3 ⟨rfl, hc3⟩
    have hb3 := below_on hb1 hc3 (Nat.le_refl _)
    go_wp2
    go_ret
    exact ⟨rfl, hb3⟩
  cases g1 : soundB s0
  · go_enter Tryd.func9, Tryd.ntmps9
    go_wp2_with fail
    refine (answers_any _ HT.out).mono ?_
    rintro e x1 ⟨rfl, hb1⟩
    go_wp2_with fail
    refine (L0.out _ hb1).mono ?_
    rintro e y2 ⟨rfl, rfl⟩
    go_wp2_with fail
    refine (S0.out _ hb1).mono ?_
    rintro e y3 ⟨rfl, rfl⟩
    go_wp2_with fail
    refine (answers_any _ (tab_on HT.out hb1)).mono ?_
    rintro e x3 ⟨rfl, hc3⟩
    have hb3 := below_on hb1 hc3 (Nat.le_refl _)
    go_wp2
    go_ret
    exact ⟨rfl, hb3⟩
  obtain ⟨z1, z2⟩ := sound_size g1
  have htl := textT_len s0 g1
  have hne := textT_ne s0
  have hpt := parse_text s0 g1
  have hpo := parse_open s0 g1
  have hdl := drop_last (textT s0) hne
  have hTx := fun w' (ao : Option Addr) (len cap : Nat) (hs : Strs w' ao len cap s0) (hT : Tab w') => text_any w' ao len cap s0 hs (by omega) hT
  obtain ⟨T, hTe⟩ : ∃ T, T = textT s0 := ⟨_, rfl⟩
  rw [← hTe] at htl hne hpt hpo hdl
  have hTx' : ∀ w' (ao : Option Addr) (len cap : Nat) (hs : Strs w' ao len cap s0) (hT : Tab w'), Calls Tryd.prog 17 #[.slice ao len cap] w' fun e w'' => e = .returned (.string ⟨T.toArray⟩) ∧ Below w'.heap.size w' w'' := by
    rw [hTe]; exact hTx
  have hsz : (⟨T.toArray⟩ : ByteArray).size = T.length := by show T.toArray.size = _; simp
  have hdt : (⟨T.toArray⟩ : ByteArray).data.toList = T := by simp
  have htp : 1 ≤ T.length := by
    cases T with
    | nil => exact absurd rfl hne
    | cons c r => simp
  have hps : s0 ≠ [] → parseB ((⟨T.toArray⟩ : ByteArray).extract 0 (T.length - 1)).data.toList = some s0 := fun h => by rw [hdl]; exact hpo h
  have hpq : parseB (⟨T.toArray⟩ : ByteArray).data.toList = some s0 := by rw [hdt]; exact hpt
  obtain ⟨t, ht⟩ : ∃ t : ByteArray, t = ⟨T.toArray⟩ := ⟨_, rfl⟩
  obtain ⟨m, hm⟩ : ∃ m, m = T.length := ⟨_, rfl⟩
  rw [← ht] at hsz hps hpq hTx'
  rw [← hm] at hsz hps htl htp
  rw [← hsz] at hps htl htp
  have HTX := Lib.hid hTx'
  have HPS := Lib.hid hps
  have HPQ := Lib.hid hpq
  clear hTx hTx' hTe hdl hpo hpt hne hdt ht hm hsz hps hpq z1 z2
  have hx : exactB s0 s0 = true := by simp [exactB]
  have HX := Lib.hid hx
  clear hx
  have G1 := Lib.hid g1
  clear g1 m T
  by_cases hz : l0 = 0
  · subst hz
    go_enter Tryd.func9, Tryd.ntmps9
    go_wp2_with fail
    refine (answers_any _ HT.out).mono ?_
    rintro e x1 ⟨rfl, hb1⟩
    go_wp2_with fail
    refine (L0.out _ hb1).mono ?_
    rintro e y2 ⟨rfl, rfl⟩
    go_wp2_with fail
    refine (S0.out _ hb1).mono ?_
    rw [G1.out]
    rintro e y3 ⟨rfl, rfl⟩
    go_wp2_with fail
    refine (O0.out _ hb1).mono ?_
    rintro e x2 ⟨p2, q2, rfl, t2, hc2⟩
    have hb2 := below_on hb1 hc2 (Nat.le_refl _)
    go_wp2_with fail
    refine (HTX.out _ _ _ _ t2 (tab_on HT.out hb2)).mono ?_
    rintro e x3 ⟨rfl, hc3⟩
    have hb3 := below_on hb2 hc3 (Nat.le_refl _)
    go_wp2_with fail
    refine (parse_any _ t (by omega) (HE.out.on hb3)).mono ?_
    rw [HPQ.out]
    rintro e x4 ⟨p4, n4, q4, rfl, t4, hc4, f4⟩
    have hb4 := below_on hb3 hc4 (Nat.le_refl _)
    go_wp2_with fail
    refine (exact_any _ _ _ _ _ _ _ _ _ t4 (P0.out _ hb4)).mono ?_
    rw [HX.out]
    rintro e x5 ⟨rfl, hc5⟩
    have hb5 := below_on hb4 hc5 (Nat.le_refl _)
    go_wp2
    go_ret
    exact ⟨rfl, hb5⟩
  · have hz' : ((l0 : Int) == 0) = false := by rw [beq_eq_false_iff_ne]; omega
    have HPS' := Lib.hid (HPS.out (fun e => hz (by rw [← HL.out, e]; rfl)))
    have hes : (t.extract 0 (t.size - 1)).size ≤ 1099511627776 := by rw [ByteArray.size_extract]; omega
    go_enter Tryd.func9, Tryd.ntmps9
    go_wp2_with fail
    refine (answers_any _ HT.out).mono ?_
    rintro e x1 ⟨rfl, hb1⟩
    go_wp2_with fail
    refine (L0.out _ hb1).mono ?_
    rintro e y2 ⟨rfl, rfl⟩
    go_wp2_with fail
    refine (S0.out _ hb1).mono ?_
    rw [G1.out]
    rintro e y3 ⟨rfl, rfl⟩
    go_wp2_with fail
    refine (O0.out _ hb1).mono ?_
    rintro e x2 ⟨p2, q2, rfl, t2, hc2⟩
    have hb2 := below_on hb1 hc2 (Nat.le_refl _)
    go_wp2_with fail
    refine (HTX.out _ _ _ _ t2 (tab_on HT.out hb2)).mono ?_
    rintro e x3 ⟨rfl, hc3⟩
    have hb3 := below_on hb2 hc3 (Nat.le_refl _)
    go_wp2_with fail
    refine (parse_any _ t (by omega) (HE.out.on hb3)).mono ?_
    rw [HPQ.out]
    rintro e x4 ⟨p4, n4, q4, rfl, t4, hc4, f4⟩
    have hb4 := below_on hb3 hc4 (Nat.le_refl _)
    go_wp2_with fail
    refine (exact_any _ _ _ _ _ _ _ _ _ t4 (P0.out _ hb4)).mono ?_
    rw [HX.out]
    rintro e x5 ⟨rfl, hc5⟩
    have hb5 := below_on hb4 hc5 (Nat.le_refl _)
    go_wp2_with fail
    refine (parse_any _ (t.extract 0 (t.size - 1)) hes (HE.out.on hb5)).mono ?_
    rw [HPS'.out]
    rintro e x6 ⟨p6, n6, q6, rfl, t6, hc6, f6⟩
    have hb6 := below_on hb5 hc6 (Nat.le_refl _)
    go_wp2_with fail
    refine (exact_any _ _ _ _ _ _ _ _ _ t6 (P0.out _ hb6)).mono ?_
    rw [HX.out]
    rintro e x7 ⟨rfl, hc7⟩
    have hb7 := below_on hb6 hc7 (Nat.le_refl _)
    go_wp2
    go_ret
    exact ⟨rfl, hb7⟩

theorem door_met (os : Os) (args : Array Value) : laidMetH Tryd.prog Rows.nameBackRow.laid ((World.laidAll Tryd.prog os Rows.nameBackRow.laid).forCall (fun _ _ => 0) ⟨#[], args, []⟩).memory := by
  rw [MakeChecks.laidMetH_plain _ _ _ (by kernel_rfl)]
  exact laidMet_laidAll _ (by kernel_rfl) (by kernel_rfl)

set_option maxHeartbeats 1000000 in
set_option maxRecDepth 100000 in
theorem lifted (os : Os) (started : os.Started) (H : Type) (enc : TypeId × Value → H) :
    ReturnsInHanded {} Tryd.checked os 9 .any (fun w args => (Rows.nameBackSpec.pre enc Tryd.prog Tryd.f9 [] false w args ∧ laidMetH Tryd.prog Rows.nameBackRow.laid w) ∧ sizedMet enc Tryd.prog Tryd.f9 (OpenSpec.ofChange Rows.nameBackSpec) false w args) (Rows.nameBackSpec.post enc Tryd.prog Tryd.f9 false true false false) := by
  refine returnsInHanded_of_change_and (C := Tryd.checked) (X := fun w _ => laidMetH Tryd.prog Rows.nameBackRow.laid w) (fun _ _ _ hh h => h.of_heap hh) own started (by kernel_rfl) Tryd.func9
    (ChangeSpec.witness_shaped (enc := enc) (C := Tryd.checked) (os := os) (X := fun w _ => laidMetH Tryd.prog Rows.nameBackRow.laid w) false (World.laidAll Tryd.prog os Rows.nameBackRow.laid) #[.slice none 0 0] 8 (World.laidAll_os _ _ _) (World.shaped_of_ZipB (by kernel_rfl) (by kernel_rfl)) (by kernel_rfl) (by kernel_rfl) (by kernel_rfl) (door_met os _)) ?_
  intro W base args ds gs before hval0 hW hcnd hsz0 hL _
  have hval : ∀ (j : Nat) t v, Tryd.f9.params[j]? = some t → args[j]? = some v → Value.okWide Tryd.prog W .any base t v := hval0
  have hW' := hW
  obtain ⟨p, q, hA0, hV, rfl, hfz, hnd⟩ := hW
  have hA : DataW.TrodAll enc Tryd.prog W 0 (fun _ => true) true Tryd.f9.params.toList args.toList ds p := hA0
  have hsz : (DataW.weightsEach Tryd.prog (Tryd.f9.params.toList ++ Rows.nameBackSpec.plain.varTypes Tryd.prog) (ds ++ gs)).all (· ≤ reachBytes) = true := hsz0
  rw [Tryd.params9] at hA hval hsz
  obtain ⟨v0, vs0, d0, ds0, p0, q0, hargs, rfl, rfl, h0, r0⟩ := trodAll_cons hA
  obtain ⟨rfl, rfl, rfl⟩ := trodAll_nil r0
  obtain rfl : args = #[v0] := by cases args; simp_all
  obtain ⟨rfl, rfl⟩ := trodVars_none hV
  have k0 := h0
  have lt0 : ∀ x ∈ p0, x.block < W.heap.size := by obtain ⟨m, hm⟩ := k0; exact DataW.trod_lt m _ _ _ hm
  obtain ⟨x0, y0, z0, hsl0⟩ := okWide_slice Tryd.underlying22 (hval 0 22 v0 rfl rfl)
  obtain ⟨a0, l0, c0, s0, hv0, w0, b0⟩ := open_strs_arg Tryd.underlying22 h0 hsz (j := 0) rfl rfl ⟨_, _, _, hsl0⟩
  clear hA0 hval0
  subst hv0
  refine (walk a0 l0 c0 s0 W w0 b0 hL).mono fun e W' ⟨he, bel⟩ => ?_
  subst he
  exact ⟨_, rfl, _, _, _, [], _, [], hW', trodAll_mk1 (shut_bool Tryd.underlying4 _), (trodAll_cons_mk (Below.trod laidOut (by kernel_rfl) (of_decide_eq_true (by kernel_rfl)) k0 bel lt0) trodAll_mk0), rfl, bel.frame _, fun h => by cases h⟩

theorem over : Rows.nameBackRow.holds Tryd.pinned (OpenSpec.ofChange Rows.nameBackSpec) :=
  OpenClaim.holds_of_wide 9 Tryd.f9 rfl rfl rfl rfl rfl rfl rfl ⟨rfl, rfl, rfl, rfl, rfl⟩ rfl rfl rfl rfl rfl (by kernel_rfl) Tryd.func9 (by kernel_rfl)
    (of_decide_eq_true (by kernel_rfl)) (by unfold Func.isWrapper; first | (rw [if_pos (by decide +kernel)]; kernel_rfl) | (rw [if_neg (by decide +kernel)]; exact ⟨rfl, rfl⟩))
    (fun os started H enc _ => lifted os started H enc)

theorem proved : Rows.NameBackCardSaid :=
  Claim7.holds_tied_plain_at .later [] [.data, .data, .data, .data, .sentinel, .sentinel, .pinned] true (true, "4ec24589f0f5f26137b02521d2e0afadc07f64e7626361e1c896d6f108f38193") true
    over (fun _ h => by cases h) (by kernel_rfl) (fun _ h => by cases h) nameBack_row_tie rfl ⟨rfl, rfl⟩ (by kernel_rfl) rfl
    (fun f fn hf hfn => by
      obtain rfl : f = 9 := Option.some.inj ((show Tryd.prog.funcNamed "gazetteer/gazetteerlaw02.NameBack" = some 9 by kernel_rfl).symm.trans hf) |>.symm
      obtain rfl : fn = Tryd.f9 := (Option.some.inj (Tryd.func9.symm.trans hfn)).symm
      exact ⟨by kernel_rfl, fun j t ht => by
        rw [Tryd.params9] at ht
        have hm : t ∈ [22] := by simpa using Array.mem_of_getElem? ht
        have hall : ([22].all fun u => !Tryd.prog.wantsStandIn u) = true := by kernel_rfl
        exact (show Tryd.prog.wantsStandIn t = false by simpa using List.all_eq_true.1 hall t hm)⟩)
    (by kernel_rfl)
end Go.Proofs.YtelikppfiaobcaaDoor.nameBack

/- The law FileTypes returns true for every input and leaves its arguments as they were; no condition, the package-level tables that it reads tied to the program's text. -/
import Derived.Test.YtipbakdodbmfjaaGreatDoorAns25
import Derived.Test.YtipbakdodbmfjaaGreatDoorRtype
import Derived.Test.YtipbakdodbmfjaaGreatDoorWrap
import Derived.Test.YtipbakdodbmfjaaGreatDoorErrs
import Derived.Test.YtipbakdodbmfjaaGreatDoorOpen
import Derived.Test.YtipbakdodbmfjaaGreatDoorRows
import Derived.Test.YtipbakdodbmfjaaGreatDoorCards
import Derived.Test.YtipbakdodbmfjaaGreatDoorTie
import Derived.SevenTiedAt
import Derived.LaidMore
import Derived.Stop.Joined
import Derived.Stop.LaidErr
import Derived.Lib.LaidTab
import Derived.MakeChecks
import Derived.Lay
import Derived.WalkKit
import Derived.ProofKit
import Derived.OpenShut
import Derived.Below
namespace Go.Proofs.YtipbakdodbmfjaaGreatDoor.fileTypes
open Go.ChangeShapes Go.WideShapes Go.ChangeAt Go.RowKit
open Go.ChangeMaps (open_string shut_string)
set_option linter.unusedVariables false

/-- what the walk reads -/
theorem env_of {W : World} (hL : laidMetH Tryz.prog Rows.fileTypesRow.laid W) (hM : ∃ m, W.cell? ⟨1, 0, none⟩ = some (.int .i64 m)) : Env W ∧ Types W := by
  rw [MakeChecks.laidMetH_plain _ _ _ (by kernel_rfl)] at hL
  exact ⟨⟨Lib.tabIs_of_head (g := 2) (by kernel_rfl) (by kernel_rfl) Tryz.underlying199 Tryz.underlying58 (by kernel_rfl) (by kernel_rfl) hL.tail.tail,
    ⟨err_cell hL.tail.tail.tail.tail.tail (by kernel_rfl) (by kernel_rfl), err_cell hL.tail.tail.tail.tail (by kernel_rfl) (by kernel_rfl)⟩, hM⟩, types_of_laid hL.tail.tail.tail.tail.tail.tail⟩
theorem name_size (k : Int) (h1 : -9223372036854775808 ≤ k) (h2 : k ≤ 9223372036854775807) : (typeNameP k).length ≤ 30 := by
  unfold typeNameP
  split
  · simp
  · split
    · rename_i t h
      have hm := List.mem_of_find?_eq_some h
      have : ∀ t ∈ typesP, t.2.length ≤ 30 := by decide
      exact this t hm
    · have := Lib.itoa_length_le k h1 h2
      simp [TYPEP]
      omega
set_option maxHeartbeats 16000000 in
set_option maxRecDepth 100000 in
theorem walk (a0 : Int) (a1 : ByteArray) (W : World) (w0 : (Lit.int .i64 a0).wf = true) (w1 : a1.size ≤ maxLen) (hL : laidMetH Tryz.prog Rows.fileTypesRow.laid W) (hM : ∃ m, W.cell? ⟨1, 0, none⟩ = some (.int .i64 m)) :
    Calls Tryz.prog 3 #[.int .i64 a0, .string a1] W fun e w' => e = .returned (.bool true) ∧ Below W.heap.size W w' := by
  have hb := bounds_i64 w0
  have hES := env_of hL hM
  have HE := Lib.hid hES.1
  have HT := Lib.hid hES.2
  clear hL hM hES w0
  by_cases h100 : 100 < a1.size
  · have d5 : decide ((100 : Int) < (a1.size : Int)) = true := by rw [decide_eq_true_eq]; omega
    go_enter Tryz.func3, Tryz.ntmps3
    go_wp2_with fail
    refine (answers25_any _ HE.out HT.out).mono ?_
    rintro e x1 ⟨rfl, hb1⟩
    have HE1 := Lib.hid (HE.out.on hb1)
    have HT1 := Lib.hid (HT.out.on hb1)
    have HB1 := Lib.hid hb1
    clear hb1
    go_wp2_with fail
    refine (answers25_any _ HE1.out HT1.out).mono ?_
    rintro e x2 ⟨rfl, hb2⟩
    have HB2 := Lib.hid (below_on HB1.out hb2 (Nat.le_refl _))
    clear hb2
    go_wp2_with fail
    go_ret
    exact ⟨rfl, HB2.out⟩
  have h100' : a1.size ≤ 100 := by omega
  have d5 : decide ((100 : Int) < (a1.size : Int)) = false := by rw [decide_eq_false_iff_not]; omega
  clear h100
  obtain ⟨T, hT⟩ : ∃ z : ByteArray, z = ⟨(typeNameP a0).toArray⟩ := ⟨_, rfl⟩
  have hTd : T.data.toList = typeNameP a0 := by rw [hT]
  have hTs : T.size ≤ 30 := by
    have h1 : T.data.toList.length = T.size := by simp
    rw [hTd] at h1
    have := name_size a0 hb.1 hb.2
    omega
  have HN := Lib.hid (fun (w' : World) (h1 : Env w') (h2 : Types w') => typename_any w' a0 hb.1 hb.2 h1 h2)
  have HRN := Lib.hid (fun (w' : World) => rtypename_any w' a0 hb.1 hb.2)
  have HTY := Lib.hid (fun (w' : World) (h1 : Env w') (h2 : Types w') => type_any w' a1 (by omega) h1 h2)
  have HRT := Lib.hid (fun (w' : World) => rtype_any w' a1 (by omega))
  obtain ⟨K, hK⟩ : ∃ K, K = typeP a1.data.toList := ⟨_, rfl⟩
  obtain ⟨b, hbk⟩ : ∃ b, b = decide (K ≠ 0) := ⟨_, rfl⟩
  have hK0 : 0 ≤ K ∧ K ≤ 65535 := by rw [hK]; exact typeP_pos _
  have hdk : decide (0 < K) = b := by rw [hbk, decide_eq_decide]; omega
  simp only [type_same] at HRT
  rw [← hK] at HTY HRT
  rw [← hT] at HN HRN
  have HBK := Lib.hid hbk
  have HTD := Lib.hid hTd
  have HT0 := Lib.hid hT
  have e1 : (T.toList != T.toList) = false := by simp
  have e2 : (K != K) = false := by simp
  have e3 : (b != b) = false := by simp
  clear hT hTd hK hbk hK0
  go_enter Tryz.func3, Tryz.ntmps3
  go_wp2_with fail
  refine (answers25_any _ HE.out HT.out).mono ?_
  rintro e x1 ⟨rfl, hb1⟩
  have HE1 := Lib.hid (HE.out.on hb1)
  have HT1 := Lib.hid (HT.out.on hb1)
  have HB1 := Lib.hid hb1
  clear hb1
  go_wp2_with fail
  refine (HN.out _ HE1.out HT1.out).mono ?_
  rintro e x2 ⟨rfl, hb2⟩
  have HE2 := Lib.hid (HE1.out.on hb2)
  have HT2 := Lib.hid (HT1.out.on hb2)
  have HB2 := Lib.hid (below_on HB1.out hb2 (Nat.le_refl _))
  clear hb2
  go_wp2_with fail
  refine (HTY.out _ HE2.out HT2.out).mono ?_
  rintro e x3 ⟨hb3, rfl⟩
  rw [← HBK.out]
  have HE3 := Lib.hid (HE2.out.on hb3)
  have HT3 := Lib.hid (HT2.out.on hb3)
  have HB3 := Lib.hid (below_on HB2.out hb3 (Nat.le_refl _))
  clear hb3
  go_wp2_with fail
  refine (HRN.out _).mono ?_
  rintro e x4 ⟨rfl, hb4⟩
  have HE4 := Lib.hid (HE3.out.on hb4)
  have HT4 := Lib.hid (HT3.out.on hb4)
  have HB4 := Lib.hid (below_on HB3.out hb4 (Nat.le_refl _))
  clear hb4
  go_wp2_with fail
  refine (HRT.out _).mono ?_
  rintro e x5 ⟨rfl, hb5⟩
  have HE5 := Lib.hid (HE4.out.on hb5)
  have HT5 := Lib.hid (HT4.out.on hb5)
  have HB5 := Lib.hid (below_on HB4.out hb5 (Nat.le_refl _))
  clear hb5
  by_cases hlo : a0 < 1
  · have q1 : decide (a0 < 1) = true := by rw [decide_eq_true_eq]; exact hlo
    have hTe : T = ⟨#[]⟩ := by rw [HT0.out, tname_out (Or.inl hlo)]
    subst hTe
    clear hlo
    cases b
    · go_wp2_with fail
      go_ret
      exact ⟨rfl, HB5.out⟩
    · go_wp2_with fail
      go_ret
      exact ⟨rfl, HB5.out⟩
  have q1 : decide (a0 < 1) = false := by rw [decide_eq_false_iff_not]; exact hlo
  by_cases hhi : 65535 < a0
  · have q2 : decide (65535 < a0) = true := by rw [decide_eq_true_eq]; exact hhi
    have hTe : T = ⟨#[]⟩ := by rw [HT0.out, tname_out (Or.inr hhi)]
    subst hTe
    clear hlo hhi
    cases b
    · go_wp2_with fail
      go_ret
      exact ⟨rfl, HB5.out⟩
    · go_wp2_with fail
      go_ret
      exact ⟨rfl, HB5.out⟩
  have q2 : decide (65535 < a0) = false := by rw [decide_eq_false_iff_not]; exact hhi
  have h1 : 1 ≤ a0 := by omega
  have h2 : a0 ≤ 65535 := by omega
  have hn0 : decide (a0 ≠ 0) = true := by rw [decide_eq_true_eq]; omega
  have HA := Lib.hid (fun (w' : World) (g1 : Env w') (g2 : Types w') => by
    have h := type_any w' T (by omega) g1 g2
    rw [HTD.out, typeP_name a0 h1 h2] at h
    exact h)
  have HS := Lib.hid (fun (w' : World) => rsmall_any w' T (by omega))
  obtain ⟨U, hU⟩ : ∃ z : ByteArray, z = small T := ⟨_, rfl⟩
  have hUs : U.size ≤ 30 := by rw [hU, small_size]; exact hTs
  have hUd : U.data.toList = lowP (typeNameP a0) := by rw [hU, ← HTD.out]; rfl
  have HBT := Lib.hid (fun (w' : World) (g1 : Env w') (g2 : Types w') => by
    have h := type_any w' U (by omega) g1 g2
    rw [hUd, typeP_low, typeP_name a0 h1 h2] at h
    exact h)
  rw [← hU] at HS
  obtain ⟨D, hD⟩ : ∃ z : ByteArray, z = ⟨(Lib.itoa a0).toArray⟩ := ⟨_, rfl⟩
  have hDs : D.size ≤ 21 := by rw [hD]; simp [ByteArray.size]; exact Lib.itoa_length_le a0 hb.1 hb.2
  have HDC := Lib.hid (fun (w' : World) => dec_any w' a0 hb.1 hb.2)
  rw [← hD] at HDC
  have hcat : (⟨#[116, 121, 112, 101]⟩ ++ D : ByteArray).data.toList = [116, 121, 112, 101] ++ Lib.itoa a0 := cat_list rfl (by rw [hD])
  have hcs : (⟨#[116, 121, 112, 101]⟩ ++ D : ByteArray).size ≤ 100 := by
    rw [size_of hcat, List.length_append]
    have h4 := Lib.itoa_length_le a0 hb.1 hb.2
    simp only [List.length_cons, List.length_nil]
    omega
  have HCT := Lib.hid (fun (w' : World) (g1 : Env w') (g2 : Types w') => by
    have h := type_any w' (⟨#[116, 121, 112, 101]⟩ ++ D : ByteArray) (by omega) g1 g2
    rw [hcat, typeP_num [116, 121, 112, 101] (by decide) a0 h1 h2] at h
    exact h)
  have e4 : (a0 == a0) = true := by simp
  have HN0 := Lib.hid hn0
  clear hlo hhi h1 h2 hn0 hU hUd hD hcat hcs
  cases b
  all_goals
    go_wp2_with fail
    refine (HA.out _ HE5.out HT5.out).mono ?_
    rintro e x6 ⟨hb6, rfl⟩
    rw [HN0.out]
    have HE6 := Lib.hid (HE5.out.on hb6)
    have HT6 := Lib.hid (HT5.out.on hb6)
    have HB6 := Lib.hid (below_on HB5.out hb6 (Nat.le_refl _))
    clear hb6
    go_wp2_with fail
    refine (HS.out _).mono ?_
    rintro e x7 ⟨rfl, hb7⟩
    have HE7 := Lib.hid (HE6.out.on hb7)
    have HT7 := Lib.hid (HT6.out.on hb7)
    have HB7 := Lib.hid (below_on HB6.out hb7 (Nat.le_refl _))
    clear hb7
    go_wp2_with fail
    refine (HBT.out _ HE7.out HT7.out).mono ?_
    rintro e x8 ⟨hb8, rfl⟩
    rw [HN0.out]
    have HE8 := Lib.hid (HE7.out.on hb8)
    have HT8 := Lib.hid (HT7.out.on hb8)
    have HB8 := Lib.hid (below_on HB7.out hb8 (Nat.le_refl _))
    clear hb8
    go_wp2_with fail
    refine (HDC.out _).mono ?_
    rintro e x9 ⟨rfl, hb9⟩
    have HE9 := Lib.hid (HE8.out.on hb9)
    have HT9 := Lib.hid (HT8.out.on hb9)
    have HB9 := Lib.hid (below_on HB8.out hb9 (Nat.le_refl _))
    clear hb9
    go_wp2_with fail
    refine (HCT.out _ HE9.out HT9.out).mono ?_
    rintro e y1 ⟨hb10, rfl⟩
    rw [HN0.out]
    have HB10 := Lib.hid (below_on HB9.out hb10 (Nat.le_refl _))
    clear hb10
    go_wp2_with fail
    go_ret
    exact ⟨rfl, HB10.out⟩

theorem door_met (os : Os) (args : Array Value) : laidMetH Tryz.prog Rows.fileTypesRow.laid ((World.laidAll Tryz.prog os Rows.fileTypesRow.laid).forCall (fun _ _ => 0) ⟨#[], args, []⟩).memory := by
  rw [MakeChecks.laidMetH_plain _ _ _ (by kernel_rfl)]
  exact laidMet_laidAll _ (by kernel_rfl) (by kernel_rfl)

set_option maxHeartbeats 1000000 in
set_option maxRecDepth 100000 in
theorem lifted (os : Os) (started : os.Started) (H : Type) (enc : TypeId × Value → H) :
    ReturnsInHanded {} Tryz.checked os 3 .any (fun w args => (Rows.fileTypesSpec.pre enc Tryz.prog Tryz.f3 [] false w args ∧ laidMetH Tryz.prog Rows.fileTypesRow.laid w) ∧ sizedMet enc Tryz.prog Tryz.f3 (OpenSpec.ofChange Rows.fileTypesSpec) false w args) (Rows.fileTypesSpec.post enc Tryz.prog Tryz.f3 false true false false) := by
  refine wrap_and_shaped (C := Tryz.checked) (X := fun w _ => laidMetH Tryz.prog Rows.fileTypesRow.laid w) (fun _ _ _ hh h => h.of_heap hh) own started (by kernel_rfl) Tryz.func3
    (ChangeSpec.witness_shaped (enc := enc) (C := Tryz.checked) (os := os) (X := fun w _ => laidMetH Tryz.prog Rows.fileTypesRow.laid w) false (World.laidAll Tryz.prog os Rows.fileTypesRow.laid) #[.int .i64 0, .string ByteArray.empty] 8 (World.laidAll_os _ _ _) (World.shaped_of_ZipB (by kernel_rfl) (by kernel_rfl)) (by kernel_rfl) (by kernel_rfl) (by kernel_rfl) (door_met os _)) ?_
  intro W base args ds gs before hval0 hW hcnd hsz0 hL hsh _
  have hval : ∀ (j : Nat) t v, Tryz.f3.params[j]? = some t → args[j]? = some v → Value.okWide Tryz.prog W .any base t v := hval0
  have hW' := hW
  obtain ⟨p, q, hA0, hV, rfl, hfz, hnd⟩ := hW
  have hA : DataW.TrodAll enc Tryz.prog W 0 (fun _ => true) true Tryz.f3.params.toList args.toList ds p := hA0
  have hsz : (DataW.weightsEach Tryz.prog (Tryz.f3.params.toList ++ Rows.fileTypesSpec.plain.varTypes Tryz.prog) (ds ++ gs)).all (· ≤ reachBytes) = true := hsz0
  rw [Tryz.params3] at hA hval hsz
  obtain ⟨v0, vs0, d0, ds0, p0, q0, hargs, rfl, rfl, h0, r0⟩ := trodAll_cons hA
  obtain ⟨v1, vs1, d1, ds1, p1, q1, rfl, rfl, rfl, h1, r1⟩ := trodAll_cons r0
  obtain ⟨rfl, rfl, rfl⟩ := trodAll_nil r1
  obtain rfl : args = #[v0, v1] := by cases args; simp_all
  obtain ⟨rfl, rfl⟩ := trodVars_none hV
  have k0 := h0
  have lt0 : ∀ x ∈ p0, x.block < W.heap.size := by obtain ⟨m, hm⟩ := k0; exact DataW.trod_lt m _ _ _ hm
  obtain ⟨a0, rfl, rfl, rfl, w0⟩ := open_int Tryz.underlying3 (hval 0 3 v0 rfl rfl) h0
  have k1 := h1
  have lt1 : ∀ x ∈ p1, x.block < W.heap.size := by obtain ⟨m, hm⟩ := k1; exact DataW.trod_lt m _ _ _ hm
  obtain ⟨a1, rfl, rfl, rfl, w1⟩ := open_string Tryz.underlying9 (hval 1 9 v1 rfl rfl) h1
  clear hA0 hval0
  refine (walk a0 a1 W w0 w1 hL (max_of_shape hsh)).mono fun e W' ⟨he, bel⟩ => ?_
  subst he
  exact ⟨_, rfl, _, _, _, [], _, [], hW', trodAll_mk1 (shut_bool Tryz.underlying4 _), (trodAll_cons_mk (Below.trod laidOut (by kernel_rfl) (of_decide_eq_true (by kernel_rfl)) k0 bel lt0) (trodAll_cons_mk (Below.trod laidOut (by kernel_rfl) (of_decide_eq_true (by kernel_rfl)) k1 bel lt1) trodAll_mk0)), rfl, bel.frame _, fun h => by cases h⟩

theorem over : Rows.fileTypesRow.holds Tryz.pinned (OpenSpec.ofChange Rows.fileTypesSpec) :=
  OpenClaim.holds_of_wide 3 Tryz.f3 rfl rfl rfl rfl rfl rfl rfl ⟨rfl, rfl, rfl, rfl, rfl⟩ rfl rfl rfl rfl rfl (by kernel_rfl) Tryz.func3 (by kernel_rfl)
    (of_decide_eq_true (by kernel_rfl)) (by unfold Func.isWrapper; first | (rw [if_pos (by decide +kernel)]; kernel_rfl) | (rw [if_neg (by decide +kernel)]; exact ⟨rfl, rfl⟩))
    (fun os started H enc _ => lifted os started H enc)

theorem proved : Rows.FileTypesCardSaid :=
  Claim7.holds_tied_plain_at .later [] [.data, .data, .data, .data, .sentinel, .sentinel, .data, .pinned] true (true, "fab5b64761970f4e0cf9cb2320c20c52afa86df77447b640b54cc28f6a1e98a6") true
    over (fun _ h => by cases h) (by kernel_rfl) (fun _ h => by cases h) fileTypes_row_tie rfl ⟨rfl, rfl⟩ (by kernel_rfl) rfl
    (fun f fn hf hfn => by
      obtain rfl : f = 3 := Option.some.inj ((show Tryz.prog.funcNamed "gazetteer/gazetteerlaw25.FileTypes" = some 3 by kernel_rfl).symm.trans hf) |>.symm
      obtain rfl : fn = Tryz.f3 := (Option.some.inj (Tryz.func3.symm.trans hfn)).symm
      exact ⟨by kernel_rfl, fun j t ht => by
        rw [Tryz.params3] at ht
        have hm : t ∈ [3, 9] := by simpa using Array.mem_of_getElem? ht
        have hall : ([3, 9].all fun u => !Tryz.prog.wantsStandIn u) = true := by kernel_rfl
        exact (show Tryz.prog.wantsStandIn t = false by simpa using List.all_eq_true.1 hall t hm)⟩)
    (by kernel_rfl)
end Go.Proofs.YtipbakdodbmfjaaGreatDoor.fileTypes

/- The law ScriptReads returns true for every input and leaves its arguments as they were; no condition, the package-level tables that it reads tied to the program's text. -/
import Derived.Test.YtipbakdodbmfjaaGreatDoorLawLine
import Derived.Test.YtipbakdodbmfjaaGreatDoorLawSame
import Derived.Test.YtipbakdodbmfjaaGreatDoorActSmall
import Derived.Test.YtipbakdodbmfjaaGreatDoorWrap
import Derived.Test.YtipbakdodbmfjaaGreatDoorErrs
import Derived.Test.YtipbakdodbmfjaaGreatDoorActs
import Derived.Test.YtipbakdodbmfjaaGreatDoorOpen
import Derived.Test.YtipbakdodbmfjaaGreatDoorRows
import Derived.Test.YtipbakdodbmfjaaGreatDoorCards
import Derived.Test.YtipbakdodbmfjaaGreatDoorTie
import Derived.SevenTiedAt
import Derived.LaidMore
import Derived.Stop.Joined
import Derived.Stop.LaidErr
import Derived.Lib.LaidTab
import Derived.MakeChecks
import Derived.Lay
import Derived.WalkKit
import Derived.ProofKit
import Derived.OpenShut
import Derived.Below
namespace Go.Proofs.YtipbakdodbmfjaaGreatDoor.scriptReads
open Go.ChangeShapes Go.WideShapes Go.ChangeAt Go.RowKit
open Go.ChangeMaps (open_string shut_string)
set_option linter.unusedVariables false

/-- what the walk reads -/
theorem env_of {W : World} (hL : laidMetH Tryz.prog Rows.scriptReadsRow.laid W) (hM : ∃ m, W.cell? ⟨1, 0, none⟩ = some (.int .i64 m)) : Env W := by
  rw [MakeChecks.laidMetH_plain _ _ _ (by kernel_rfl)] at hL
  exact ⟨Lib.tabIs_of_head (g := 2) (by kernel_rfl) (by kernel_rfl) Tryz.underlying199 Tryz.underlying58 (by kernel_rfl) (by kernel_rfl) hL.tail.tail,
    ⟨err_cell hL.tail.tail.tail.tail.tail (by kernel_rfl) (by kernel_rfl), err_cell hL.tail.tail.tail.tail (by kernel_rfl) (by kernel_rfl)⟩, hM⟩
set_option maxHeartbeats 4000000 in
set_option maxRecDepth 100000 in
theorem walk (a0 : ByteArray) (W : World) (w0 : a0.size ≤ maxLen) (hL : laidMetH Tryz.prog Rows.scriptReadsRow.laid W) (hM : ∃ m, W.cell? ⟨1, 0, none⟩ = some (.int .i64 m)) :
    Calls Tryz.prog 8 #[.string a0] W fun e w' => e = .returned (.bool true) ∧ Below W.heap.size W w' := by
  have HE := Lib.hid (env_of hL hM)
  clear hL hM
  by_cases h5 : 5000 < a0.size
  · have d5 : decide ((5000 : Int) < (a0.size : Int)) = true := by rw [decide_eq_true_eq]; omega
    go_enter Tryz.func8, Tryz.ntmps8
    go_wp2_with fail
    refine (answers_any _ HE.out).mono ?_
    rintro e x1 ⟨rfl, hb1⟩
    have HE1 := Lib.hid (HE.out.on hb1)
    have HB1 := Lib.hid hb1
    clear hb1
    go_wp2_with fail
    refine (answers_any _ HE1.out).mono ?_
    rintro e x2 ⟨rfl, hb2⟩
    have HB2 := Lib.hid (below_on HB1.out hb2 (Nat.le_refl _))
    clear hb2
    go_wp2_with fail
    go_ret
    exact ⟨rfl, HB2.out⟩
  have h5' : a0.size ≤ 5000 := by omega
  have d5 : decide ((5000 : Int) < (a0.size : Int)) = false := by rw [decide_eq_false_iff_not]; omega
  clear h5
  have HACT := Lib.hid (fun (w' : World) (h : Env w') => act_any w' a0 (by omega) h)
  have HLAW := Lib.hid (fun (x : ActP) (h : actP a0.data.toList = some x) => act_line a0.data.toList x h)
  have HS5 := Lib.hid h5'
  go_enter Tryz.func8, Tryz.ntmps8
  go_wp2_with fail
  refine (answers_any _ HE.out).mono ?_
  rintro e x1 ⟨rfl, hb1⟩
  have HE1 := Lib.hid (HE.out.on hb1)
  have HB1 := Lib.hid hb1
  clear hb1
  go_wp2_with fail
  refine (HACT.out _ HE1.out).mono ?_
  rintro e x2 ⟨hb2, hres⟩
  have HE2 := Lib.hid (HE1.out.on hb2)
  have HB2 := Lib.hid (below_on HB1.out hb2 (Nat.le_refl _))
  clear hb2
  cases hq : actP a0.data.toList with
  | none =>
    rw [hq] at hres
    simp only [actCells, ActP.zero] at hres
    subst hres
    clear hq
    have hb3 : Below x2.heap.size x2 (x2.alloc (.cells #[.int .i64 0, .int .i64 0, .int .i64 0, .int .i64 0, .slice none 0 0, .int .u64 0, .int .u64 0, .slice none 0 0] 60)) := (Below.refl _ _).alloc (Nat.le_refl _) _
    have HB3 := Lib.hid (below_on HB2.out hb3 (Nat.le_refl _))
    have hz := lsame_any (x2.alloc (.cells #[.int .i64 0, .int .i64 0, .int .i64 0, .int .i64 0, .slice none 0 0, .int .u64 0, .int .u64 0, .slice none 0 0] 60)) (ActP.zero 0) (ActP.zero 0) none 0 0 none 0 0 none 0 0 none 0 0
      ⟨Row.empty (by omega) (fun _ => rfl), fun s hs => by cases hs⟩ (Row.empty (by omega) (fun _ => rfl) : Row _ none 0 0 []) ⟨Row.empty (by omega) (fun _ => rfl), fun s hs => by cases hs⟩ (Row.empty (by omega) (fun _ => rfl) : Row _ none 0 0 [])
    have he : sameP (ActP.zero 0) (ActP.zero 0) = true := (sameP_eq _ _).2 rfl
    rw [he] at hz
    have HZ := Lib.hid hz
    clear hz he hb3
    go_wp2_with fail
    refine HZ.out.mono ?_
    rintro e x4 ⟨rfl, hb4⟩
    have HB4 := Lib.hid (below_on HB3.out hb4 (Nat.le_refl _))
    clear hb4
    go_wp2_with fail
    go_ret
    exact ⟨rfl, HB4.out⟩
  | some x =>
    rw [hq] at hres
    obtain ⟨nao, nl, nc, dao, dl, dc, rfl, hn2, hd2⟩ := hres
    obtain ⟨hline, hfit⟩ := HLAW.out x hq
    have hsm := act_small hline
    have hsl : a0.data.toList.length = a0.size := by simp
    have hdl : x.data.length = dl := by simpa using hd2.hlen
    have hb3 : Below x2.heap.size x2 (x2.alloc (.cells (actCells x nao nl nc dao dl dc) 60)) := (Below.refl _ _).alloc (Nat.le_refl _) _
    have HB3 := Lib.hid (below_on HB2.out hb3 (Nat.le_refl _))
    have hz := lline_any (x2.alloc (.cells (actCells x nao nl nc dao dl dc) 60)) x nao nl nc dao dl dc (hn2.below hb3 (Nat.le_refl _)) (hd2.below hb3 (Nat.le_refl _)) hfit (by have := HS5.out; omega) (by have := HS5.out; omega)
    rw [hline] at hz
    simp only [actCells] at hz HB3
    have HZ := Lib.hid hz
    have heq : ((⟨((some a0.data.toList).getD []).toArray⟩ : ByteArray).toList == a0.toList) = true := by
      have : (⟨((some a0.data.toList).getD []).toArray⟩ : ByteArray) = a0 := by simp
      rw [this]; simp
    obtain ⟨T, hT⟩ : ∃ z : ByteArray, z = ⟨((some a0.data.toList).getD []).toArray⟩ := ⟨_, rfl⟩
    have HT := Lib.hid hT
    rw [← hT] at heq
    clear hz hline hfit hsm hsl hdl hb3 hn2 hd2 hq hT
    simp only [actCells]
    go_wp2_with fail
    refine HZ.out.mono ?_
    rintro e x4 ⟨hb4, rfl⟩
    rw [← HT.out]
    have HB4 := Lib.hid (below_on HB3.out hb4 (Nat.le_refl _))
    clear hb4
    simp only [Option.isSome]
    go_wp2_with fail
    go_ret
    exact ⟨rfl, HB4.out⟩

theorem door_met (os : Os) (args : Array Value) : laidMetH Tryz.prog Rows.scriptReadsRow.laid ((World.laidAll Tryz.prog os Rows.scriptReadsRow.laid).forCall (fun _ _ => 0) ⟨#[], args, []⟩).memory := by
  rw [MakeChecks.laidMetH_plain _ _ _ (by kernel_rfl)]
  exact laidMet_laidAll _ (by kernel_rfl) (by kernel_rfl)

set_option maxHeartbeats 1000000 in
set_option maxRecDepth 100000 in
theorem lifted (os : Os) (started : os.Started) (H : Type) (enc : TypeId × Value → H) :
    ReturnsInHanded {} Tryz.checked os 8 .any (fun w args => (Rows.scriptReadsSpec.pre enc Tryz.prog Tryz.f8 [] false w args ∧ laidMetH Tryz.prog Rows.scriptReadsRow.laid w) ∧ sizedMet enc Tryz.prog Tryz.f8 (OpenSpec.ofChange Rows.scriptReadsSpec) false w args) (Rows.scriptReadsSpec.post enc Tryz.prog Tryz.f8 false true false false) := by
  refine wrap_and_shaped (C := Tryz.checked) (X := fun w _ => laidMetH Tryz.prog Rows.scriptReadsRow.laid w) (fun _ _ _ hh h => h.of_heap hh) own started (by kernel_rfl) Tryz.func8
    (ChangeSpec.witness_shaped (enc := enc) (C := Tryz.checked) (os := os) (X := fun w _ => laidMetH Tryz.prog Rows.scriptReadsRow.laid w) false (World.laidAll Tryz.prog os Rows.scriptReadsRow.laid) #[.string ByteArray.empty] 8 (World.laidAll_os _ _ _) (World.shaped_of_ZipB (by kernel_rfl) (by kernel_rfl)) (by kernel_rfl) (by kernel_rfl) (by kernel_rfl) (door_met os _)) ?_
  intro W base args ds gs before hval0 hW hcnd hsz0 hL hsh _
  have hval : ∀ (j : Nat) t v, Tryz.f8.params[j]? = some t → args[j]? = some v → Value.okWide Tryz.prog W .any base t v := hval0
  have hW' := hW
  obtain ⟨p, q, hA0, hV, rfl, hfz, hnd⟩ := hW
  have hA : DataW.TrodAll enc Tryz.prog W 0 (fun _ => true) true Tryz.f8.params.toList args.toList ds p := hA0
  have hsz : (DataW.weightsEach Tryz.prog (Tryz.f8.params.toList ++ Rows.scriptReadsSpec.plain.varTypes Tryz.prog) (ds ++ gs)).all (· ≤ reachBytes) = true := hsz0
  rw [Tryz.params8] at hA hval hsz
  obtain ⟨v0, vs0, d0, ds0, p0, q0, hargs, rfl, rfl, h0, r0⟩ := trodAll_cons hA
  obtain ⟨rfl, rfl, rfl⟩ := trodAll_nil r0
  obtain rfl : args = #[v0] := by cases args; simp_all
  obtain ⟨rfl, rfl⟩ := trodVars_none hV
  have k0 := h0
  have lt0 : ∀ x ∈ p0, x.block < W.heap.size := by obtain ⟨m, hm⟩ := k0; exact DataW.trod_lt m _ _ _ hm
  obtain ⟨a0, rfl, rfl, rfl, w0⟩ := open_string Tryz.underlying9 (hval 0 9 v0 rfl rfl) h0
  clear hA0 hval0
  refine (walk a0 W w0 hL (max_of_shape hsh)).mono fun e W' ⟨he, bel⟩ => ?_
  subst he
  exact ⟨_, rfl, _, _, _, [], _, [], hW', trodAll_mk1 (shut_bool Tryz.underlying4 _), (trodAll_cons_mk (Below.trod laidOut (by kernel_rfl) (of_decide_eq_true (by kernel_rfl)) k0 bel lt0) trodAll_mk0), rfl, bel.frame _, fun h => by cases h⟩

theorem over : Rows.scriptReadsRow.holds Tryz.pinned (OpenSpec.ofChange Rows.scriptReadsSpec) :=
  OpenClaim.holds_of_wide 8 Tryz.f8 rfl rfl rfl rfl rfl rfl rfl ⟨rfl, rfl, rfl, rfl, rfl⟩ rfl rfl rfl rfl rfl (by kernel_rfl) Tryz.func8 (by kernel_rfl)
    (of_decide_eq_true (by kernel_rfl)) (by unfold Func.isWrapper; first | (rw [if_pos (by decide +kernel)]; kernel_rfl) | (rw [if_neg (by decide +kernel)]; exact ⟨rfl, rfl⟩))
    (fun os started H enc _ => lifted os started H enc)

theorem proved : Rows.ScriptReadsCardSaid :=
  Claim7.holds_tied_plain_at .later [] [.data, .data, .data, .data, .sentinel, .sentinel, .pinned] true (true, "fab5b64761970f4e0cf9cb2320c20c52afa86df77447b640b54cc28f6a1e98a6") true
    over (fun _ h => by cases h) (by kernel_rfl) (fun _ h => by cases h) scriptReads_row_tie rfl ⟨rfl, rfl⟩ (by kernel_rfl) rfl
    (fun f fn hf hfn => by
      obtain rfl : f = 8 := Option.some.inj ((show Tryz.prog.funcNamed "gazetteer/gazetteerlaw23.ScriptReads" = some 8 by kernel_rfl).symm.trans hf) |>.symm
      obtain rfl : fn = Tryz.f8 := (Option.some.inj (Tryz.func8.symm.trans hfn)).symm
      exact ⟨by kernel_rfl, fun j t ht => by
        rw [Tryz.params8] at ht
        have hm : t ∈ [9] := by simpa using Array.mem_of_getElem? ht
        have hall : ([9].all fun u => !Tryz.prog.wantsStandIn u) = true := by kernel_rfl
        exact (show Tryz.prog.wantsStandIn t = false by simpa using List.all_eq_true.1 hall t hm)⟩)
    (by kernel_rfl)
end Go.Proofs.YtipbakdodbmfjaaGreatDoor.scriptReads

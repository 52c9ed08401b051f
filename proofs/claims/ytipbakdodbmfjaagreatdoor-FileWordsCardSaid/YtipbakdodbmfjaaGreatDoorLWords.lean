/- The law FileWords returns true for every input and leaves its arguments as they were; no condition, the package-level tables that it reads tied to the program's text. -/
import Derived.Test.YtipbakdodbmfjaaGreatDoorAns25
import Derived.Test.YtipbakdodbmfjaaGreatDoorWordsm
import Derived.Test.YtipbakdodbmfjaaGreatDoorWrap
import Derived.Test.YtipbakdodbmfjaaGreatDoorErrs
import Derived.Test.YtipbakdodbmfjaaGreatDoorOpen
import Derived.Test.YtipbakdodbmfjaaGreatDoorRows
import Derived.Test.YtipbakdodbmfjaaGreatDoorCards
import Derived.Test.YtipbakdodbmfjaaGreatDoorTie
import Derived.SevenTiedAt
import Derived.LaidMore
import Derived.Stop.Joined
import Derived.Stop.LaidErr
import Derived.Lib.LaidTab
import Derived.MakeChecks
import Derived.Lay
import Derived.WalkKit
import Derived.ProofKit
import Derived.OpenShut
import Derived.Below
namespace Go.Proofs.YtipbakdodbmfjaaGreatDoor.fileWords
open Go.ChangeShapes Go.WideShapes Go.ChangeAt Go.RowKit
open Go.ChangeMaps (open_string shut_string)
set_option linter.unusedVariables false

/-- what the walk reads -/
theorem env_of {W : World} (hL : laidMetH Tryz.prog Rows.fileWordsRow.laid W) (hM : ∃ m, W.cell? ⟨1, 0, none⟩ = some (.int .i64 m)) : Env W ∧ Types W ∧ Bru W := by
  rw [MakeChecks.laidMetH_plain _ _ _ (by kernel_rfl)] at hL
  refine ⟨⟨Lib.tabIs_of_head (g := 2) (by kernel_rfl) (by kernel_rfl) Tryz.underlying199 Tryz.underlying58 (by kernel_rfl) (by kernel_rfl) hL.tail.tail,
    ⟨err_cell hL.tail.tail.tail.tail.tail (by kernel_rfl) (by kernel_rfl), err_cell hL.tail.tail.tail.tail (by kernel_rfl) (by kernel_rfl)⟩, hM⟩, types_of_laid hL.tail.tail.tail.tail.tail.tail, ?_⟩
  have h := hL.tail
  have ht : Lib.TabIs Tryz.prog W "math/bits.deBruijn64tab" IntKind.u8 [0, 1, 56, 2, 57, 49, 28, 3, 61, 58, 42, 50, 38, 29, 17, 4, 62, 47, 59, 36, 45, 43, 51, 22, 53, 39, 33, 30, 24, 18, 12, 5, 63, 55, 48, 27, 60, 41, 37, 16, 46, 35, 44, 21, 52, 32, 23, 11, 54, 26, 40, 15, 34, 20, 31, 10, 25, 14, 19, 9, 13, 8, 7, 6] :=
    Lib.tabIs_of_head (g := 8) (by kernel_rfl) (by kernel_rfl) Tryz.underlying221 Tryz.underlying5 (by kernel_rfl) (by kernel_rfl) h
  exact ht.cell (g := 8) (by kernel_rfl) 15 (by decide)
theorem words25_any (w : World) (ao bo : Option Addr) (la ca lb cb : Nat) (sa sb : List ByteArray) (ha : Strs w ao la ca sa) (hb : Strs w bo lb cb sb) :
    Calls Tryz.prog 19 #[.slice ao la ca, .slice bo lb cb] w fun e w' => e = .returned (.bool (exactB sa sb)) ∧ Below w.heap.size w w' := by
  have H := Lib.hid (exact_any w ao bo la ca lb cb sa sb ha hb)
  clear ha hb
  go_enter Tryz.func19, Tryz.ntmps19
  go_wp2_with fail
  refine H.out.mono ?_
  rintro e w' ⟨rfl, hb⟩
  go_wp2_with fail
  go_ret
  exact ⟨rfl, hb⟩
set_option maxHeartbeats 16000000 in
set_option maxRecDepth 100000 in
theorem walk (a0 : Int) (x1 : DataP) (dh1 : DataH) (W : World) (w0 : (Lit.int .i64 a0).wf = true) (sx1 : IsData W dh1 x1) (hL : laidMetH Tryz.prog Rows.fileWordsRow.laid W) (hM : ∃ m, W.cell? ⟨1, 0, none⟩ = some (.int .i64 m)) :
    Calls Tryz.prog 4 #[.int .i64 a0, .agg (dataC dh1)] W fun e w' => e = .returned (.bool true) ∧ Below W.heap.size W w' := by
  have hES := env_of hL hM
  have HE := Lib.hid hES.1
  have HT := Lib.hid hES.2.1
  have HB := Lib.hid hES.2.2
  have hwa : Below W.heap.size W (W.alloc (.cells (dataC dh1) 33)) := (Below.refl _ _).alloc (Nat.le_refl _) _
  have hA : Blk (W.alloc (.cells (dataC dh1) 33)) W.heap.size (dataC dh1) 33 := heap_alloc_new W _
  have hlg := fun (w' : World) (h : IsData w' dh1 x1) => light_any w' dh1 x1 h
  have HWA := Lib.hid hwa
  have HA := Lib.hid hA
  have HD := Lib.hid sx1
  have HLG := Lib.hid hlg
  have HAN := Lib.hid (fun w' (h1 : Env w') (h2 : Types w') => answers25_any w' h1 h2)
  clear hL hM hES w0 hwa hA sx1 hlg
  obtain ⟨ba, bl, bc, ha, hl, hc, ma, ml, mc, na, nl, nc, ta, tl, tc⟩ := dh1
  simp only [dataC] at HWA HA HLG
  obtain ⟨L, hL⟩ : ∃ L, L = lightB x1 := ⟨_, rfl⟩
  rw [← hL] at HLG
  have HLL := Lib.hid hL
  clear hL
  go_enter Tryz.func4, Tryz.ntmps4
  simp only [dataC]
  go_wp2_with fail
  refine (HAN.out _ (HE.out.on HWA.out) (HT.out.on HWA.out)).mono ?_
  rintro e w2 ⟨rfl, hb2⟩
  have HB2 := Lib.hid (below_on HWA.out hb2 (Nat.le_refl _))
  have HA2 := Lib.hid (HA.out.on hb2)
  have c0 := HA2.out.cell 0
  have c1 := HA2.out.cell 1
  have c2 := HA2.out.cell 2
  have c3 := HA2.out.cell 3
  have c4 := HA2.out.cell 4
  simp at c0 c1 c2 c3 c4
  clear hb2 HA HWA
  go_wp2_with fail
  clear c0 c1 c2 c3 c4
  refine (HLG.out _ (HD.out.on HB2.out)).mono ?_
  rintro e w4 ⟨rfl, hb4⟩
  have HA4 := Lib.hid (HA2.out.on hb4)
  have HB4 := Lib.hid (below_on HB2.out hb4 (Nat.le_refl _))
  have HD4 := Lib.hid (HD.out.on HB4.out)
  have HE4 := Lib.hid (HE.out.on HB4.out)
  have HT4 := Lib.hid (HT.out.on HB4.out)
  have HBU := Lib.hid (HB.out.on HB4.out)
  clear hb4 HA2 HB2 HD HE HT HB HLG
  cases L
  · go_wp2_with fail
    refine (HAN.out _ HE4.out HT4.out).mono ?_
    rintro e w5 ⟨rfl, hb5⟩
    go_wp2_with fail
    go_ret
    exact ⟨rfl, below_on HB4.out hb5 (Nat.le_refl _)⟩
  have HLI := Lib.hid (light_data HLL.out.symm)
  have HC0 := Lib.hid (show w4.drew.cell? ⟨W.heap.size, 0, none⟩ = some (.slice ba bl bc) from HA4.out.cell 0)
  have HC1 := Lib.hid (show w4.drew.cell? ⟨W.heap.size, 1, none⟩ = some (.slice ha hl hc) from HA4.out.cell 1)
  have HC2 := Lib.hid (show w4.drew.cell? ⟨W.heap.size, 2, none⟩ = some (.slice ma ml mc) from HA4.out.cell 2)
  have HC3 := Lib.hid (show w4.drew.cell? ⟨W.heap.size, 3, none⟩ = some (.slice na nl nc) from HA4.out.cell 3)
  have HC4 := Lib.hid (show w4.drew.cell? ⟨W.heap.size, 4, none⟩ = some (.slice ta tl tc) from HA4.out.cell 4)
  go_wp2_with fail
  refine wp_soup0 (m := 21) (by kernel_rfl) (fun x y => Below x.heap.size x y) (fun i v xw => match i with | 0 => v = .int .i64 a0 | 1 => v = .agg #[.slice ba bl bc, .slice ha hl hc, .slice ma ml mc, .slice na nl nc, .slice ta tl tc] | 2 => ∃ kk, v = .agg (dataC kk) ∧ IsData xw kk x1 | 3 => ∃ ao cap, v = .slice ao (wordsP a0 x1).length cap ∧ Strs xw ao (wordsP a0 x1).length cap (wordsP a0 x1) | 4 => v = .int .i64 a0 | 5 => v = .agg #[.slice ba bl bc, .slice ha hl hc, .slice ma ml mc, .slice na nl nc, .slice ta tl tc] | 6 => ∃ ao cap, v = .slice ao (wordsP a0 x1).length cap ∧ Strs xw ao (wordsP a0 x1).length cap (wordsP a0 x1) | 7 => v = .bool true | 8 => v = .bool true | _ => True) rfl (by kernel_rfl) (fun _ _ _ h1 h2 => below_on h1 h2 (Nat.le_refl _)) (Below.refl _ _) (by intro i v x y h hxy; match i, h with | 0, h => exact h | 1, h => exact h | 2, ⟨kk, e, hk⟩ => exact ⟨kk, e, hk.on hxy⟩ | 3, ⟨ao, cap, e, hs⟩ => exact ⟨ao, cap, e, hs.below hxy (Nat.le_refl _)⟩ | 4, h => exact h | 5, h => exact h | 6, ⟨ao, cap, e, hs⟩ => exact ⟨ao, cap, e, hs.below hxy (Nat.le_refl _)⟩ | 7, h => exact h | 8, h => exact h | _ + 9, _ => trivial) (dst_but 9 (by kernel_rfl) (fun _ _ h => h)) ?_ ?_
  rotate_left
  · intro a X hR hS hdep
    have e4 : a.tmps.getD 4 undef = .bool true := hdep 8 (by decide +kernel)
    obtain ⟨T, df⟩ := a
    obtain rfl : df = [] := hS.defers
    have hT : T = #[T.getD 0 undef, T.getD 1 undef, T.getD 2 undef, T.getD 3 undef, T.getD 4 undef, T.getD 5 undef, T.getD 6 undef, T.getD 7 undef, T.getD 8 undef, T.getD 9 undef, T.getD 10 undef, T.getD 11 undef, T.getD 12 undef, T.getD 13 undef, T.getD 14 undef, T.getD 15 undef, T.getD 16 undef, T.getD 17 undef, T.getD 18 undef, T.getD 19 undef, T.getD 20 undef] := arr_eta T 21 hS.size
    have k4 : T.getD 4 undef = .bool true := e4
    clear hS hdep
    rw [hT]
    rw [k4]
    clear k4 e4
    clear hT
    generalize T.getD 0 undef = u0
    generalize T.getD 1 undef = u1
    generalize T.getD 2 undef = u2
    generalize T.getD 3 undef = u3
    generalize T.getD 5 undef = u5
    generalize T.getD 6 undef = u6
    generalize T.getD 7 undef = u7
    generalize T.getD 8 undef = u8
    generalize T.getD 9 undef = u9
    generalize T.getD 10 undef = u10
    generalize T.getD 11 undef = u11
    generalize T.getD 12 undef = u12
    generalize T.getD 13 undef = u13
    generalize T.getD 14 undef = u14
    generalize T.getD 15 undef = u15
    generalize T.getD 16 undef = u16
    generalize T.getD 17 undef = u17
    generalize T.getD 18 undef = u18
    generalize T.getD 19 undef = u19
    generalize T.getD 20 undef = u20
    go_wp2_with fail
    go_ret
    exact ⟨rfl, below_on HB4.out (below_on (B := w4.heap.size) (Below.drew (Below.refl _ _)) hR (Nat.le_refl _)) (Nat.le_refl _)⟩
  refine soup_cons rfl rfl (fun a X hR hS hdep K hK => ?_) ?_
  · have e0 : a.tmps[0]?.getD undef = .int .i64 a0 := slot_of (hS.keep 0 (by kernel_rfl))
    go_simp
    exact hK _ _ (Below.refl _ _) rfl
  refine soup_cons rfl rfl (fun a X hR hS hdep K hK => ?_) ?_
  · have e3 : a.tmps[3]?.getD undef = .pointer (some ⟨W.heap.size, 0, none⟩) := slot_of (hS.keep 3 (by kernel_rfl))
    have q0 := cell_keep hR HC0.out
    have q1 := cell_keep hR HC1.out
    have q2 := cell_keep hR HC2.out
    have q3 := cell_keep hR HC3.out
    have q4 := cell_keep hR HC4.out
    go_simp
    exact hK _ _ (Below.refl _ _) rfl
  refine soup_cons rfl rfl (fun a X hR hS hdep K hK => ?_) ?_
  · have e14 : a.tmps[14]?.getD undef = .agg #[.slice ba bl bc, .slice ha hl hc, .slice ma ml mc, .slice na nl nc, .slice ta tl tc] := slot_of (hdep 1 (by decide +kernel))
    have hbW := below_on (B := w4.heap.size) (Below.drew (Below.refl _ _)) hR (Nat.le_refl _)
    go_simp
    refine (own_any X ⟨ba, bl, bc, ha, hl, hc, ma, ml, mc, na, nl, nc, ta, tl, tc⟩ x1 (HD4.out.on hbW) HLI.out).mono ?_
    rintro e W' ⟨kk, rfl, hk, _, hb⟩
    exact hK _ _ hb ⟨kk, rfl, hk⟩
  refine soup_cons rfl rfl (fun a X hR hS hdep K hK => ?_) ?_
  · have e13 : a.tmps[13]?.getD undef = .int .i64 a0 := slot_of (hdep 0 (by decide +kernel))
    obtain ⟨kk, q, hk⟩ := hdep 2 (by decide +kernel)
    have e15 : a.tmps[15]?.getD undef = .agg (dataC kk) := slot_of (q)
    clear q
    have hbW := below_on (B := w4.heap.size) (Below.drew (Below.refl _ _)) hR (Nat.le_refl _)
    go_simp
    refine (fwords_any X a0 kk x1 hk HLI.out (HE4.out.on hbW).tab (HBU.out.on hbW)).mono ?_
    rintro e W' ⟨ao, cap, rfl, hs, hb⟩
    exact hK _ _ hb ⟨ao, cap, rfl, hs⟩
  refine soup_cons rfl rfl (fun a X hR hS hdep K hK => ?_) ?_
  · have e0 : a.tmps[0]?.getD undef = .int .i64 a0 := slot_of (hS.keep 0 (by kernel_rfl))
    go_simp
    exact hK _ _ (Below.refl _ _) rfl
  refine soup_cons rfl rfl (fun a X hR hS hdep K hK => ?_) ?_
  · have e3 : a.tmps[3]?.getD undef = .pointer (some ⟨W.heap.size, 0, none⟩) := slot_of (hS.keep 3 (by kernel_rfl))
    have q0 := cell_keep hR HC0.out
    have q1 := cell_keep hR HC1.out
    have q2 := cell_keep hR HC2.out
    have q3 := cell_keep hR HC3.out
    have q4 := cell_keep hR HC4.out
    go_simp
    exact hK _ _ (Below.refl _ _) rfl
  refine soup_cons rfl rfl (fun a X hR hS hdep K hK => ?_) ?_
  · have e17 : a.tmps[17]?.getD undef = .int .i64 a0 := slot_of (hdep 4 (by decide +kernel))
    have e18 : a.tmps[18]?.getD undef = .agg #[.slice ba bl bc, .slice ha hl hc, .slice ma ml mc, .slice na nl nc, .slice ta tl tc] := slot_of (hdep 5 (by decide +kernel))
    have hbW := below_on (B := w4.heap.size) (Below.drew (Below.refl _ _)) hR (Nat.le_refl _)
    go_simp
    refine (rwords_any X a0 ⟨ba, bl, bc, ha, hl, hc, ma, ml, mc, na, nl, nc, ta, tl, tc⟩ x1 (HD4.out.on hbW) HLI.out).mono ?_
    rintro e W' ⟨ao, cap, rfl, hs, hb⟩
    exact hK _ _ hb ⟨ao, cap, rfl, hs⟩
  refine soup_cons rfl rfl (fun a X hR hS hdep K hK => ?_) ?_
  · obtain ⟨ao, cap, q, hs⟩ := hdep 3 (by decide +kernel)
    have e16 : a.tmps[16]?.getD undef = .slice ao (wordsP a0 x1).length cap := slot_of (q)
    clear q
    obtain ⟨ao2, cap2, q, hs2⟩ := hdep 6 (by decide +kernel)
    have e19 : a.tmps[19]?.getD undef = .slice ao2 (wordsP a0 x1).length cap2 := slot_of (q)
    clear q
    go_simp
    refine (words25_any X ao ao2 _ _ _ _ _ _ hs hs2).mono ?_
    rintro e W' ⟨rfl, hb⟩
    exact hK _ _ hb (by simp [exactB])
  refine soup_cons rfl rfl (fun a X hR hS hdep K hK => ?_) ?_
  · have e20 : a.tmps[20]?.getD undef = .bool true := slot_of (hdep 7 (by decide +kernel))
    go_simp
    exact hK _ _ (Below.refl _ _) rfl
  exact fun j h1 h2 => absurd h1 (by simp only [List.size_toArray, List.length_cons, List.length_nil]; omega)

theorem door_met (os : Os) (args : Array Value) : laidMetH Tryz.prog Rows.fileWordsRow.laid ((World.laidAll Tryz.prog os Rows.fileWordsRow.laid).forCall (fun _ _ => 0) ⟨#[], args, []⟩).memory := by
  rw [MakeChecks.laidMetH_plain _ _ _ (by kernel_rfl)]
  exact laidMet_laidAll _ (by kernel_rfl) (by kernel_rfl)

set_option maxHeartbeats 1000000 in
set_option maxRecDepth 100000 in
theorem lifted (os : Os) (started : os.Started) (H : Type) (enc : TypeId × Value → H) :
    ReturnsInHanded {} Tryz.checked os 4 .any (fun w args => (Rows.fileWordsSpec.pre enc Tryz.prog Tryz.f4 [] false w args ∧ laidMetH Tryz.prog Rows.fileWordsRow.laid w) ∧ sizedMet enc Tryz.prog Tryz.f4 (OpenSpec.ofChange Rows.fileWordsSpec) false w args) (Rows.fileWordsSpec.post enc Tryz.prog Tryz.f4 false true false false) := by
  refine wrap_and_shaped (C := Tryz.checked) (X := fun w _ => laidMetH Tryz.prog Rows.fileWordsRow.laid w) (fun _ _ _ hh h => h.of_heap hh) own started (by kernel_rfl) Tryz.func4
    (ChangeSpec.witness_shaped (enc := enc) (C := Tryz.checked) (os := os) (X := fun w _ => laidMetH Tryz.prog Rows.fileWordsRow.laid w) false (World.laidAll Tryz.prog os Rows.fileWordsRow.laid) #[.int .i64 0, .agg #[.slice none 0 0, .slice none 0 0, .slice none 0 0, .slice none 0 0, .slice none 0 0]] 8 (World.laidAll_os _ _ _) (World.shaped_of_ZipB (by kernel_rfl) (by kernel_rfl)) (by kernel_rfl) (by kernel_rfl) (by kernel_rfl) (door_met os _)) ?_
  intro W base args ds gs before hval0 hW hcnd hsz0 hL hsh _
  have hval : ∀ (j : Nat) t v, Tryz.f4.params[j]? = some t → args[j]? = some v → Value.okWide Tryz.prog W .any base t v := hval0
  have hW' := hW
  obtain ⟨p, q, hA0, hV, rfl, hfz, hnd⟩ := hW
  have hA : DataW.TrodAll enc Tryz.prog W 0 (fun _ => true) true Tryz.f4.params.toList args.toList ds p := hA0
  have hsz : (DataW.weightsEach Tryz.prog (Tryz.f4.params.toList ++ Rows.fileWordsSpec.plain.varTypes Tryz.prog) (ds ++ gs)).all (· ≤ reachBytes) = true := hsz0
  rw [Tryz.params4] at hA hval hsz
  obtain ⟨v0, vs0, d0, ds0, p0, q0, hargs, rfl, rfl, h0, r0⟩ := trodAll_cons hA
  obtain ⟨v1, vs1, d1, ds1, p1, q1, rfl, rfl, rfl, h1, r1⟩ := trodAll_cons r0
  obtain ⟨rfl, rfl, rfl⟩ := trodAll_nil r1
  obtain rfl : args = #[v0, v1] := by cases args; simp_all
  obtain ⟨rfl, rfl⟩ := trodVars_none hV
  have k0 := h0
  have lt0 : ∀ x ∈ p0, x.block < W.heap.size := by obtain ⟨m, hm⟩ := k0; exact DataW.trod_lt m _ _ _ hm
  obtain ⟨a0, rfl, rfl, rfl, w0⟩ := open_int Tryz.underlying3 (hval 0 3 v0 rfl rfl) h0
  have k1 := h1
  have lt1 : ∀ x ∈ p1, x.block < W.heap.size := by obtain ⟨m, hm⟩ := k1; exact DataW.trod_lt m _ _ _ hm
  obtain ⟨x1, dh1, hv1, sx1⟩ := open_data_arg (hval 1 33 v1 rfl rfl) h1 (weights_at hsz (j := 1) rfl rfl)
  clear hA0 hval0
  subst hv1
  refine (walk a0 x1 dh1 W w0 sx1 hL (max_of_shape hsh)).mono fun e W' ⟨he, bel⟩ => ?_
  subst he
  exact ⟨_, rfl, _, _, _, [], _, [], hW', trodAll_mk1 (shut_bool Tryz.underlying4 _), (trodAll_cons_mk (Below.trod laidOut (by kernel_rfl) (of_decide_eq_true (by kernel_rfl)) k0 bel lt0) (trodAll_cons_mk (Below.trod laidOut (by kernel_rfl) (of_decide_eq_true (by kernel_rfl)) k1 bel lt1) trodAll_mk0)), rfl, bel.frame _, fun h => by cases h⟩

theorem over : Rows.fileWordsRow.holds Tryz.pinned (OpenSpec.ofChange Rows.fileWordsSpec) :=
  OpenClaim.holds_of_wide 4 Tryz.f4 rfl rfl rfl rfl rfl rfl rfl ⟨rfl, rfl, rfl, rfl, rfl⟩ rfl rfl rfl rfl rfl (by kernel_rfl) Tryz.func4 (by kernel_rfl)
    (of_decide_eq_true (by kernel_rfl)) (by unfold Func.isWrapper; first | (rw [if_pos (by decide +kernel)]; kernel_rfl) | (rw [if_neg (by decide +kernel)]; exact ⟨rfl, rfl⟩))
    (fun os started H enc _ => lifted os started H enc)

theorem proved : Rows.FileWordsCardSaid :=
  Claim7.holds_tied_plain_at .later [] [.data, .data, .data, .data, .sentinel, .sentinel, .data, .pinned] true (true, "fab5b64761970f4e0cf9cb2320c20c52afa86df77447b640b54cc28f6a1e98a6") true
    over (fun _ h => by cases h) (by kernel_rfl) (fun _ h => by cases h) fileWords_row_tie rfl ⟨rfl, rfl⟩ (by kernel_rfl) rfl
    (fun f fn hf hfn => by
      obtain rfl : f = 4 := Option.some.inj ((show Tryz.prog.funcNamed "gazetteer/gazetteerlaw25.FileWords" = some 4 by kernel_rfl).symm.trans hf) |>.symm
      obtain rfl : fn = Tryz.f4 := (Option.some.inj (Tryz.func4.symm.trans hfn)).symm
      exact ⟨by kernel_rfl, fun j t ht => by
        rw [Tryz.params4] at ht
        have hm : t ∈ [3, 33] := by simpa using Array.mem_of_getElem? ht
        have hall : ([3, 33].all fun u => !Tryz.prog.wantsStandIn u) = true := by kernel_rfl
        exact (show Tryz.prog.wantsStandIn t = false by simpa using List.all_eq_true.1 hall t hm)⟩)
    (by kernel_rfl)
end Go.Proofs.YtipbakdodbmfjaaGreatDoor.fileWords

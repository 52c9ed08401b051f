/- The law ScriptBack returns true for every input and leaves its arguments as they were; no condition, the package-level tables that it reads tied to the program's text. -/
import Derived.Test.YtipbakdodbmfjaaGreatDoorLawLine
import Derived.Test.YtipbakdodbmfjaaGreatDoorLawSame
import Derived.Test.YtipbakdodbmfjaaGreatDoorBackLaw
import Derived.Test.YtipbakdodbmfjaaGreatDoorWrap
import Derived.Test.YtipbakdodbmfjaaGreatDoorErrs
import Derived.Test.YtipbakdodbmfjaaGreatDoorActs
import Derived.Deep.CutBlock
import Derived.Deep.DeepCutAuto
import Derived.Deep.RegionHeld3
import Derived.Test.YtipbakdodbmfjaaGreatDoorOpen
import Derived.Test.YtipbakdodbmfjaaGreatDoorRows
import Derived.Test.YtipbakdodbmfjaaGreatDoorCards
import Derived.Test.YtipbakdodbmfjaaGreatDoorTie
import Derived.SevenTiedAt
import Derived.LaidMore
import Derived.Stop.Joined
import Derived.Stop.LaidErr
import Derived.Lib.LaidTab
import Derived.MakeChecks
import Derived.Lay
import Derived.WalkKit
import Derived.ProofKit
import Derived.OpenShut
import Derived.Below
namespace Go.Proofs.YtipbakdodbmfjaaGreatDoor.scriptBack
open Go.ChangeShapes Go.WideShapes Go.ChangeAt Go.RowKit
open Go.ChangeMaps (open_string shut_string)
set_option linter.unusedVariables false

/-- what the walk reads -/
theorem env_of {W : World} (hL : laidMetH Tryz.prog Rows.scriptBackRow.laid W) (hM : ∃ m, W.cell? ⟨1, 0, none⟩ = some (.int .i64 m)) : Env W := by
  rw [MakeChecks.laidMetH_plain _ _ _ (by kernel_rfl)] at hL
  exact ⟨Lib.tabIs_of_head (g := 2) (by kernel_rfl) (by kernel_rfl) Tryz.underlying199 Tryz.underlying58 (by kernel_rfl) (by kernel_rfl) hL.tail.tail,
    ⟨err_cell hL.tail.tail.tail.tail.tail (by kernel_rfl) (by kernel_rfl), err_cell hL.tail.tail.tail.tail (by kernel_rfl) (by kernel_rfl)⟩, hM⟩
/-- the gathered text, one line longer -/
theorem want_step {xs : List ActP} {k : Nat} {S T : ByteArray} (h : k < xs.length) (hS : S.data.toList = wantP (xs.take k)) (hT : T.data.toList = (lineL xs[k]).getD []) : (S ++ T ++ (⟨#[10]⟩ : ByteArray)).data.toList = wantP (xs.take (k + 1)) := by
  rw [wantP_snoc xs k h, ← hS, ← hT]
  simp [ByteArray.data_append]
theorem want_size {S T : ByteArray} {k : Nat} (hS : S.size ≤ k * 1000001) (hT : T.size ≤ 1000000) : (S ++ T ++ (⟨#[10]⟩ : ByteArray)).size ≤ (k + 1) * 1000001 := by
  have e : (S ++ T ++ (⟨#[10]⟩ : ByteArray)).size = S.size + T.size + 1 := by simp [ByteArray.size_append]; rfl
  rw [e, Nat.add_mul]
  omega
set_option maxHeartbeats 16000000 in
set_option maxRecDepth 100000 in
theorem walk (a0 : Option Addr) (l0 c0 : Nat) (xs0 : List ActP) (W : World) (w0 : Acts W a0 l0 c0 xs0) (f0 : ∀ x ∈ xs0, x.fits ∧ wfi x.kind) (hL : laidMetH Tryz.prog Rows.scriptBackRow.laid W) (hM : ∃ m, W.cell? ⟨1, 0, none⟩ = some (.int .i64 m)) :
    Calls Tryz.prog 9 #[.slice a0 l0 c0] W fun e w' => e = .returned (.bool true) ∧ Below W.heap.size W w' := by
  have hE := env_of hL hM
  have HE := Lib.hid hE
  have HF := Lib.hid (fun x hx => (f0 x hx).1 : ∀ x ∈ xs0, x.fits)
  have HW := Lib.hid w0
  have HLEN := Lib.hid w0.hlen
  have hle := w0.hle
  have hmax := w0.hmax
  clear hL hM hE f0 w0
  by_cases h50 : 50 < l0
  · have d50 : decide ((50 : Int) < (l0 : Int)) = true := by rw [decide_eq_true_eq]; omega
    go_enter Tryz.func9, Tryz.ntmps9
    go_wp2_with fail
    refine (answers_any _ HE.out).mono ?_
    rintro e x1 ⟨rfl, hb1⟩
    have HE1 := Lib.hid (HE.out.on hb1)
    have HB1 := Lib.hid hb1
    clear hb1
    go_wp2_with fail
    refine (answers_any _ HE1.out).mono ?_
    rintro e x2 ⟨rfl, hb2⟩
    have HB2 := Lib.hid (below_on HB1.out hb2 (Nat.le_refl _))
    clear hb2
    go_wp2_with fail
    go_ret
    exact ⟨rfl, HB2.out⟩
  have d50 : decide ((50 : Int) < (l0 : Int)) = false := by rw [decide_eq_false_iff_not]; omega
  have hl50 : l0 ≤ 50 := by omega
  clear h50
  go_enter Tryz.func9, Tryz.ntmps9
  go_wp2_with fail
  refine (answers_any _ HE.out).mono ?_
  rintro e x1 ⟨rfl, hb1⟩
  have HB1 := Lib.hid hb1
  clear hb1
  go_wp2_with fail
  go_loopw [3, 4, 5] (fun wv fv iv wr => ∃ (k : Nat) (S : ByteArray) (f : Bool), k ≤ l0 ∧ wv = .string S ∧ fv = .bool f ∧ iv = .int .i64 k ∧ S.size ≤ k * 1000001 ∧ Hid (Below W.heap.size W wr ∧ S.data.toList = wantP (xs0.take k) ∧ f = fineP (xs0.take k) ∧ ∀ x ∈ xs0.take k, lightA x = true)) (fun _ _ iv _ => l0 - (intOf iv).toNat)
  case atStart => exact ⟨0, ⟨#[]⟩, true, Nat.zero_le _, rfl, rfl, rfl, by decide, HB1.out, rfl, rfl, fun x h => by simp at h⟩
  case round =>
    obtain ⟨k, S, f, hk, rfl, rfl, rfl, hSs, hinv⟩ := hrel
    have hkm : k * 1000001 ≤ 50 * 1000001 := Nat.mul_le_mul_right _ (by omega)
    have hSz : S.size ≤ 50 * 1000001 := Nat.le_trans hSs hkm
    have HSS := Lib.hid hSs
    clear hSs hkm
    by_cases hlt : k < l0
    · as_aux_lemma =>
        have hkx : k < xs0.length := by have := HLEN.out; omega
        obtain ⟨b, off, rfl, hcell⟩ := (HW.out.on hinv.out.1).hcells (by omega)
        obtain ⟨nao, nl, nc, dao, dl, dc, hcs, hS, hD⟩ := hcell k hkx
        have hfit := HF.out xs0[k] (List.getElem_mem hkx)
        obtain ⟨x, hx⟩ : ∃ x, x = xs0[k] := ⟨_, rfl⟩
        rw [← hx] at hcs hS hD hfit
        have HX := Lib.hid hx
        have HFX := Lib.hid hfit
        have HDL := Lib.hid (show x.data.length = dl by simpa using hD.hlen)
        have e0 := hcs 0 (by omega)
        have e1 := hcs 1 (by omega)
        have e2 := hcs 2 (by omega)
        have e3 := hcs 3 (by omega)
        have e4 := hcs 4 (by omega)
        have e5 := hcs 5 (by omega)
        have e6 := hcs 6 (by omega)
        have e7 := hcs 7 (by omega)
        clear hcs
        simp [actCells] at e0 e1 e2 e3 e4 e5 e6 e7
        have hlg := light_any wr x nao nl nc dao dl dc hS hD
        simp only [actCells] at hlg
        have HLG := Lib.hid hlg
        have HS := Lib.hid hS
        have HD := Lib.hid hD
        clear hcell hS hD hfit hx hlg
        have hkp : (0 : Int) ≤ (k : Int) := Int.natCast_nonneg _
        have hkl : (k : Int) < (l0 : Int) := by omega
        go_wp2_with fail
        refine HLG.out.mono ?_
        rintro e w2 ⟨rfl, hb2⟩
        have HB2 := Lib.hid (below_on hinv.out.1 hb2 (Nat.le_refl _))
        cases hq : lightA x
        · clear hq hb2
          go_wp2_with fail
          go_ret
          exact ⟨rfl, HB2.out⟩
        have g0 := cell_keep hb2 e0
        have g1 := cell_keep hb2 e1
        have g2 := cell_keep hb2 e2
        have g3 := cell_keep hb2 e3
        have g4 := cell_keep hb2 e4
        have g5 := cell_keep hb2 e5
        have g6 := cell_keep hb2 e6
        have g7 := cell_keep hb2 e7
        clear e0 e1 e2 e3 e4 e5 e6 e7
        have hAF := lightA_fit hq HFX.out
        have HS2 := Lib.hid (HS.out.below hb2 (Nat.le_refl _))
        have HD2 := Lib.hid (HD.out.below hb2 (Nat.le_refl _))
        have hll := lline_any w2 x nao nl nc dao dl dc HS2.out HD2.out HFX.out (by have := hAF.size; omega) (by have := hAF.size; have := HDL.out; omega)
        simp only [actCells] at hll
        have HLL := Lib.hid hll
        have HLQ := Lib.hid (light_snoc hkx hinv.out.2.2.2 (by rw [← HX.out]; exact hq))
        have HAF := Lib.hid hAF
        clear hll hq hb2 HLG HS HD hAF
        go_wp2_with fail
        refine HLL.out.mono ?_
        rintro e w3 ⟨hb3, rfl⟩
        have HB3 := Lib.hid (below_on HB2.out hb3 (Nat.le_refl _))
        have e0 := cell_keep hb3 g0
        have e1 := cell_keep hb3 g1
        have e2 := cell_keep hb3 g2
        have e3 := cell_keep hb3 g3
        have e4 := cell_keep hb3 g4
        have e5 := cell_keep hb3 g5
        have e6 := cell_keep hb3 g6
        have e7 := cell_keep hb3 g7
        clear g0 g1 g2 g3 g4 g5 g6 g7
        have HS3 := Lib.hid (HS2.out.below hb3 (Nat.le_refl _))
        have HD3 := Lib.hid (HD2.out.below hb3 (Nat.le_refl _))
        clear hb3 HLL HS2 HD2
        cases hl : lineL x with
        | none =>
          have HFN := Lib.hid (show fineP (xs0.take (k + 1)) = false by rw [fineP_snoc xs0 k hkx, ← HX.out, hl]; simp)
          obtain ⟨T, hT⟩ : ∃ z : ByteArray, z = ⟨((none : Option (List UInt8)).getD []).toArray⟩ := ⟨_, rfl⟩
          have HWN := Lib.hid (want_step (T := T) hkx hinv.out.2.1 (by rw [← HX.out, hl, hT]))
          have hTs : T.size ≤ 1000000 := by rw [hT]; decide
          have HWS := Lib.hid (want_size (T := T) HSS.out hTs)
          rw [← hT]
          simp only [Option.isSome]
          clear e0 e1 e2 e3 e4 e5 e6 e7
          clear hl hT
          cases f
          · go_wp2_with fail
            go_roundw
            case rel => exact ⟨k + 1, _, _, by omega, rfl, rfl, by go_num, HWS.out, HB3.out, HWN.out, HFN.out.symm, HLQ.out⟩
            case measure => simp [intOf]; omega
          · go_wp2_with fail
            go_roundw
            case rel => exact ⟨k + 1, _, _, by omega, rfl, rfl, by go_num, HWS.out, HB3.out, HWN.out, HFN.out.symm, HLQ.out⟩
            case measure => simp [intOf]; omega
        | some t =>
          have HFN := Lib.hid (show fineP (xs0.take (k + 1)) = f by rw [fineP_snoc xs0 k hkx, ← HX.out, hl, hinv.out.2.2.1]; simp)
          obtain ⟨T, hT⟩ : ∃ z : ByteArray, z = ⟨((some t : Option (List UInt8)).getD []).toArray⟩ := ⟨_, rfl⟩
          have hTt : T.data.toList = t := by rw [hT]; simp
          have HWN := Lib.hid (want_step (T := T) hkx hinv.out.2.1 (by rw [← HX.out, hl, hT]))
          have hTs : T.size ≤ 1000000 := by
            have h1 := lineS_le (x := x) (t := t) (by rw [line_same x HFX.out]; exact hl) HFX.out
            have h2 := HAF.out.size
            have h3 : T.data.toList.length = T.size := by simp
            rw [hTt] at h3
            omega
          have HWS := Lib.hid (want_size (T := T) HSS.out hTs)
          have hact := act_any w3 T (by omega) (HE.out.below HB3.out HE.out.low)
          rw [hTt, line_act x HFX.out t hl] at hact
          have HACT := Lib.hid hact
          rw [← hT]
          simp only [Option.isSome]
          clear hl hT hTt hact
          go_wp2_with fail
          refine HACT.out.mono ?_
          rintro e w4 ⟨hb4, nao2, nl2, nc2, dao2, dl2, dc2, rfl, hn4, hd4⟩
          have hb5 : Below w4.heap.size w4 (w4.alloc (.cells (actCells x nao2 nl2 nc2 dao2 dl2 dc2) 60)) := (Below.refl _ _).alloc (Nat.le_refl _) _
          have hB5 : Blk (w4.alloc (.cells (actCells x nao2 nl2 nc2 dao2 dl2 dc2) 60)) w4.heap.size (actCells x nao2 nl2 nc2 dao2 dl2 dc2) 60 := heap_alloc_new w4 _
          obtain ⟨W5, hW5⟩ : ∃ z, z = w4.alloc (.cells (actCells x nao2 nl2 nc2 dao2 dl2 dc2) 60) := ⟨_, rfl⟩
          rw [← hW5] at hb5 hB5
          have hb45 := below_on hb4 hb5 (Nat.le_refl _)
          have g0 := cell_keep hb45 e0
          have g1 := cell_keep hb45 e1
          have g2 := cell_keep hb45 e2
          have g3 := cell_keep hb45 e3
          have g4 := cell_keep hb45 e4
          have g5 := cell_keep hb45 e5
          have g6 := cell_keep hb45 e6
          have g7 := cell_keep hb45 e7
          clear e0 e1 e2 e3 e4 e5 e6 e7
          have c0 := hB5.cell 0
          have c1 := hB5.cell 1
          have c2 := hB5.cell 2
          have c3 := hB5.cell 3
          have c4 := hB5.cell 4
          have c5 := hB5.cell 5
          have c6 := hB5.cell 6
          have c7 := hB5.cell 7
          simp [actCells] at c0 c1 c2 c3 c4 c5 c6 c7
          have HB5 := Lib.hid (below_on HB3.out hb45 (Nat.le_refl _))
          have hsm := fun (w' : World) (h : Below W5.heap.size W5 w') => lsame_any w' x x nao2 nl2 nc2 dao2 dl2 dc2 nao nl nc dao dl dc ((hn4.below hb5 (Nat.le_refl _)).below h (Nat.le_refl _)) ((hd4.below hb5 (Nat.le_refl _)).below h (Nat.le_refl _)) ((HS3.out.below hb45 (Nat.le_refl _)).below h (Nat.le_refl _)) ((HD3.out.below hb45 (Nat.le_refl _)).below h (Nat.le_refl _))
          have hxx : sameP x x = true := (sameP_eq _ _).2 rfl
          simp only [actCells, hxx] at hsm
          have HSM := Lib.hid hsm
          clear hsm hxx hb4 hb5 hB5 hn4 hd4 hb45 HACT
          simp only [actCells] at hW5 ⊢
          go_upto_region 13 with fail
          rw [← hW5]
          clear hW5
          go_cut [60] (fun bv wx => bv = .bool false ∧ Hid (Below W.heap.size W wx))
          case first =>
            refine wp_region_held_drew (S := fun w' => Below W5.heap.size W5 w') (by kernel_rfl) ?_ (fun hHeld0 => ?_)
            · exact Below.drew (Below.refl _ _)
            refine wpAnyH_take (i := 0) (v := ?_) rfl (by kernel_rfl) (by kernel_rfl) (by kernel_rfl) (fun _ _ _ h => h) (Or.inl ⟨by rfl, ?_⟩) (by assumption) ?_
            rotate_left
            · intro w' hSw
              (try dsimp only at hSw)
              go_simp
              first | done | with_reducible rfl | (rw [if_neg (by omega)])
            try simp only [Act.put, List.getElem_toArray, List.getElem_cons_zero, List.setIfInBounds_toArray, List.set_cons_zero, List.set_cons_succ]
            refine wpAnyH_take (i := 1) (v := ?_) rfl (by kernel_rfl) (by kernel_rfl) (by kernel_rfl) (fun _ _ _ h => h) (Or.inl ⟨by rfl, ?_⟩) (by assumption) ?_
            rotate_left
            · intro w' hSw
              (try dsimp only at hSw)
              go_simp
              first | done | with_reducible rfl | (rw [if_neg (by omega)])
            try simp only [Act.put, List.getElem_toArray, List.getElem_cons_succ, List.getElem_cons_zero, List.setIfInBounds_toArray, List.set_cons_zero, List.set_cons_succ]
            refine wpAnyH_take (i := 2) (v := ?_) rfl (by kernel_rfl) (by kernel_rfl) (by kernel_rfl) (fun _ _ _ h => h) (Or.inl ⟨by rfl, ?_⟩) (by assumption) ?_
            rotate_left
            · intro w' hSw
              (try dsimp only at hSw)
              go_simp
              first | done | with_reducible rfl | (rw [if_neg (by omega)])
            try simp only [Act.put, List.getElem_toArray, List.getElem_cons_succ, List.getElem_cons_zero, List.setIfInBounds_toArray, List.set_cons_zero, List.set_cons_succ]
            refine wpAnyH_take (i := 3) (v := ?_) rfl (by kernel_rfl) (by kernel_rfl) (by kernel_rfl) (fun _ _ _ h => h) (Or.inl ⟨by rfl, ?_⟩) (by assumption) ?_
            rotate_left
            · intro w' hSw
              (try dsimp only at hSw)
              have hc0 := cell_keep hSw c0
              have hc1 := cell_keep hSw c1
              have hc2 := cell_keep hSw c2
              have hc3 := cell_keep hSw c3
              have hc4 := cell_keep hSw c4
              have hc5 := cell_keep hSw c5
              have hc6 := cell_keep hSw c6
              have hc7 := cell_keep hSw c7
              go_simp
              first | done | with_reducible rfl | (rw [if_neg (by omega)])
            try simp only [Act.put, List.getElem_toArray, List.getElem_cons_succ, List.getElem_cons_zero, List.setIfInBounds_toArray, List.set_cons_zero, List.set_cons_succ]
            refine wpAnyH_take (i := 4) (v := ?_) rfl (by kernel_rfl) (by kernel_rfl) (by kernel_rfl) (fun _ _ _ h => h) (Or.inl ⟨by rfl, ?_⟩) (by assumption) ?_
            rotate_left
            · intro w' hSw
              (try dsimp only at hSw)
              go_simp
              first | done | with_reducible rfl | (rw [if_neg (by omega)])
            try simp only [Act.put, List.getElem_toArray, List.getElem_cons_succ, List.getElem_cons_zero, List.setIfInBounds_toArray, List.set_cons_zero, List.set_cons_succ]
            refine wpAnyH_take (i := 5) (v := ?_) rfl (by kernel_rfl) (by kernel_rfl) (by kernel_rfl) (fun _ _ _ h => h) (Or.inl ⟨by rfl, ?_⟩) (by assumption) ?_
            rotate_left
            · intro w' hSw
              (try dsimp only at hSw)
              go_simp
              first | done | with_reducible rfl | (rw [if_neg (by omega)])
            try simp only [Act.put, List.getElem_toArray, List.getElem_cons_succ, List.getElem_cons_zero, List.setIfInBounds_toArray, List.set_cons_zero, List.set_cons_succ]
            refine wpAnyH_take (i := 6) (v := ?_) rfl (by kernel_rfl) (by kernel_rfl) (by kernel_rfl) (fun _ _ _ h => h) (Or.inl ⟨by rfl, ?_⟩) (by assumption) ?_
            rotate_left
            · intro w' hSw
              (try dsimp only at hSw)
              go_simp
              first | done | with_reducible rfl | (rw [if_neg (by omega)])
            try simp only [Act.put, List.getElem_toArray, List.getElem_cons_succ, List.getElem_cons_zero, List.setIfInBounds_toArray, List.set_cons_zero, List.set_cons_succ]
            refine wpAnyH_take (i := 7) (v := ?_) rfl (by kernel_rfl) (by kernel_rfl) (by kernel_rfl) (fun _ _ _ h => h) (Or.inl ⟨by rfl, ?_⟩) (by assumption) ?_
            rotate_left
            · intro w' hSw
              (try dsimp only at hSw)
              have hg0 := cell_keep hSw g0
              have hg1 := cell_keep hSw g1
              have hg2 := cell_keep hSw g2
              have hg3 := cell_keep hSw g3
              have hg4 := cell_keep hSw g4
              have hg5 := cell_keep hSw g5
              have hg6 := cell_keep hSw g6
              have hg7 := cell_keep hSw g7
              go_simp
              first | done | with_reducible rfl | (rw [if_neg (by omega)])
            try simp only [Act.put, List.getElem_toArray, List.getElem_cons_succ, List.getElem_cons_zero, List.setIfInBounds_toArray, List.set_cons_zero, List.set_cons_succ]
            refine wpAnyH_ready (rs := [8]) (by kernel_rfl) (by simp) ?_
            refine AllReadyH.cons rfl (fun K hK => ?_) AllReadyH.nil
            go_simp
            refine (HSM.out _ hHeld0).mono ?_
            rintro e w2' ⟨rfl, hb2⟩
            go_wp2_with fail
            refine hK.out _ _ ?_ (fun hHeld1 => ?_)
            · exact below_on hHeld0 hb2 (Nat.le_refl _)
            clear hK K
            try simp only [Act.put, List.getElem_toArray, List.getElem_cons_succ, List.getElem_cons_zero, List.setIfInBounds_toArray, List.set_cons_zero, List.set_cons_succ]
            refine wpAnyH_take (i := 9) (v := ?_) rfl (by kernel_rfl) (by kernel_rfl) (by kernel_rfl) (fun _ _ _ h => h) (Or.inl ⟨by rfl, ?_⟩) (by assumption) ?_
            rotate_left
            · intro w' hSw
              (try dsimp only at hSw)
              go_simp
              first | done | with_reducible rfl | (rw [if_neg (by omega)])
            try simp only [Act.put, List.getElem_toArray, List.getElem_cons_succ, List.getElem_cons_zero, List.setIfInBounds_toArray, List.set_cons_zero, List.set_cons_succ]
            refine wpAnyH_take (i := 10) (v := ?_) rfl (by kernel_rfl) (by kernel_rfl) (by kernel_rfl) (fun _ _ _ h => h) (Or.inl ⟨by rfl, ?_⟩) (by assumption) ?_
            rotate_left
            · intro w' hSw
              (try dsimp only at hSw)
              go_simp
              first | done | with_reducible rfl | (rw [if_neg (by omega)])
            try simp only [Act.put, List.getElem_toArray, List.getElem_cons_succ, List.getElem_cons_zero, List.setIfInBounds_toArray, List.set_cons_zero, List.set_cons_succ]
            refine wpAnyH_done (by kernel_rfl) ?_ _
            go_wp2_with fail
            go_meet
            exact ⟨rfl, below_on HB5.out hHeld1 (Nat.le_refl _)⟩
          case rest =>
            obtain ⟨rfl, hcut⟩ := hcut
            clear c0 c1 c2 c3 c4 c5 c6 c7 g0 g1 g2 g3 g4 g5 g6 g7
            cases f
            · go_wp2_with fail
              go_roundw
              case rel => exact ⟨k + 1, _, _, by omega, rfl, rfl, by go_num, HWS.out, hcut.out, HWN.out, HFN.out.symm, HLQ.out⟩
              case measure => simp [intOf]; omega
            · go_wp2_with fail
              go_roundw
              case rel => exact ⟨k + 1, _, _, by omega, rfl, rfl, by go_num, HWS.out, hcut.out, HWN.out, HFN.out.symm, HLQ.out⟩
              case measure => simp [intOf]; omega
    · as_aux_lemma =>
        have hkn : k = l0 := by omega
        have hall : xs0.take k = xs0 := List.take_of_length_le (by have := HLEN.out; omega)
        obtain ⟨hbw, hSd, hfe, hlg⟩ := hinv.out
        rw [hall] at hSd hfe hlg
        have hput := put_any wr a0 l0 c0 xs0 (HW.out.on hbw) (fun x hx => lightA_fit (hlg x hx) (HF.out x hx)) (by omega) (HE.out.below hbw HE.out.low)
        have HPUT := Lib.hid hput
        have HBW := Lib.hid hbw
        have HSD := Lib.hid hSd
        have HFE := Lib.hid hfe
        clear hinv hbw hSd hfe hlg hall hput hkn
        go_wp2_with fail
        refine HPUT.out.mono ?_
        intro e w5 hres
        cases f
        · obtain ⟨hb5, rfl⟩ := put_bad hres HF.out HFE.out.symm
          have HB5 := Lib.hid (below_on HBW.out hb5 (Nat.le_refl _))
          clear hb5 hres HPUT
          go_wp2_with fail
          go_ret
          exact ⟨rfl, HB5.out⟩
        · obtain ⟨hb5, he⟩ := put_good hres HF.out HFE.out.symm
          have HB5 := Lib.hid (below_on HBW.out hb5 (Nat.le_refl _))
          have hSl : S.data.toList.length = S.size := by simp
          have hSe : (⟨(wantP xs0).toArray⟩ : ByteArray) = S := (bytes_eq _ _ HSD.out).symm
          rw [← HSD.out, hSl, HSD.out, hSe] at he
          by_cases hbig : 262144 < S.size
          · rw [if_pos hbig] at he
            subst he
            have d1 : decide ((262144 : Int) < (S.size : Int)) = true := by rw [decide_eq_true_eq]; omega
            clear hb5 hres HPUT hSl hSe
            go_wp2_with fail
            go_ret
            exact ⟨rfl, HB5.out⟩
          · rw [if_neg hbig] at he
            subst he
            have d1 : decide ((262144 : Int) < (S.size : Int)) = false := by rw [decide_eq_false_iff_not]; omega
            have hget := get_any w5 S (by omega) (HE.out.below HB5.out HE.out.low) (S.size + xs0.length) (by omega)
            rw [HSD.out, get_good HF.out HFE.out.symm _ (by omega)] at hget
            have HGET := Lib.hid hget
            have e1 : (S.toList != S.toList) = false := by simp
            clear hb5 hres HPUT hSl hSe hget hbig
            go_wp2_with fail
            refine HGET.out.mono ?_
            rintro e w6 ⟨hb6, ao, c, rfl, hA6⟩
            have hxl := HLEN.out
            rw [hxl] at hA6 ⊢
            have e2 : ((l0 : Int) != (l0 : Int)) = false := by simp
            have HB6 := Lib.hid (below_on HB5.out hb6 (Nat.le_refl _))
            have HA6 := Lib.hid hA6
            have hle6 := hA6.hle
            have hmax6 := hA6.hmax
            clear hb6 hA6 hxl HGET
            go_wp2_with fail
            go_loopw [15] (fun iv wr => ∃ k : Nat, k ≤ l0 ∧ iv = .int .i64 k ∧ Below w6.heap.size w6 wr) (fun iv _ => l0 - (intOf iv).toNat)
            case atStart => exact ⟨0, Nat.zero_le _, rfl, Below.refl _ _⟩
            case round =>
              rename World => w7
              obtain ⟨i, hi, rfl, hb7⟩ := hrel
              by_cases hil : i < l0
              · have hix : i < xs0.length := by have := HLEN.out; omega
                have HB7 := Lib.hid (below_on HB6.out hb7 (Nat.le_refl _))
                obtain ⟨b1, off1, rfl, hcell1⟩ := (HA6.out.on hb7).hcells (by omega)
                obtain ⟨n1, nl1, nc1, d1', dl1, dc1, hcs1, hS1, hD1⟩ := hcell1 i hix
                obtain ⟨b2, off2, rfl, hcell2⟩ := (HW.out.on HB7.out).hcells (by omega)
                obtain ⟨n2, nl2, nc2, d2', dl2, dc2, hcs2, hS2, hD2⟩ := hcell2 i hix
                obtain ⟨x, hx⟩ : ∃ x, x = xs0[i] := ⟨_, rfl⟩
                rw [← hx] at hcs1 hS1 hD1 hcs2 hS2 hD2
                have c0 := hcs1 0 (by omega)
                have c1 := hcs1 1 (by omega)
                have c2 := hcs1 2 (by omega)
                have c3 := hcs1 3 (by omega)
                have c4 := hcs1 4 (by omega)
                have c5 := hcs1 5 (by omega)
                have c6 := hcs1 6 (by omega)
                have c7 := hcs1 7 (by omega)
                clear hcs1
                have g0 := hcs2 0 (by omega)
                have g1 := hcs2 1 (by omega)
                have g2 := hcs2 2 (by omega)
                have g3 := hcs2 3 (by omega)
                have g4 := hcs2 4 (by omega)
                have g5 := hcs2 5 (by omega)
                have g6 := hcs2 6 (by omega)
                have g7 := hcs2 7 (by omega)
                clear hcs2
                simp [actCells] at c0 g0 c1 g1 c2 g2 c3 g3 c4 g4 c5 g5 c6 g6 c7 g7
                have hsm := fun (w' : World) (h : Below w7.heap.size w7 w') => lsame_any w' x x n1 nl1 nc1 d1' dl1 dc1 n2 nl2 nc2 d2' dl2 dc2 (hS1.below h (Nat.le_refl _)) (hD1.below h (Nat.le_refl _)) (hS2.below h (Nat.le_refl _)) (hD2.below h (Nat.le_refl _))
                have hxx : sameP x x = true := (sameP_eq _ _).2 rfl
                simp only [actCells, hxx] at hsm
                have HSM := Lib.hid hsm
                have hkp : (0 : Int) ≤ (i : Int) := Int.natCast_nonneg _
                have hkl : (i : Int) < (l0 : Int) := by omega
                clear hsm hxx hcell1 hcell2 hS1 hD1 hS2 hD2 hx
                have hb77 : Below w7.heap.size w7 w7 := Below.refl _ _
                go_upto_region 28 with fail
                refine wp_region_held_drew (S := fun w' => Below w7.heap.size w7 w') (by kernel_rfl) ?_ (fun hHeld0 => ?_)
                · exact Below.drew hb77
                refine wpAnyH_take (i := 0) (v := ?_) rfl (by kernel_rfl) (by kernel_rfl) (by kernel_rfl) (fun _ _ _ h => h) (Or.inl ⟨by rfl, ?_⟩) (by assumption) ?_
                rotate_left
                · intro w' hSw
                  (try dsimp only at hSw)
                  go_simp
                  first | done | with_reducible rfl | (rw [if_neg (by omega)])
                try simp only [Act.put, List.getElem_toArray, List.getElem_cons_zero, List.setIfInBounds_toArray, List.set_cons_zero, List.set_cons_succ]
                refine wpAnyH_take (i := 1) (v := ?_) rfl (by kernel_rfl) (by kernel_rfl) (by kernel_rfl) (fun _ _ _ h => h) (Or.inl ⟨by rfl, ?_⟩) (by assumption) ?_
                rotate_left
                · intro w' hSw
                  (try dsimp only at hSw)
                  go_simp
                  first | done | with_reducible rfl | (rw [if_neg (by omega)])
                try simp only [Act.put, List.getElem_toArray, List.getElem_cons_succ, List.getElem_cons_zero, List.setIfInBounds_toArray, List.set_cons_zero, List.set_cons_succ]
                refine wpAnyH_take (i := 2) (v := ?_) rfl (by kernel_rfl) (by kernel_rfl) (by kernel_rfl) (fun _ _ _ h => h) (Or.inl ⟨by rfl, ?_⟩) (by assumption) ?_
                rotate_left
                · intro w' hSw
                  (try dsimp only at hSw)
                  go_simp
                  first | done | with_reducible rfl | (rw [if_neg (by omega)])
                try simp only [Act.put, List.getElem_toArray, List.getElem_cons_succ, List.getElem_cons_zero, List.setIfInBounds_toArray, List.set_cons_zero, List.set_cons_succ]
                refine wpAnyH_take (i := 3) (v := ?_) rfl (by kernel_rfl) (by kernel_rfl) (by kernel_rfl) (fun _ _ _ h => h) (Or.inl ⟨by rfl, ?_⟩) (by assumption) ?_
                rotate_left
                · intro w' hSw
                  (try dsimp only at hSw)
                  have hc0 := cell_keep hSw c0
                  have hc1 := cell_keep hSw c1
                  have hc2 := cell_keep hSw c2
                  have hc3 := cell_keep hSw c3
                  have hc4 := cell_keep hSw c4
                  have hc5 := cell_keep hSw c5
                  have hc6 := cell_keep hSw c6
                  have hc7 := cell_keep hSw c7
                  go_simp
                  first | done | with_reducible rfl | (rw [if_neg (by omega)])
                try simp only [Act.put, List.getElem_toArray, List.getElem_cons_succ, List.getElem_cons_zero, List.setIfInBounds_toArray, List.set_cons_zero, List.set_cons_succ]
                refine wpAnyH_take (i := 4) (v := ?_) rfl (by kernel_rfl) (by kernel_rfl) (by kernel_rfl) (fun _ _ _ h => h) (Or.inl ⟨by rfl, ?_⟩) (by assumption) ?_
                rotate_left
                · intro w' hSw
                  (try dsimp only at hSw)
                  go_simp
                  first | done | with_reducible rfl | (rw [if_neg (by omega)])
                try simp only [Act.put, List.getElem_toArray, List.getElem_cons_succ, List.getElem_cons_zero, List.setIfInBounds_toArray, List.set_cons_zero, List.set_cons_succ]
                refine wpAnyH_take (i := 5) (v := ?_) rfl (by kernel_rfl) (by kernel_rfl) (by kernel_rfl) (fun _ _ _ h => h) (Or.inl ⟨by rfl, ?_⟩) (by assumption) ?_
                rotate_left
                · intro w' hSw
                  (try dsimp only at hSw)
                  go_simp
                  first | done | with_reducible rfl | (rw [if_neg (by omega)])
                try simp only [Act.put, List.getElem_toArray, List.getElem_cons_succ, List.getElem_cons_zero, List.setIfInBounds_toArray, List.set_cons_zero, List.set_cons_succ]
                refine wpAnyH_take (i := 6) (v := ?_) rfl (by kernel_rfl) (by kernel_rfl) (by kernel_rfl) (fun _ _ _ h => h) (Or.inl ⟨by rfl, ?_⟩) (by assumption) ?_
                rotate_left
                · intro w' hSw
                  (try dsimp only at hSw)
                  go_simp
                  first | done | with_reducible rfl | (rw [if_neg (by omega)])
                try simp only [Act.put, List.getElem_toArray, List.getElem_cons_succ, List.getElem_cons_zero, List.setIfInBounds_toArray, List.set_cons_zero, List.set_cons_succ]
                refine wpAnyH_take (i := 7) (v := ?_) rfl (by kernel_rfl) (by kernel_rfl) (by kernel_rfl) (fun _ _ _ h => h) (Or.inl ⟨by rfl, ?_⟩) (by assumption) ?_
                rotate_left
                · intro w' hSw
                  (try dsimp only at hSw)
                  have hg0 := cell_keep hSw g0
                  have hg1 := cell_keep hSw g1
                  have hg2 := cell_keep hSw g2
                  have hg3 := cell_keep hSw g3
                  have hg4 := cell_keep hSw g4
                  have hg5 := cell_keep hSw g5
                  have hg6 := cell_keep hSw g6
                  have hg7 := cell_keep hSw g7
                  go_simp
                  first | done | with_reducible rfl | (rw [if_neg (by omega)])
                try simp only [Act.put, List.getElem_toArray, List.getElem_cons_succ, List.getElem_cons_zero, List.setIfInBounds_toArray, List.set_cons_zero, List.set_cons_succ]
                refine wpAnyH_ready (rs := [8]) (by kernel_rfl) (by simp) ?_
                refine AllReadyH.cons rfl (fun K hK => ?_) AllReadyH.nil
                go_simp
                refine (HSM.out _ hHeld0).mono ?_
                rintro e w2' ⟨rfl, hb2⟩
                go_wp2_with fail
                refine hK.out _ _ ?_ (fun hHeld1 => ?_)
                · exact below_on hHeld0 hb2 (Nat.le_refl _)
                clear hK K
                try simp only [Act.put, List.getElem_toArray, List.getElem_cons_succ, List.getElem_cons_zero, List.setIfInBounds_toArray, List.set_cons_zero, List.set_cons_succ]
                refine wpAnyH_take (i := 9) (v := ?_) rfl (by kernel_rfl) (by kernel_rfl) (by kernel_rfl) (fun _ _ _ h => h) (Or.inl ⟨by rfl, ?_⟩) (by assumption) ?_
                rotate_left
                · intro w' hSw
                  (try dsimp only at hSw)
                  go_simp
                  first | done | with_reducible rfl | (rw [if_neg (by omega)])
                try simp only [Act.put, List.getElem_toArray, List.getElem_cons_succ, List.getElem_cons_zero, List.setIfInBounds_toArray, List.set_cons_zero, List.set_cons_succ]
                refine wpAnyH_done (by kernel_rfl) ?_ _
                go_wp2_with fail
                go_roundw
                case rel => exact ⟨i + 1, by omega, by go_num, below_on hb7 hHeld1 (Nat.le_refl _)⟩
                case measure => simp [intOf]; omega
              · have HB7 := Lib.hid (below_on HB6.out hb7 (Nat.le_refl _))
                go_wp2_with fail
                go_ret
                exact ⟨rfl, HB7.out⟩

theorem door_met (os : Os) (args : Array Value) : laidMetH Tryz.prog Rows.scriptBackRow.laid ((World.laidAll Tryz.prog os Rows.scriptBackRow.laid).forCall (fun _ _ => 0) ⟨#[], args, []⟩).memory := by
  rw [MakeChecks.laidMetH_plain _ _ _ (by kernel_rfl)]
  exact laidMet_laidAll _ (by kernel_rfl) (by kernel_rfl)

set_option maxHeartbeats 1000000 in
set_option maxRecDepth 100000 in
theorem lifted (os : Os) (started : os.Started) (H : Type) (enc : TypeId × Value → H) :
    ReturnsInHanded {} Tryz.checked os 9 .any (fun w args => (Rows.scriptBackSpec.pre enc Tryz.prog Tryz.f9 [] false w args ∧ laidMetH Tryz.prog Rows.scriptBackRow.laid w) ∧ sizedMet enc Tryz.prog Tryz.f9 (OpenSpec.ofChange Rows.scriptBackSpec) false w args) (Rows.scriptBackSpec.post enc Tryz.prog Tryz.f9 false true false false) := by
  refine wrap_and_shaped (C := Tryz.checked) (X := fun w _ => laidMetH Tryz.prog Rows.scriptBackRow.laid w) (fun _ _ _ hh h => h.of_heap hh) own started (by kernel_rfl) Tryz.func9
    (ChangeSpec.witness_shaped (enc := enc) (C := Tryz.checked) (os := os) (X := fun w _ => laidMetH Tryz.prog Rows.scriptBackRow.laid w) false (World.laidAll Tryz.prog os Rows.scriptBackRow.laid) #[.slice none 0 0] 8 (World.laidAll_os _ _ _) (World.shaped_of_ZipB (by kernel_rfl) (by kernel_rfl)) (by kernel_rfl) (by kernel_rfl) (by kernel_rfl) (door_met os _)) ?_
  intro W base args ds gs before hval0 hW hcnd hsz0 hL hsh _
  have hval : ∀ (j : Nat) t v, Tryz.f9.params[j]? = some t → args[j]? = some v → Value.okWide Tryz.prog W .any base t v := hval0
  have hW' := hW
  obtain ⟨p, q, hA0, hV, rfl, hfz, hnd⟩ := hW
  have hA : DataW.TrodAll enc Tryz.prog W 0 (fun _ => true) true Tryz.f9.params.toList args.toList ds p := hA0
  have hsz : (DataW.weightsEach Tryz.prog (Tryz.f9.params.toList ++ Rows.scriptBackSpec.plain.varTypes Tryz.prog) (ds ++ gs)).all (· ≤ reachBytes) = true := hsz0
  rw [Tryz.params9] at hA hval hsz
  obtain ⟨v0, vs0, d0, ds0, p0, q0, hargs, rfl, rfl, h0, r0⟩ := trodAll_cons hA
  obtain ⟨rfl, rfl, rfl⟩ := trodAll_nil r0
  obtain rfl : args = #[v0] := by cases args; simp_all
  obtain ⟨rfl, rfl⟩ := trodVars_none hV
  have k0 := h0
  have lt0 : ∀ x ∈ p0, x.block < W.heap.size := by obtain ⟨m, hm⟩ := k0; exact DataW.trod_lt m _ _ _ hm
  obtain ⟨x0, y0, z0, hsl0⟩ := okWide_slice Tryz.underlying67 (hval 0 67 v0 rfl rfl)
  obtain ⟨a0, l0, c0, xs0, hv0, w0, f0⟩ := open_acts Tryz.underlying67 h0 (weights_at hsz (j := 0) rfl rfl) ⟨_, _, _, hsl0⟩
  clear hA0 hval0
  subst hv0
  refine (walk a0 l0 c0 xs0 W w0 f0 hL (max_of_shape hsh)).mono fun e W' ⟨he, bel⟩ => ?_
  subst he
  exact ⟨_, rfl, _, _, _, [], _, [], hW', trodAll_mk1 (shut_bool Tryz.underlying4 _), (trodAll_cons_mk (Below.trod laidOut (by kernel_rfl) (of_decide_eq_true (by kernel_rfl)) k0 bel lt0) trodAll_mk0), rfl, bel.frame _, fun h => by cases h⟩

theorem over : Rows.scriptBackRow.holds Tryz.pinned (OpenSpec.ofChange Rows.scriptBackSpec) :=
  OpenClaim.holds_of_wide 9 Tryz.f9 rfl rfl rfl rfl rfl rfl rfl ⟨rfl, rfl, rfl, rfl, rfl⟩ rfl rfl rfl rfl rfl (by kernel_rfl) Tryz.func9 (by kernel_rfl)
    (of_decide_eq_true (by kernel_rfl)) (by unfold Func.isWrapper; first | (rw [if_pos (by decide +kernel)]; kernel_rfl) | (rw [if_neg (by decide +kernel)]; exact ⟨rfl, rfl⟩))
    (fun os started H enc _ => lifted os started H enc)

theorem proved : Rows.ScriptBackCardSaid :=
  Claim7.holds_tied_plain_at .later [] [.data, .data, .data, .data, .sentinel, .sentinel, .pinned] true (true, "fab5b64761970f4e0cf9cb2320c20c52afa86df77447b640b54cc28f6a1e98a6") true
    over (fun _ h => by cases h) (by kernel_rfl) (fun _ h => by cases h) scriptBack_row_tie rfl ⟨rfl, rfl⟩ (by kernel_rfl) rfl
    (fun f fn hf hfn => by
      obtain rfl : f = 9 := Option.some.inj ((show Tryz.prog.funcNamed "gazetteer/gazetteerlaw23.ScriptBack" = some 9 by kernel_rfl).symm.trans hf) |>.symm
      obtain rfl : fn = Tryz.f9 := (Option.some.inj (Tryz.func9.symm.trans hfn)).symm
      exact ⟨by kernel_rfl, fun j t ht => by
        rw [Tryz.params9] at ht
        have hm : t ∈ [67] := by simpa using Array.mem_of_getElem? ht
        have hall : ([67].all fun u => !Tryz.prog.wantsStandIn u) = true := by kernel_rfl
        exact (show Tryz.prog.wantsStandIn t = false by simpa using List.all_eq_true.1 hall t hm)⟩)
    (by kernel_rfl)
end Go.Proofs.YtipbakdodbmfjaaGreatDoor.scriptBack

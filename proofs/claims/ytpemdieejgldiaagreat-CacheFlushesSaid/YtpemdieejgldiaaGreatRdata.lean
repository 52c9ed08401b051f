/- The contract of the reference's Data: may a type say so? -/
import Derived.Test.YtpemdieejgldiaaGreatFit
namespace Go.Proofs.YtpemdieejgldiaaGreat
open Go.ChangeShapes Go.WideShapes Go.ChangeAt Go.RowKit

def dataB (k : Int) (d : DataP) : Bool :=
  if k < 1 ∨ 65535 < k then false
  else if k = 1 then decide (d.bytes.length = 4) && emptyB d true false false false false
  else if k = 28 then decide (d.bytes.length = 16) && emptyB d true false false false false
  else if k = 2 ∨ k = 5 ∨ k = 12 then soundB d.host && emptyB d false true false false false
  else if k = 15 then (soundB d.host && fitB d.nums 1 2) && emptyB d false true false true false
  else if k = 6 then ((soundB d.host && soundB d.mail) && fitB d.nums 5 4) && emptyB d false true true true false
  else if k = 33 then (soundB d.host && fitB d.nums 3 2) && emptyB d false true false true false
  else if k = 16 then (decide (1 ≤ d.texts.length) && (decide (d.texts.length ≤ 64) && emptyB d false false false false true)) && d.texts.all (fun s => decide (s.size ≤ 255))
  else decide (d.bytes.length ≤ 65535) && emptyB d true false false false false
theorem dataB_out {k : Int} {d : DataP} (h : k < 1 ∨ 65535 < k) : dataB k d = false := by rw [dataB, if_pos h]
theorem dataB_other {k : Int} {d : DataP} (h1 : 1 ≤ k) (h2 : k ≤ 65535) (h : k ≠ 1 ∧ k ≠ 28 ∧ k ≠ 2 ∧ k ≠ 5 ∧ k ≠ 12 ∧ k ≠ 15 ∧ k ≠ 6 ∧ k ≠ 33 ∧ k ≠ 16) : dataB k d = (decide (d.bytes.length ≤ 65535) && emptyB d true false false false false) := by
  obtain ⟨a1, a2, a3, a4, a5, a6, a7, a8, a9⟩ := h
  rw [dataB, if_neg (by omega), if_neg a1, if_neg a2, if_neg (by omega), if_neg a6, if_neg a7, if_neg a8, if_neg a9]
/-- which kinds there are -/
theorem kind_cases (k : Int) : (k < 1 ∨ 65535 < k) ∨ k = 1 ∨ k = 28 ∨ (k = 2 ∨ k = 5 ∨ k = 12) ∨ k = 15 ∨ k = 6 ∨ k = 33 ∨ k = 16 ∨ ((1 ≤ k ∧ k ≤ 65535) ∧ (k ≠ 1 ∧ k ≠ 28 ∧ k ≠ 2 ∧ k ≠ 5 ∧ k ≠ 12 ∧ k ≠ 15 ∧ k ≠ 6 ∧ k ≠ 33 ∧ k ≠ 16)) := by omega

set_option maxHeartbeats 8000000 in
set_option maxRecDepth 100000 in
theorem rdata_any (w : World) (k : Int) (h : DataH) (d : DataP) (hd : IsData w h d) :
    Calls Tryz.prog 37 #[.int .i64 k, .agg (dataC h)] w fun e w' => e = .returned (.bool (dataB k d)) ∧ Below w.heap.size w w' := by
  have hlen := hd.len
  have hB : Blk (w.alloc (.cells (dataC h) 34)) w.heap.size (dataC h) 34 := heap_alloc_new w _
  have hb1 : Below w.heap.size w (w.alloc (.cells (dataC h) 34)) := (Below.refl _ _).alloc (Nat.le_refl _) _
  have HEMP := Lib.hid (fun w' b1 b2 b3 b4 b5 => empty_any w' h d hlen b1 b2 b3 b4 b5)
  have hd1 := hd.on hb1
  have HBK := Lib.hid (show ∀ w', Below (w.heap.size + 1) (w.alloc (.cells (dataC h) 34)) w' → w'.cell? ⟨w.heap.size, 4, none⟩ = some (.slice h.ta h.tl h.tc) from fun w' hb => (cell_keep (hb.mono (by simp)) (hB.cell 4)))
  have HTX := Lib.hid (show ∀ w', Below (w.heap.size + 1) (w.alloc (.cells (dataC h) 34)) w' → Strs w' h.ta h.tl h.tc d.texts from fun w' hb => hd1.texts.below hb (by simp))
  have hs1 : (w.alloc (.cells (dataC h) 34)).heap.size = w.heap.size + 1 := by simp
  obtain ⟨ba, bl, bc, ha, hl, hc, ma, ml, mc, na, nl, nc, ta, tl, tc⟩ := h
  obtain ⟨e0, e1, e2, e3, e4⟩ := hlen
  simp only [dataC] at *
  have c0 := hB.cell 0
  have c1 := hB.cell 1
  have c2 := hB.cell 2
  have c3 := hB.cell 3
  have c4 := hB.cell 4
  simp at c0 c1 c2 c3 c4
  have HS1 := Lib.hid (rsound_any _ _ _ _ _ hd1.host)
  have HS2 := Lib.hid (rsound_any _ _ _ _ _ hd1.mail)
  have HF2 := Lib.hid (fun (count : Nat) => fit_any _ _ _ _ _ hd1.nums hd1.fits count 2 (by omega) (by omega))
  have HF4 := Lib.hid (fun (count : Nat) => fit_any _ _ _ _ _ hd1.nums hd1.fits count 4 (by omega) (by omega))
  have HB1 := Lib.hid hb1
  have HL := Lib.hid e4
  have HL0 := Lib.hid e0
  have HSZ := Lib.hid hs1
  have hcap := hd1.texts.row.hcap
  have hle := hd1.texts.row.hle
  clear hb1 hB hd hd1 e0 e1 e2 e3 e4 hs1
  rcases kind_cases k with hk | rfl | rfl | hk | rfl | rfl | rfl | rfl | ⟨⟨k1, k2⟩, hk⟩
  · rw [dataB_out hk]
    rcases hk with hk | hk
    all_goals
      go_enter Tryz.func37, Tryz.ntmps37
      go_wp2
      go_ret
      exact ⟨rfl, HB1.out⟩
  · obtain ⟨M, hM⟩ : ∃ M, M = emptyB d true false false false false := ⟨_, rfl⟩
    have HE : Hid (dataB 1 d = (decide (bl = 4) && M)) := by show dataB 1 d = _; rw [hM, ← HL0.out]; rfl
    have HEM := Lib.hid (fun w' => HEMP.out w' true false false false false)
    rw [← hM] at HEM
    rw [HE.out]
    clear hM HE HEMP
    by_cases hq : bl = 4
    · have g1 : ((bl : Int) == 4) = true := by rw [beq_iff_eq]; omega
      rw [decide_eq_true hq, Bool.true_and]
      clear hq
      go_enter Tryz.func37, Tryz.ntmps37
      go_wp2_with (go_at_call 63; refine (HEM.out _).mono ?_; rintro e w' ⟨rfl, hb2⟩)
      go_ret
      exact ⟨rfl, below_on HB1.out hb2 (Nat.le_refl _)⟩
    · have g1 : ((bl : Int) == 4) = false := by rw [beq_eq_false_iff_ne]; omega
      rw [decide_eq_false hq, Bool.false_and]
      clear hq
      go_enter Tryz.func37, Tryz.ntmps37
      go_wp2
      go_ret
      exact ⟨rfl, HB1.out⟩
  · obtain ⟨M, hM⟩ : ∃ M, M = emptyB d true false false false false := ⟨_, rfl⟩
    have HE : Hid (dataB 28 d = (decide (bl = 16) && M)) := by show dataB 28 d = _; rw [hM, ← HL0.out]; rfl
    have HEM := Lib.hid (fun w' => HEMP.out w' true false false false false)
    rw [← hM] at HEM
    rw [HE.out]
    clear hM HE HEMP
    by_cases hq : bl = 16
    · have g1 : ((bl : Int) == 16) = true := by rw [beq_iff_eq]; omega
      rw [decide_eq_true hq, Bool.true_and]
      clear hq
      go_enter Tryz.func37, Tryz.ntmps37
      go_wp2_with (go_at_call 63; refine (HEM.out _).mono ?_; rintro e w' ⟨rfl, hb2⟩)
      go_ret
      exact ⟨rfl, below_on HB1.out hb2 (Nat.le_refl _)⟩
    · have g1 : ((bl : Int) == 16) = false := by rw [beq_eq_false_iff_ne]; omega
      rw [decide_eq_false hq, Bool.false_and]
      clear hq
      go_enter Tryz.func37, Tryz.ntmps37
      go_wp2
      go_ret
      exact ⟨rfl, HB1.out⟩
  · obtain ⟨M, hM⟩ : ∃ M, M = emptyB d false true false false false := ⟨_, rfl⟩
    obtain ⟨S, hS⟩ : ∃ S, S = soundB d.host := ⟨_, rfl⟩
    have HE : Hid (dataB k d = (S && M)) := by show dataB k d = _; rw [hM, hS]; rcases hk with rfl | rfl | rfl <;> rfl
    have HEM := Lib.hid (fun w' => HEMP.out w' false true false false false)
    rw [← hM] at HEM
    rw [← hS] at HS1
    rw [HE.out]
    clear hM hS HE
    rcases hk with rfl | rfl | rfl
    all_goals
      go_enter Tryz.func37, Tryz.ntmps37
      go_wp2_with (first | (go_at_call 63; refine (HEM.out _).mono ?_; rintro e w' ⟨rfl, hb2⟩) | (go_at_call 34; refine HS1.out.mono ?_; rintro e w' ⟨rfl, rfl⟩))
    all_goals
      go_ret
      refine ⟨ret_bool ?_, by first | exact HB1.out | (refine below_on HB1.out ?_ (Nat.le_refl _); assumption)⟩
      simp_all
  · obtain ⟨M, hM⟩ : ∃ M, M = emptyB d false true false true false := ⟨_, rfl⟩
    obtain ⟨S, hS⟩ : ∃ S, S = soundB d.host := ⟨_, rfl⟩
    obtain ⟨F, hF⟩ : ∃ S, S = fitB d.nums 1 2 := ⟨_, rfl⟩
    have HE : Hid (dataB 15 d = ((S && F) && M)) := by show dataB 15 d = _; rw [hM, hS, hF]; rfl
    have HEM := Lib.hid (fun w' => HEMP.out w' false true false true false)
    have HF := Lib.hid (HF2.out 1)
    rw [← hM] at HEM
    rw [← hS] at HS1
    rw [← hF] at HF
    rw [HE.out]
    clear hM hS hF HE
    go_enter Tryz.func37, Tryz.ntmps37
    go_wp2_with (first | (go_at_call 63; refine (HEM.out _).mono ?_; rintro e w' ⟨rfl, hb2⟩) | (go_at_call 34; refine HS1.out.mono ?_; rintro e w' ⟨rfl, rfl⟩) | (go_at_call 64; refine HF.out.mono ?_; rintro e w' ⟨rfl, rfl⟩))
    all_goals
      go_ret
      refine ⟨ret_bool ?_, by first | exact HB1.out | (refine below_on HB1.out ?_ (Nat.le_refl _); assumption)⟩
      simp_all
  · obtain ⟨M, hM⟩ : ∃ M, M = emptyB d false true true true false := ⟨_, rfl⟩
    obtain ⟨S, hS⟩ : ∃ S, S = soundB d.host := ⟨_, rfl⟩
    obtain ⟨S2, hS2⟩ : ∃ S, S = soundB d.mail := ⟨_, rfl⟩
    obtain ⟨F, hF⟩ : ∃ S, S = fitB d.nums 5 4 := ⟨_, rfl⟩
    have HE : Hid (dataB 6 d = (((S && S2) && F) && M)) := by show dataB 6 d = _; rw [hM, hS, hS2, hF]; rfl
    have HEM := Lib.hid (fun w' => HEMP.out w' false true true true false)
    have HF := Lib.hid (HF4.out 5)
    rw [← hM] at HEM
    rw [← hS] at HS1
    rw [← hS2] at HS2
    rw [← hF] at HF
    rw [HE.out]
    clear hM hS hS2 hF HE HEMP HF2 HF4
    go_enter Tryz.func37, Tryz.ntmps37
    go_wp2_with fail
    refine HS1.out.mono ?_
    rintro e w' ⟨rfl, rfl⟩
    cases S
    · go_wp2_with fail
      go_ret
      exact ⟨rfl, HB1.out⟩
    go_wp2_with fail
    refine HS2.out.mono ?_
    rintro e w' ⟨rfl, rfl⟩
    cases S2
    · go_wp2_with fail
      go_ret
      exact ⟨rfl, HB1.out⟩
    go_wp2_with fail
    refine HF.out.mono ?_
    rintro e w' ⟨rfl, rfl⟩
    cases F
    · go_wp2_with fail
      go_ret
      exact ⟨rfl, HB1.out⟩
    go_wp2_with fail
    refine (HEM.out _).mono ?_
    rintro e w' ⟨rfl, hb2⟩
    go_wp2_with fail
    go_ret
    exact ⟨rfl, below_on HB1.out hb2 (Nat.le_refl _)⟩
  · obtain ⟨M, hM⟩ : ∃ M, M = emptyB d false true false true false := ⟨_, rfl⟩
    obtain ⟨S, hS⟩ : ∃ S, S = soundB d.host := ⟨_, rfl⟩
    obtain ⟨F, hF⟩ : ∃ S, S = fitB d.nums 3 2 := ⟨_, rfl⟩
    have HE : Hid (dataB 33 d = ((S && F) && M)) := by show dataB 33 d = _; rw [hM, hS, hF]; rfl
    have HEM := Lib.hid (fun w' => HEMP.out w' false true false true false)
    have HF := Lib.hid (HF2.out 3)
    rw [← hM] at HEM
    rw [← hS] at HS1
    rw [← hF] at HF
    rw [HE.out]
    clear hM hS hF HE
    go_enter Tryz.func37, Tryz.ntmps37
    go_wp2_with (first | (go_at_call 63; refine (HEM.out _).mono ?_; rintro e w' ⟨rfl, hb2⟩) | (go_at_call 34; refine HS1.out.mono ?_; rintro e w' ⟨rfl, rfl⟩) | (go_at_call 64; refine HF.out.mono ?_; rintro e w' ⟨rfl, rfl⟩))
    all_goals
      go_ret
      refine ⟨ret_bool ?_, by first | exact HB1.out | (refine below_on HB1.out ?_ (Nat.le_refl _); assumption)⟩
      simp_all
  · obtain ⟨M, hM⟩ : ∃ M, M = emptyB d false false false false true := ⟨_, rfl⟩
    have HE : Hid (dataB 16 d = ((decide (1 ≤ tl) && (decide (tl ≤ 64) && M)) && d.texts.all (fun s => decide (s.size ≤ 255)))) := by show dataB 16 d = _; rw [hM, ← HL.out]; rfl
    have HEM := Lib.hid (fun w' => HEMP.out w' false false false false true)
    rw [← hM] at HEM
    rw [HE.out]
    clear hM HE HEMP HF2 HF4 HS1 HS2
    by_cases h1 : 1 ≤ tl
    case neg =>
      have g1 : decide ((tl : Int) < 1) = true := by rw [decide_eq_true_eq]; omega
      rw [decide_eq_false h1, Bool.false_and, Bool.false_and]
      clear h1
      go_enter Tryz.func37, Tryz.ntmps37
      go_wp2
      go_ret
      exact ⟨rfl, HB1.out⟩
    by_cases h2 : tl ≤ 64
    case neg =>
      have g1 : decide ((tl : Int) < 1) = false := by rw [decide_eq_false_iff_not]; omega
      have g2 : decide ((64 : Int) < (tl : Int)) = true := by rw [decide_eq_true_eq]; omega
      rw [decide_eq_false h2, Bool.false_and, Bool.and_false, Bool.false_and]
      clear h1 h2
      go_enter Tryz.func37, Tryz.ntmps37
      go_wp2
      go_ret
      exact ⟨rfl, HB1.out⟩
    have g1 : decide ((tl : Int) < 1) = false := by rw [decide_eq_false_iff_not]; omega
    have g2 : decide ((64 : Int) < (tl : Int)) = false := by rw [decide_eq_false_iff_not]; omega
    rw [decide_eq_true h1, decide_eq_true h2, Bool.true_and, Bool.true_and]
    go_enter Tryz.func37, Tryz.ntmps37
    go_wp2_with fail
    refine (HEM.out _).mono ?_
    rintro e w2 ⟨rfl, hb2⟩
    have hb2' : Below (w.heap.size + 1) (w.alloc (.cells #[.slice ba bl bc, .slice ha hl hc, .slice ma ml mc, .slice na nl nc, .slice ta tl tc] 34)) w2 := by rw [← HSZ.out]; exact hb2
    have t4 := HBK.out _ hb2'
    have hT := HTX.out _ hb2'
    have HB2 := Lib.hid (below_on HB1.out hb2 (Nat.le_refl _))
    clear hb2 hb2' HEM
    cases M
    · go_wp2_with fail
      go_ret
      exact ⟨rfl, HB2.out⟩
    go_wp2_with fail
    go_loop [5] (fun i => ∃ k : Nat, k ≤ tl ∧ i = .int .i64 k ∧ Hid (∀ j (hj : j < d.texts.length), j < k → (d.texts[j]).size ≤ 255)) (fun i => tl - (intOf i).toNat)
    case atStart => exact ⟨0, Nat.zero_le _, rfl, fun j hj h => absurd h (by omega)⟩
    case round =>
      obtain ⟨k, hk, rfl, hno⟩ := hrel
      by_cases hlt : k < tl
      · obtain ⟨b, off, rfl⟩ := hT.row.addr hlt
        have hc := hT.at hlt
        have h3 := hT.get_small (i := k) (by have := HL.out; omega)
        obtain ⟨s, hsk⟩ : ∃ s, s = d.texts[k]'(by have := HL.out; omega) := ⟨_, rfl⟩
        rw [← hsk] at hc h3
        have HK := Lib.hid hsk
        clear hsk
        by_cases hs : s.size ≤ 255
        · have HS := Lib.hid hs
          have d1 : decide ((255 : Int) < (s.size : Int)) = false := by rw [decide_eq_false_iff_not]; omega
          clear hs
          go_wp2_with fail
          go_round
          case rel =>
            refine ⟨k + 1, by omega, by go_num, fun j hj h => ?_⟩
            rcases Nat.lt_succ_iff_lt_or_eq.1 h with h | rfl
            · exact hno.out j hj h
            · rw [← HK.out]; exact HS.out
          case measure => simp [intOf]; omega
        · have HS := Lib.hid hs
          have d1 : decide ((255 : Int) < (s.size : Int)) = true := by rw [decide_eq_true_eq]; omega
          clear hs
          go_wp2_with fail
          go_ret
          refine ⟨ret_bool ?_, HB2.out⟩
          symm
          rw [List.all_eq_false]
          exact ⟨s, by rw [HK.out]; exact List.getElem_mem _, by simpa using HS.out⟩
      · have HA : Hid (d.texts.all (fun s => decide (s.size ≤ 255)) = true) := by
          rw [Hid, List.all_eq_true]
          intro s hs
          obtain ⟨j, hj, rfl⟩ := List.getElem_of_mem hs
          simpa using hno.out j hj (by have := HL.out; omega)
        clear hno
        go_wp2_with fail
        go_ret
        exact ⟨ret_bool HA.out.symm, HB2.out⟩
  · obtain ⟨M, hM⟩ : ∃ M, M = emptyB d true false false false false := ⟨_, rfl⟩
    have HE : Hid (dataB k d = (decide (bl ≤ 65535) && M)) := by show dataB k d = _; rw [dataB_other k1 k2 hk, hM, ← HL0.out]
    have HEM := Lib.hid (fun w' => HEMP.out w' true false false false false)
    rw [← hM] at HEM
    rw [HE.out]
    clear hM HE
    obtain ⟨a1, a2, a3, a4, a5, a6, a7, a8, a9⟩ := hk
    have g1 : (k == 1) = false := by rw [beq_eq_false_iff_ne]; exact a1
    have g2 : (k == 28) = false := by rw [beq_eq_false_iff_ne]; exact a2
    have g3 : (k == 2) = false := by rw [beq_eq_false_iff_ne]; exact a3
    have g4 : (k == 5) = false := by rw [beq_eq_false_iff_ne]; exact a4
    have g5 : (k == 12) = false := by rw [beq_eq_false_iff_ne]; exact a5
    have g6 : (k == 15) = false := by rw [beq_eq_false_iff_ne]; exact a6
    have g7 : (k == 6) = false := by rw [beq_eq_false_iff_ne]; exact a7
    have g8 : (k == 33) = false := by rw [beq_eq_false_iff_ne]; exact a8
    have g9 : (k == 16) = false := by rw [beq_eq_false_iff_ne]; exact a9
    clear a1 a2 a3 a4 a5 a6 a7 a8 a9
    go_enter Tryz.func37, Tryz.ntmps37
    go_wp2_with (go_at_call 63; refine (HEM.out _).mono ?_; rintro e w' ⟨rfl, hb2⟩)
    all_goals
      go_ret
      refine ⟨ret_bool ?_, by first | exact HB1.out | (refine below_on HB1.out ?_ (Nat.le_refl _); assumption)⟩
      simp_all
      try omega
end Go.Proofs.YtpemdieejgldiaaGreat

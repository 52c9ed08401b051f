/- The contracts of zone.Sound, of the statements' own Sound, and of OwnRRs. -/
import Derived.Test.YtipbakdodbmfjaaGreatDoorZonea
import Derived.Test.YtipbakdodbmfjaaGreatDoorWordsm
import Derived.Maps.AppendAt
namespace Go.Proofs.YtipbakdodbmfjaaGreatDoor
section
open Go.ChangeShapes Go.WideShapes Go.ChangeAt Go.RowKit

set_option maxHeartbeats 16000000 in
set_option maxRecDepth 100000 in
theorem zsound_any (w : World) (h : ZH) (z : ZP) (hz : IsZone w h z) :
    Calls Tryz.prog 65 #[.agg (zoneC h)] w fun e w' => e = .returned (.bool (zoneB z)) ∧ Below w.heap.size w w' := by
  have hwa : Below w.heap.size w (w.alloc (.cells (zoneC h) 46)) := (Below.refl _ _).alloc (Nat.le_refl _) _
  have hA : Blk (w.alloc (.cells (zoneC h) 46)) w.heap.size (zoneC h) 46 := heap_alloc_new w _
  have HWA := Lib.hid hwa
  have HZ := Lib.hid (hz.on hwa)
  have HA := Lib.hid hA
  have hlen := hz.recs.hlen
  have hle := hz.recs.hle
  have hmx := hz.recs.hmax
  have HL := Lib.hid hlen
  obtain ⟨S, hS⟩ : ∃ S, S = soundB z.name := ⟨_, rfl⟩
  obtain ⟨B, hB⟩ : ∃ S, S = zoneB z := ⟨_, rfl⟩
  have HBE := Lib.hid (show B = (S && (decide (1 ≤ z.recs.length ∧ z.recs.length ≤ 256) && goZ z.name [] z.recs 0)) by rw [hB, hS]; rfl)
  have HS := Lib.hid (sound_any _ _ _ _ _ (hz.on hwa).name)
  rw [← hS] at HS
  rw [← hB]
  clear hwa hA hz hS hB hlen
  obtain ⟨za, zl, zc, ra, n, rc⟩ := h
  simp only [zoneC] at HWA HA HS HZ
  simp only at hle hmx HL
  have c0 := HA.out.cell 0
  have c1 := HA.out.cell 1
  simp at c0 c1
  go_enter Tryz.func65, Tryz.ntmps65
  simp only [zoneC]
  go_wp2_with fail
  refine HS.out.mono ?_
  rintro e w1 ⟨rfl, rfl⟩
  cases S
  · go_wp2_with fail
    go_ret
    exact ⟨ret_bool (by rw [HBE.out]; rfl), HWA.out⟩
  by_cases h1 : n < 1
  · have d1 : decide ((n : Int) < 1) = true := decide_eq_true (by omega)
    go_wp2_with fail
    go_ret
    exact ⟨ret_bool (by rw [HBE.out]; have := HL.out; simp; omega), HWA.out⟩
  have d1 : decide ((n : Int) < 1) = false := decide_eq_false (by omega)
  by_cases h2 : 256 < n
  · have d2 : decide ((256 : Int) < (n : Int)) = true := decide_eq_true (by omega)
    go_wp2_with fail
    go_ret
    exact ⟨ret_bool (by rw [HBE.out]; have := HL.out; simp; omega), HWA.out⟩
  have d2 : decide ((256 : Int) < (n : Int)) = false := decide_eq_false (by omega)
  have HB2 := Lib.hid (show B = goZ z.name (z.recs.take 0) (z.recs.drop 0) 0 by rw [HBE.out, decide_eq_true (show 1 ≤ z.recs.length ∧ z.recs.length ≤ 256 by have := HL.out; omega)]; rfl)
  go_wp2_with fail
  clear HBE HS
  go_loopw [25, 3, 4, 5] (fun i s _ _ wr => ∃ k m : Nat, k ≤ n ∧ m ≤ k ∧ i = .int .i64 k ∧ s = .int .i64 m ∧ Hid (Below w.heap.size w wr ∧ Below (w.alloc (.cells #[.slice za zl zc, .slice ra n rc] 46)).heap.size (w.alloc (.cells #[.slice za zl zc, .slice ra n rc] 46)) wr ∧ B = goZ z.name (z.recs.take k) (z.recs.drop k) m)) (fun i _ _ _ _ => n - (intOf i).toNat)
  case atStart => exact ⟨0, 0, Nat.zero_le _, Nat.le_refl _, rfl, rfl, HWA.out, Below.refl _ _, HB2.out⟩
  case round =>
    obtain ⟨k, m, hk, hm, rfl, rfl, hinv⟩ := hrel
    clear c0 c1 HB2
    have HA2 := Lib.hid (HA.out.on hinv.out.2.1)
    have c0 := HA2.out.cell 0
    have c1 := HA2.out.cell 1
    simp at c0 c1
    by_cases hlt : k < n
    · obtain ⟨b, off, rfl⟩ : ∃ b off, ra = some ⟨b, off, none⟩ := HZ.out.recs.addr hlt
      obtain ⟨h, hc, ho⟩ := (HZ.out.on hinv.out.2.1).recs.at hlt
      obtain ⟨r, hrx⟩ : ∃ o, o = z.recs[k]'(by have := HL.out; omega) := ⟨_, rfl⟩
      rw [← hrx] at hc ho
      have HRX := Lib.hid hrx
      have HO := Lib.hid ho
      have e0 := hc 0 (by omega)
      have e1 := hc 1 (by omega)
      have e2 := hc 2 (by omega)
      have e3 := hc 3 (by omega)
      have e4 := hc 4 (by omega)
      have e5 := hc 5 (by omega)
      have e6 := hc 6 (by omega)
      have e7 := hc 7 (by omega)
      have e8 := hc 8 (by omega)
      clear hc ho hrx
      obtain ⟨R0, hR0⟩ : ∃ q, q = rrB r := ⟨_, rfl⟩
      obtain ⟨U, hU⟩ : ∃ q, q = underB r.name z.name := ⟨_, rfl⟩
      obtain ⟨C, hC⟩ : ∃ q, q = (z.recs.take k).any (fun o => clashP o r) := ⟨_, rfl⟩
      have HEQ := Lib.hid (show B = ((R0 && (decide (r.cls = 1) && (U && (decide (r.kind ≠ 41) && decide (r.kind ≠ 255))))) && (!C && (soaP z.name r && goZ z.name (z.recs.take (k + 1)) (z.recs.drop (k + 1)) (if r.kind = 6 then m + 1 else m)))) by
        rw [hinv.out.2.2, goZ_at (by have := HL.out; omega), hR0, hU, hC, HRX.out]; rfl)
      have hbA : Below wr.heap.size wr (wr.alloc (.cells (rrC h r) 48)) := (Below.refl _ _).alloc (Nat.le_refl _) _
      have hA5 : Blk (wr.alloc (.cells (rrC h r) 48)) wr.heap.size (rrC h r) 48 := heap_alloc_new wr _
      have HS5 := Lib.hid (rrsound_any _ h r (HO.out.on hbA))
      rw [← hR0] at HS5
      have HU5 := Lib.hid (fun (w' : World) (p : Strs w' h.na h.nl h.nc r.name) (q : Strs w' za zl zc z.name) => under_any w' _ _ _ _ _ _ _ _ p q)
      rw [← hU] at HU5
      have HC5 := Lib.hid (fun (w' : World) (ao : Option Addr) (c : Nat) (p : RRs w' ao k c (z.recs.take k)) (q : IsRR w' h r) (t : Blk w' wr.heap.size (rrC h r) 48) => containsRR_any w' ao k c _ p h r q wr.heap.size t)
      rw [← hC] at HC5
      have HB1 := Lib.hid (below_on hinv.out.1 hbA (Nat.le_refl _))
      have HY1 := Lib.hid (below_on hinv.out.2.1 hbA (Nat.le_refl _))
      have HA1 := Lib.hid (HA2.out.on hbA)
      have HR1 := Lib.hid hA5
      have HO1 := Lib.hid (HO.out.on hbA)
      clear hR0 hU hC hbA hA5
      simp only [rrC] at HB1 HY1 HA1 HR1 HO1 HS5 HC5
      obtain ⟨na, nl, nc, ⟨ba, bl, bc, ha, hl, hc, ma, ml, mc, xa, xl, xc, ta, tl, tc⟩⟩ := h
      simp [rrC] at e0 e1 e2 e3 e4 e5 e6 e7 e8
      go_wp2_with fail
      clear e0 e1 e2 e3 e4 e5 e6 e7 e8 c0 c1
      refine HS5.out.mono ?_
      rintro e w2 ⟨rfl, hb2⟩
      have HB2 := Lib.hid (below_on HB1.out hb2 (Nat.le_refl _))
      have HY2 := Lib.hid (below_on HY1.out hb2 (Nat.le_refl _))
      have HA2 := Lib.hid (HA1.out.on hb2)
      have HR2 := Lib.hid (HR1.out.on hb2)
      have HO2 := Lib.hid (HO1.out.on hb2)
      have a0 := HR2.out.cell 0
      have a1 := HR2.out.cell 1
      have a2 := HR2.out.cell 2
      have c0 := HA2.out.cell 0
      have c1 := HA2.out.cell 1
      simp at a0 a1 a2 c0 c1
      clear hb2 HA1 HR1 HO1
      cases R0
      · have HE0 := Lib.hid (show B = false by rw [HEQ.out]; rfl)
        go_wp2_with fail
        go_ret
        exact ⟨ret_bool HE0.out.symm, HB2.out⟩
      by_cases hc1 : r.cls = 1
      case neg =>
        have q1 : (r.cls != 1) = true := by rw [bne_iff_ne]; exact hc1
        have HE0 := Lib.hid (show B = false by rw [HEQ.out, decide_eq_false hc1]; simp)
        clear hc1
        go_wp2_with fail
        go_ret
        exact ⟨ret_bool HE0.out.symm, HB2.out⟩
      have q1 : (r.cls != 1) = false := by rw [bne_eq_false_iff_eq]; exact hc1
      have HC1 := Lib.hid hc1
      clear hc1
      go_wp2_with fail
      clear a0 a1 a2 c0 c1
      refine (HU5.out _ HO2.out.name (HZ.out.on HY2.out).name).mono ?_
      rintro e w3 ⟨rfl, hb3⟩
      have HB3 := Lib.hid (below_on HB2.out hb3 (Nat.le_refl _))
      have HY3 := Lib.hid (below_on HY2.out hb3 (Nat.le_refl _))
      have HA3 := Lib.hid (HA2.out.on hb3)
      have HR3 := Lib.hid (HR2.out.on hb3)
      have HO3 := Lib.hid (HO2.out.on hb3)
      have a0 := HR3.out.cell 0
      have a1 := HR3.out.cell 1
      have a2 := HR3.out.cell 2
      have c0 := HA3.out.cell 0
      have c1 := HA3.out.cell 1
      simp at a0 a1 a2 c0 c1
      clear hb3 HA2 HR2 HO2
      cases U
      · have HE0 := Lib.hid (show B = false by rw [HEQ.out]; simp)
        go_wp2_with fail
        go_ret
        exact ⟨ret_bool HE0.out.symm, HB3.out⟩
      by_cases h41 : r.kind = 41
      · have q2 : (r.kind == 41) = true := by rw [h41]; rfl
        have HE0 := Lib.hid (show B = false by rw [HEQ.out]; simp [h41])
        clear h41
        go_wp2_with fail
        go_ret
        exact ⟨ret_bool HE0.out.symm, HB3.out⟩
      have q2 : (r.kind == 41) = false := by rw [beq_eq_false_iff_ne]; exact h41
      by_cases h255 : r.kind = 255
      · have q3 : (r.kind == 255) = true := by rw [h255]; rfl
        have HE0 := Lib.hid (show B = false by rw [HEQ.out]; simp [h255])
        clear h255 h41
        go_wp2_with fail
        go_ret
        exact ⟨ret_bool HE0.out.symm, HB3.out⟩
      have q3 : (r.kind == 255) = false := by rw [beq_eq_false_iff_ne]; exact h255
      have HK := Lib.hid (And.intro h41 h255)
      clear h41 h255
      go_wp2_with fail
      clear a0 a1 a2 c0 c1
      refine (HC5.out _ _ _ ((HZ.out.on HY3.out).recs.take hk) HO3.out HR3.out).mono ?_
      rintro e w4 ⟨rfl, hb4⟩
      have HB4 := Lib.hid (below_on HB3.out hb4 (Nat.le_refl _))
      have HY4 := Lib.hid (below_on HY3.out hb4 (Nat.le_refl _))
      have HA4 := Lib.hid (HA3.out.on hb4)
      have HR4 := Lib.hid (HR3.out.on hb4)
      have HO4 := Lib.hid (HO3.out.on hb4)
      have a0 := HR4.out.cell 0
      have a1 := HR4.out.cell 1
      have a2 := HR4.out.cell 2
      have c0 := HA4.out.cell 0
      have c1 := HA4.out.cell 1
      simp at a0 a1 a2 c0 c1
      clear hb4 HA3 HR3 HO3
      cases C
      case true =>
        have HE0 := Lib.hid (show B = false by rw [HEQ.out]; simp)
        go_wp2_with fail
        go_ret
        exact ⟨ret_bool HE0.out.symm, HB4.out⟩
      have HNL := Lib.hid (show r.name.length = nl from HO4.out.name.len)
      have HZL := Lib.hid (show z.name.length = zl from HZ.out.name.len)
      have HE2 := Lib.hid (show B = (soaP z.name r && goZ z.name (z.recs.take (k + 1)) (z.recs.drop (k + 1)) (if r.kind = 6 then m + 1 else m)) by
        rw [HEQ.out, decide_eq_true HC1.out, decide_eq_true HK.out.1, decide_eq_true HK.out.2]; simp)
      by_cases h6 : r.kind = 6
      case neg =>
        have q4 : (r.kind == 6) = false := by rw [beq_eq_false_iff_ne]; exact h6
        have HE3 := Lib.hid (show B = goZ z.name (z.recs.take (k + 1)) (z.recs.drop (k + 1)) m by
          rw [HE2.out, if_neg h6, soaP, decide_eq_true (show r.kind ≠ 6 from h6)]; simp)
        clear h6
        go_wp2_with fail
        go_roundw
        case rel => exact ⟨k + 1, m, by omega, by omega, by go_num, rfl, HB4.out, HY4.out, HE3.out⟩
        case measure => simp [intOf]; omega
      have q4 : (r.kind == 6) = true := by rw [h6]; rfl
      by_cases hll : nl = zl
      case neg =>
        have q5 : ((nl : Int) != (zl : Int)) = true := by rw [bne_iff_ne]; omega
        have HE0 := Lib.hid (show B = false by
          rw [HE2.out, soaP, HNL.out, HZL.out, decide_eq_false hll, h6]; simp)
        clear h6 hll
        go_wp2_with fail
        go_ret
        exact ⟨ret_bool HE0.out.symm, HB4.out⟩
      have q5 : ((nl : Int) != (zl : Int)) = false := by rw [bne_eq_false_iff_eq]; omega
      have HE3 := Lib.hid (show B = goZ z.name (z.recs.take (k + 1)) (z.recs.drop (k + 1)) (m + 1) by
        rw [HE2.out, if_pos h6, soaP, HNL.out, HZL.out, decide_eq_true hll]; simp)
      clear h6 hll
      go_wp2_with fail
      go_roundw
      case rel => exact ⟨k + 1, m + 1, by omega, by omega, by go_num, by go_num, HB4.out, HY4.out, HE3.out⟩
      case measure => simp [intOf]; omega
    · have HF := Lib.hid (show B = decide (m = 1) by rw [hinv.out.2.2, show k = z.recs.length by have := HL.out; omega, goZ_end])
      go_wp2_with fail
      go_ret
      refine ⟨ret_bool ?_, hinv.out.1⟩
      rw [HF.out]
      by_cases hm1 : m = 1
      · rw [decide_eq_true hm1, hm1]; rfl
      · rw [decide_eq_false hm1, beq_eq_false_iff_ne]; omega
end
section
open Go.ChangeShapes Go.WideShapes Go.ChangeAt Go.RowKit

set_option maxHeartbeats 32000000 in
set_option maxRecDepth 100000 in
theorem r17sound_any (w : World) (h : ZH) (z : ZP) (hz : IsZone w h z) :
    Calls Tryz.prog 69 #[.agg (zoneC h)] w fun e w' => e = .returned (.bool (zoneB z)) ∧ Below w.heap.size w w' := by
  have hwa : Below w.heap.size w (w.alloc (.cells (zoneC h) 56)) := (Below.refl _ _).alloc (Nat.le_refl _) _
  have hA : Blk (w.alloc (.cells (zoneC h) 56)) w.heap.size (zoneC h) 56 := heap_alloc_new w _
  have HWA := Lib.hid hwa
  have HZ := Lib.hid (hz.on hwa)
  have HA := Lib.hid hA
  have hlen := hz.recs.hlen
  have hle := hz.recs.hle
  have hmx := hz.recs.hmax
  have HL := Lib.hid hlen
  obtain ⟨S, hS⟩ : ∃ S, S = soundB z.name := ⟨_, rfl⟩
  obtain ⟨B, hB⟩ : ∃ S, S = zoneB z := ⟨_, rfl⟩
  have HBE := Lib.hid (show B = (S && (decide (1 ≤ z.recs.length ∧ z.recs.length ≤ 256) && goZ z.name [] z.recs 0)) by rw [hB, hS]; rfl)
  have HS := Lib.hid (rsound_any _ _ _ _ _ (hz.on hwa).name)
  rw [← hS] at HS
  rw [← hB]
  clear hwa hA hz hS hB hlen
  obtain ⟨za, zl, zc, ra, n, rc⟩ := h
  simp only [zoneC] at HWA HA HS HZ
  simp only at hle hmx HL
  have c0 := HA.out.cell 0
  have c1 := HA.out.cell 1
  simp at c0 c1
  go_enter Tryz.func69, Tryz.ntmps69
  simp only [zoneC]
  go_wp2_with fail
  refine HS.out.mono ?_
  rintro e w1 ⟨rfl, rfl⟩
  cases S
  · go_wp2_with fail
    go_ret
    exact ⟨ret_bool (by rw [HBE.out]; rfl), HWA.out⟩
  by_cases h1 : n < 1
  · have d1 : decide ((n : Int) < 1) = true := decide_eq_true (by omega)
    go_wp2_with fail
    go_ret
    exact ⟨ret_bool (by rw [HBE.out]; have := HL.out; simp; omega), HWA.out⟩
  have d1 : decide ((n : Int) < 1) = false := decide_eq_false (by omega)
  by_cases h2 : 256 < n
  · have d2 : decide ((256 : Int) < (n : Int)) = true := decide_eq_true (by omega)
    go_wp2_with fail
    go_ret
    exact ⟨ret_bool (by rw [HBE.out]; have := HL.out; simp; omega), HWA.out⟩
  have d2 : decide ((256 : Int) < (n : Int)) = false := decide_eq_false (by omega)
  have HB2 := Lib.hid (show B = goZ z.name (z.recs.take 0) (z.recs.drop 0) 0 by rw [HBE.out, decide_eq_true (show 1 ≤ z.recs.length ∧ z.recs.length ≤ 256 by have := HL.out; omega)]; rfl)
  go_wp2_with fail
  clear HBE HS
  go_loopw [4, 3, 5, 6, 7] (fun i s _ _ _ wr => ∃ k m : Nat, k ≤ n ∧ m ≤ k ∧ i = .int .i64 k ∧ s = .int .i64 m ∧ Hid (Below w.heap.size w wr ∧ Below (w.alloc (.cells #[.slice za zl zc, .slice ra n rc] 56)).heap.size (w.alloc (.cells #[.slice za zl zc, .slice ra n rc] 56)) wr ∧ B = goZ z.name (z.recs.take k) (z.recs.drop k) m)) (fun i _ _ _ _ _ => n - (intOf i).toNat)
  case atStart => exact ⟨0, 0, Nat.zero_le _, Nat.le_refl _, rfl, rfl, HWA.out, Below.refl _ _, HB2.out⟩
  case round =>
    obtain ⟨k, m, hk, hm, rfl, rfl, hinv⟩ := hrel
    clear c0 c1 HB2
    have HA2 := Lib.hid (HA.out.on hinv.out.2.1)
    have c0 := HA2.out.cell 0
    have c1 := HA2.out.cell 1
    simp at c0 c1
    by_cases hlt : k < n
    · obtain ⟨b, off, rfl⟩ : ∃ b off, ra = some ⟨b, off, none⟩ := HZ.out.recs.addr hlt
      obtain ⟨h, hc, ho⟩ := (HZ.out.on hinv.out.2.1).recs.at hlt
      obtain ⟨r, hrx⟩ : ∃ o, o = z.recs[k]'(by have := HL.out; omega) := ⟨_, rfl⟩
      rw [← hrx] at hc ho
      have HRX := Lib.hid hrx
      have HO := Lib.hid ho
      have e0 := hc 0 (by omega)
      have e1 := hc 1 (by omega)
      have e2 := hc 2 (by omega)
      have e3 := hc 3 (by omega)
      have e4 := hc 4 (by omega)
      have e5 := hc 5 (by omega)
      have e6 := hc 6 (by omega)
      have e7 := hc 7 (by omega)
      have e8 := hc 8 (by omega)
      clear hc ho hrx
      obtain ⟨R0, hR0⟩ : ∃ q, q = rrB r := ⟨_, rfl⟩
      obtain ⟨U, hU⟩ : ∃ q, q = underB r.name z.name := ⟨_, rfl⟩
      obtain ⟨Q, hQ⟩ : ∃ q, q = eqB r.name z.name := ⟨_, rfl⟩
      obtain ⟨C, hC⟩ : ∃ q, q = (z.recs.take k).any (fun o => clashP o r) := ⟨_, rfl⟩
      have HCE := Lib.hid hC
      have HUE := Lib.hid hU
      have HQE := Lib.hid hQ
      have HEQ := Lib.hid (show B = ((R0 && (decide (r.cls = 1) && (U && (decide (r.kind ≠ 41) && decide (r.kind ≠ 255))))) && (!C && (soaP z.name r && goZ z.name (z.recs.take (k + 1)) (z.recs.drop (k + 1)) (if r.kind = 6 then m + 1 else m)))) by
        rw [hinv.out.2.2, goZ_at (by have := HL.out; omega), hR0, hU, hC, HRX.out]; rfl)
      have hbA : Below wr.heap.size wr (wr.alloc (.cells (rrC h r) 48)) := (Below.refl _ _).alloc (Nat.le_refl _) _
      have hA5 : Blk (wr.alloc (.cells (rrC h r) 48)) wr.heap.size (rrC h r) 48 := heap_alloc_new wr _
      have HS5 := Lib.hid (r3sound_any _ h r (HO.out.on hbA))
      rw [← hR0] at HS5
      have HU5 := Lib.hid (fun (w' : World) (p : Strs w' h.na h.nl h.nc r.name) (q : Strs w' za zl zc z.name) => runder_any w' _ _ _ _ _ _ _ _ p q)
      rw [← hU] at HU5
      have HQ5 := Lib.hid (fun (w' : World) (p : Strs w' h.na h.nl h.nc r.name) (q : Strs w' za zl zc z.name) => requal_any w' _ _ _ _ _ _ _ _ p q)
      rw [← hQ] at HQ5
      have HB1 := Lib.hid (below_on hinv.out.1 hbA (Nat.le_refl _))
      have HY1 := Lib.hid (below_on hinv.out.2.1 hbA (Nat.le_refl _))
      have HA1 := Lib.hid (HA2.out.on hbA)
      have HR1 := Lib.hid hA5
      have HO1 := Lib.hid (HO.out.on hbA)
      clear hR0 hU hC hQ hbA hA5
      simp only [rrC] at HB1 HY1 HA1 HR1 HO1 HS5
      obtain ⟨na, nl, nc, ⟨ba, bl, bc, ha, hl, hc, ma, ml, mc, xa, xl, xc, ta, tl, tc⟩⟩ := h
      simp [rrC] at e0 e1 e2 e3 e4 e5 e6 e7 e8
      go_wp2_with fail
      clear e0 e1 e2 e3 e4 e5 e6 e7 e8 c0 c1
      refine HS5.out.mono ?_
      rintro e w2 ⟨rfl, hb2⟩
      have HB2 := Lib.hid (below_on HB1.out hb2 (Nat.le_refl _))
      have HY2 := Lib.hid (below_on HY1.out hb2 (Nat.le_refl _))
      have HA2 := Lib.hid (HA1.out.on hb2)
      have HR2 := Lib.hid (HR1.out.on hb2)
      have HO2 := Lib.hid (HO1.out.on hb2)
      have a0 := HR2.out.cell 0
      have a1 := HR2.out.cell 1
      have a2 := HR2.out.cell 2
      have c0 := HA2.out.cell 0
      have c1 := HA2.out.cell 1
      simp at a0 a1 a2 c0 c1
      clear hb2 HA1 HR1 HO1
      cases R0
      · have HE0 := Lib.hid (show B = false by rw [HEQ.out]; rfl)
        go_wp2_with fail
        go_ret
        exact ⟨ret_bool HE0.out.symm, HB2.out⟩
      by_cases hc1 : r.cls = 1
      case neg =>
        have q1 : (r.cls != 1) = true := by rw [bne_iff_ne]; exact hc1
        have HE0 := Lib.hid (show B = false by rw [HEQ.out, decide_eq_false hc1]; simp)
        clear hc1
        go_wp2_with fail
        go_ret
        exact ⟨ret_bool HE0.out.symm, HB2.out⟩
      have q1 : (r.cls != 1) = false := by rw [bne_eq_false_iff_eq]; exact hc1
      have HC1 := Lib.hid hc1
      clear hc1
      by_cases h41 : r.kind = 41
      · have q2 : (r.kind == 41) = true := by rw [h41]; rfl
        have HE0 := Lib.hid (show B = false by rw [HEQ.out]; simp [h41])
        clear h41
        go_wp2_with fail
        go_ret
        exact ⟨ret_bool HE0.out.symm, HB2.out⟩
      have q2 : (r.kind == 41) = false := by rw [beq_eq_false_iff_ne]; exact h41
      by_cases h255 : r.kind = 255
      · have q3 : (r.kind == 255) = true := by rw [h255]; rfl
        have HE0 := Lib.hid (show B = false by rw [HEQ.out]; simp [h255])
        clear h255 h41
        go_wp2_with fail
        go_ret
        exact ⟨ret_bool HE0.out.symm, HB2.out⟩
      have q3 : (r.kind == 255) = false := by rw [beq_eq_false_iff_ne]; exact h255
      have HK := Lib.hid (And.intro h41 h255)
      clear h41 h255
      go_wp2_with fail
      clear a0 a1 a2 c0 c1
      refine (HU5.out _ HO2.out.name (HZ.out.on HY2.out).name).mono ?_
      rintro e w3 ⟨rfl, hb3⟩
      have HB3 := Lib.hid (below_on HB2.out hb3 (Nat.le_refl _))
      have HY3 := Lib.hid (below_on HY2.out hb3 (Nat.le_refl _))
      have HA3 := Lib.hid (HA2.out.on hb3)
      have HR3 := Lib.hid (HR2.out.on hb3)
      have HO3 := Lib.hid (HO2.out.on hb3)
      have a0 := HR3.out.cell 0
      have a1 := HR3.out.cell 1
      have a2 := HR3.out.cell 2
      have c0 := HA3.out.cell 0
      have c1 := HA3.out.cell 1
      simp at a0 a1 a2 c0 c1
      clear hb3 HA2 HR2 HO2
      cases U
      · have HE0 := Lib.hid (show B = false by rw [HEQ.out]; simp)
        go_wp2_with fail
        go_ret
        exact ⟨ret_bool HE0.out.symm, HB3.out⟩
      have HSO := Lib.hid (show soaP z.name r = (decide (r.kind ≠ 6) || Q) by
        rw [HQE.out, soaP, under_eq HUE.out.symm])
      have HE2 := Lib.hid (show B = (!C && ((decide (r.kind ≠ 6) || Q) && goZ z.name (z.recs.take (k + 1)) (z.recs.drop (k + 1)) (if r.kind = 6 then m + 1 else m))) by
        rw [HEQ.out, HSO.out, decide_eq_true HC1.out, decide_eq_true HK.out.1, decide_eq_true HK.out.2]; simp)
      by_cases h6 : r.kind = 6
      case neg =>
        have q4 : (r.kind == 6) = false := by rw [beq_eq_false_iff_ne]; exact h6
        have HE3 := Lib.hid (show B = (!C && goZ z.name (z.recs.take (k + 1)) (z.recs.drop (k + 1)) m) by
          rw [HE2.out, if_neg h6, decide_eq_true (show r.kind ≠ 6 from h6)]; simp)
        clear h6
        go_wp2_with fail
        clear a0 a1 a2 c0 c1
        go_loopw [6, 7] (fun i _ wq => ∃ q : Nat, q ≤ k ∧ i = .int .i64 q ∧ Hid (Below w3.heap.size w3 wq ∧ ∀ j (hj : j < (z.recs.take k).length), j < q → clashP (z.recs.take k)[j] r = false)) (fun i _ _ => k - (intOf i).toNat)
        case atStart => exact ⟨0, Nat.zero_le _, rfl, Below.refl _ _, fun j hj h => absurd h (by omega)⟩
        case round =>
          rename World => wq
          obtain ⟨q, hq, rfl, hinq⟩ := hrel
          have HAq := Lib.hid (HA3.out.on hinq.out.1)
          have HRq := Lib.hid (HR3.out.on hinq.out.1)
          have HBq := Lib.hid (below_on HB3.out hinq.out.1 (Nat.le_refl _))
          have HYq := Lib.hid (below_on HY3.out hinq.out.1 (Nat.le_refl _))
          have HOq := Lib.hid (HO3.out.on hinq.out.1)
          have hkz : k ≤ z.recs.length := by have := HL.out; omega
          by_cases hlq : q < k
          · have hqt : q < (z.recs.take k).length := by simp; omega
            obtain ⟨h2, hc2, ho2⟩ := ((HZ.out.on HYq.out).recs.take hk).at hlq
            obtain ⟨o, hox⟩ : ∃ o, o = (z.recs.take k)[q]'hqt := ⟨_, rfl⟩
            rw [← hox] at hc2 ho2
            have HOX := Lib.hid hox
            have e0 := hc2 0 (by omega)
            have e1 := hc2 1 (by omega)
            have e2 := hc2 2 (by omega)
            have e3 := hc2 3 (by omega)
            have e4 := hc2 4 (by omega)
            have e5 := hc2 5 (by omega)
            have e6 := hc2 6 (by omega)
            have e7 := hc2 7 (by omega)
            have e8 := hc2 8 (by omega)
            obtain ⟨S0, hS0⟩ : ∃ S, S = eqB o.name r.name := ⟨_, rfl⟩
            obtain ⟨S1, hS1⟩ : ∃ S, S = sameD o.data r.data := ⟨_, rfl⟩
            obtain ⟨X, hX⟩ : ∃ S, S = clashP o r := ⟨_, rfl⟩
            have HX := Lib.hid (show X = (S0 && (if o.kind = r.kind then (decide (o.kind = 5) || (decide (o.ttl ≠ r.ttl) || S1)) else (decide (o.kind = 5) || decide (r.kind = 5)))) by simp only [hX, clashP, hS0, hS1])
            have HYES := Lib.hid (show X = true → B = false from fun hx => by rw [HE3.out, HCE.out, rrany_some hqt (by rw [← HOX.out, ← hX]; exact hx)]; rfl)
            have HNO := Lib.hid (show X = false → clashP (z.recs.take k)[q] r = false from fun hx => by rw [← HOX.out, ← hX]; exact hx)
            have hbA : Below wq.heap.size wq (wq.alloc (.cells (rrC h2 o) 48)) := (Below.refl _ _).alloc (Nat.le_refl _) _
            have HT5 := Lib.hid (show Blk (wq.alloc (.cells (rrC h2 o) 48)) wq.heap.size (rrC h2 o) 48 from heap_alloc_new wq _)
            have HAA := Lib.hid (HAq.out.on hbA)
            have HRA := Lib.hid (HRq.out.on hbA)
            have HBA := Lib.hid (below_on HBq.out hbA (Nat.le_refl _))
            have HIA := Lib.hid (below_on hinq.out.1 hbA (Nat.le_refl _))
            have HPO := Lib.hid (ho2.on hbA)
            have HOA := Lib.hid (HOq.out.on hbA)
            have HC0 := Lib.hid (requal_any _ _ _ _ _ _ _ _ _ HPO.out.name HOA.out.name)
            have HC9 := Lib.hid (fun (w' : World) (p : IsData w' h2.d o.data) (q : IsData w' ⟨ba, bl, bc, ha, hl, hc, ma, ml, mc, xa, xl, xc, ta, tl, tc⟩ r.data) => rdsame_any w' h2.d _ _ _ p q)
            rw [← hS0] at HC0
            rw [← hS1] at HC9
            clear hS0 hS1 hX hox hbA hc2 ho2
            simp only [rrC] at HT5 HAA HRA HBA HIA HPO HOA HC0
            have c0 := HAq.out.cell 0
            have c1 := HAq.out.cell 1
            have a0 := HRA.out.cell 0
            have p0 := HT5.out.cell 0
            obtain ⟨na', nl', nc', ⟨ba', bl', bc', ha', hl', hc', ma', ml', mc', xa', xl', xc', ta', tl', tc'⟩⟩ := h2
            simp only [dataC] at HC9
            simp [rrC] at c0 c1 a0 p0 e0 e1 e2 e3 e4 e5 e6 e7 e8
            go_wp2_with fail
            clear c0 c1 a0 p0 e0 e1 e2 e3 e4 e5 e6 e7 e8
            refine HC0.out.mono ?_
            rintro e w8 ⟨rfl, hb8⟩
            have HB8 := Lib.hid (below_on HBA.out hb8 (Nat.le_refl _))
            have HI8 := Lib.hid (below_on HIA.out hb8 (Nat.le_refl _))
            have HR8 := Lib.hid (HRA.out.on hb8)
            have HT8 := Lib.hid (HT5.out.on hb8)
            have HP8 := Lib.hid (HPO.out.on hb8)
            have HO8 := Lib.hid (HOA.out.on hb8)
            clear hb8
            cases S0
            · have HN := Lib.hid (HNO.out (by rw [HX.out]; rfl))
              go_wp2_with fail
              go_roundw
              case rel =>
                refine ⟨q + 1, by omega, by go_num, HI8.out, fun j hj h => ?_⟩
                rcases Nat.lt_succ_iff_lt_or_eq.1 h with h | rfl
                · exact hinq.out.2 j hj h
                · exact HN.out
              case measure => simp [intOf]; omega
            have a1 := HR8.out.cell 1
            have a3 := HR8.out.cell 3
            have p1 := HT8.out.cell 1
            have p3 := HT8.out.cell 3
            have a4 := HR8.out.cell 4
            have p4 := HT8.out.cell 4
            have a5 := HR8.out.cell 5
            have p5 := HT8.out.cell 5
            have a6 := HR8.out.cell 6
            have p6 := HT8.out.cell 6
            have a7 := HR8.out.cell 7
            have p7 := HT8.out.cell 7
            have a8 := HR8.out.cell 8
            have p8 := HT8.out.cell 8
            simp at a1 a3 p1 p3 a4 p4 a5 p5 a6 p6 a7 p7 a8 p8
            by_cases h5 : o.kind = 5
            · have q5 : (o.kind == 5) = true := by rw [h5]; rfl
              have HE0 := Lib.hid (HYES.out (by rw [HX.out, h5]; simp))
              clear h5
              go_wp2_with fail
              go_ret
              exact ⟨ret_bool HE0.out.symm, HB8.out⟩
            have q5 : (o.kind == 5) = false := by rw [beq_eq_false_iff_ne]; exact h5
            by_cases h7 : r.kind = 5
            · have q6 : (r.kind == 5) = true := by rw [h7]; rfl
              have HE0 := Lib.hid (HYES.out (by rw [HX.out, h7, if_neg (by omega)]; simp))
              clear h5 h7
              go_wp2_with fail
              go_ret
              exact ⟨ret_bool HE0.out.symm, HB8.out⟩
            have q6 : (r.kind == 5) = false := by rw [beq_eq_false_iff_ne]; exact h7
            by_cases hkk : o.kind = r.kind
            case neg =>
              have q7 : (o.kind == r.kind) = false := by rw [beq_eq_false_iff_ne]; exact hkk
              have HN := Lib.hid (HNO.out (by rw [HX.out, if_neg hkk]; simp [h5, h7]))
              clear h5 h7 hkk
              go_wp2_with fail
              go_roundw
              case rel =>
                refine ⟨q + 1, by omega, by go_num, HI8.out, fun j hj h => ?_⟩
                rcases Nat.lt_succ_iff_lt_or_eq.1 h with h | rfl
                · exact hinq.out.2 j hj h
                · exact HN.out
              case measure => simp [intOf]; omega
            have q7 : (o.kind == r.kind) = true := by rw [hkk]; simp
            by_cases htt : o.ttl = r.ttl
            case neg =>
              have q8 : (o.ttl != r.ttl) = true := by rw [bne_iff_ne]; exact htt
              have HE0 := Lib.hid (HYES.out (by rw [HX.out, if_pos hkk]; simp [htt]))
              clear h5 h7 hkk htt
              go_wp2_with fail
              go_ret
              exact ⟨ret_bool HE0.out.symm, HB8.out⟩
            have q8 : (o.ttl != r.ttl) = false := by rw [bne_eq_false_iff_eq]; exact htt
            have HX9 := Lib.hid (show X = S1 by rw [HX.out, if_pos hkk, decide_eq_false h5, decide_eq_false (show ¬ o.ttl ≠ r.ttl from fun h => h htt)]; simp)
            clear h5 h7 hkk htt
            go_wp2_with fail
            refine (HC9.out _ HP8.out.data HO8.out.data).mono ?_
            rintro e w9 ⟨rfl, hb9⟩
            have HB9 := Lib.hid (below_on HB8.out hb9 (Nat.le_refl _))
            have HI9 := Lib.hid (below_on HI8.out hb9 (Nat.le_refl _))
            clear hb9
            cases S1
            · have HN := Lib.hid (HNO.out HX9.out)
              go_wp2_with fail
              go_roundw
              case rel =>
                refine ⟨q + 1, by omega, by go_num, HI9.out, fun j hj h => ?_⟩
                rcases Nat.lt_succ_iff_lt_or_eq.1 h with h | rfl
                · exact hinq.out.2 j hj h
                · exact HN.out
              case measure => simp [intOf]; omega
            · have HE0 := Lib.hid (HYES.out HX9.out)
              go_wp2_with fail
              go_ret
              exact ⟨ret_bool HE0.out.symm, HB9.out⟩
          · have HCN := Lib.hid (show C = false by rw [HCE.out]; exact rrany_none fun j hj => hinq.out.2 j hj (by simp at hj; omega))
            have HE4 := Lib.hid (show B = goZ z.name (z.recs.take (k + 1)) (z.recs.drop (k + 1)) m by rw [HE3.out, HCN.out]; simp)
            go_wp2_with fail
            go_roundw
            case rel => exact ⟨k + 1, m, by omega, by omega, by go_num, rfl, HBq.out, HYq.out, HE4.out⟩
            case measure => simp [intOf]; omega
      have q4 : (r.kind == 6) = true := by rw [h6]; rfl
      have HE3 := Lib.hid (show B = (!C && (Q && goZ z.name (z.recs.take (k + 1)) (z.recs.drop (k + 1)) (m + 1))) by
        rw [HE2.out, if_pos h6, decide_eq_false (show ¬ r.kind ≠ 6 from fun h => h h6)]; simp)
      clear h6
      go_wp2_with fail
      clear a0 a1 a2 c0 c1
      refine (HQ5.out _ HO3.out.name (HZ.out.on HY3.out).name).mono ?_
      rintro e w4 ⟨rfl, hb4⟩
      have HB4 := Lib.hid (below_on HB3.out hb4 (Nat.le_refl _))
      have HY4 := Lib.hid (below_on HY3.out hb4 (Nat.le_refl _))
      have HA4 := Lib.hid (HA3.out.on hb4)
      have HR4 := Lib.hid (HR3.out.on hb4)
      have HO4 := Lib.hid (HO3.out.on hb4)
      have a0 := HR4.out.cell 0
      have a1 := HR4.out.cell 1
      have a2 := HR4.out.cell 2
      have c0 := HA4.out.cell 0
      have c1 := HA4.out.cell 1
      simp at a0 a1 a2 c0 c1
      clear hb4 HA3 HR3 HO3
      cases Q
      · have HE0 := Lib.hid (show B = false by rw [HE3.out]; simp)
        go_wp2_with fail
        go_ret
        exact ⟨ret_bool HE0.out.symm, HB4.out⟩
      replace HE3 := Lib.hid (show B = (!C && goZ z.name (z.recs.take (k + 1)) (z.recs.drop (k + 1)) (m + 1)) by rw [HE3.out]; simp)
      go_wp2_with fail
      clear a0 a1 a2 c0 c1
      go_loopw [6, 7] (fun i _ wq => ∃ q : Nat, q ≤ k ∧ i = .int .i64 q ∧ Hid (Below w4.heap.size w4 wq ∧ ∀ j (hj : j < (z.recs.take k).length), j < q → clashP (z.recs.take k)[j] r = false)) (fun i _ _ => k - (intOf i).toNat)
      case atStart => exact ⟨0, Nat.zero_le _, rfl, Below.refl _ _, fun j hj h => absurd h (by omega)⟩
      case round =>
        rename World => wq
        obtain ⟨q, hq, rfl, hinq⟩ := hrel
        have HAq := Lib.hid (HA4.out.on hinq.out.1)
        have HRq := Lib.hid (HR4.out.on hinq.out.1)
        have HBq := Lib.hid (below_on HB4.out hinq.out.1 (Nat.le_refl _))
        have HYq := Lib.hid (below_on HY4.out hinq.out.1 (Nat.le_refl _))
        have HOq := Lib.hid (HO4.out.on hinq.out.1)
        have hkz : k ≤ z.recs.length := by have := HL.out; omega
        by_cases hlq : q < k
        · have hqt : q < (z.recs.take k).length := by simp; omega
          obtain ⟨h2, hc2, ho2⟩ := ((HZ.out.on HYq.out).recs.take hk).at hlq
          obtain ⟨o, hox⟩ : ∃ o, o = (z.recs.take k)[q]'hqt := ⟨_, rfl⟩
          rw [← hox] at hc2 ho2
          have HOX := Lib.hid hox
          have e0 := hc2 0 (by omega)
          have e1 := hc2 1 (by omega)
          have e2 := hc2 2 (by omega)
          have e3 := hc2 3 (by omega)
          have e4 := hc2 4 (by omega)
          have e5 := hc2 5 (by omega)
          have e6 := hc2 6 (by omega)
          have e7 := hc2 7 (by omega)
          have e8 := hc2 8 (by omega)
          obtain ⟨S0, hS0⟩ : ∃ S, S = eqB o.name r.name := ⟨_, rfl⟩
          obtain ⟨S1, hS1⟩ : ∃ S, S = sameD o.data r.data := ⟨_, rfl⟩
          obtain ⟨X, hX⟩ : ∃ S, S = clashP o r := ⟨_, rfl⟩
          have HX := Lib.hid (show X = (S0 && (if o.kind = r.kind then (decide (o.kind = 5) || (decide (o.ttl ≠ r.ttl) || S1)) else (decide (o.kind = 5) || decide (r.kind = 5)))) by simp only [hX, clashP, hS0, hS1])
          have HYES := Lib.hid (show X = true → B = false from fun hx => by rw [HE3.out, HCE.out, rrany_some hqt (by rw [← HOX.out, ← hX]; exact hx)]; rfl)
          have HNO := Lib.hid (show X = false → clashP (z.recs.take k)[q] r = false from fun hx => by rw [← HOX.out, ← hX]; exact hx)
          have hbA : Below wq.heap.size wq (wq.alloc (.cells (rrC h2 o) 48)) := (Below.refl _ _).alloc (Nat.le_refl _) _
          have HT5 := Lib.hid (show Blk (wq.alloc (.cells (rrC h2 o) 48)) wq.heap.size (rrC h2 o) 48 from heap_alloc_new wq _)
          have HAA := Lib.hid (HAq.out.on hbA)
          have HRA := Lib.hid (HRq.out.on hbA)
          have HBA := Lib.hid (below_on HBq.out hbA (Nat.le_refl _))
          have HIA := Lib.hid (below_on hinq.out.1 hbA (Nat.le_refl _))
          have HPO := Lib.hid (ho2.on hbA)
          have HOA := Lib.hid (HOq.out.on hbA)
          have HC0 := Lib.hid (requal_any _ _ _ _ _ _ _ _ _ HPO.out.name HOA.out.name)
          have HC9 := Lib.hid (fun (w' : World) (p : IsData w' h2.d o.data) (q : IsData w' ⟨ba, bl, bc, ha, hl, hc, ma, ml, mc, xa, xl, xc, ta, tl, tc⟩ r.data) => rdsame_any w' h2.d _ _ _ p q)
          rw [← hS0] at HC0
          rw [← hS1] at HC9
          clear hS0 hS1 hX hox hbA hc2 ho2
          simp only [rrC] at HT5 HAA HRA HBA HIA HPO HOA HC0
          have c0 := HAq.out.cell 0
          have c1 := HAq.out.cell 1
          have a0 := HRA.out.cell 0
          have p0 := HT5.out.cell 0
          obtain ⟨na', nl', nc', ⟨ba', bl', bc', ha', hl', hc', ma', ml', mc', xa', xl', xc', ta', tl', tc'⟩⟩ := h2
          simp only [dataC] at HC9
          simp [rrC] at c0 c1 a0 p0 e0 e1 e2 e3 e4 e5 e6 e7 e8
          go_wp2_with fail
          clear c0 c1 a0 p0 e0 e1 e2 e3 e4 e5 e6 e7 e8
          refine HC0.out.mono ?_
          rintro e w8 ⟨rfl, hb8⟩
          have HB8 := Lib.hid (below_on HBA.out hb8 (Nat.le_refl _))
          have HI8 := Lib.hid (below_on HIA.out hb8 (Nat.le_refl _))
          have HR8 := Lib.hid (HRA.out.on hb8)
          have HT8 := Lib.hid (HT5.out.on hb8)
          have HP8 := Lib.hid (HPO.out.on hb8)
          have HO8 := Lib.hid (HOA.out.on hb8)
          clear hb8
          cases S0
          · have HN := Lib.hid (HNO.out (by rw [HX.out]; rfl))
            go_wp2_with fail
            go_roundw
            case rel =>
              refine ⟨q + 1, by omega, by go_num, HI8.out, fun j hj h => ?_⟩
              rcases Nat.lt_succ_iff_lt_or_eq.1 h with h | rfl
              · exact hinq.out.2 j hj h
              · exact HN.out
            case measure => simp [intOf]; omega
          have a1 := HR8.out.cell 1
          have a3 := HR8.out.cell 3
          have p1 := HT8.out.cell 1
          have p3 := HT8.out.cell 3
          have a4 := HR8.out.cell 4
          have p4 := HT8.out.cell 4
          have a5 := HR8.out.cell 5
          have p5 := HT8.out.cell 5
          have a6 := HR8.out.cell 6
          have p6 := HT8.out.cell 6
          have a7 := HR8.out.cell 7
          have p7 := HT8.out.cell 7
          have a8 := HR8.out.cell 8
          have p8 := HT8.out.cell 8
          simp at a1 a3 p1 p3 a4 p4 a5 p5 a6 p6 a7 p7 a8 p8
          by_cases h5 : o.kind = 5
          · have q5 : (o.kind == 5) = true := by rw [h5]; rfl
            have HE0 := Lib.hid (HYES.out (by rw [HX.out, h5]; simp))
            clear h5
            go_wp2_with fail
            go_ret
            exact ⟨ret_bool HE0.out.symm, HB8.out⟩
          have q5 : (o.kind == 5) = false := by rw [beq_eq_false_iff_ne]; exact h5
          by_cases h7 : r.kind = 5
          · have q6 : (r.kind == 5) = true := by rw [h7]; rfl
            have HE0 := Lib.hid (HYES.out (by rw [HX.out, h7, if_neg (by omega)]; simp))
            clear h5 h7
            go_wp2_with fail
            go_ret
            exact ⟨ret_bool HE0.out.symm, HB8.out⟩
          have q6 : (r.kind == 5) = false := by rw [beq_eq_false_iff_ne]; exact h7
          by_cases hkk : o.kind = r.kind
          case neg =>
            have q7 : (o.kind == r.kind) = false := by rw [beq_eq_false_iff_ne]; exact hkk
            have HN := Lib.hid (HNO.out (by rw [HX.out, if_neg hkk]; simp [h5, h7]))
            clear h5 h7 hkk
            go_wp2_with fail
            go_roundw
            case rel =>
              refine ⟨q + 1, by omega, by go_num, HI8.out, fun j hj h => ?_⟩
              rcases Nat.lt_succ_iff_lt_or_eq.1 h with h | rfl
              · exact hinq.out.2 j hj h
              · exact HN.out
            case measure => simp [intOf]; omega
          have q7 : (o.kind == r.kind) = true := by rw [hkk]; simp
          by_cases htt : o.ttl = r.ttl
          case neg =>
            have q8 : (o.ttl != r.ttl) = true := by rw [bne_iff_ne]; exact htt
            have HE0 := Lib.hid (HYES.out (by rw [HX.out, if_pos hkk]; simp [htt]))
            clear h5 h7 hkk htt
            go_wp2_with fail
            go_ret
            exact ⟨ret_bool HE0.out.symm, HB8.out⟩
          have q8 : (o.ttl != r.ttl) = false := by rw [bne_eq_false_iff_eq]; exact htt
          have HX9 := Lib.hid (show X = S1 by rw [HX.out, if_pos hkk, decide_eq_false h5, decide_eq_false (show ¬ o.ttl ≠ r.ttl from fun h => h htt)]; simp)
          clear h5 h7 hkk htt
          go_wp2_with fail
          refine (HC9.out _ HP8.out.data HO8.out.data).mono ?_
          rintro e w9 ⟨rfl, hb9⟩
          have HB9 := Lib.hid (below_on HB8.out hb9 (Nat.le_refl _))
          have HI9 := Lib.hid (below_on HI8.out hb9 (Nat.le_refl _))
          clear hb9
          cases S1
          · have HN := Lib.hid (HNO.out HX9.out)
            go_wp2_with fail
            go_roundw
            case rel =>
              refine ⟨q + 1, by omega, by go_num, HI9.out, fun j hj h => ?_⟩
              rcases Nat.lt_succ_iff_lt_or_eq.1 h with h | rfl
              · exact hinq.out.2 j hj h
              · exact HN.out
            case measure => simp [intOf]; omega
          · have HE0 := Lib.hid (HYES.out HX9.out)
            go_wp2_with fail
            go_ret
            exact ⟨ret_bool HE0.out.symm, HB9.out⟩
        · have HCN := Lib.hid (show C = false by rw [HCE.out]; exact rrany_none fun j hj => hinq.out.2 j hj (by simp at hj; omega))
          have HE4 := Lib.hid (show B = goZ z.name (z.recs.take (k + 1)) (z.recs.drop (k + 1)) (m + 1) by rw [HE3.out, HCN.out]; simp)
          go_wp2_with fail
          go_roundw
          case rel => exact ⟨k + 1, (m + 1), by omega, by omega, by go_num, by go_num, HBq.out, HYq.out, HE4.out⟩
          case measure => simp [intOf]; omega
    · have HF := Lib.hid (show B = decide (m = 1) by rw [hinv.out.2.2, show k = z.recs.length by have := HL.out; omega, goZ_end])
      go_wp2_with fail
      go_ret
      refine ⟨ret_bool ?_, hinv.out.1⟩
      rw [HF.out]
      by_cases hm1 : m = 1
      · rw [decide_eq_true hm1, hm1]; rfl
      · rw [decide_eq_false hm1, beq_eq_false_iff_ne]; omega
end
section
open Go.ChangeShapes Go.WideShapes Go.ChangeAt Go.RowKit

theorem rrInfo : (Tryz.prog.info? 48).map (fun i => (i.zero.map fun z => z.cells.size, i.size)) = some (some 9, 9) := by kernel_rfl
theorem rrBytes : (Tryz.prog.info? 48).map (fun i => decide (i.bytes ≤ 400)) = some true := by kernel_rfl
theorem Row.grownN {w w' : World} {ao : Option Addr} {len cap : Nat} {vs : List Value} {row : Option Nat} (h : Row w ao len cap vs) (hg : w.grownBy w' row) (hne : 0 < len → ∀ a, ao = some a → some a.block ≠ row) : Row w' ao len cap vs := by
  refine ⟨h.hlen, h.hle, h.hcap, h.hmax, h.hnil, fun h0 => ?_⟩
  obtain ⟨b, off, e, hc⟩ := h.hcells h0
  exact ⟨b, off, e, fun i hi => hg.cell (a := ⟨b, off + i, none⟩) (hc i hi) (hne h0 ⟨b, off, none⟩ e)⟩
theorem Row.old {w : World} {ao : Option Addr} {len cap : Nat} {vs : List Value} (h : Row w ao len cap vs) (h0 : 0 < len) : ∀ a, ao = some a → a.block < w.heap.size := by
  intro a ha
  obtain ⟨b, off, e, hc⟩ := h.hcells h0
  rw [e] at ha
  cases ha
  have hl : 0 < vs.length := by have := h.hlen; omega
  have h1 := hc 0 hl
  have := World.block_lt_of_cell? w _ h1
  simpa using this
/-- the record's memory lies in other blocks -/
structure FreshR (B : Nat) (h : RRH) : Prop where
  na : ∀ a, h.na = some a → B ≤ a.block
  d : FreshD B h.d
/-- the record's memory lies in other blocks -/
structure OffR (row : Option Nat) (h : RRH) : Prop where
  o0 : 0 < h.nl → ∀ a, h.na = some a → some a.block ≠ row
  o1 : 0 < h.d.bl → ∀ a, h.d.ba = some a → some a.block ≠ row
  o2 : 0 < h.d.hl → ∀ a, h.d.ha = some a → some a.block ≠ row
  o3 : 0 < h.d.ml → ∀ a, h.d.ma = some a → some a.block ≠ row
  o4 : 0 < h.d.nl → ∀ a, h.d.na = some a → some a.block ≠ row
  o5 : 0 < h.d.tl → ∀ a, h.d.ta = some a → some a.block ≠ row
/-- the record's memory is older than a place -/
structure OldR (B : Nat) (h : RRH) : Prop where
  o0 : 0 < h.nl → ∀ a, h.na = some a → a.block < B
  o1 : 0 < h.d.bl → ∀ a, h.d.ba = some a → a.block < B
  o2 : 0 < h.d.hl → ∀ a, h.d.ha = some a → a.block < B
  o3 : 0 < h.d.ml → ∀ a, h.d.ma = some a → a.block < B
  o4 : 0 < h.d.nl → ∀ a, h.d.na = some a → a.block < B
  o5 : 0 < h.d.tl → ∀ a, h.d.ta = some a → a.block < B
theorem IsRR.old {w : World} {h : RRH} {r : RRP} (hr : IsRR w h r) : OldR w.heap.size h :=
  ⟨hr.name.row.old, hr.data.bytes.old, hr.data.host.row.old, hr.data.mail.row.old, hr.data.nums.old, hr.data.texts.row.old⟩
theorem OldR.off {B : Nat} {h : RRH} (hr : OldR B h) {g : Nat} (hg : B ≤ g) : OffR (some g) h :=
  ⟨fun h0 a ha e => by have := hr.o0 h0 a ha; have := Option.some.inj e; omega, fun h0 a ha e => by have := hr.o1 h0 a ha; have := Option.some.inj e; omega, fun h0 a ha e => by have := hr.o2 h0 a ha; have := Option.some.inj e; omega, fun h0 a ha e => by have := hr.o3 h0 a ha; have := Option.some.inj e; omega, fun h0 a ha e => by have := hr.o4 h0 a ha; have := Option.some.inj e; omega, fun h0 a ha e => by have := hr.o5 h0 a ha; have := Option.some.inj e; omega⟩
theorem FreshR.off {B : Nat} {h : RRH} (hf : FreshR B h) {row : Option Nat} (hr : ∀ k, row = some k → k < B) : OffR row h :=
  ⟨fun _ a ha e => by have := hf.na a ha; have := hr _ e.symm; omega, fun _ a ha e => by have := hf.d.bytes a ha; have := hr _ e.symm; omega, fun _ a ha e => by have := hf.d.host a ha; have := hr _ e.symm; omega, fun _ a ha e => by have := hf.d.mail a ha; have := hr _ e.symm; omega, fun _ a ha e => by have := hf.d.nums a ha; have := hr _ e.symm; omega, fun _ a ha e => by have := hf.d.texts a ha; have := hr _ e.symm; omega⟩
theorem OldR.mono {B C : Nat} {h : RRH} (hr : OldR B h) (hg : B ≤ C) : OldR C h :=
  ⟨fun h0 a ha => Nat.lt_of_lt_of_le (hr.o0 h0 a ha) hg, fun h0 a ha => Nat.lt_of_lt_of_le (hr.o1 h0 a ha) hg, fun h0 a ha => Nat.lt_of_lt_of_le (hr.o2 h0 a ha) hg, fun h0 a ha => Nat.lt_of_lt_of_le (hr.o3 h0 a ha) hg, fun h0 a ha => Nat.lt_of_lt_of_le (hr.o4 h0 a ha) hg, fun h0 a ha => Nat.lt_of_lt_of_le (hr.o5 h0 a ha) hg⟩
theorem IsRR.grownN {w w' : World} {h : RRH} {r : RRP} {row : Option Nat} (hr : IsRR w h r) (hg : w.grownBy w' row) (ho : OffR row h) : IsRR w' h r :=
  ⟨⟨hr.name.row.grownN hg ho.o0, hr.name.small⟩, ⟨hr.data.bytes.grownN hg ho.o1, ⟨hr.data.host.row.grownN hg ho.o2, hr.data.host.small⟩, ⟨hr.data.mail.row.grownN hg ho.o3, hr.data.mail.small⟩, hr.data.nums.grownN hg ho.o4, ⟨hr.data.texts.row.grownN hg ho.o5, hr.data.texts.small⟩, hr.data.fits⟩, hr.kind, hr.cls, hr.ttl⟩
/-- a record's nine cells among those of an own row -/
def RROf (w : World) (row : Option Nat) (cs : List Value) (i : Nat) (r : RRP) : Prop :=
  ∃ h, (∀ j, j < 9 → cs[i * 9 + j]? = (rrC h r)[j]?) ∧ IsRR w h r ∧ OffR row h
/-- the records that the call has gathered -/
structure RSt (w0 w : World) (v : Value) (rs : List RRP) : Prop where
  own : ∃ cs : List Value, w.ownsRow w0.heap.size 48 9 v rs.length cs ∧ ∀ i (h : i < rs.length), RROf w v.ownBlock cs i rs[i]
  bel : Below w0.heap.size w0 w
theorem RROf.on {w w' : World} {row : Option Nat} {cs : List Value} {i : Nat} {r : RRP} (h : RROf w row cs i r) (hb : Below w.heap.size w w') : RROf w' row cs i r := by
  obtain ⟨k, h1, h2, h3⟩ := h
  exact ⟨k, h1, h2.on hb, h3⟩
theorem RSt.on {w0 w w' : World} {v : Value} {rs : List RRP} (h : RSt w0 w v rs) (hb : Below w.heap.size w w') : RSt w0 w' v rs := by
  obtain ⟨cs, h1, h2⟩ := h.own
  exact ⟨⟨cs, owns_keep h1 hb, fun i hi => (h2 i hi).on hb⟩, below_on h.bel hb (Nat.le_refl _)⟩
theorem RSt.nil (w0 : World) : RSt w0 w0 (.slice none 0 0) [] := ⟨⟨[], World.ownsRow_nil _ _ _ _, fun i h => absurd h (by simp)⟩, Below.refl _ _⟩
theorem RSt.row_lt {w0 w : World} {v : Value} {rs : List RRP} (h : RSt w0 w v rs) : ∀ k, v.ownBlock = some k → k < w.heap.size := by
  intro k hk
  obtain ⟨cs, ho, _⟩ := h.own
  exact (ho.lt k hk).2
theorem rr_cells_one (h : RRH) (r : RRP) : ∀ u ∈ (rrC h r).toList, u.oneCell' = true := by
  intro u hu
  simp [rrC] at hu
  rcases hu with rfl | rfl | rfl | rfl | rfl | rfl | rfl | rfl | rfl <;> rfl
/-- one record more -/
theorem RSt.push {w0 w : World} {v : Value} {rs : List RRP} (h : RSt w0 w v rs) (hlen : rs.length ≤ 1000000) (k : RRH) (r : RRP) (hr : IsRR w k r) (hoff : OffR v.ownBlock k) :
    ∃ v' w', (Builtin.append_ #[44, 44] 44 #[v, .slice (some ⟨w.heap.size, 0, none⟩) 1 1]).run Tryz.prog (w.alloc (.cells (rrC k r) 48)) = .ok v' w' ∧ RSt w0 w' v' (rs ++ [r]) := by
  obtain ⟨cs, h1, h2⟩ := h.own
  have hbA : Below w.heap.size w (w.alloc (.cells (rrC k r) 48)) := (Below.refl _ _).alloc (Nat.le_refl _) _
  have hB : Blk (w.alloc (.cells (rrC k r) 48)) w.heap.size (rrC k r) 48 := heap_alloc_new w _
  obtain ⟨i0, hi, hii⟩ := Option.map_eq_some_iff.1 rrInfo
  simp only [Prod.mk.injEq] at hii
  obtain ⟨z, hz, hzs⟩ := Option.map_eq_some_iff.1 hii.1
  have hby : i0.bytes ≤ 400 := by
    have := rrBytes
    rw [hi] at this
    simpa using this
  have hmul : (rs.length + 1) * i0.bytes ≤ 1000001 * 400 := Nat.mul_le_mul (by omega) hby
  obtain ⟨v', w', hrun, hown, hg, _, hat⟩ := run_append_own_at (P := Tryz.prog) (w.alloc (.cells (rrC k r) 48)) w0.heap.size 44 44 48 i0 z 9 i0.bytes Tryz.underlying44 hi hz hii.2 rfl hzs (by omega) v rs.length cs (h1.alloc _)
    ⟨w.heap.size, 0, none⟩ 1 1 (rrC k r).toList (by simp [rrC]) (fun j u hj => by
      rw [addr_add, hB.cell]
      simpa using hj) (rr_cells_one k r) (by unfold maxLen; omega) (by omega) (by have := h.bel.size; simp; omega)
  have hsz : (w.alloc (.cells (rrC k r) 48)).heap.size = w.heap.size + 1 := by simp
  rw [hsz] at hat
  have hcl : cs.length = rs.length * 9 := h1.1
  have newrow : ∀ h, OffR v.ownBlock h → OldR w.heap.size h → OffR v'.ownBlock h := by
    intro h p1 p2
    rcases hat with e | e
    · rw [e]; exact p1
    · rw [e]
      exact p2.off (by omega)
  refine ⟨v', w', hrun, ⟨⟨_, by simpa using hown, fun i hi' => ?_⟩, ?_⟩⟩
  · rw [List.length_append, List.length_singleton] at hi'
    by_cases hlt : i < rs.length
    · obtain ⟨k2, q1, q2, q3⟩ := h2 i hlt
      have hxi : (rs ++ [r])[i] = rs[i] := List.getElem_append_left hlt
      rw [hxi]
      refine ⟨k2, fun j hj => ?_, (q2.on hbA).grownN hg q3, newrow _ q3 q2.old⟩
      rw [List.getElem?_append_left (by omega)]
      exact q1 j hj
    · have hie : i = rs.length := by omega
      subst hie
      have hxi : (rs ++ [r])[rs.length] = r := by simp
      rw [hxi]
      refine ⟨k, fun j hj => ?_, (hr.on hbA).grownN hg hoff, newrow _ hoff hr.old⟩
      rw [List.getElem?_append_right (by omega), hcl]
      simp
  · exact (below_on h.bel hbA (Nat.le_refl _)).grown hg (by have := h.bel.size; simp; omega) (fun k hk => (h1.lt k hk).1)
/-- what was gathered is a slice of records -/
theorem RSt.rrs {w0 w : World} {v : Value} {rs : List RRP} (h : RSt w0 w v rs) : ∃ ao c, v = .slice ao rs.length c ∧ RRs w ao rs.length c rs := by
  obtain ⟨cs, ⟨hl, h1⟩, h2⟩ := h.own
  rcases h1 with ⟨rfl, h0⟩ | ⟨g, cap, cur, rfl, _, hb, hn, hc, hs, ht⟩
  · have hx : rs = [] := List.eq_nil_of_length_eq_zero h0
    subst hx
    exact ⟨none, 0, rfl, RRs.nil (by omega) (fun _ => rfl)⟩
  · refine ⟨_, _, rfl, rfl, hn, ?_, fun e => (by cases e), fun _ => ⟨g, 0, rfl, fun i hi => ?_⟩⟩
    · unfold maxLen at hc; omega
    · obtain ⟨k2, q1, q2, _⟩ := h2 i hi
      refine ⟨k2, fun j hj => ?_, q2⟩
      rw [Nat.zero_add, Lib.cell_of_heap hb, ← q1 j hj, ← ht, List.getElem?_take, if_pos (by omega)]
      simp
set_option maxHeartbeats 8000000 in
set_option maxRecDepth 100000 in
theorem ownrrs_any (w : World) (ao : Option Addr) (n c : Nat) (rs : List RRP) (hrs : RRs w ao n c rs) (hl : ∀ r ∈ rs, LightData r.data ∧ r.name.length ≤ 130) (hn : n ≤ 60) :
    Calls Tryz.prog 30 #[.slice ao n c] w fun e w' => (∃ ao' c', e = .returned (.slice ao' n c') ∧ RRs w' ao' n c' rs) ∧ Below w.heap.size w w' := by
  have hlen := hrs.hlen
  have hle := hrs.hle
  have hmx := hrs.hmax
  have HRS := Lib.hid hrs
  have HLI := Lib.hid hl
  have HL := Lib.hid hlen
  have hst := RSt.nil w
  clear hrs hl hlen
  go_enter Tryz.func30, Tryz.ntmps30
  go_wp2_with fail
  go_loopw [4, 3, 5] (fun i v _ wr => ∃ k : Nat, k ≤ n ∧ i = .int .i64 k ∧ Hid (RSt w wr v (rs.take k))) (fun i _ _ _ => n - (intOf i).toNat)
  case atStart => exact ⟨0, Nat.zero_le _, rfl, hst⟩
  case round =>
    obtain ⟨k, hk, rfl, hinv⟩ := hrel
    clear hst
    by_cases hlt : k < n
    · obtain ⟨b, off, rfl⟩ := HRS.out.addr hlt
      obtain ⟨h, hc, ho⟩ := (HRS.out.on hinv.out.bel).at hlt
      obtain ⟨r, hrx⟩ : ∃ o, o = rs[k]'(by have := HL.out; omega) := ⟨_, rfl⟩
      rw [← hrx] at hc ho
      have HRX := Lib.hid hrx
      have HO := Lib.hid ho
      have e0 := hc 0 (by omega)
      have e1 := hc 1 (by omega)
      have e2 := hc 2 (by omega)
      have e3 := hc 3 (by omega)
      have e4 := hc 4 (by omega)
      have e5 := hc 5 (by omega)
      have e6 := hc 6 (by omega)
      have e7 := hc 7 (by omega)
      have e8 := hc 8 (by omega)
      clear hc ho hrx
      obtain ⟨na, nl, nc, ⟨ba, bl, bc, ha, hl, hc, ma, ml, mc, xa, xl, xc, ta, tl, tc⟩⟩ := h
      simp [rrC] at e0 e1 e2 e3 e4 e5 e6 e7 e8
      have hlr := HLI.out r (by rw [HRX.out]; exact List.getElem_mem _)
      have hb1 : Below wr.heap.size wr (wr.alloc (.cells #[.slice na nl nc, .int .i64 r.kind, .int .i64 r.cls, .int .i64 r.ttl, .slice ba bl bc, .slice ha hl hc, .slice ma ml mc, .slice xa xl xc, .slice ta tl tc] 48)) := (Below.refl _ _).alloc (Nat.le_refl _) _
      have hs1 : (wr.alloc (.cells #[.slice na nl nc, .int .i64 r.kind, .int .i64 r.cls, .int .i64 r.ttl, .slice ba bl bc, .slice ha hl hc, .slice ma ml mc, .slice xa xl xc, .slice ta tl tc] 48)).heap.size = wr.heap.size + 1 := by simp
      have hb2 : Below wr.heap.size wr ((wr.alloc (.cells #[.slice na nl nc, .int .i64 r.kind, .int .i64 r.cls, .int .i64 r.ttl, .slice ba bl bc, .slice ha hl hc, .slice ma ml mc, .slice xa xl xc, .slice ta tl tc] 48)).alloc (.cells #[] 9)) := hb1.alloc (by omega) _
      have hs2 : ((wr.alloc (.cells #[.slice na nl nc, .int .i64 r.kind, .int .i64 r.cls, .int .i64 r.ttl, .slice ba bl bc, .slice ha hl hc, .slice ma ml mc, .slice xa xl xc, .slice ta tl tc] 48)).alloc (.cells #[] 9)).heap.size = wr.heap.size + 2 := by simp
      have ho2 := HO.out.on hb2
      obtain ⟨i0, hi, hz0, hz1, hz2⟩ := info_parts strInfo
      obtain ⟨a', c', w3, hrun, hrow, hga, hb3⟩ := append_made (P := Tryz.prog) ((wr.alloc (.cells #[.slice na nl nc, .int .i64 r.kind, .int .i64 r.cls, .int .i64 r.ttl, .slice ba bl bc, .slice ha hl hc, .slice ma ml mc, .slice xa xl xc, .slice ta tl tc] 48)).alloc (.cells #[] 9)) 30 30 9 i0 _ 16 Tryz.underlying30 hi hz0 hz1 hz2 (wr.heap.size + 1) (by omega) na nl nc _ ho2.name.row (by have h1 : r.name.length = nl := ho2.name.len; have := hlr.2; omega)
      have hB3 : Blk w3 wr.heap.size #[.slice na nl nc, .int .i64 r.kind, .int .i64 r.cls, .int .i64 r.ttl, .slice ba bl bc, .slice ha hl hc, .slice ma ml mc, .slice xa xl xc, .slice ta tl tc] 48 := ((show Blk (wr.alloc (.cells #[.slice na nl nc, .int .i64 r.kind, .int .i64 r.cls, .int .i64 r.ttl, .slice ba bl bc, .slice ha hl hc, .slice ma ml mc, .slice xa xl xc, .slice ta tl tc] 48)) wr.heap.size #[.slice na nl nc, .int .i64 r.kind, .int .i64 r.cls, .int .i64 r.ttl, .slice ba bl bc, .slice ha hl hc, .slice ma ml mc, .slice xa xl xc, .slice ta tl tc] 48 from heap_alloc_new wr _).on ((Below.refl _ _).alloc (Nat.le_refl _) _)).on hb3
      have hz3 : wr.heap.size + 2 ≤ w3.heap.size := by have := hb3.size; omega
      have hb3' : Below wr.heap.size wr w3 := below_on hb2 hb3 (Nat.le_refl _)
      have hg4 : w3.grownBy (w3.setCell ⟨wr.heap.size, 0, none⟩ (.slice (some a') nl c')) (some wr.heap.size) := but_set _ _ _ _
      have hb4 : Below wr.heap.size wr (w3.setCell ⟨wr.heap.size, 0, none⟩ (.slice (some a') nl c')) := hb3'.setCell (by simp) _
      have hB4 : Blk (w3.setCell ⟨wr.heap.size, 0, none⟩ (.slice (some a') nl c')) wr.heap.size #[.slice (some a') nl c', .int .i64 r.kind, .int .i64 r.cls, .int .i64 r.ttl, .slice ba bl bc, .slice ha hl hc, .slice ma ml mc, .slice xa xl xc, .slice ta tl tc] 48 := hB3.set 0 _
      have hz4 : (w3.setCell ⟨wr.heap.size, 0, none⟩ (.slice (some a') nl c')).heap.size = w3.heap.size := by simp
      have hrow4 := hrow.grownN hg4 (fun _ a ha e => by cases ha; have := Option.some.inj e; omega)
      have HOWN := Lib.hid (own_any (w3.setCell ⟨wr.heap.size, 0, none⟩ (.slice (some a') nl c')) ⟨ba, bl, bc, ha, hl, hc, ma, ml, mc, xa, xl, xc, ta, tl, tc⟩ r.data (HO.out.on hb4).data hlr.1)
      have HROW := Lib.hid hrow4
      have HB4 := Lib.hid hb4
      have HBL := Lib.hid hB4
      have HGA := Lib.hid hga
      have HZ3 := Lib.hid hz3
      have HRUN := Lib.hid hrun
      have n0 := hB3.cell 0
      have n4 := hB3.cell 4
      have n5 := hB3.cell 5
      have n6 := hB3.cell 6
      have n7 := hB3.cell 7
      have n8 := hB3.cell 8
      simp at n0 n4 n5 n6 n7 n8
      have f0 := hB3.free 0
      clear hlr hb1 hs1 hb2 hs2 ho2 hi hz0 hz1 hz2 hrun hrow hga hb3 hB3 hz3 hb3' hg4 hb4 hB4 hz4 hrow4
      simp only [dataC] at HOWN
      go_wp2_with (at_builtin; refine wpList_append_run rfl _ _ _ rfl _ _ rfl rfl HRUN.out ?_)
      clear n0 n4 n5 n6 n7 n8 f0 HRUN e0 e1 e2 e3 e4 e5 e6 e7 e8
      refine HOWN.out.mono ?_
      rintro e w5 ⟨⟨ba5, bl5, bc5, ha5, hl5, hc5, ma5, ml5, mc5, xa5, xl5, xc5, ta5, tl5, tc5⟩, rfl, hd5, hf5, hb5⟩
      have hB5 := HBL.out.on hb5
      have hz4 : (w3.setCell ⟨wr.heap.size, 0, none⟩ (.slice (some a') nl c')).heap.size = w3.heap.size := by simp
      have hz5 : w3.heap.size ≤ w5.heap.size := by have := hb5.size; omega
      have hb5' : Below wr.heap.size wr w5 := below_on HB4.out hb5 (Nat.le_refl _)
      have hg6 : w5.grownBy (((((w5.setCell ⟨wr.heap.size, 4, none⟩ (.slice ba5 bl5 bc5)).setCell ⟨wr.heap.size, 5, none⟩ (.slice ha5 hl5 hc5)).setCell ⟨wr.heap.size, 6, none⟩ (.slice ma5 ml5 mc5)).setCell ⟨wr.heap.size, 7, none⟩ (.slice xa5 xl5 xc5)).setCell ⟨wr.heap.size, 8, none⟩ (.slice ta5 tl5 tc5)) (some wr.heap.size) := but_trans (but_trans (but_trans (but_trans (but_set _ _ _ _) (but_set _ _ _ _)) (but_set _ _ _ _)) (but_set _ _ _ _)) (but_set _ _ _ _)
      have hb6 : Below wr.heap.size wr (((((w5.setCell ⟨wr.heap.size, 4, none⟩ (.slice ba5 bl5 bc5)).setCell ⟨wr.heap.size, 5, none⟩ (.slice ha5 hl5 hc5)).setCell ⟨wr.heap.size, 6, none⟩ (.slice ma5 ml5 mc5)).setCell ⟨wr.heap.size, 7, none⟩ (.slice xa5 xl5 xc5)).setCell ⟨wr.heap.size, 8, none⟩ (.slice ta5 tl5 tc5)) := ((((hb5'.setCell (by simp) _).setCell (by simp) _).setCell (by simp) _).setCell (by simp) _).setCell (by simp) _
      have hB6 : Blk (((((w5.setCell ⟨wr.heap.size, 4, none⟩ (.slice ba5 bl5 bc5)).setCell ⟨wr.heap.size, 5, none⟩ (.slice ha5 hl5 hc5)).setCell ⟨wr.heap.size, 6, none⟩ (.slice ma5 ml5 mc5)).setCell ⟨wr.heap.size, 7, none⟩ (.slice xa5 xl5 xc5)).setCell ⟨wr.heap.size, 8, none⟩ (.slice ta5 tl5 tc5)) wr.heap.size #[.slice (some a') nl c', .int .i64 r.kind, .int .i64 r.cls, .int .i64 r.ttl, .slice ba5 bl5 bc5, .slice ha5 hl5 hc5, .slice ma5 ml5 mc5, .slice xa5 xl5 xc5, .slice ta5 tl5 tc5] 48 := ((((hB5.set 4 _).set 5 _).set 6 _).set 7 _).set 8 _
      have hrr : IsRR (((((w5.setCell ⟨wr.heap.size, 4, none⟩ (.slice ba5 bl5 bc5)).setCell ⟨wr.heap.size, 5, none⟩ (.slice ha5 hl5 hc5)).setCell ⟨wr.heap.size, 6, none⟩ (.slice ma5 ml5 mc5)).setCell ⟨wr.heap.size, 7, none⟩ (.slice xa5 xl5 xc5)).setCell ⟨wr.heap.size, 8, none⟩ (.slice ta5 tl5 tc5)) ⟨some a', nl, c', ⟨ba5, bl5, bc5, ha5, hl5, hc5, ma5, ml5, mc5, xa5, xl5, xc5, ta5, tl5, tc5⟩⟩ r :=
        ⟨⟨(HROW.out.below hb5 (Nat.le_refl _)).grownN hg6 (fun _ a ha e => by cases ha; have := Option.some.inj e; have := HGA.out; omega), HO.out.name.small⟩, hd5.but hf5 (by have := HZ3.out; omega) hg6, HO.out.kind, HO.out.cls, HO.out.ttl⟩
      have hst6 := hinv.out.on hb6
      have hoff : OffR u3.ownBlock ⟨some a', nl, c', ⟨ba5, bl5, bc5, ha5, hl5, hc5, ma5, ml5, mc5, xa5, xl5, xc5, ta5, tl5, tc5⟩⟩ :=
        FreshR.off (B := wr.heap.size) ⟨fun a ha => by cases ha; have := HGA.out; omega, hf5.mono (by have := HZ3.out; omega)⟩ hinv.out.row_lt
      have hkl : k < rs.length := by have := HL.out; omega
      obtain ⟨v', w7, hrun, hst7⟩ := hst6.push (by simp; omega) _ r hrr hoff
      have htk : rs.take k ++ [r] = rs.take (k + 1) := by rw [List.take_succ_eq_append_getElem hkl, HRX.out]
      rw [htk] at hst7
      have HST := Lib.hid hst7
      simp only [World.size_setCell, rrC] at hrun
      have HRUN := Lib.hid hrun
      have n0 := hB5.cell 0
      have n1 := hB5.cell 1
      have n2 := hB5.cell 2
      have n3 := hB5.cell 3
      have n4 := hB5.cell 4
      have n5 := hB5.cell 5
      have n6 := hB5.cell 6
      have n7 := hB5.cell 7
      have n8 := hB5.cell 8
      have f4 := hB5.free 4
      have f5 := hB5.free 5
      have f6 := hB5.free 6
      have f7 := hB5.free 7
      have f8 := hB5.free 8
      simp at n0 n1 n2 n3 n4 n5 n6 n7 n8
      have s0 := hB6.cell 0
      have s1 := hB6.cell 1
      have s2 := hB6.cell 2
      have s3 := hB6.cell 3
      have s4 := hB6.cell 4
      have s5 := hB6.cell 5
      have s6 := hB6.cell 6
      have s7 := hB6.cell 7
      have s8 := hB6.cell 8
      simp at s0 s1 s2 s3 s4 s5 s6 s7 s8
      clear hB5 hz4 hz5 hb5' hg6 hb6 hB6 hrr hst6 hoff hkl hrun hst7 htk hd5 hf5 hb5
      simp only
      go_wp2_with (at_builtin; refine wpList_append_run rfl _ _ _ rfl _ _ rfl rfl HRUN.out ?_)
      go_roundw
      case rel => exact ⟨k + 1, by omega, by go_num, HST.out⟩
      case measure => simp [intOf]; omega
    · go_wp2_with fail
      go_ret
      obtain rfl : k = n := by omega
      have hs := hinv.out
      rw [List.take_of_length_le (by have := HL.out; omega)] at hs
      obtain ⟨ao', c', rfl, hR⟩ := hs.rrs
      rw [HL.out] at hR ⊢
      exact ⟨⟨ao', c', rfl, hR⟩, hs.bel⟩
end
end Go.Proofs.YtipbakdodbmfjaaGreatDoor

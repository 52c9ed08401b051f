/- Contracts of fact.distinct and fact.Sound. -/
import Derived.Test.YtpemdieejgldiaaGreatFsmall
import Derived.Test.YtpemdieejgldiaaGreatTtl
namespace Go.Proofs.YtpemdieejgldiaaGreat
open Go.ChangeShapes Go.WideShapes Go.ChangeAt Go.RowKit

set_option maxHeartbeats 8000000 in
set_option maxRecDepth 100000 in
theorem distinct_any (w : World) (S : Nat → Prop) (k : Int) (hk : wfi k) (ao : Option Addr) (n c : Nat) (ds : List DataP) (hds : Datas S w ao n c ds) :
    Calls Tryz.prog 48 #[.int .i64 k, .slice ao n c] w fun e w' => e = .returned (.bool (distinctB k [] ds)) ∧ Below w.heap.size w w' := by
  have hl := hds.hlen
  have hle := hds.hle
  have hmx := hds.hmax
  have HD := Lib.hid hds
  have HL := Lib.hid hl
  have HK := Lib.hid hk
  obtain ⟨B, hB⟩ : ∃ B, B = distinctB k [] ds := ⟨_, rfl⟩
  rw [← hB]
  have HB := Lib.hid (show B = distinctB k (ds.take 0) (ds.drop 0) from hB)
  clear hds hl hB hk
  go_enter Tryz.func48, Tryz.ntmps48
  go_wp2_with fail
  go_loopw [9, 5, 6] (fun i _ _ wr => ∃ j : Nat, j ≤ n ∧ i = .int .i64 j ∧ Hid (Below w.heap.size w wr ∧ B = distinctB k (ds.take j) (ds.drop j))) (fun i _ _ _ => n - (intOf i).toNat)
  case atStart => exact ⟨0, Nat.zero_le _, rfl, Below.refl _ _, HB.out⟩
  case round =>
    obtain ⟨j, hj, rfl, hinv⟩ := hrel
    clear HB
    by_cases hlt : j < n
    · obtain ⟨b, off, rfl⟩ := HD.out.addr hlt
      obtain ⟨h, hc, ho, _⟩ := data_elem ((HD.out.on hinv.out.1).at hlt)
      obtain ⟨o, hox⟩ : ∃ o, o = ds[j]'(by have := HL.out; omega) := ⟨_, rfl⟩
      rw [← hox] at ho
      obtain ⟨Z, hZ⟩ : ∃ q, q = dataB k o := ⟨_, rfl⟩
      obtain ⟨Y, hY⟩ : ∃ q, q = sameAny (ds.take j) o := ⟨_, rfl⟩
      have HE := Lib.hid (show B = (Z && (!Y && distinctB k (ds.take (j + 1)) (ds.drop (j + 1)))) by rw [hinv.out.2, distinct_at (by have := HL.out; omega), hZ, hY, hox])
      have hbA : Below wr.heap.size wr (wr.alloc (.cells (dataC h) 34)) := (Below.refl _ _).alloc (Nat.le_refl _) _
      have hA : Blk (wr.alloc (.cells (dataC h) 34)) wr.heap.size (dataC h) 34 := heap_alloc_new wr _
      have HS := Lib.hid (dsound_any _ k h o (ho.on hbA))
      rw [← hZ] at HS
      have HC := Lib.hid (fun w' (p : Datas S w' (some ⟨b, off, none⟩) j c (ds.take j)) (q : IsData w' h o) (r : Blk w' wr.heap.size (dataC h) 34) => containsD_any w' S _ _ _ _ p h o q _ r)
      rw [← hY] at HC
      have HO := Lib.hid (ho.on hbA)
      have HA := Lib.hid hA
      have HB1 := Lib.hid (below_on hinv.out.1 hbA (Nat.le_refl _))
      have HTK := Lib.hid ((HD.out.on (below_on hinv.out.1 hbA (Nat.le_refl _))).take (k := j) (by omega))
      have e0 := hc 0 (by omega)
      have e1 := hc 1 (by omega)
      have e2 := hc 2 (by omega)
      have e3 := hc 3 (by omega)
      have e4 := hc 4 (by omega)
      clear hc ho hox hZ hY hbA hA
      obtain ⟨ba, bl, bc, ha, hl, hc, ma, ml, mc, xa, xl, xc, ta, tl, tc⟩ := h
      simp only [dataC] at HS HC HA HO HB1 HTK
      simp [dataC, dataK] at e0 e1 e2 e3 e4
      go_wp2_with fail
      clear e0 e1 e2 e3 e4
      refine HS.out.mono ?_
      rintro e w2 ⟨rfl, hb2⟩
      have HA2 := Lib.hid (HA.out.on hb2)
      have HB2 := Lib.hid (below_on HB1.out hb2 (Nat.le_refl _))
      have HO2 := Lib.hid (HO.out.on hb2)
      have HT2 := Lib.hid (HTK.out.on hb2)
      clear hb2 HA HB1 HO HTK HS
      cases Z
      · have HF := Lib.hid (show B = false by rw [HE.out]; rfl)
        go_wp2_with fail
        go_ret
        exact ⟨ret_bool HF.out.symm, HB2.out⟩
      have HE2 := Lib.hid (show B = (!Y && distinctB k (ds.take (j + 1)) (ds.drop (j + 1))) by rw [HE.out]; rfl)
      clear HE
      go_wp2_with fail
      refine (HC.out _ HT2.out HO2.out HA2.out).mono ?_
      rintro e w3 ⟨rfl, hb3⟩
      have HB3 := Lib.hid (below_on HB2.out hb3 (Nat.le_refl _))
      clear hb3
      cases Y
      · have HF := Lib.hid (show B = distinctB k (ds.take (j + 1)) (ds.drop (j + 1)) by rw [HE2.out]; rfl)
        go_wp2_with fail
        go_roundw
        case rel => exact ⟨j + 1, by omega, by go_num, HB3.out, HF.out⟩
        case measure => simp [intOf]; omega
      · have HF := Lib.hid (show B = false by rw [HE2.out]; rfl)
        go_wp2_with fail
        go_ret
        exact ⟨ret_bool HF.out.symm, HB3.out⟩
    · obtain rfl : j = n := by omega
      have HBE := Lib.hid (show B = true by rw [hinv.out.2, List.take_of_length_le (by have := HL.out; omega), List.drop_eq_nil_of_le (by have := HL.out; omega)]; rfl)
      clear hlt
      go_wp2_with fail
      go_ret
      exact ⟨ret_bool HBE.out.symm, hinv.out.1⟩
set_option maxHeartbeats 16000000 in
set_option maxRecDepth 100000 in
theorem fsound_any (w : World) (S : Nat → Prop) (h : FactH) (f : FactP) (hf : IsFact S w h f) :
    Calls Tryz.prog 22 #[.agg (factC h f)] w fun e w' => e = .returned (.bool (factB f)) ∧ Below w.heap.size w w' := by
  have hb1 : Below w.heap.size w (w.alloc (.cells (factC h f) 36)) := (Below.refl _ _).alloc (Nat.le_refl _) _
  have hA : Blk (w.alloc (.cells (factC h f) 36)) w.heap.size (factC h f) 36 := heap_alloc_new w _
  have HF0 := Lib.hid (hf.on hb1)
  have HA0 := Lib.hid hA
  have HB0 := Lib.hid hb1
  have HY0 := Lib.hid (Below.refl (w.alloc (.cells (factC h f) 36)).heap.size (w.alloc (.cells (factC h f) 36)))
  have hls := hf.set.hlen
  have hlz := hf.zone.len
  have hsm := hf.set.hmax
  have hsl := hf.set.hle
  have hzm := hf.zone.row.hmax
  obtain ⟨NB, hNB⟩ : ∃ q, q = soundB f.name := ⟨_, rfl⟩
  obtain ⟨GB, hGB⟩ : ∃ q, q = timeB f.got := ⟨_, rfl⟩
  obtain ⟨TB, hTB⟩ : ∃ q, q = typedB f.typ := ⟨_, rfl⟩
  obtain ⟨DB, hDB⟩ : ∃ q, q = distinctB f.typ [] f.set := ⟨_, rfl⟩
  obtain ⟨OB, hOB⟩ : ∃ q, q = noneB f.soa := ⟨_, rfl⟩
  obtain ⟨ZB, hZB⟩ : ∃ q, q = soundB f.zone := ⟨_, rfl⟩
  obtain ⟨UB, hUB⟩ : ∃ q, q = underB f.name f.zone := ⟨_, rfl⟩
  obtain ⟨AB, hAB⟩ : ∃ q, q = dataB 6 f.soa := ⟨_, rfl⟩
  obtain ⟨B, hB⟩ : ∃ q, q = factB f := ⟨_, rfl⟩
  have HNB := Lib.hid (sound_any _ _ _ _ _ HF0.out.name)
  rw [← hNB] at HNB
  have HGB := Lib.hid (fun w' => time_any f.got w')
  rw [← hGB] at HGB
  have HTB := Lib.hid (fun w' => typed_any w' f.typ)
  rw [← hTB] at HTB
  have HDB := Lib.hid (fun w' (p : Datas S w' h.sa h.sl h.sc f.set) => distinct_any w' S f.typ hf.typ _ _ _ _ p)
  rw [← hDB] at HDB
  have HOB := Lib.hid (fun w' (p : IsData w' h.d f.soa) => none_any w' _ _ p)
  rw [← hOB] at HOB
  have HZB := Lib.hid (fun w' (p : Strs w' h.za h.zl h.zc f.zone) => sound_any w' _ _ _ _ p)
  rw [← hZB] at HZB
  have HUB := Lib.hid (fun w' (p : Strs w' h.na h.nl h.nc f.name) (q : Strs w' h.za h.zl h.zc f.zone) => under_any w' _ _ _ _ _ _ _ _ p q)
  rw [← hUB] at HUB
  have HAB := Lib.hid (fun w' (p : IsData w' h.d f.soa) => dsound_any w' 6 _ _ p)
  rw [← hAB] at HAB
  have HE0 := Lib.hid (show B = (NB && (decide (1 ≤ f.rank) && (decide (f.rank ≤ 4) && (GB && (decide (0 ≤ f.ttl) && (decide (f.ttl ≤ 604800) && (if f.kind = 1 then (TB && (decide (1 ≤ h.sl) && (decide (h.sl ≤ 64) && (DB && (decide (h.zl = 0) && OB))))) else ((decide (f.ttl ≤ 10800) && (decide (h.sl = 0) && (ZB && (UB && AB)))) && ((decide (f.kind = 2) && TB) || (decide (f.kind = 3) && decide (f.typ = 0))))))))))) by
    rw [hB, factB, headB, hasB, negB, hNB, hGB, hTB, hDB, hOB, hZB, hUB, hAB, hls, hlz]
    simp only [Bool.and_assoc])
  rw [← hB]
  clear hb1 hA hf hls hlz hB hNB hGB hTB hDB hOB hZB hUB hAB
  obtain ⟨na, nl, nc, sa, sl, sc, za, zl, zc, ⟨ba, bl, bc, ha, hl, hc, ma, ml, mc, xa, xl, xc, ta, tl, tc⟩⟩ := h
  simp only [factC] at HF0 HA0 HB0 HY0 HNB
  simp only at hsm hsl hzm HE0 HDB HOB HZB HUB HAB
  simp only [dataC] at HOB HAB
  go_enter Tryz.func22, Tryz.ntmps22
  simp only [factC]
  go_wp2_with fail
  refine (HNB.out).mono ?_
  rintro e w' ⟨rfl, rfl⟩
  cases NB
  · have HF := Lib.hid (show B = false by rw [HE0.out]; rfl)
    go_wp2_with fail
    go_ret
    exact ⟨ret_bool (HF.out).symm, HB0.out⟩
  have HE1 := Lib.hid (show B = (decide (1 ≤ f.rank) && (decide (f.rank ≤ 4) && (GB && (decide (0 ≤ f.ttl) && (decide (f.ttl ≤ 604800) && ((if f.kind = 1 then (TB && (decide (1 ≤ sl) && (decide (sl ≤ 64) && (DB && (decide (zl = 0) && OB))))) else ((decide (f.ttl ≤ 10800) && (decide (sl = 0) && (ZB && (UB && AB)))) && ((decide (f.kind = 2) && TB) || (decide (f.kind = 3) && decide (f.typ = 0))))))))))) by rw [HE0.out]; rfl)
  clear HE0
  by_cases h1 : 1 ≤ f.rank
  case neg =>
    have d1 : decide (f.rank < 1) = true := decide_eq_true (by omega)
    have HF := Lib.hid (show B = false by rw [HE1.out, decide_eq_false h1]; rfl)
    clear h1
    go_wp2_with fail
    go_ret
    exact ⟨ret_bool (HF.out).symm, HB0.out⟩
  have d1 : decide (f.rank < 1) = false := decide_eq_false (by omega)
  have HE2 := Lib.hid (show B = (decide (f.rank ≤ 4) && (GB && (decide (0 ≤ f.ttl) && (decide (f.ttl ≤ 604800) && ((if f.kind = 1 then (TB && (decide (1 ≤ sl) && (decide (sl ≤ 64) && (DB && (decide (zl = 0) && OB))))) else ((decide (f.ttl ≤ 10800) && (decide (sl = 0) && (ZB && (UB && AB)))) && ((decide (f.kind = 2) && TB) || (decide (f.kind = 3) && decide (f.typ = 0)))))))))) by rw [HE1.out, decide_eq_true h1]; rfl)
  clear HE1
  clear h1
  by_cases h2 : f.rank ≤ 4
  case neg =>
    have d2 : decide (4 < f.rank) = true := decide_eq_true (by omega)
    have HF := Lib.hid (show B = false by rw [HE2.out, decide_eq_false h2]; rfl)
    clear h2
    go_wp2_with fail
    go_ret
    exact ⟨ret_bool (HF.out).symm, HB0.out⟩
  have d2 : decide (4 < f.rank) = false := decide_eq_false (by omega)
  have HE3 := Lib.hid (show B = (GB && (decide (0 ≤ f.ttl) && (decide (f.ttl ≤ 604800) && ((if f.kind = 1 then (TB && (decide (1 ≤ sl) && (decide (sl ≤ 64) && (DB && (decide (zl = 0) && OB))))) else ((decide (f.ttl ≤ 10800) && (decide (sl = 0) && (ZB && (UB && AB)))) && ((decide (f.kind = 2) && TB) || (decide (f.kind = 3) && decide (f.typ = 0))))))))) by rw [HE2.out, decide_eq_true h2]; rfl)
  clear HE2
  clear h2
  go_wp2_with fail
  refine (HGB.out _).mono ?_
  rintro e w' ⟨rfl, rfl⟩
  cases GB
  · have HF := Lib.hid (show B = false by rw [HE3.out]; rfl)
    go_wp2_with fail
    go_ret
    exact ⟨ret_bool (HF.out).symm, HB0.out⟩
  have HE4 := Lib.hid (show B = (decide (0 ≤ f.ttl) && (decide (f.ttl ≤ 604800) && ((if f.kind = 1 then (TB && (decide (1 ≤ sl) && (decide (sl ≤ 64) && (DB && (decide (zl = 0) && OB))))) else ((decide (f.ttl ≤ 10800) && (decide (sl = 0) && (ZB && (UB && AB)))) && ((decide (f.kind = 2) && TB) || (decide (f.kind = 3) && decide (f.typ = 0)))))))) by rw [HE3.out]; rfl)
  clear HE3
  by_cases h3 : 0 ≤ f.ttl
  case neg =>
    have d3 : decide (f.ttl < 0) = true := decide_eq_true (by omega)
    have HF := Lib.hid (show B = false by rw [HE4.out, decide_eq_false h3]; rfl)
    clear h3
    go_wp2_with fail
    go_ret
    exact ⟨ret_bool (HF.out).symm, HB0.out⟩
  have d3 : decide (f.ttl < 0) = false := decide_eq_false (by omega)
  have HE5 := Lib.hid (show B = (decide (f.ttl ≤ 604800) && ((if f.kind = 1 then (TB && (decide (1 ≤ sl) && (decide (sl ≤ 64) && (DB && (decide (zl = 0) && OB))))) else ((decide (f.ttl ≤ 10800) && (decide (sl = 0) && (ZB && (UB && AB)))) && ((decide (f.kind = 2) && TB) || (decide (f.kind = 3) && decide (f.typ = 0))))))) by rw [HE4.out, decide_eq_true h3]; rfl)
  clear HE4
  clear h3
  by_cases h4 : f.ttl ≤ 604800
  case neg =>
    have d4 : decide (604800 < f.ttl) = true := decide_eq_true (by omega)
    have HF := Lib.hid (show B = false by rw [HE5.out, decide_eq_false h4]; rfl)
    clear h4
    go_wp2_with fail
    go_ret
    exact ⟨ret_bool (HF.out).symm, HB0.out⟩
  have d4 : decide (604800 < f.ttl) = false := decide_eq_false (by omega)
  have HE6 := Lib.hid (show B = ((if f.kind = 1 then (TB && (decide (1 ≤ sl) && (decide (sl ≤ 64) && (DB && (decide (zl = 0) && OB))))) else ((decide (f.ttl ≤ 10800) && (decide (sl = 0) && (ZB && (UB && AB)))) && ((decide (f.kind = 2) && TB) || (decide (f.kind = 3) && decide (f.typ = 0)))))) by rw [HE5.out, decide_eq_true h4]; rfl)
  clear HE5
  clear h4
  by_cases hk : f.kind = 1
  · have HEa := Lib.hid (show B = (TB && (decide (1 ≤ sl) && (decide (sl ≤ 64) && (DB && (decide (zl = 0) && OB))))) by rw [HE6.out, if_pos hk])
    have qk : (f.kind == 1) = true := by rw [hk]; rfl
    clear hk HE6
    have HE0 := Lib.hid HEa.out
    clear HEa
    go_wp2_with fail
    refine (HTB.out _).mono ?_
    rintro e w' ⟨rfl, rfl⟩
    cases TB
    · have HF := Lib.hid (show B = false by rw [HE0.out]; rfl)
      go_wp2_with fail
      go_ret
      exact ⟨ret_bool (HF.out).symm, HB0.out⟩
    have HE1 := Lib.hid (show B = (decide (1 ≤ sl) && (decide (sl ≤ 64) && (DB && (decide (zl = 0) && (OB))))) by rw [HE0.out]; rfl)
    clear HE0
    by_cases h5 : 1 ≤ sl
    case neg =>
      have p1 : decide ((1 : Int) ≤ (sl : Int)) = false := decide_eq_false (by omega)
      have HF := Lib.hid (show B = false by rw [HE1.out, decide_eq_false h5]; rfl)
      clear h5
      go_wp2_with fail
      go_ret
      exact ⟨ret_bool (HF.out).symm, HB0.out⟩
    have p1 : decide ((1 : Int) ≤ (sl : Int)) = true := decide_eq_true (by omega)
    have HE2 := Lib.hid (show B = (decide (sl ≤ 64) && (DB && (decide (zl = 0) && (OB)))) by rw [HE1.out, decide_eq_true h5]; rfl)
    clear HE1
    clear h5
    by_cases h6 : sl ≤ 64
    case neg =>
      have p2 : decide ((sl : Int) ≤ 64) = false := decide_eq_false (by omega)
      have HF := Lib.hid (show B = false by rw [HE2.out, decide_eq_false h6]; rfl)
      clear h6
      go_wp2_with fail
      go_ret
      exact ⟨ret_bool (HF.out).symm, HB0.out⟩
    have p2 : decide ((sl : Int) ≤ 64) = true := decide_eq_true (by omega)
    have HE3 := Lib.hid (show B = (DB && (decide (zl = 0) && (OB))) by rw [HE2.out, decide_eq_true h6]; rfl)
    clear HE2
    clear h6
    go_wp2_with fail
    refine (HDB.out _ (HF0.out.set.on HY0.out)).mono ?_
    rintro e w2 ⟨rfl, hb⟩
    have HB1 := Lib.hid (below_on HB0.out hb (Nat.le_refl _))
    have HY1 := Lib.hid (below_on HY0.out hb (Nat.le_refl _))
    clear hb HB0 HY0
    have hA := HA0.out.on HY1.out
    have c0 := hA.cell 0
    have c1 := hA.cell 1
    have c2 := hA.cell 2
    have c3 := hA.cell 3
    have c4 := hA.cell 4
    have c5 := hA.cell 5
    have c6 := hA.cell 6
    have c7 := hA.cell 7
    have c8 := hA.cell 8
    have c9 := hA.cell 9
    have c10 := hA.cell 10
    have c11 := hA.cell 11
    have c12 := hA.cell 12
    simp at c0 c1 c2 c3 c4 c5 c6 c7 c8 c9 c10 c11 c12
    clear hA
    cases DB
    · have HF := Lib.hid (show B = false by rw [HE3.out]; rfl)
      go_wp2_with fail
      go_ret
      exact ⟨ret_bool (HF.out).symm, HB1.out⟩
    have HE4 := Lib.hid (show B = (decide (zl = 0) && (OB)) by rw [HE3.out]; rfl)
    clear HE3
    by_cases h7 : zl = 0
    case neg =>
      have p3 : ((zl : Int) == 0) = false := by rw [beq_eq_false_iff_ne]; omega
      have HF := Lib.hid (show B = false by rw [HE4.out, decide_eq_false h7]; rfl)
      clear h7
      go_wp2_with fail
      go_ret
      exact ⟨ret_bool (HF.out).symm, HB1.out⟩
    have HE5 := Lib.hid (show B = (OB) by rw [HE4.out, decide_eq_true h7]; rfl)
    clear HE4
    subst h7
    go_wp2_with fail
    refine (HOB.out _ (HF0.out.soa.on HY1.out)).mono ?_
    rintro e w3 ⟨rfl, hb⟩
    have HB2 := Lib.hid (below_on HB1.out hb (Nat.le_refl _))
    clear hb
    go_wp2_with fail
    go_ret
    exact ⟨ret_bool HE5.out.symm, HB2.out⟩
  · have HEa := Lib.hid (show B = (decide (f.ttl ≤ 10800) && (decide (sl = 0) && (ZB && (UB && (AB && ((decide (f.kind = 2) && TB) || (decide (f.kind = 3) && decide (f.typ = 0)))))))) by rw [HE6.out, if_neg hk]; simp only [Bool.and_assoc])
    have qk : (f.kind == 1) = false := by rw [beq_eq_false_iff_ne]; exact hk
    clear hk HE6
    have HE0 := Lib.hid HEa.out
    clear HEa
    by_cases h5 : f.ttl ≤ 10800
    case neg =>
      have p1 : decide (10800 < f.ttl) = true := decide_eq_true (by omega)
      have HF := Lib.hid (show B = false by rw [HE0.out, decide_eq_false h5]; rfl)
      clear h5
      go_wp2_with fail
      go_ret
      exact ⟨ret_bool (HF.out).symm, HB0.out⟩
    have p1 : decide (10800 < f.ttl) = false := decide_eq_false (by omega)
    have HE1 := Lib.hid (show B = (decide (sl = 0) && (ZB && (UB && (AB && (((decide (f.kind = 2) && TB) || (decide (f.kind = 3) && decide (f.typ = 0)))))))) by rw [HE0.out, decide_eq_true h5]; rfl)
    clear HE0
    clear h5
    by_cases h6 : sl = 0
    case neg =>
      have p2 : 0 < sl := by omega
      have HF := Lib.hid (show B = false by rw [HE1.out, decide_eq_false h6]; rfl)
      clear h6
      go_wp2_with fail
      go_ret
      exact ⟨ret_bool (HF.out).symm, HB0.out⟩
    have HE2 := Lib.hid (show B = (ZB && (UB && (AB && (((decide (f.kind = 2) && TB) || (decide (f.kind = 3) && decide (f.typ = 0))))))) by rw [HE1.out, decide_eq_true h6]; rfl)
    clear HE1
    subst h6
    go_wp2_with fail
    refine (HZB.out _ HF0.out.zone).mono ?_
    rintro e w' ⟨rfl, rfl⟩
    cases ZB
    · have HF := Lib.hid (show B = false by rw [HE2.out]; rfl)
      go_wp2_with fail
      go_ret
      exact ⟨ret_bool (HF.out).symm, HB0.out⟩
    have HE3 := Lib.hid (show B = (UB && (AB && (((decide (f.kind = 2) && TB) || (decide (f.kind = 3) && decide (f.typ = 0)))))) by rw [HE2.out]; rfl)
    clear HE2
    go_wp2_with fail
    refine (HUB.out _ HF0.out.name HF0.out.zone).mono ?_
    rintro e w2 ⟨rfl, hb⟩
    have HB1 := Lib.hid (below_on HB0.out hb (Nat.le_refl _))
    have HY1 := Lib.hid (below_on HY0.out hb (Nat.le_refl _))
    clear hb HB0 HY0
    have hA := HA0.out.on HY1.out
    have c0 := hA.cell 0
    have c1 := hA.cell 1
    have c2 := hA.cell 2
    have c3 := hA.cell 3
    have c4 := hA.cell 4
    have c5 := hA.cell 5
    have c6 := hA.cell 6
    have c7 := hA.cell 7
    have c8 := hA.cell 8
    have c9 := hA.cell 9
    have c10 := hA.cell 10
    have c11 := hA.cell 11
    have c12 := hA.cell 12
    simp at c0 c1 c2 c3 c4 c5 c6 c7 c8 c9 c10 c11 c12
    clear hA
    cases UB
    · have HF := Lib.hid (show B = false by rw [HE3.out]; rfl)
      go_wp2_with fail
      go_ret
      exact ⟨ret_bool (HF.out).symm, HB1.out⟩
    have HE4 := Lib.hid (show B = (AB && (((decide (f.kind = 2) && TB) || (decide (f.kind = 3) && decide (f.typ = 0))))) by rw [HE3.out]; rfl)
    clear HE3
    go_wp2_with fail
    refine (HAB.out _ (HF0.out.soa.on HY1.out)).mono ?_
    rintro e w3 ⟨rfl, hb⟩
    have HB2 := Lib.hid (below_on HB1.out hb (Nat.le_refl _))
    have HY2 := Lib.hid (below_on HY1.out hb (Nat.le_refl _))
    clear hb HB1 HY1
    clear c0 c1 c2 c3 c4 c5 c6 c7 c8 c9 c10 c11 c12
    have hA := HA0.out.on HY2.out
    have c0 := hA.cell 0
    have c1 := hA.cell 1
    have c2 := hA.cell 2
    have c3 := hA.cell 3
    have c4 := hA.cell 4
    have c5 := hA.cell 5
    have c6 := hA.cell 6
    have c7 := hA.cell 7
    have c8 := hA.cell 8
    have c9 := hA.cell 9
    have c10 := hA.cell 10
    have c11 := hA.cell 11
    have c12 := hA.cell 12
    simp at c0 c1 c2 c3 c4 c5 c6 c7 c8 c9 c10 c11 c12
    clear hA
    cases AB
    · have HF := Lib.hid (show B = false by rw [HE4.out]; rfl)
      go_wp2_with fail
      go_ret
      exact ⟨ret_bool (HF.out).symm, HB2.out⟩
    have HE5 := Lib.hid (show B = (((decide (f.kind = 2) && TB) || (decide (f.kind = 3) && decide (f.typ = 0)))) by rw [HE4.out]; rfl)
    clear HE4
    by_cases hk2 : f.kind = 2
    · have q2 : (f.kind == 2) = true := by rw [hk2]; rfl
      have q3 : (f.kind == 3) = false := by rw [hk2]; rfl
      have HG := Lib.hid (show B = TB by rw [HE5.out, decide_eq_true hk2, decide_eq_false (show ¬ f.kind = 3 by omega)]; cases TB <;> rfl)
      clear hk2 HE5 qk
      go_wp2_with fail
      refine (HTB.out _).mono ?_
      rintro e w' ⟨rfl, rfl⟩
      cases TB
      all_goals
        go_wp2_with fail
        go_ret
        exact ⟨ret_bool HG.out.symm, HB2.out⟩
    · have q2 : (f.kind == 2) = false := by rw [beq_eq_false_iff_ne]; exact hk2
      by_cases hk3 : f.kind = 3
      · have q3 : (f.kind == 3) = true := by rw [hk3]; rfl
        have HG := Lib.hid (show B = (f.typ == 0) by
          rw [HE5.out, decide_eq_true hk3, decide_eq_false hk2, Bool.eq_iff_iff, beq_iff_eq]
          simp)
        clear hk2 hk3 HE5 qk
        go_wp2_with fail
        go_ret
        exact ⟨ret_bool HG.out.symm, HB2.out⟩
      · have q3 : (f.kind == 3) = false := by rw [beq_eq_false_iff_ne]; exact hk3
        have HG := Lib.hid (show B = false by
          rw [HE5.out, decide_eq_false hk3, decide_eq_false hk2]
          rfl)
        clear hk2 hk3 HE5 qk
        go_wp2_with fail
        go_ret
        exact ⟨ret_bool HG.out.symm, HB2.out⟩
end Go.Proofs.YtpemdieejgldiaaGreat

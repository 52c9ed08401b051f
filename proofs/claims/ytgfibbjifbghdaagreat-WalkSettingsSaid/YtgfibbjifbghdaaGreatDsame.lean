/- When data is the same: contracts of rdata.Same and the statements' own Same, whatever the data is. -/
import Derived.Test.YtgfibbjifbghdaaGreatData
import Derived.Test.YtgfibbjifbghdaaGreatEqual
import Derived.Test.YtgfibbjifbghdaaGreatLists
import Derived.BigQuiet
namespace Go.Proofs.YtgfibbjifbghdaaGreat
open Go.ChangeShapes Go.WideShapes Go.ChangeAt Go.RowKit
def sameD (x y : DataP) : Bool := decide (x.bytes = y.bytes) && (decide (x.nums = y.nums) && (decide (x.texts = y.texts) && (eqB x.host y.host && eqB x.mail y.mail)))
set_option maxHeartbeats 2000000 in
set_option maxRecDepth 100000 in
theorem sleq_byts (w : World) (ao bo : Option Addr) (la ca lb cb : Nat) (sa sb : List UInt8) (ha : Byts w ao la ca sa) (hb : Byts w bo lb cb sb) :
    Calls Tryz.prog 180 #[.slice ao la ca, .slice bo lb cb] w fun e w' => e = .returned (.bool (decide (sa = sb))) ∧ Below w.heap.size w w' := by
  have hla : sa.length = la := by simpa using ha.hlen
  have hlb : sb.length = lb := by simpa using hb.hlen
  have hmx := ha.hmax
  have hca := ha.hcap
  have hle := ha.hle
  have hcb := hb.hcap
  have hleb := hb.hle
  by_cases hll : la = lb
  · subst hll
    go_enter Tryz.func180, Tryz.ntmps180
    go_wp2
    go_loopw [13, 5] (fun i _ wr => ∃ k : Nat, k ≤ la ∧ i = .int .i64 k ∧ Below w.heap.size w wr ∧ Hid (∀ j (hj : j < sa.length) (hj' : j < sb.length), j < k → sa[j] = sb[j])) (fun i _ _ => la - (intOf i).toNat)
    case atStart => exact ⟨0, Nat.zero_le _, rfl, Below.refl _ _, fun j hj _ h => absurd h (by omega)⟩
    case round =>
      obtain ⟨k, hk, rfl, hbr, hno⟩ := hrel
      by_cases hlt : k < la
      · obtain ⟨b1, off1, rfl⟩ := ha.addr hlt
        obtain ⟨b2, off2, rfl⟩ := hb.addr hlt
        have hc1 := (ha.below hbr (Nat.le_refl _)).at hlt
        have hc2 := (hb.below hbr (Nat.le_refl _)).at hlt
        rw [List.getElem_map] at hc1 hc2
        obtain ⟨x, hxk⟩ : ∃ x, x = (sa[k]'(by omega)).toNat := ⟨_, rfl⟩
        obtain ⟨y, hyk⟩ : ∃ y, y = (sb[k]'(by omega)).toNat := ⟨_, rfl⟩
        rw [← hxk] at hc1
        rw [← hyk] at hc2
        have HX := Lib.hid hxk; clear hxk
        have HY := Lib.hid hyk; clear hyk
        have hkp : (0 : Int) ≤ (k : Int) := Int.natCast_nonneg _
        have hkl : (k : Int) < (la : Int) := by omega
        by_cases hs : x = y
        · have HS := Lib.hid hs
          have hT : ((x : Int) != (y : Int)) = false := by rw [hs]; simp
          have hT2 : ((x : Int) == (y : Int)) = true := by rw [hs]; simp
          clear hs
          go_wp2_with fail
          go_quiet (fail)
          go_wp2
          go_roundw
          case rel =>
            refine ⟨k + 1, by omega, by go_num, below_drewN hbr _, fun j hj hj' h => ?_⟩
            rcases Nat.lt_succ_iff_lt_or_eq.1 h with h | rfl
            · exact hno.out j hj hj' h
            · have hz := HX.out.symm.trans (HS.out.trans HY.out)
              exact UInt8.toNat.inj hz
          case measure => simp [intOf]; omega
        · have HS := Lib.hid hs
          have hT : ((x : Int) != (y : Int)) = true := by rw [bne_iff_ne]; omega
          have hT2 : ((x : Int) == (y : Int)) = false := by rw [beq_eq_false_iff_ne]; omega
          clear hs
          go_wp2_with fail
          go_quiet (fail)
          go_wp2
          go_ret
          refine ⟨ret_bool ?_, below_drewN hbr _⟩
          have : ¬ sa = sb := by
            intro e; subst e
            exact HS.out (HX.out.trans HY.out.symm)
          simp [this]
      · go_wp2
        go_ret
        refine ⟨ret_bool ?_, hbr⟩
        have : sa = sb := List.ext_getElem (by omega) (fun j h1 h2 => hno.out j h1 h2 (by omega))
        simp [this]
  · have hne : ((la : Int) != (lb : Int)) = true := by rw [bne_iff_ne]; omega
    go_enter Tryz.func180, Tryz.ntmps180
    go_wp2
    go_ret
    refine ⟨ret_bool ?_, Below.refl _ _⟩
    have : ¬ sa = sb := fun e => by subst e; omega
    simp [this]
set_option maxHeartbeats 2000000 in
set_option maxRecDepth 100000 in
theorem sleq_ints (w : World) (ao bo : Option Addr) (la ca lb cb : Nat) (sa sb : List Int) (ha : Nums w ao la ca sa) (hb : Nums w bo lb cb sb) :
    Calls Tryz.prog 181 #[.slice ao la ca, .slice bo lb cb] w fun e w' => e = .returned (.bool (decide (sa = sb))) ∧ Below w.heap.size w w' := by
  have hla : sa.length = la := by simpa using ha.hlen
  have hlb : sb.length = lb := by simpa using hb.hlen
  have hmx := ha.hmax
  have hca := ha.hcap
  have hle := ha.hle
  have hcb := hb.hcap
  have hleb := hb.hle
  by_cases hll : la = lb
  · subst hll
    go_enter Tryz.func181, Tryz.ntmps181
    go_wp2
    go_loopw [13, 5] (fun i _ wr => ∃ k : Nat, k ≤ la ∧ i = .int .i64 k ∧ Below w.heap.size w wr ∧ Hid (∀ j (hj : j < sa.length) (hj' : j < sb.length), j < k → sa[j] = sb[j])) (fun i _ _ => la - (intOf i).toNat)
    case atStart => exact ⟨0, Nat.zero_le _, rfl, Below.refl _ _, fun j hj _ h => absurd h (by omega)⟩
    case round =>
      obtain ⟨k, hk, rfl, hbr, hno⟩ := hrel
      by_cases hlt : k < la
      · obtain ⟨b1, off1, rfl⟩ := ha.addr hlt
        obtain ⟨b2, off2, rfl⟩ := hb.addr hlt
        have hc1 := (ha.below hbr (Nat.le_refl _)).at hlt
        have hc2 := (hb.below hbr (Nat.le_refl _)).at hlt
        rw [List.getElem_map] at hc1 hc2
        obtain ⟨x, hxk⟩ : ∃ x, x = sa[k]'(by omega) := ⟨_, rfl⟩
        obtain ⟨y, hyk⟩ : ∃ y, y = sb[k]'(by omega) := ⟨_, rfl⟩
        rw [← hxk] at hc1
        rw [← hyk] at hc2
        have HX := Lib.hid hxk; clear hxk
        have HY := Lib.hid hyk; clear hyk
        have hkp : (0 : Int) ≤ (k : Int) := Int.natCast_nonneg _
        have hkl : (k : Int) < (la : Int) := by omega
        by_cases hs : x = y
        · have HS := Lib.hid hs
          have hT : ((x : Int) != (y : Int)) = false := by rw [hs]; simp
          have hT2 : ((x : Int) == (y : Int)) = true := by rw [hs]; simp
          clear hs
          go_wp2_with fail
          go_quiet (fail)
          go_wp2
          go_roundw
          case rel =>
            refine ⟨k + 1, by omega, by go_num, below_drewN hbr _, fun j hj hj' h => ?_⟩
            rcases Nat.lt_succ_iff_lt_or_eq.1 h with h | rfl
            · exact hno.out j hj hj' h
            · have hz := HX.out.symm.trans (HS.out.trans HY.out)
              exact hz
          case measure => simp [intOf]; omega
        · have HS := Lib.hid hs
          have hT : ((x : Int) != (y : Int)) = true := by rw [bne_iff_ne]; omega
          have hT2 : ((x : Int) == (y : Int)) = false := by rw [beq_eq_false_iff_ne]; omega
          clear hs
          go_wp2_with fail
          go_quiet (fail)
          go_wp2
          go_ret
          refine ⟨ret_bool ?_, below_drewN hbr _⟩
          have : ¬ sa = sb := by
            intro e; subst e
            exact HS.out (HX.out.trans HY.out.symm)
          simp [this]
      · go_wp2
        go_ret
        refine ⟨ret_bool ?_, hbr⟩
        have : sa = sb := List.ext_getElem (by omega) (fun j h1 h2 => hno.out j h1 h2 (by omega))
        simp [this]
  · have hne : ((la : Int) != (lb : Int)) = true := by rw [bne_iff_ne]; omega
    go_enter Tryz.func181, Tryz.ntmps181
    go_wp2
    go_ret
    refine ⟨ret_bool ?_, Below.refl _ _⟩
    have : ¬ sa = sb := fun e => by subst e; omega
    simp [this]
set_option maxHeartbeats 2000000 in
set_option maxRecDepth 100000 in
theorem sleq_strs (w : World) (ao bo : Option Addr) (la ca lb cb : Nat) (sa sb : List ByteArray) (ha : Strs w ao la ca sa) (hb : Strs w bo lb cb sb) :
    Calls Tryz.prog 182 #[.slice ao la ca, .slice bo lb cb] w fun e w' => e = .returned (.bool (decide (sa = sb))) ∧ Below w.heap.size w w' := by
  have hla : sa.length = la := by simpa using ha.row.hlen
  have hlb : sb.length = lb := by simpa using hb.row.hlen
  have hmx := ha.row.hmax
  have hca := ha.row.hcap
  have hle := ha.row.hle
  have hcb := hb.row.hcap
  have hleb := hb.row.hle
  by_cases hll : la = lb
  · subst hll
    go_enter Tryz.func182, Tryz.ntmps182
    go_wp2
    go_loopw [13, 5] (fun i _ wr => ∃ k : Nat, k ≤ la ∧ i = .int .i64 k ∧ Below w.heap.size w wr ∧ Hid (∀ j (hj : j < sa.length) (hj' : j < sb.length), j < k → sa[j] = sb[j])) (fun i _ _ => la - (intOf i).toNat)
    case atStart => exact ⟨0, Nat.zero_le _, rfl, Below.refl _ _, fun j hj _ h => absurd h (by omega)⟩
    case round =>
      obtain ⟨k, hk, rfl, hbr, hno⟩ := hrel
      by_cases hlt : k < la
      · obtain ⟨b1, off1, rfl⟩ := ha.row.addr hlt
        obtain ⟨b2, off2, rfl⟩ := hb.row.addr hlt
        have hc1 := (ha.below hbr (Nat.le_refl _)).at hlt
        have hc2 := (hb.below hbr (Nat.le_refl _)).at hlt
        obtain ⟨x, hxk⟩ : ∃ x, x = sa[k]'(by omega) := ⟨_, rfl⟩
        obtain ⟨y, hyk⟩ : ∃ y, y = sb[k]'(by omega) := ⟨_, rfl⟩
        rw [← hxk] at hc1
        rw [← hyk] at hc2
        have HX := Lib.hid hxk; clear hxk
        have HY := Lib.hid hyk; clear hyk
        have hkp : (0 : Int) ≤ (k : Int) := Int.natCast_nonneg _
        have hkl : (k : Int) < (la : Int) := by omega
        by_cases hs : x = y
        · have HS := Lib.hid hs
          have hT : (x.toList == y.toList) = decide (x = y) := toList_beq _ _
          rw [decide_eq_true hs] at hT
          clear hs
          go_wp2_with fail
          go_quiet (fail)
          go_wp2
          go_roundw
          case rel =>
            refine ⟨k + 1, by omega, by go_num, below_drewN hbr _, fun j hj hj' h => ?_⟩
            rcases Nat.lt_succ_iff_lt_or_eq.1 h with h | rfl
            · exact hno.out j hj hj' h
            · have hz := HX.out.symm.trans (HS.out.trans HY.out)
              exact hz
          case measure => simp [intOf]; omega
        · have HS := Lib.hid hs
          have hT : (x.toList == y.toList) = decide (x = y) := toList_beq _ _
          rw [decide_eq_false hs] at hT
          clear hs
          go_wp2_with fail
          go_quiet (fail)
          go_wp2
          go_ret
          refine ⟨ret_bool ?_, below_drewN hbr _⟩
          have : ¬ sa = sb := by
            intro e; subst e
            exact HS.out (HX.out.trans HY.out.symm)
          simp [this]
      · go_wp2
        go_ret
        refine ⟨ret_bool ?_, hbr⟩
        have : sa = sb := List.ext_getElem (by omega) (fun j h1 h2 => hno.out j h1 h2 (by omega))
        simp [this]
  · have hne : ((la : Int) != (lb : Int)) = true := by rw [bne_iff_ne]; omega
    go_enter Tryz.func182, Tryz.ntmps182
    go_wp2
    go_ret
    refine ⟨ret_bool ?_, Below.refl _ _⟩
    have : ¬ sa = sb := fun e => by subst e; omega
    simp [this]
set_option maxHeartbeats 8000000 in
set_option maxRecDepth 100000 in
theorem dsame_any (w : World) (h1 h2 : DataH) (d1 d2 : DataP) (ha : IsData w h1 d1) (hb : IsData w h2 d2) :
    Calls Tryz.prog 156 #[.agg (dataC h1), .agg (dataC h2)] w fun e w' => e = .returned (.bool (sameD d1 d2)) ∧ Below w.heap.size w w' := by
  have hb1 : Below w.heap.size w (w.alloc (.cells (dataC h1) 98)) := (Below.refl _ _).alloc (Nat.le_refl _) _
  have hs1 : (w.alloc (.cells (dataC h1) 98)).heap.size = w.heap.size + 1 := by simp
  have hb2 : Below w.heap.size w ((w.alloc (.cells (dataC h1) 98)).alloc (.cells (dataC h2) 98)) := hb1.alloc (by omega) _
  have hA0 : Blk (w.alloc (.cells (dataC h1) 98)) w.heap.size (dataC h1) 98 := heap_alloc_new w _
  have HA := Lib.hid (hA0.on ((Below.refl _ _).alloc (Nat.le_refl _) (.cells (dataC h2) 98)))
  have HB := Lib.hid (show Blk ((w.alloc (.cells (dataC h1) 98)).alloc (.cells (dataC h2) 98)) (w.heap.size + 1) (dataC h2) 98 by rw [← hs1]; exact heap_alloc_new _ _)
  have HBE := Lib.hid hb2
  have H1 := Lib.hid (ha.on hb2)
  have H2 := Lib.hid (hb.on hb2)
  obtain ⟨S0, hS0⟩ : ∃ S, S = decide (d1.bytes = d2.bytes) := ⟨_, rfl⟩
  obtain ⟨S1, hS1⟩ : ∃ S, S = decide (d1.nums = d2.nums) := ⟨_, rfl⟩
  obtain ⟨S2, hS2⟩ : ∃ S, S = decide (d1.texts = d2.texts) := ⟨_, rfl⟩
  obtain ⟨S3, hS3⟩ : ∃ S, S = eqB d1.host d2.host := ⟨_, rfl⟩
  obtain ⟨S4, hS4⟩ : ∃ S, S = eqB d1.mail d2.mail := ⟨_, rfl⟩
  have HE := Lib.hid (show sameD d1 d2 = (S0 && (S1 && (S2 && (S3 && S4)))) by simp only [sameD, hS0, hS1, hS2, hS3, hS4])
  rw [HE.out]
  have HQ0 := Lib.hid (fun (w' : World) (a : IsData w' h1 d1) (b : IsData w' h2 d2) => sleq_byts w' _ _ _ _ _ _ _ _ a.bytes b.bytes)
  rw [← hS0] at HQ0
  have HQ1 := Lib.hid (fun (w' : World) (a : IsData w' h1 d1) (b : IsData w' h2 d2) => sleq_ints w' _ _ _ _ _ _ _ _ a.nums b.nums)
  rw [← hS1] at HQ1
  have HQ2 := Lib.hid (fun (w' : World) (a : IsData w' h1 d1) (b : IsData w' h2 d2) => sleq_strs w' _ _ _ _ _ _ _ _ a.texts b.texts)
  rw [← hS2] at HQ2
  have HQ3 := Lib.hid (fun (w' : World) (a : IsData w' h1 d1) (b : IsData w' h2 d2) => equal_any w' _ _ _ _ _ _ _ _ a.host b.host)
  rw [← hS3] at HQ3
  have HQ4 := Lib.hid (fun (w' : World) (a : IsData w' h1 d1) (b : IsData w' h2 d2) => equal_any w' _ _ _ _ _ _ _ _ a.mail b.mail)
  rw [← hS4] at HQ4
  clear hb1 hs1 hb2 hA0 ha hb HE hS0 hS1 hS2 hS3 hS4
  obtain ⟨ba, bl, bc, ha', hl, hc, ma, ml, mc, na, nl, nc, ta, tl, tc⟩ := h1
  obtain ⟨ba2, bl2, bc2, ha2, hl2, hc2, ma2, ml2, mc2, na2, nl2, nc2, ta2, tl2, tc2⟩ := h2
  simp only [dataC] at HA HB HBE H1 H2 HQ0 HQ1 HQ2 HQ3 HQ4
  go_enter Tryz.func156, Tryz.ntmps156
  simp only [dataC]
  have a0 := HA.out.cell 0
  have b0 := HB.out.cell 0
  simp at a0 b0
  go_wp2_with fail
  clear a0 b0
  refine (HQ0.out _ H1.out H2.out).mono ?_
  rintro e w1 ⟨rfl, hb1⟩
  have HX1 := Lib.hid (hb1)
  clear hb1
  cases S0
  · go_wp2_with fail
    go_ret
    exact ⟨rfl, below_on HBE.out HX1.out (Nat.le_refl _)⟩
  have a1 := (HA.out.on HX1.out).cell 3
  have b1 := (HB.out.on HX1.out).cell 3
  simp at a1 b1
  go_wp2_with fail
  clear a1 b1
  refine (HQ1.out _ (H1.out.on HX1.out) (H2.out.on HX1.out)).mono ?_
  rintro e w2 ⟨rfl, hb2⟩
  have HX2 := Lib.hid (below_on HX1.out hb2 (Nat.le_refl _))
  clear hb2
  cases S1
  · go_wp2_with fail
    go_ret
    exact ⟨rfl, below_on HBE.out HX2.out (Nat.le_refl _)⟩
  have a2 := (HA.out.on HX2.out).cell 4
  have b2 := (HB.out.on HX2.out).cell 4
  simp at a2 b2
  go_wp2_with fail
  clear a2 b2
  refine (HQ2.out _ (H1.out.on HX2.out) (H2.out.on HX2.out)).mono ?_
  rintro e w3 ⟨rfl, hb3⟩
  have HX3 := Lib.hid (below_on HX2.out hb3 (Nat.le_refl _))
  clear hb3
  cases S2
  · go_wp2_with fail
    go_ret
    exact ⟨rfl, below_on HBE.out HX3.out (Nat.le_refl _)⟩
  have a3 := (HA.out.on HX3.out).cell 1
  have b3 := (HB.out.on HX3.out).cell 1
  simp at a3 b3
  go_wp2_with fail
  clear a3 b3
  refine (HQ3.out _ (H1.out.on HX3.out) (H2.out.on HX3.out)).mono ?_
  rintro e w4 ⟨rfl, hb4⟩
  have HX4 := Lib.hid (below_on HX3.out hb4 (Nat.le_refl _))
  clear hb4
  cases S3
  · go_wp2_with fail
    go_ret
    exact ⟨rfl, below_on HBE.out HX4.out (Nat.le_refl _)⟩
  have a4 := (HA.out.on HX4.out).cell 2
  have b4 := (HB.out.on HX4.out).cell 2
  simp at a4 b4
  go_wp2_with fail
  clear a4 b4
  refine (HQ4.out _ (H1.out.on HX4.out) (H2.out.on HX4.out)).mono ?_
  rintro e w5 ⟨rfl, hb5⟩
  have HX5 := Lib.hid (below_on HX4.out hb5 (Nat.le_refl _))
  clear hb5
  go_wp2_with fail
  go_ret
  exact ⟨ret_bool (by simp), below_on HBE.out HX5.out (Nat.le_refl _)⟩
end Go.Proofs.YtgfibbjifbghdaaGreat

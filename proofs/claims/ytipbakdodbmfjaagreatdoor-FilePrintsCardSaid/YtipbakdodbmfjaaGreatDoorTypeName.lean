/- Contracts of file.number and of the two TypeName: a word that is a number; how a type is called. -/
import Derived.Test.YtipbakdodbmfjaaGreatDoorTypes
import Derived.Test.YtipbakdodbmfjaaGreatDoorNumber
import Derived.Test.YtipbakdodbmfjaaGreatDoorDec
import Derived.Test.YtipbakdodbmfjaaGreatDoorRtext
import Derived.Deep.MidRow
import Derived.Lib.ItoaLen
namespace Go.Proofs.YtipbakdodbmfjaaGreatDoor
open Go.ChangeShapes Go.WideShapes Go.ChangeAt Go.RowKit

/-- a number from 0 to m -/
def okN (r : Option Int) (m : Int) : Bool := match r with | some u => decide (0 ≤ u) && decide (u ≤ m) | none => false
def NumF (w : World) (r : Option Int) (m : Int) (e : Ending) (w' : World) : Prop :=
  Below w.heap.size w w' ∧ ∃ v : Int, e = .returned (.tuple #[.int .i64 v, .bool (okN r m)]) ∧ (okN r m = true → r = some v)
set_option maxHeartbeats 1000000 in
set_option maxRecDepth 100000 in
theorem numf_any (w : World) (s : ByteArray) (m : Int) (hs : s.size ≤ 1099511627776) (hE : Env w) :
    Calls Tryz.prog 43 #[.string s, .int .i64 m] w (NumF w (numP s.data.toList) m) := by
  obtain ⟨⟨t1, p1, he1⟩, ⟨t2, p2, he2⟩⟩ := hE.errs
  have HE1 := Lib.hid he1; clear he1
  have HE2 := Lib.hid he2; clear he2
  cases ha : Lib.atoiAll s.data.toList with
  | ok v =>
    have hb := Lib.atoiAll_bounds ha
    have HA := Lib.hid (Tryz.strconv_Atoi_ok s (by omega) v ha w)
    have hbe := str_beq (Lib.itoa v) s
    have hr : numP s.data.toList = if Lib.itoa v = s.data.toList then some v else none := by unfold numP; rw [ha]
    obtain ⟨b, hbv⟩ : ∃ b, decide (Lib.itoa v = s.data.toList) = b := ⟨_, rfl⟩
    rw [hbv] at hbe
    have HR : Hid (numP s.data.toList = if b then some v else none) := by
      show numP _ = _
      rw [hr, ← hbv]
      by_cases h : Lib.itoa v = s.data.toList <;> simp [h]
    obtain ⟨t, ht⟩ : ∃ t : ByteArray, t = ⟨(Lib.itoa v).toArray⟩ := ⟨_, rfl⟩
    have HF := Lib.hid (fun (w' : World) (h : Env w') => itoa_below hb.1 hb.2 h.tab)
    rw [← ht] at hbe HF
    have HOK : Hid (okN (numP s.data.toList) m = (b && (decide (0 ≤ v) && decide (v ≤ m)))) := by
      show okN _ _ = _
      rw [HR.out]
      cases b <;> rfl
    have HSV : Hid (b = true → numP s.data.toList = some v) := by intro h; rw [HR.out, h]; rfl
    have HEN := Lib.hid hE
    clear ha hr hbv HR ht hb hE
    by_cases h0 : 0 ≤ v
    · have d0 : decide (0 ≤ v) = true := by rw [decide_eq_true_eq]; exact h0
      by_cases h1 : v ≤ m
      · have d1 : decide (v ≤ m) = true := by rw [decide_eq_true_eq]; exact h1
        rw [Hid, d0, d1] at HOK
        have HOK2 := Lib.hid HOK
        clear HOK h0 h1
        go_enter Tryz.func43, Tryz.ntmps43
        go_wp2_with fail
        refine HA.out.mono ?_
        rintro e w1 ⟨rfl, hw1⟩
        have HB1 := Lib.hid (below_atoi hw1)
        clear hw1
        go_wp2_with fail
        refine (HF.out _ (HEN.out.on HB1.out)).mono ?_
        rintro e w3 ⟨rfl, hb3⟩
        have HB3 := Lib.hid (below_on HB1.out hb3 (Nat.le_refl _))
        clear hb3
        cases b
        · go_wp2
          go_ret2
          exact ⟨HB3.out, v, by rw [HOK2.out]; rfl, fun h => by rw [HOK2.out] at h; cases h⟩
        · go_wp2
          go_ret2
          exact ⟨HB3.out, v, by rw [HOK2.out]; rfl, fun _ => HSV.out (by first | rfl | trivial)⟩
      · have d1 : decide (v ≤ m) = false := by rw [decide_eq_false_iff_not]; exact h1
        have HOK2 : Hid (okN (numP s.data.toList) m = false) := by show _ = _; rw [HOK.out, d1]; cases b <;> simp
        clear HOK h0 h1
        go_enter Tryz.func43, Tryz.ntmps43
        go_wp2_with fail
        refine HA.out.mono ?_
        rintro e w1 ⟨rfl, hw1⟩
        have HB1 := Lib.hid (below_atoi hw1)
        clear hw1
        go_wp2_with fail
        go_ret2
        exact ⟨HB1.out, v, by rw [HOK2.out]; rfl, fun h => by rw [HOK2.out] at h; cases h⟩
    · have d0 : decide (0 ≤ v) = false := by rw [decide_eq_false_iff_not]; exact h0
      have HOK2 : Hid (okN (numP s.data.toList) m = false) := by show _ = _; rw [HOK.out, d0]; cases b <;> simp
      clear HOK h0
      go_enter Tryz.func43, Tryz.ntmps43
      go_wp2_with fail
      refine HA.out.mono ?_
      rintro e w1 ⟨rfl, hw1⟩
      have HB1 := Lib.hid (below_atoi hw1)
      clear hw1
      go_wp2_with fail
      go_ret2
      exact ⟨HB1.out, v, by rw [HOK2.out]; rfl, fun h => by rw [HOK2.out] at h; cases h⟩
  | «syntax» =>
    have HOK : Hid (okN (numP s.data.toList) m = false) := by show _ = _; unfold numP; rw [ha]; rfl
    have HA := Lib.hid (Tryz.strconv_Atoi_syntax s (by omega) ha _ w HE1.out (Or.inr ⟨_, _, rfl⟩))
    clear ha
    go_enter Tryz.func43, Tryz.ntmps43
    go_wp2_with fail
    refine HA.out.mono ?_
    rintro e w1 ⟨N, rfl, _, _, hb1⟩
    have HB1 := Lib.hid hb1
    clear hb1
    go_wp2_with fail
    go_ret2
    exact ⟨HB1.out, _, by rw [HOK.out]; rfl, fun h => by rw [HOK.out] at h; cases h⟩
  | range =>
    have HOK : Hid (okN (numP s.data.toList) m = false) := by show _ = _; unfold numP; rw [ha]; rfl
    have HA := Lib.hid (Tryz.strconv_Atoi_range s (by omega) ha _ w HE2.out (Or.inr ⟨_, _, rfl⟩))
    clear ha
    go_enter Tryz.func43, Tryz.ntmps43
    go_wp2_with fail
    refine HA.out.mono ?_
    rintro e w1 ⟨N, rfl, _, _, hb1⟩
    have HB1 := Lib.hid hb1
    clear hb1
    go_wp2_with fail
    go_ret2
    exact ⟨HB1.out, _, by rw [HOK.out]; rfl, fun h => by rw [HOK.out] at h; cases h⟩

theorem tname_out {k : Int} (h : k < 1 ∨ 65535 < k) : typeNameP k = [] := by unfold typeNameP; rw [if_pos h]
theorem tname_num {k : Int} (h1 : 1 ≤ k) (h2 : k ≤ 65535) (hn : ∀ t ∈ typesP, t.1 ≠ k) : typeNameP k = TYPEP ++ Lib.itoa k := by
  unfold typeNameP
  rw [if_neg (by omega)]
  have : typesP.find? (fun t => decide (t.1 = k)) = none := by
    rw [List.find?_eq_none]
    intro t ht h
    exact hn t ht (by simpa using h)
  rw [this]
theorem tname_at : ∀ t ∈ typesP, typeNameP t.1 = t.2 := by decide
theorem range_types {w : World} (hT : Types w) : w.rangeAt 0 0 typesV := fun j v hv => by
  rw [Nat.zero_add, hT j (List.getElem?_eq_some_iff.1 hv).1]; exact hv
theorem types_idx0 (w : World) : (Instr.index 75 (.agg typesV.toArray) (.int .i64 0)).run Tryz.prog w = .ok (.agg #[.int .i64 1, .string ⟨#[65]⟩]) w := by kernel_rfl
theorem types_idx1 (w : World) : (Instr.index 75 (.agg typesV.toArray) (.int .i64 1)).run Tryz.prog w = .ok (.agg #[.int .i64 2, .string ⟨#[78, 83]⟩]) w := by kernel_rfl
theorem types_idx2 (w : World) : (Instr.index 75 (.agg typesV.toArray) (.int .i64 2)).run Tryz.prog w = .ok (.agg #[.int .i64 5, .string ⟨#[67, 78, 65, 77, 69]⟩]) w := by kernel_rfl
theorem types_idx3 (w : World) : (Instr.index 75 (.agg typesV.toArray) (.int .i64 3)).run Tryz.prog w = .ok (.agg #[.int .i64 6, .string ⟨#[83, 79, 65]⟩]) w := by kernel_rfl
theorem types_idx4 (w : World) : (Instr.index 75 (.agg typesV.toArray) (.int .i64 4)).run Tryz.prog w = .ok (.agg #[.int .i64 12, .string ⟨#[80, 84, 82]⟩]) w := by kernel_rfl
theorem types_idx5 (w : World) : (Instr.index 75 (.agg typesV.toArray) (.int .i64 5)).run Tryz.prog w = .ok (.agg #[.int .i64 15, .string ⟨#[77, 88]⟩]) w := by kernel_rfl
theorem types_idx6 (w : World) : (Instr.index 75 (.agg typesV.toArray) (.int .i64 6)).run Tryz.prog w = .ok (.agg #[.int .i64 16, .string ⟨#[84, 88, 84]⟩]) w := by kernel_rfl
theorem types_idx7 (w : World) : (Instr.index 75 (.agg typesV.toArray) (.int .i64 7)).run Tryz.prog w = .ok (.agg #[.int .i64 28, .string ⟨#[65, 65, 65, 65]⟩]) w := by kernel_rfl
theorem types_idx8 (w : World) : (Instr.index 75 (.agg typesV.toArray) (.int .i64 8)).run Tryz.prog w = .ok (.agg #[.int .i64 33, .string ⟨#[83, 82, 86]⟩]) w := by kernel_rfl
set_option maxHeartbeats 4000000 in
set_option maxRecDepth 100000 in
theorem typename_any (w : World) (k : Int) (hk1 : -9223372036854775808 ≤ k) (hk2 : k ≤ 9223372036854775807) (hE : Env w) (hT : Types w) :
    Calls Tryz.prog 12 #[.int .i64 k] w fun e w' => e = .returned (.string ⟨(typeNameP k).toArray⟩) ∧ Below w.heap.size w w' := by
  by_cases hlo : k < 1
  · have d0 : decide (k < 1) = true := by rw [decide_eq_true_eq]; exact hlo
    have HN := Lib.hid (tname_out (Or.inl hlo))
    clear hlo
    go_enter Tryz.func12, Tryz.ntmps12
    go_wp2_with fail
    go_ret
    exact ⟨ret_str (by rw [HN.out]), Below.refl _ _⟩
  have d0 : decide (k < 1) = false := by rw [decide_eq_false_iff_not]; exact hlo
  by_cases hhi : 65535 < k
  · have d1 : decide (65535 < k) = true := by rw [decide_eq_true_eq]; exact hhi
    have HN := Lib.hid (tname_out (Or.inr hhi))
    clear hlo hhi
    go_enter Tryz.func12, Tryz.ntmps12
    go_wp2_with fail
    go_ret
    exact ⟨ret_str (by rw [HN.out]), Below.refl _ _⟩
  have d1 : decide (65535 < k) = false := by rw [decide_eq_false_iff_not]; exact hhi
  have HLO := Lib.hid hlo
  have HHI := Lib.hid hhi
  have HEN := Lib.hid hE
  have hld := Lib.hid (range_types hT)
  clear hlo hhi hE hT
  go_enter Tryz.func12, Tryz.ntmps12
  go_wp2_with (refine wpList_load_mid rfl 75 _ rfl 0 0 rfl typesV _ hld.out Tryz.underlying75 rfl (by kernel_rfl) ?_)
  go_loopw [12] (fun iv wr => ∃ i : Nat, i ≤ 9 ∧ iv = .int .i64 i ∧ Below w.heap.size w wr ∧ Hid (∀ t ∈ typesP.take i, t.1 ≠ k)) (fun iv _ => 9 - (intOf iv).toNat)
  case atStart => exact ⟨0, Nat.zero_le _, rfl, Below.refl _ _, fun t h => by simp at h⟩
  case round =>
    obtain ⟨i, hi, rfl, hbr, hno⟩ := hrel
    clear hld
    rcases (show i = 0 ∨ i = 1 ∨ i = 2 ∨ i = 3 ∨ i = 4 ∨ i = 5 ∨ i = 6 ∨ i = 7 ∨ i = 8 ∨ i = 9 by omega) with rfl | rfl | rfl | rfl | rfl | rfl | rfl | rfl | rfl | rfl
    · have ix := types_idx0
      by_cases hq : (1 : Int) = k
      · have q0 : ((1 : Int) == k) = true := by rw [beq_iff_eq]; exact hq
        have HN : Hid (typeNameP k = [65]) := by show _ = _; rw [← hq]; decide
        have HB := Lib.hid (hbr.alloc hbr.size (.cells #[.int .i64 1, .string ⟨#[65]⟩] 74))
        clear hq
        go_wp2_with fail
        go_ret
        exact ⟨ret_str (by rw [HN.out]), HB.out⟩
      · have q0 : ((1 : Int) == k) = false := by rw [beq_eq_false_iff_ne]; exact hq
        have HB := Lib.hid (hbr.alloc hbr.size (.cells #[.int .i64 1, .string ⟨#[65]⟩] 74))
        have HNO : Hid (∀ t ∈ typesP.take (0 + 1), t.1 ≠ k) := by
          intro t ht
          rw [List.take_succ_eq_append_getElem (by decide)] at ht
          rcases List.mem_append.1 ht with ht | ht
          · exact hno.out t ht
          · simp [typesP] at ht
            rw [ht]
            exact hq
        clear hq
        go_wp2_with fail
        go_roundw
        case rel => exact ⟨0 + 1, by omega, by go_num, HB.out, HNO.out⟩
        case measure => simp [intOf]
    · have ix := types_idx1
      by_cases hq : (2 : Int) = k
      · have q0 : ((2 : Int) == k) = true := by rw [beq_iff_eq]; exact hq
        have HN : Hid (typeNameP k = [78, 83]) := by show _ = _; rw [← hq]; decide
        have HB := Lib.hid (hbr.alloc hbr.size (.cells #[.int .i64 2, .string ⟨#[78, 83]⟩] 74))
        clear hq
        go_wp2_with fail
        go_ret
        exact ⟨ret_str (by rw [HN.out]), HB.out⟩
      · have q0 : ((2 : Int) == k) = false := by rw [beq_eq_false_iff_ne]; exact hq
        have HB := Lib.hid (hbr.alloc hbr.size (.cells #[.int .i64 2, .string ⟨#[78, 83]⟩] 74))
        have HNO : Hid (∀ t ∈ typesP.take (1 + 1), t.1 ≠ k) := by
          intro t ht
          rw [List.take_succ_eq_append_getElem (by decide)] at ht
          rcases List.mem_append.1 ht with ht | ht
          · exact hno.out t ht
          · simp [typesP] at ht
            rw [ht]
            exact hq
        clear hq
        go_wp2_with fail
        go_roundw
        case rel => exact ⟨1 + 1, by omega, by go_num, HB.out, HNO.out⟩
        case measure => simp [intOf]
    · have ix := types_idx2
      by_cases hq : (5 : Int) = k
      · have q0 : ((5 : Int) == k) = true := by rw [beq_iff_eq]; exact hq
        have HN : Hid (typeNameP k = [67, 78, 65, 77, 69]) := by show _ = _; rw [← hq]; decide
        have HB := Lib.hid (hbr.alloc hbr.size (.cells #[.int .i64 5, .string ⟨#[67, 78, 65, 77, 69]⟩] 74))
        clear hq
        go_wp2_with fail
        go_ret
        exact ⟨ret_str (by rw [HN.out]), HB.out⟩
      · have q0 : ((5 : Int) == k) = false := by rw [beq_eq_false_iff_ne]; exact hq
        have HB := Lib.hid (hbr.alloc hbr.size (.cells #[.int .i64 5, .string ⟨#[67, 78, 65, 77, 69]⟩] 74))
        have HNO : Hid (∀ t ∈ typesP.take (2 + 1), t.1 ≠ k) := by
          intro t ht
          rw [List.take_succ_eq_append_getElem (by decide)] at ht
          rcases List.mem_append.1 ht with ht | ht
          · exact hno.out t ht
          · simp [typesP] at ht
            rw [ht]
            exact hq
        clear hq
        go_wp2_with fail
        go_roundw
        case rel => exact ⟨2 + 1, by omega, by go_num, HB.out, HNO.out⟩
        case measure => simp [intOf]
    · have ix := types_idx3
      by_cases hq : (6 : Int) = k
      · have q0 : ((6 : Int) == k) = true := by rw [beq_iff_eq]; exact hq
        have HN : Hid (typeNameP k = [83, 79, 65]) := by show _ = _; rw [← hq]; decide
        have HB := Lib.hid (hbr.alloc hbr.size (.cells #[.int .i64 6, .string ⟨#[83, 79, 65]⟩] 74))
        clear hq
        go_wp2_with fail
        go_ret
        exact ⟨ret_str (by rw [HN.out]), HB.out⟩
      · have q0 : ((6 : Int) == k) = false := by rw [beq_eq_false_iff_ne]; exact hq
        have HB := Lib.hid (hbr.alloc hbr.size (.cells #[.int .i64 6, .string ⟨#[83, 79, 65]⟩] 74))
        have HNO : Hid (∀ t ∈ typesP.take (3 + 1), t.1 ≠ k) := by
          intro t ht
          rw [List.take_succ_eq_append_getElem (by decide)] at ht
          rcases List.mem_append.1 ht with ht | ht
          · exact hno.out t ht
          · simp [typesP] at ht
            rw [ht]
            exact hq
        clear hq
        go_wp2_with fail
        go_roundw
        case rel => exact ⟨3 + 1, by omega, by go_num, HB.out, HNO.out⟩
        case measure => simp [intOf]
    · have ix := types_idx4
      by_cases hq : (12 : Int) = k
      · have q0 : ((12 : Int) == k) = true := by rw [beq_iff_eq]; exact hq
        have HN : Hid (typeNameP k = [80, 84, 82]) := by show _ = _; rw [← hq]; decide
        have HB := Lib.hid (hbr.alloc hbr.size (.cells #[.int .i64 12, .string ⟨#[80, 84, 82]⟩] 74))
        clear hq
        go_wp2_with fail
        go_ret
        exact ⟨ret_str (by rw [HN.out]), HB.out⟩
      · have q0 : ((12 : Int) == k) = false := by rw [beq_eq_false_iff_ne]; exact hq
        have HB := Lib.hid (hbr.alloc hbr.size (.cells #[.int .i64 12, .string ⟨#[80, 84, 82]⟩] 74))
        have HNO : Hid (∀ t ∈ typesP.take (4 + 1), t.1 ≠ k) := by
          intro t ht
          rw [List.take_succ_eq_append_getElem (by decide)] at ht
          rcases List.mem_append.1 ht with ht | ht
          · exact hno.out t ht
          · simp [typesP] at ht
            rw [ht]
            exact hq
        clear hq
        go_wp2_with fail
        go_roundw
        case rel => exact ⟨4 + 1, by omega, by go_num, HB.out, HNO.out⟩
        case measure => simp [intOf]
    · have ix := types_idx5
      by_cases hq : (15 : Int) = k
      · have q0 : ((15 : Int) == k) = true := by rw [beq_iff_eq]; exact hq
        have HN : Hid (typeNameP k = [77, 88]) := by show _ = _; rw [← hq]; decide
        have HB := Lib.hid (hbr.alloc hbr.size (.cells #[.int .i64 15, .string ⟨#[77, 88]⟩] 74))
        clear hq
        go_wp2_with fail
        go_ret
        exact ⟨ret_str (by rw [HN.out]), HB.out⟩
      · have q0 : ((15 : Int) == k) = false := by rw [beq_eq_false_iff_ne]; exact hq
        have HB := Lib.hid (hbr.alloc hbr.size (.cells #[.int .i64 15, .string ⟨#[77, 88]⟩] 74))
        have HNO : Hid (∀ t ∈ typesP.take (5 + 1), t.1 ≠ k) := by
          intro t ht
          rw [List.take_succ_eq_append_getElem (by decide)] at ht
          rcases List.mem_append.1 ht with ht | ht
          · exact hno.out t ht
          · simp [typesP] at ht
            rw [ht]
            exact hq
        clear hq
        go_wp2_with fail
        go_roundw
        case rel => exact ⟨5 + 1, by omega, by go_num, HB.out, HNO.out⟩
        case measure => simp [intOf]
    · have ix := types_idx6
      by_cases hq : (16 : Int) = k
      · have q0 : ((16 : Int) == k) = true := by rw [beq_iff_eq]; exact hq
        have HN : Hid (typeNameP k = [84, 88, 84]) := by show _ = _; rw [← hq]; decide
        have HB := Lib.hid (hbr.alloc hbr.size (.cells #[.int .i64 16, .string ⟨#[84, 88, 84]⟩] 74))
        clear hq
        go_wp2_with fail
        go_ret
        exact ⟨ret_str (by rw [HN.out]), HB.out⟩
      · have q0 : ((16 : Int) == k) = false := by rw [beq_eq_false_iff_ne]; exact hq
        have HB := Lib.hid (hbr.alloc hbr.size (.cells #[.int .i64 16, .string ⟨#[84, 88, 84]⟩] 74))
        have HNO : Hid (∀ t ∈ typesP.take (6 + 1), t.1 ≠ k) := by
          intro t ht
          rw [List.take_succ_eq_append_getElem (by decide)] at ht
          rcases List.mem_append.1 ht with ht | ht
          · exact hno.out t ht
          · simp [typesP] at ht
            rw [ht]
            exact hq
        clear hq
        go_wp2_with fail
        go_roundw
        case rel => exact ⟨6 + 1, by omega, by go_num, HB.out, HNO.out⟩
        case measure => simp [intOf]
    · have ix := types_idx7
      by_cases hq : (28 : Int) = k
      · have q0 : ((28 : Int) == k) = true := by rw [beq_iff_eq]; exact hq
        have HN : Hid (typeNameP k = [65, 65, 65, 65]) := by show _ = _; rw [← hq]; decide
        have HB := Lib.hid (hbr.alloc hbr.size (.cells #[.int .i64 28, .string ⟨#[65, 65, 65, 65]⟩] 74))
        clear hq
        go_wp2_with fail
        go_ret
        exact ⟨ret_str (by rw [HN.out]), HB.out⟩
      · have q0 : ((28 : Int) == k) = false := by rw [beq_eq_false_iff_ne]; exact hq
        have HB := Lib.hid (hbr.alloc hbr.size (.cells #[.int .i64 28, .string ⟨#[65, 65, 65, 65]⟩] 74))
        have HNO : Hid (∀ t ∈ typesP.take (7 + 1), t.1 ≠ k) := by
          intro t ht
          rw [List.take_succ_eq_append_getElem (by decide)] at ht
          rcases List.mem_append.1 ht with ht | ht
          · exact hno.out t ht
          · simp [typesP] at ht
            rw [ht]
            exact hq
        clear hq
        go_wp2_with fail
        go_roundw
        case rel => exact ⟨7 + 1, by omega, by go_num, HB.out, HNO.out⟩
        case measure => simp [intOf]
    · have ix := types_idx8
      by_cases hq : (33 : Int) = k
      · have q0 : ((33 : Int) == k) = true := by rw [beq_iff_eq]; exact hq
        have HN : Hid (typeNameP k = [83, 82, 86]) := by show _ = _; rw [← hq]; decide
        have HB := Lib.hid (hbr.alloc hbr.size (.cells #[.int .i64 33, .string ⟨#[83, 82, 86]⟩] 74))
        clear hq
        go_wp2_with fail
        go_ret
        exact ⟨ret_str (by rw [HN.out]), HB.out⟩
      · have q0 : ((33 : Int) == k) = false := by rw [beq_eq_false_iff_ne]; exact hq
        have HB := Lib.hid (hbr.alloc hbr.size (.cells #[.int .i64 33, .string ⟨#[83, 82, 86]⟩] 74))
        have HNO : Hid (∀ t ∈ typesP.take (8 + 1), t.1 ≠ k) := by
          intro t ht
          rw [List.take_succ_eq_append_getElem (by decide)] at ht
          rcases List.mem_append.1 ht with ht | ht
          · exact hno.out t ht
          · simp [typesP] at ht
            rw [ht]
            exact hq
        clear hq
        go_wp2_with fail
        go_roundw
        case rel => exact ⟨8 + 1, by omega, by go_num, HB.out, HNO.out⟩
        case measure => simp [intOf]
    · have HN := Lib.hid (tname_num (by have := HLO.out; omega) (by have := HHI.out; omega) (fun t ht => hno.out t (by rw [List.take_of_length_le (by decide)]; exact ht)))
      have hz := Lib.itoa_length_le k hk1 hk2
      obtain ⟨D, hD⟩ : ∃ D : ByteArray, D = ⟨(Lib.itoa k).toArray⟩ := ⟨_, rfl⟩
      have hDs : D.size ≤ 21 := by rw [hD]; simp [ByteArray.size]; exact hz
      have hcall := itoa_below (w := wr) hk1 hk2 (HEN.out.on hbr).tab
      rw [← hD] at hcall
      have HCALL := Lib.hid hcall
      have HD := Lib.hid hD
      clear hz hD hcall
      go_wp2_with fail
      refine HCALL.out.mono ?_
      rintro e w3 ⟨rfl, hb3⟩
      have HB3 := Lib.hid (below_on hbr hb3 (Nat.le_refl _))
      clear hb3
      go_wp2_with fail
      go_ret
      refine ⟨ret_str (bytes_eq _ _ ?_), HB3.out⟩
      rw [HN.out, cat_list (la := TYPEP) (lb := Lib.itoa k) rfl (by rw [HD.out])]
set_option maxHeartbeats 4000000 in
set_option maxRecDepth 100000 in
theorem rtypename_any (w : World) (k : Int) (hk1 : -9223372036854775808 ≤ k) (hk2 : k ≤ 9223372036854775807) :
    Calls Tryz.prog 14 #[.int .i64 k] w fun e w' => e = .returned (.string ⟨(typeNameP k).toArray⟩) ∧ Below w.heap.size w w' := by
  by_cases hlo : k < 1
  · have d0 : decide (k < 1) = true := by rw [decide_eq_true_eq]; exact hlo
    have HN := Lib.hid (tname_out (Or.inl hlo))
    clear hlo
    go_enter Tryz.func14, Tryz.ntmps14
    go_wp2_with fail
    go_ret
    exact ⟨ret_str (by rw [HN.out]), Below.refl _ _⟩
  have d0 : decide (k < 1) = false := by rw [decide_eq_false_iff_not]; exact hlo
  by_cases hhi : 65535 < k
  · have d1 : decide (65535 < k) = true := by rw [decide_eq_true_eq]; exact hhi
    have HN := Lib.hid (tname_out (Or.inr hhi))
    clear hlo hhi
    go_enter Tryz.func14, Tryz.ntmps14
    go_wp2_with fail
    go_ret
    exact ⟨ret_str (by rw [HN.out]), Below.refl _ _⟩
  have d1 : decide (65535 < k) = false := by rw [decide_eq_false_iff_not]; exact hhi
  by_cases hq1 : k = 1
  · have q1 : (k == 1) = true := by rw [beq_iff_eq]; exact hq1
    have HN : Hid (typeNameP k = [65]) := by show _ = _; rw [hq1]; decide
    clear hq1 hlo hhi
    go_enter Tryz.func14, Tryz.ntmps14
    go_wp2_with fail
    go_ret
    exact ⟨ret_str (by rw [HN.out]), Below.refl _ _⟩
  have q1 : (k == 1) = false := by rw [beq_eq_false_iff_ne]; exact hq1
  by_cases hq2 : k = 2
  · have q2 : (k == 2) = true := by rw [beq_iff_eq]; exact hq2
    have HN : Hid (typeNameP k = [78, 83]) := by show _ = _; rw [hq2]; decide
    clear hq2 hlo hhi
    go_enter Tryz.func14, Tryz.ntmps14
    go_wp2_with fail
    go_ret
    exact ⟨ret_str (by rw [HN.out]), Below.refl _ _⟩
  have q2 : (k == 2) = false := by rw [beq_eq_false_iff_ne]; exact hq2
  by_cases hq5 : k = 5
  · have q5 : (k == 5) = true := by rw [beq_iff_eq]; exact hq5
    have HN : Hid (typeNameP k = [67, 78, 65, 77, 69]) := by show _ = _; rw [hq5]; decide
    clear hq5 hlo hhi
    go_enter Tryz.func14, Tryz.ntmps14
    go_wp2_with fail
    go_ret
    exact ⟨ret_str (by rw [HN.out]), Below.refl _ _⟩
  have q5 : (k == 5) = false := by rw [beq_eq_false_iff_ne]; exact hq5
  by_cases hq6 : k = 6
  · have q6 : (k == 6) = true := by rw [beq_iff_eq]; exact hq6
    have HN : Hid (typeNameP k = [83, 79, 65]) := by show _ = _; rw [hq6]; decide
    clear hq6 hlo hhi
    go_enter Tryz.func14, Tryz.ntmps14
    go_wp2_with fail
    go_ret
    exact ⟨ret_str (by rw [HN.out]), Below.refl _ _⟩
  have q6 : (k == 6) = false := by rw [beq_eq_false_iff_ne]; exact hq6
  by_cases hq12 : k = 12
  · have q12 : (k == 12) = true := by rw [beq_iff_eq]; exact hq12
    have HN : Hid (typeNameP k = [80, 84, 82]) := by show _ = _; rw [hq12]; decide
    clear hq12 hlo hhi
    go_enter Tryz.func14, Tryz.ntmps14
    go_wp2_with fail
    go_ret
    exact ⟨ret_str (by rw [HN.out]), Below.refl _ _⟩
  have q12 : (k == 12) = false := by rw [beq_eq_false_iff_ne]; exact hq12
  by_cases hq15 : k = 15
  · have q15 : (k == 15) = true := by rw [beq_iff_eq]; exact hq15
    have HN : Hid (typeNameP k = [77, 88]) := by show _ = _; rw [hq15]; decide
    clear hq15 hlo hhi
    go_enter Tryz.func14, Tryz.ntmps14
    go_wp2_with fail
    go_ret
    exact ⟨ret_str (by rw [HN.out]), Below.refl _ _⟩
  have q15 : (k == 15) = false := by rw [beq_eq_false_iff_ne]; exact hq15
  by_cases hq16 : k = 16
  · have q16 : (k == 16) = true := by rw [beq_iff_eq]; exact hq16
    have HN : Hid (typeNameP k = [84, 88, 84]) := by show _ = _; rw [hq16]; decide
    clear hq16 hlo hhi
    go_enter Tryz.func14, Tryz.ntmps14
    go_wp2_with fail
    go_ret
    exact ⟨ret_str (by rw [HN.out]), Below.refl _ _⟩
  have q16 : (k == 16) = false := by rw [beq_eq_false_iff_ne]; exact hq16
  by_cases hq28 : k = 28
  · have q28 : (k == 28) = true := by rw [beq_iff_eq]; exact hq28
    have HN : Hid (typeNameP k = [65, 65, 65, 65]) := by show _ = _; rw [hq28]; decide
    clear hq28 hlo hhi
    go_enter Tryz.func14, Tryz.ntmps14
    go_wp2_with fail
    go_ret
    exact ⟨ret_str (by rw [HN.out]), Below.refl _ _⟩
  have q28 : (k == 28) = false := by rw [beq_eq_false_iff_ne]; exact hq28
  by_cases hq33 : k = 33
  · have q33 : (k == 33) = true := by rw [beq_iff_eq]; exact hq33
    have HN : Hid (typeNameP k = [83, 82, 86]) := by show _ = _; rw [hq33]; decide
    clear hq33 hlo hhi
    go_enter Tryz.func14, Tryz.ntmps14
    go_wp2_with fail
    go_ret
    exact ⟨ret_str (by rw [HN.out]), Below.refl _ _⟩
  have q33 : (k == 33) = false := by rw [beq_eq_false_iff_ne]; exact hq33
  have HN := Lib.hid (tname_num (k := k) (by omega) (by omega) (by
    intro t ht h
    have : ∀ t ∈ typesP, t.1 = 1 ∨ t.1 = 2 ∨ t.1 = 5 ∨ t.1 = 6 ∨ t.1 = 12 ∨ t.1 = 15 ∨ t.1 = 16 ∨ t.1 = 28 ∨ t.1 = 33 := by decide
    have := this t ht
    omega))
  have hz := Lib.itoa_length_le k hk1 hk2
  obtain ⟨D, hD⟩ : ∃ D : ByteArray, D = ⟨(Lib.itoa k).toArray⟩ := ⟨_, rfl⟩
  have hDs : D.size ≤ 21 := by rw [hD]; simp [ByteArray.size]; exact hz
  have hcall := dec_any w k hk1 hk2
  rw [← hD] at hcall
  have HCALL := Lib.hid hcall
  have HD := Lib.hid hD
  clear hz hD hcall hlo hhi hq1 hq2 hq5 hq6 hq12 hq15 hq16 hq28 hq33
  go_enter Tryz.func14, Tryz.ntmps14
  go_wp2_with fail
  refine HCALL.out.mono ?_
  rintro e w3 ⟨rfl, hb3⟩
  have HB3 := Lib.hid hb3
  clear hb3
  go_wp2_with fail
  go_ret
  refine ⟨ret_str (bytes_eq _ _ ?_), HB3.out⟩
  rw [HN.out, cat_list (la := TYPEP) (lb := Lib.itoa k) rfl (by rw [HD.out])]
end Go.Proofs.YtipbakdodbmfjaaGreatDoor

/- Contracts of file.Type and of the reference's Number and Type: which type is called so. -/
import Derived.Test.YtipbakdodbmfjaaGreatDoorTypeName
import Derived.Test.YtipbakdodbmfjaaGreatDoorUpper
namespace Go.Proofs.YtipbakdodbmfjaaGreatDoor
open Go.ChangeShapes Go.WideShapes Go.ChangeAt Go.RowKit

theorem typeP_at {s : List UInt8} (h : ∀ t ∈ typesP, t.2 ≠ upP s) : typeP s = if TYPEP.isPrefixOf (upP s) = true then numT ((upP s).drop 4) else 0 := by
  unfold typeP
  have : typesP.find? (fun t => decide (t.2 = upP s)) = none := by
    rw [List.find?_eq_none]
    intro t ht h2
    exact h t ht (by simpa using h2)
  rw [this]
theorem typeP_hit {s : List UInt8} {k : Int} {n : List UInt8} (hf : typesP.find? (fun t => decide (t.2 = n)) = some (k, n)) (h : n = upP s) : typeP s = k := by
  unfold typeP
  rw [← h, hf]
theorem numT_ok (w : List UInt8) : numT w = if okN (numP w) 65535 = true then (numP w).getD 0 else 0 := by
  unfold numT okN
  cases numP w with
  | none => rfl
  | some v =>
    simp only [Option.getD, Bool.and_eq_true, decide_eq_true_eq]
    by_cases h : 1 ≤ v ∧ v ≤ 65535
    · rw [if_pos h, if_pos (by omega)]
    · by_cases h2 : 0 ≤ v ∧ v ≤ 65535
      · rw [if_neg h, if_pos h2]; omega
      · rw [if_neg h, if_neg h2]
/-- what Type hands back -/
def TypeRes (w : World) (k : Int) (e : Ending) (w' : World) : Prop := Below w.heap.size w w' ∧ e = .returned (.tuple #[.int .i64 k, .bool (decide (k ≠ 0))])
set_option maxHeartbeats 4000000 in
set_option maxRecDepth 100000 in
theorem type_any (w : World) (s : ByteArray) (hs : s.size ≤ 1099511627776) (hE : Env w) (hT : Types w) :
    Calls Tryz.prog 13 #[.string s] w (TypeRes w (typeP s.data.toList)) := by
  obtain ⟨R, hR⟩ : ∃ R, R = typeP s.data.toList := ⟨_, rfl⟩
  rw [← hR]
  have HR := Lib.hid hR
  have HUP := Lib.hid (upper_any w s (by omega))
  obtain ⟨U, hU⟩ : ∃ z : ByteArray, z = ⟨(upP s.data.toList).toArray⟩ := ⟨_, rfl⟩
  have hUd : U.data.toList = upP s.data.toList := by rw [hU]
  have hUs : U.size ≤ 1099511627776 := by
    have h1 : U.data.toList.length = U.size := by simp
    rw [hUd] at h1
    simp [upP] at h1
    omega
  rw [← hU] at HUP
  have HUD := Lib.hid hUd
  have HEN := Lib.hid hE
  have HTY := Lib.hid hT
  clear hR hU hUd hE hT
  go_enter Tryz.func13, Tryz.ntmps13
  go_wp2_with fail
  refine HUP.out.mono ?_
  rintro e w1 ⟨rfl, hb1⟩
  have HB1 := Lib.hid hb1
  have hld := Lib.hid (range_types (HTY.out.on hb1))
  clear hb1
  go_wp2_with (refine wpList_load_mid rfl 75 _ rfl 0 0 rfl typesV _ hld.out Tryz.underlying75 rfl (by kernel_rfl) ?_)
  clear hld
  go_loopw [12] (fun iv wr => ∃ i : Nat, i ≤ 9 ∧ iv = .int .i64 i ∧ Below w1.heap.size w1 wr ∧ Hid (∀ t ∈ typesP.take i, t.2 ≠ upP s.data.toList)) (fun iv _ => 9 - (intOf iv).toNat)
  case atStart => exact ⟨0, Nat.zero_le _, rfl, Below.refl _ _, fun t h => by simp at h⟩
  case round =>
    obtain ⟨i, hi, rfl, hbr, hno⟩ := hrel
    have HBR := Lib.hid (below_on HB1.out hbr (Nat.le_refl _))
    rcases (show i = 0 ∨ i = 1 ∨ i = 2 ∨ i = 3 ∨ i = 4 ∨ i = 5 ∨ i = 6 ∨ i = 7 ∨ i = 8 ∨ i = 9 by omega) with rfl | rfl | rfl | rfl | rfl | rfl | rfl | rfl | rfl | rfl
    · have ix := types_idx0
      have hbe := str_beq [65] U
      rw [HUD.out] at hbe
      by_cases hq : ([65] : List UInt8) = upP s.data.toList
      · rw [decide_eq_true hq] at hbe
        have q0 : (([65] : List UInt8) == U.toList) = true := by rw [← hbe, ByteArray.toList_eq ⟨#[65]⟩]
        have HRR : Hid (R = 1) := by show _ = _; rw [HR.out]; exact typeP_hit (by decide) hq
        have HB := Lib.hid (HBR.out.alloc HBR.out.size (.cells #[.int .i64 1, .string ⟨#[65]⟩] 74))
        clear hq hbe
        go_wp2_with fail
        go_ret2
        exact ⟨HB.out, by rw [HRR.out]; rfl⟩
      · rw [decide_eq_false hq] at hbe
        have q0 : (([65] : List UInt8) == U.toList) = false := by rw [← hbe, ByteArray.toList_eq ⟨#[65]⟩]
        have HB := Lib.hid (hbr.alloc hbr.size (.cells #[.int .i64 1, .string ⟨#[65]⟩] 74))
        have HNO : Hid (∀ t ∈ typesP.take (0 + 1), t.2 ≠ upP s.data.toList) := by
          intro t ht
          rw [List.take_succ_eq_append_getElem (by decide)] at ht
          rcases List.mem_append.1 ht with ht | ht
          · exact hno.out t ht
          · simp [typesP] at ht
            rw [ht]
            exact hq
        clear hq hbe
        go_wp2_with fail
        go_roundw
        case rel => exact ⟨0 + 1, by omega, by go_num, HB.out, HNO.out⟩
        case measure => simp [intOf]
    · have ix := types_idx1
      have hbe := str_beq [78, 83] U
      rw [HUD.out] at hbe
      by_cases hq : ([78, 83] : List UInt8) = upP s.data.toList
      · rw [decide_eq_true hq] at hbe
        have q0 : (([78, 83] : List UInt8) == U.toList) = true := by rw [← hbe, ByteArray.toList_eq ⟨#[78, 83]⟩]
        have HRR : Hid (R = 2) := by show _ = _; rw [HR.out]; exact typeP_hit (by decide) hq
        have HB := Lib.hid (HBR.out.alloc HBR.out.size (.cells #[.int .i64 2, .string ⟨#[78, 83]⟩] 74))
        clear hq hbe
        go_wp2_with fail
        go_ret2
        exact ⟨HB.out, by rw [HRR.out]; rfl⟩
      · rw [decide_eq_false hq] at hbe
        have q0 : (([78, 83] : List UInt8) == U.toList) = false := by rw [← hbe, ByteArray.toList_eq ⟨#[78, 83]⟩]
        have HB := Lib.hid (hbr.alloc hbr.size (.cells #[.int .i64 2, .string ⟨#[78, 83]⟩] 74))
        have HNO : Hid (∀ t ∈ typesP.take (1 + 1), t.2 ≠ upP s.data.toList) := by
          intro t ht
          rw [List.take_succ_eq_append_getElem (by decide)] at ht
          rcases List.mem_append.1 ht with ht | ht
          · exact hno.out t ht
          · simp [typesP] at ht
            rw [ht]
            exact hq
        clear hq hbe
        go_wp2_with fail
        go_roundw
        case rel => exact ⟨1 + 1, by omega, by go_num, HB.out, HNO.out⟩
        case measure => simp [intOf]
    · have ix := types_idx2
      have hbe := str_beq [67, 78, 65, 77, 69] U
      rw [HUD.out] at hbe
      by_cases hq : ([67, 78, 65, 77, 69] : List UInt8) = upP s.data.toList
      · rw [decide_eq_true hq] at hbe
        have q0 : (([67, 78, 65, 77, 69] : List UInt8) == U.toList) = true := by rw [← hbe, ByteArray.toList_eq ⟨#[67, 78, 65, 77, 69]⟩]
        have HRR : Hid (R = 5) := by show _ = _; rw [HR.out]; exact typeP_hit (by decide) hq
        have HB := Lib.hid (HBR.out.alloc HBR.out.size (.cells #[.int .i64 5, .string ⟨#[67, 78, 65, 77, 69]⟩] 74))
        clear hq hbe
        go_wp2_with fail
        go_ret2
        exact ⟨HB.out, by rw [HRR.out]; rfl⟩
      · rw [decide_eq_false hq] at hbe
        have q0 : (([67, 78, 65, 77, 69] : List UInt8) == U.toList) = false := by rw [← hbe, ByteArray.toList_eq ⟨#[67, 78, 65, 77, 69]⟩]
        have HB := Lib.hid (hbr.alloc hbr.size (.cells #[.int .i64 5, .string ⟨#[67, 78, 65, 77, 69]⟩] 74))
        have HNO : Hid (∀ t ∈ typesP.take (2 + 1), t.2 ≠ upP s.data.toList) := by
          intro t ht
          rw [List.take_succ_eq_append_getElem (by decide)] at ht
          rcases List.mem_append.1 ht with ht | ht
          · exact hno.out t ht
          · simp [typesP] at ht
            rw [ht]
            exact hq
        clear hq hbe
        go_wp2_with fail
        go_roundw
        case rel => exact ⟨2 + 1, by omega, by go_num, HB.out, HNO.out⟩
        case measure => simp [intOf]
    · have ix := types_idx3
      have hbe := str_beq [83, 79, 65] U
      rw [HUD.out] at hbe
      by_cases hq : ([83, 79, 65] : List UInt8) = upP s.data.toList
      · rw [decide_eq_true hq] at hbe
        have q0 : (([83, 79, 65] : List UInt8) == U.toList) = true := by rw [← hbe, ByteArray.toList_eq ⟨#[83, 79, 65]⟩]
        have HRR : Hid (R = 6) := by show _ = _; rw [HR.out]; exact typeP_hit (by decide) hq
        have HB := Lib.hid (HBR.out.alloc HBR.out.size (.cells #[.int .i64 6, .string ⟨#[83, 79, 65]⟩] 74))
        clear hq hbe
        go_wp2_with fail
        go_ret2
        exact ⟨HB.out, by rw [HRR.out]; rfl⟩
      · rw [decide_eq_false hq] at hbe
        have q0 : (([83, 79, 65] : List UInt8) == U.toList) = false := by rw [← hbe, ByteArray.toList_eq ⟨#[83, 79, 65]⟩]
        have HB := Lib.hid (hbr.alloc hbr.size (.cells #[.int .i64 6, .string ⟨#[83, 79, 65]⟩] 74))
        have HNO : Hid (∀ t ∈ typesP.take (3 + 1), t.2 ≠ upP s.data.toList) := by
          intro t ht
          rw [List.take_succ_eq_append_getElem (by decide)] at ht
          rcases List.mem_append.1 ht with ht | ht
          · exact hno.out t ht
          · simp [typesP] at ht
            rw [ht]
            exact hq
        clear hq hbe
        go_wp2_with fail
        go_roundw
        case rel => exact ⟨3 + 1, by omega, by go_num, HB.out, HNO.out⟩
        case measure => simp [intOf]
    · have ix := types_idx4
      have hbe := str_beq [80, 84, 82] U
      rw [HUD.out] at hbe
      by_cases hq : ([80, 84, 82] : List UInt8) = upP s.data.toList
      · rw [decide_eq_true hq] at hbe
        have q0 : (([80, 84, 82] : List UInt8) == U.toList) = true := by rw [← hbe, ByteArray.toList_eq ⟨#[80, 84, 82]⟩]
        have HRR : Hid (R = 12) := by show _ = _; rw [HR.out]; exact typeP_hit (by decide) hq
        have HB := Lib.hid (HBR.out.alloc HBR.out.size (.cells #[.int .i64 12, .string ⟨#[80, 84, 82]⟩] 74))
        clear hq hbe
        go_wp2_with fail
        go_ret2
        exact ⟨HB.out, by rw [HRR.out]; rfl⟩
      · rw [decide_eq_false hq] at hbe
        have q0 : (([80, 84, 82] : List UInt8) == U.toList) = false := by rw [← hbe, ByteArray.toList_eq ⟨#[80, 84, 82]⟩]
        have HB := Lib.hid (hbr.alloc hbr.size (.cells #[.int .i64 12, .string ⟨#[80, 84, 82]⟩] 74))
        have HNO : Hid (∀ t ∈ typesP.take (4 + 1), t.2 ≠ upP s.data.toList) := by
          intro t ht
          rw [List.take_succ_eq_append_getElem (by decide)] at ht
          rcases List.mem_append.1 ht with ht | ht
          · exact hno.out t ht
          · simp [typesP] at ht
            rw [ht]
            exact hq
        clear hq hbe
        go_wp2_with fail
        go_roundw
        case rel => exact ⟨4 + 1, by omega, by go_num, HB.out, HNO.out⟩
        case measure => simp [intOf]
    · have ix := types_idx5
      have hbe := str_beq [77, 88] U
      rw [HUD.out] at hbe
      by_cases hq : ([77, 88] : List UInt8) = upP s.data.toList
      · rw [decide_eq_true hq] at hbe
        have q0 : (([77, 88] : List UInt8) == U.toList) = true := by rw [← hbe, ByteArray.toList_eq ⟨#[77, 88]⟩]
        have HRR : Hid (R = 15) := by show _ = _; rw [HR.out]; exact typeP_hit (by decide) hq
        have HB := Lib.hid (HBR.out.alloc HBR.out.size (.cells #[.int .i64 15, .string ⟨#[77, 88]⟩] 74))
        clear hq hbe
        go_wp2_with fail
        go_ret2
        exact ⟨HB.out, by rw [HRR.out]; rfl⟩
      · rw [decide_eq_false hq] at hbe
        have q0 : (([77, 88] : List UInt8) == U.toList) = false := by rw [← hbe, ByteArray.toList_eq ⟨#[77, 88]⟩]
        have HB := Lib.hid (hbr.alloc hbr.size (.cells #[.int .i64 15, .string ⟨#[77, 88]⟩] 74))
        have HNO : Hid (∀ t ∈ typesP.take (5 + 1), t.2 ≠ upP s.data.toList) := by
          intro t ht
          rw [List.take_succ_eq_append_getElem (by decide)] at ht
          rcases List.mem_append.1 ht with ht | ht
          · exact hno.out t ht
          · simp [typesP] at ht
            rw [ht]
            exact hq
        clear hq hbe
        go_wp2_with fail
        go_roundw
        case rel => exact ⟨5 + 1, by omega, by go_num, HB.out, HNO.out⟩
        case measure => simp [intOf]
    · have ix := types_idx6
      have hbe := str_beq [84, 88, 84] U
      rw [HUD.out] at hbe
      by_cases hq : ([84, 88, 84] : List UInt8) = upP s.data.toList
      · rw [decide_eq_true hq] at hbe
        have q0 : (([84, 88, 84] : List UInt8) == U.toList) = true := by rw [← hbe, ByteArray.toList_eq ⟨#[84, 88, 84]⟩]
        have HRR : Hid (R = 16) := by show _ = _; rw [HR.out]; exact typeP_hit (by decide) hq
        have HB := Lib.hid (HBR.out.alloc HBR.out.size (.cells #[.int .i64 16, .string ⟨#[84, 88, 84]⟩] 74))
        clear hq hbe
        go_wp2_with fail
        go_ret2
        exact ⟨HB.out, by rw [HRR.out]; rfl⟩
      · rw [decide_eq_false hq] at hbe
        have q0 : (([84, 88, 84] : List UInt8) == U.toList) = false := by rw [← hbe, ByteArray.toList_eq ⟨#[84, 88, 84]⟩]
        have HB := Lib.hid (hbr.alloc hbr.size (.cells #[.int .i64 16, .string ⟨#[84, 88, 84]⟩] 74))
        have HNO : Hid (∀ t ∈ typesP.take (6 + 1), t.2 ≠ upP s.data.toList) := by
          intro t ht
          rw [List.take_succ_eq_append_getElem (by decide)] at ht
          rcases List.mem_append.1 ht with ht | ht
          · exact hno.out t ht
          · simp [typesP] at ht
            rw [ht]
            exact hq
        clear hq hbe
        go_wp2_with fail
        go_roundw
        case rel => exact ⟨6 + 1, by omega, by go_num, HB.out, HNO.out⟩
        case measure => simp [intOf]
    · have ix := types_idx7
      have hbe := str_beq [65, 65, 65, 65] U
      rw [HUD.out] at hbe
      by_cases hq : ([65, 65, 65, 65] : List UInt8) = upP s.data.toList
      · rw [decide_eq_true hq] at hbe
        have q0 : (([65, 65, 65, 65] : List UInt8) == U.toList) = true := by rw [← hbe, ByteArray.toList_eq ⟨#[65, 65, 65, 65]⟩]
        have HRR : Hid (R = 28) := by show _ = _; rw [HR.out]; exact typeP_hit (by decide) hq
        have HB := Lib.hid (HBR.out.alloc HBR.out.size (.cells #[.int .i64 28, .string ⟨#[65, 65, 65, 65]⟩] 74))
        clear hq hbe
        go_wp2_with fail
        go_ret2
        exact ⟨HB.out, by rw [HRR.out]; rfl⟩
      · rw [decide_eq_false hq] at hbe
        have q0 : (([65, 65, 65, 65] : List UInt8) == U.toList) = false := by rw [← hbe, ByteArray.toList_eq ⟨#[65, 65, 65, 65]⟩]
        have HB := Lib.hid (hbr.alloc hbr.size (.cells #[.int .i64 28, .string ⟨#[65, 65, 65, 65]⟩] 74))
        have HNO : Hid (∀ t ∈ typesP.take (7 + 1), t.2 ≠ upP s.data.toList) := by
          intro t ht
          rw [List.take_succ_eq_append_getElem (by decide)] at ht
          rcases List.mem_append.1 ht with ht | ht
          · exact hno.out t ht
          · simp [typesP] at ht
            rw [ht]
            exact hq
        clear hq hbe
        go_wp2_with fail
        go_roundw
        case rel => exact ⟨7 + 1, by omega, by go_num, HB.out, HNO.out⟩
        case measure => simp [intOf]
    · have ix := types_idx8
      have hbe := str_beq [83, 82, 86] U
      rw [HUD.out] at hbe
      by_cases hq : ([83, 82, 86] : List UInt8) = upP s.data.toList
      · rw [decide_eq_true hq] at hbe
        have q0 : (([83, 82, 86] : List UInt8) == U.toList) = true := by rw [← hbe, ByteArray.toList_eq ⟨#[83, 82, 86]⟩]
        have HRR : Hid (R = 33) := by show _ = _; rw [HR.out]; exact typeP_hit (by decide) hq
        have HB := Lib.hid (HBR.out.alloc HBR.out.size (.cells #[.int .i64 33, .string ⟨#[83, 82, 86]⟩] 74))
        clear hq hbe
        go_wp2_with fail
        go_ret2
        exact ⟨HB.out, by rw [HRR.out]; rfl⟩
      · rw [decide_eq_false hq] at hbe
        have q0 : (([83, 82, 86] : List UInt8) == U.toList) = false := by rw [← hbe, ByteArray.toList_eq ⟨#[83, 82, 86]⟩]
        have HB := Lib.hid (hbr.alloc hbr.size (.cells #[.int .i64 33, .string ⟨#[83, 82, 86]⟩] 74))
        have HNO : Hid (∀ t ∈ typesP.take (8 + 1), t.2 ≠ upP s.data.toList) := by
          intro t ht
          rw [List.take_succ_eq_append_getElem (by decide)] at ht
          rcases List.mem_append.1 ht with ht | ht
          · exact hno.out t ht
          · simp [typesP] at ht
            rw [ht]
            exact hq
        clear hq hbe
        go_wp2_with fail
        go_roundw
        case rel => exact ⟨8 + 1, by omega, by go_num, HB.out, HNO.out⟩
        case measure => simp [intOf]
    · have hall : ∀ t ∈ typesP, t.2 ≠ upP s.data.toList := fun t ht => hno.out t (by rw [List.take_of_length_le (by decide)]; exact ht)
      have hcp := Tryz.strings_CutPrefix U ⟨#[84, 89, 80, 69]⟩ wr
      have HALL := Lib.hid hall
      have hpre : Lib.hasPrefix U.data.toList (⟨#[84, 89, 80, 69]⟩ : ByteArray).data.toList = TYPEP.isPrefixOf (upP s.data.toList) := by rw [HUD.out]; rfl
      cases hp : TYPEP.isPrefixOf (upP s.data.toList) with
      | false =>
        rw [hpre, hp] at hcp
        have HCP := Lib.hid hcp
        have HRR : Hid (R = 0) := by show _ = _; rw [HR.out, typeP_at HALL.out, hp]; rfl
        obtain ⟨V, hV⟩ : ∃ z : ByteArray, z = ⟨(Lib.trimPrefix U.data.toList (⟨#[84, 89, 80, 69]⟩ : ByteArray).data.toList).toArray⟩ := ⟨_, rfl⟩
        rw [← hV] at HCP
        clear hall hcp hpre hp hV
        go_wp2_with fail
        refine HCP.out.mono ?_
        rintro e w3 ⟨rfl, rfl⟩
        go_wp2_with fail
        go_ret2
        exact ⟨HBR.out, by rw [HRR.out]; rfl⟩
      | true =>
        rw [hpre, hp] at hcp
        have htr : Lib.trimPrefix U.data.toList (⟨#[84, 89, 80, 69]⟩ : ByteArray).data.toList = (upP s.data.toList).drop 4 := by
          rw [HUD.out]
          unfold Lib.trimPrefix
          have : Lib.hasPrefix (upP s.data.toList) (⟨#[84, 89, 80, 69]⟩ : ByteArray).data.toList = true := by rw [← hp]; rfl
          rw [if_pos this]
          rfl
        rw [htr] at hcp
        obtain ⟨V, hV⟩ : ∃ z : ByteArray, z = ⟨((upP s.data.toList).drop 4).toArray⟩ := ⟨_, rfl⟩
        rw [← hV] at hcp
        have hVd : V.data.toList = (upP s.data.toList).drop 4 := by rw [hV]
        have hVs : V.size ≤ 1099511627776 := by
          have h1 : V.data.toList.length = V.size := by simp
          have h2 : U.data.toList.length = U.size := by simp
          rw [hVd, List.length_drop, ← HUD.out, h2] at h1
          omega
        have hnum := numf_any wr V 65535 hVs (HEN.out.on HBR.out)
        rw [hVd] at hnum
        have HRR : Hid (R = if okN (numP ((upP s.data.toList).drop 4)) 65535 = true then (numP ((upP s.data.toList).drop 4)).getD 0 else 0) := by
          show _ = _
          rw [HR.out, typeP_at HALL.out, hp, if_pos rfl, numT_ok]
        have HCP := Lib.hid hcp
        have HNUM := Lib.hid hnum
        obtain ⟨Q, hQ⟩ : ∃ Q, Q = numP ((upP s.data.toList).drop 4) := ⟨_, rfl⟩
        rw [← hQ] at HNUM HRR
        clear hall hcp hpre hp hV hVd hnum htr hQ hVs
        go_wp2_with fail
        refine HCP.out.mono ?_
        rintro e w3 ⟨rfl, rfl⟩
        go_wp2_with fail
        refine HNUM.out.mono ?_
        rintro e w4 ⟨hb4, v, rfl, hv⟩
        have HB4 := Lib.hid (below_on HBR.out hb4 (Nat.le_refl _))
        have HV := Lib.hid hv
        clear hb4 hv
        cases hk : okN Q 65535
        · have HR0 : Hid (R = 0) := by show _ = _; rw [HRR.out, hk]; rfl
          clear hk
          go_wp2_with fail
          go_ret2
          exact ⟨HB4.out, by rw [HR0.out]; rfl⟩
        · have hvv := HV.out hk
          have HR0 : Hid (R = v) := by show _ = _; rw [HRR.out, hk, if_pos rfl, hvv]; rfl
          clear hk hvv
          by_cases h0 : v = 0
          · have q0 : (v == 0) = true := by rw [beq_iff_eq]; exact h0
            have HR1 : Hid (R = 0) := by show _ = _; rw [HR0.out]; exact h0
            clear h0
            go_wp2_with fail
            go_ret2
            exact ⟨HB4.out, by rw [HR1.out]; rfl⟩
          · have q0 : (v == 0) = false := by rw [beq_eq_false_iff_ne]; exact h0
            have HD : Hid (decide (R ≠ 0) = true) := by show _ = _; rw [decide_eq_true_eq, HR0.out]; exact h0
            clear h0
            go_wp2_with fail
            go_ret2
            exact ⟨HB4.out, by rw [HD.out, HR0.out]; rfl⟩
end Go.Proofs.YtipbakdodbmfjaaGreatDoor

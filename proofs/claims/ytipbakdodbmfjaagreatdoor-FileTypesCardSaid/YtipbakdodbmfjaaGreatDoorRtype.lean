/- The contract of the reference's Type: which type is called so. -/
import Derived.Test.YtipbakdodbmfjaaGreatDoorRnum
namespace Go.Proofs.YtipbakdodbmfjaaGreatDoor
open Go.ChangeShapes Go.WideShapes Go.ChangeAt Go.RowKit

theorem find_first {p : Int × List UInt8 → Bool} : ∀ {l : List (Int × List UInt8)} {t : Int × List UInt8}, l.Pairwise (fun a b => a.1 < b.1) → t ∈ l → p t = true → (∀ a ∈ l, a.1 < t.1 → p a = false) → l.find? p = some t
  | [], t, _, ht, _, _ => by cases ht
  | a :: l, t, hp, ht, h, hn => by
    rw [List.pairwise_cons] at hp
    rcases List.mem_cons.1 ht with rfl | ht
    · simp [h]
    · have := hn a (by simp) (hp.1 t ht)
      rw [List.find?_cons, this]
      exact find_first hp.2 ht h (fun b hb => hn b (by simp [hb]))
theorem types_sorted : typesP.Pairwise (fun a b => a.1 < b.1) := by decide
theorem typeR_hit {s : List UInt8} {t : Int × List UInt8} (ht : t ∈ typesP) (h : lowP t.2 = lowP s) (hn : ∀ a ∈ typesP, a.1 < t.1 → lowP a.2 ≠ lowP s) : typeR s = t.1 := by
  unfold typeR
  rw [find_first types_sorted ht (by simpa using h) (fun a ha hl => by simpa using hn a ha hl)]
theorem typeR_miss {s : List UInt8} (hn : ∀ a ∈ typesP, lowP a.2 ≠ lowP s) : typeR s = if 4 < (lowP s).length ∧ (lowP s).take 4 = [116, 121, 112, 101] then (if 0 < numR ((lowP s).drop 4) then numR ((lowP s).drop 4) else 0) else 0 := by
  unfold typeR
  have : typesP.find? (fun t => decide (lowP t.2 = lowP s)) = none := by
    rw [List.find?_eq_none]
    intro t ht h
    exact hn t ht (by simpa using h)
  rw [this]
theorem take_four {T : ByteArray} {l : List UInt8} (h : T.data.toList = l) : (T.extract 0 4).toList = l.take 4 := by
  rw [ByteArray.toList_eq, ← h]; simp [ByteArray.data_extract]
set_option maxHeartbeats 4000000 in
set_option maxRecDepth 100000 in
theorem rtype_any (w : World) (s : ByteArray) (hs : s.size ≤ 1099511627776) :
    Calls Tryz.prog 15 #[.string s] w fun e w' => e = .returned (.int .i64 (typeR s.data.toList)) ∧ Below w.heap.size w w' := by
  obtain ⟨R, hR⟩ : ∃ R, R = typeR s.data.toList := ⟨_, rfl⟩
  rw [← hR]
  have HR := Lib.hid hR
  have HSM := Lib.hid (rsmall_any w s (by omega))
  obtain ⟨L, hL⟩ : ∃ z : ByteArray, z = small s := ⟨_, rfl⟩
  rw [← hL] at HSM
  have hLd : L.data.toList = lowP s.data.toList := by rw [hL]; rfl
  have hLs : L.size = s.size := by rw [hL]; exact small_size s
  have HLD := Lib.hid hLd
  have hLz : L.size ≤ 1099511627776 := by omega
  clear hR hL hLd hLs
  go_enter Tryz.func15, Tryz.ntmps15
  go_wp2_with fail
  refine HSM.out.mono ?_
  rintro e w1 ⟨rfl, hb1⟩
  have HB1 := Lib.hid hb1
  clear hb1
  go_wp2_with fail
  go_loopw [4] (fun iv wr => ∃ k : Nat, 1 ≤ k ∧ k ≤ 34 ∧ iv = .int .i64 k ∧ Below w1.heap.size w1 wr ∧ Hid (∀ t ∈ typesP, t.1 < (k : Int) → lowP t.2 ≠ lowP s.data.toList)) (fun iv _ => 34 - (intOf iv).toNat)
  case atStart =>
    refine ⟨1, by omega, by omega, rfl, Below.refl _ _, fun t ht h => ?_⟩
    have : ∀ t ∈ typesP, 1 ≤ t.1 := by decide
    have := this t ht
    omega
  case round =>
    obtain ⟨k, hk1, hk, rfl, hbr, hno⟩ := hrel
    have HBR := Lib.hid (below_on HB1.out hbr (Nat.le_refl _))
    by_cases hlt : k ≤ 33
    · have hcall := rtypename_any wr (k : Int) (by omega) (by omega)
      by_cases hin : k = 1 ∨ k = 2 ∨ k = 5 ∨ k = 6 ∨ k = 12 ∨ k = 15 ∨ k = 16 ∨ k = 28 ∨ k = 33
      · rcases hin with rfl | rfl | rfl | rfl | rfl | rfl | rfl | rfl | rfl
        · have hn : typeNameP ((1 : Nat) : Int) = [65] := by decide
          rw [hn] at hcall
          have HCALL := Lib.hid hcall
          have HSM2 := Lib.hid (fun w' : World => rsmall_any w' ⟨#[65]⟩ (by decide))
          obtain ⟨M, hM⟩ : ∃ z : ByteArray, z = small ⟨#[65]⟩ := ⟨_, rfl⟩
          have hMd : M.data.toList = lowP [65] := by rw [hM]; rfl
          simp only [← hM] at HSM2
          have hbe : (M.toList == L.toList) = decide (lowP [65] = lowP s.data.toList) := by
            rw [ByteArray.toList_eq, ByteArray.toList_eq, hMd, HLD.out]
            by_cases h : lowP [65] = lowP s.data.toList <;> simp [h]
          clear hcall hn hM hMd
          go_wp2_with fail
          refine HCALL.out.mono ?_
          rintro e w3 ⟨rfl, hb3⟩
          have HB3 := Lib.hid (below_on hbr hb3 (Nat.le_refl _))
          clear hb3
          go_wp2_with fail
          refine (HSM2.out _).mono ?_
          rintro e w4 ⟨rfl, hb4⟩
          have HB4 := Lib.hid (below_on HB3.out hb4 (Nat.le_refl _))
          clear hb4
          by_cases hq : lowP [65] = lowP s.data.toList
          · rw [decide_eq_true hq] at hbe
            have HF : Hid (R = 1) := by show _ = _; rw [HR.out]; exact typeR_hit (t := (1, [65])) (by decide) hq hno.out
            clear hq
            go_wp2_with fail
            go_ret
            exact ⟨ret_int (by have := HF.out; omega), below_on HB1.out HB4.out (Nat.le_refl _)⟩
          · rw [decide_eq_false hq] at hbe
            have HNO : Hid (∀ t ∈ typesP, t.1 < ((1 + 1 : Nat) : Int) → lowP t.2 ≠ lowP s.data.toList) := by
              intro t ht hl
              by_cases he : t.1 = 1
              · have : ∀ t ∈ typesP, t.1 = 1 → t.2 = [65] := by decide
                rw [this t ht he]
                exact hq
              · exact hno.out t ht (by omega)
            clear hq
            go_wp2_with fail
            go_roundw
            case rel => exact ⟨1 + 1, by omega, by omega, by go_num, HB4.out, HNO.out⟩
            case measure => simp [intOf]
        · have hn : typeNameP ((2 : Nat) : Int) = [78, 83] := by decide
          rw [hn] at hcall
          have HCALL := Lib.hid hcall
          have HSM2 := Lib.hid (fun w' : World => rsmall_any w' ⟨#[78, 83]⟩ (by decide))
          obtain ⟨M, hM⟩ : ∃ z : ByteArray, z = small ⟨#[78, 83]⟩ := ⟨_, rfl⟩
          have hMd : M.data.toList = lowP [78, 83] := by rw [hM]; rfl
          simp only [← hM] at HSM2
          have hbe : (M.toList == L.toList) = decide (lowP [78, 83] = lowP s.data.toList) := by
            rw [ByteArray.toList_eq, ByteArray.toList_eq, hMd, HLD.out]
            by_cases h : lowP [78, 83] = lowP s.data.toList <;> simp [h]
          clear hcall hn hM hMd
          go_wp2_with fail
          refine HCALL.out.mono ?_
          rintro e w3 ⟨rfl, hb3⟩
          have HB3 := Lib.hid (below_on hbr hb3 (Nat.le_refl _))
          clear hb3
          go_wp2_with fail
          refine (HSM2.out _).mono ?_
          rintro e w4 ⟨rfl, hb4⟩
          have HB4 := Lib.hid (below_on HB3.out hb4 (Nat.le_refl _))
          clear hb4
          by_cases hq : lowP [78, 83] = lowP s.data.toList
          · rw [decide_eq_true hq] at hbe
            have HF : Hid (R = 2) := by show _ = _; rw [HR.out]; exact typeR_hit (t := (2, [78, 83])) (by decide) hq hno.out
            clear hq
            go_wp2_with fail
            go_ret
            exact ⟨ret_int (by have := HF.out; omega), below_on HB1.out HB4.out (Nat.le_refl _)⟩
          · rw [decide_eq_false hq] at hbe
            have HNO : Hid (∀ t ∈ typesP, t.1 < ((2 + 1 : Nat) : Int) → lowP t.2 ≠ lowP s.data.toList) := by
              intro t ht hl
              by_cases he : t.1 = 2
              · have : ∀ t ∈ typesP, t.1 = 2 → t.2 = [78, 83] := by decide
                rw [this t ht he]
                exact hq
              · exact hno.out t ht (by omega)
            clear hq
            go_wp2_with fail
            go_roundw
            case rel => exact ⟨2 + 1, by omega, by omega, by go_num, HB4.out, HNO.out⟩
            case measure => simp [intOf]
        · have hn : typeNameP ((5 : Nat) : Int) = [67, 78, 65, 77, 69] := by decide
          rw [hn] at hcall
          have HCALL := Lib.hid hcall
          have HSM2 := Lib.hid (fun w' : World => rsmall_any w' ⟨#[67, 78, 65, 77, 69]⟩ (by decide))
          obtain ⟨M, hM⟩ : ∃ z : ByteArray, z = small ⟨#[67, 78, 65, 77, 69]⟩ := ⟨_, rfl⟩
          have hMd : M.data.toList = lowP [67, 78, 65, 77, 69] := by rw [hM]; rfl
          simp only [← hM] at HSM2
          have hbe : (M.toList == L.toList) = decide (lowP [67, 78, 65, 77, 69] = lowP s.data.toList) := by
            rw [ByteArray.toList_eq, ByteArray.toList_eq, hMd, HLD.out]
            by_cases h : lowP [67, 78, 65, 77, 69] = lowP s.data.toList <;> simp [h]
          have hx4 : (((⟨#[67, 78, 65, 77, 69]⟩ : ByteArray).extract 0 4).toList == ([84, 89, 80, 69] : List UInt8)) = false := by rw [take_four (l := [67, 78, 65, 77, 69]) rfl]; decide
          clear hcall hn hM hMd
          go_wp2_with fail
          refine HCALL.out.mono ?_
          rintro e w3 ⟨rfl, hb3⟩
          have HB3 := Lib.hid (below_on hbr hb3 (Nat.le_refl _))
          clear hb3
          go_wp2_with fail
          refine (HSM2.out _).mono ?_
          rintro e w4 ⟨rfl, hb4⟩
          have HB4 := Lib.hid (below_on HB3.out hb4 (Nat.le_refl _))
          clear hb4
          by_cases hq : lowP [67, 78, 65, 77, 69] = lowP s.data.toList
          · rw [decide_eq_true hq] at hbe
            have HF : Hid (R = 5) := by show _ = _; rw [HR.out]; exact typeR_hit (t := (5, [67, 78, 65, 77, 69])) (by decide) hq hno.out
            clear hq
            go_wp2_with fail
            go_ret
            exact ⟨ret_int (by have := HF.out; omega), below_on HB1.out HB4.out (Nat.le_refl _)⟩
          · rw [decide_eq_false hq] at hbe
            have HNO : Hid (∀ t ∈ typesP, t.1 < ((5 + 1 : Nat) : Int) → lowP t.2 ≠ lowP s.data.toList) := by
              intro t ht hl
              by_cases he : t.1 = 5
              · have : ∀ t ∈ typesP, t.1 = 5 → t.2 = [67, 78, 65, 77, 69] := by decide
                rw [this t ht he]
                exact hq
              · exact hno.out t ht (by omega)
            clear hq
            go_wp2_with fail
            go_roundw
            case rel => exact ⟨5 + 1, by omega, by omega, by go_num, HB4.out, HNO.out⟩
            case measure => simp [intOf]
        · have hn : typeNameP ((6 : Nat) : Int) = [83, 79, 65] := by decide
          rw [hn] at hcall
          have HCALL := Lib.hid hcall
          have HSM2 := Lib.hid (fun w' : World => rsmall_any w' ⟨#[83, 79, 65]⟩ (by decide))
          obtain ⟨M, hM⟩ : ∃ z : ByteArray, z = small ⟨#[83, 79, 65]⟩ := ⟨_, rfl⟩
          have hMd : M.data.toList = lowP [83, 79, 65] := by rw [hM]; rfl
          simp only [← hM] at HSM2
          have hbe : (M.toList == L.toList) = decide (lowP [83, 79, 65] = lowP s.data.toList) := by
            rw [ByteArray.toList_eq, ByteArray.toList_eq, hMd, HLD.out]
            by_cases h : lowP [83, 79, 65] = lowP s.data.toList <;> simp [h]
          clear hcall hn hM hMd
          go_wp2_with fail
          refine HCALL.out.mono ?_
          rintro e w3 ⟨rfl, hb3⟩
          have HB3 := Lib.hid (below_on hbr hb3 (Nat.le_refl _))
          clear hb3
          go_wp2_with fail
          refine (HSM2.out _).mono ?_
          rintro e w4 ⟨rfl, hb4⟩
          have HB4 := Lib.hid (below_on HB3.out hb4 (Nat.le_refl _))
          clear hb4
          by_cases hq : lowP [83, 79, 65] = lowP s.data.toList
          · rw [decide_eq_true hq] at hbe
            have HF : Hid (R = 6) := by show _ = _; rw [HR.out]; exact typeR_hit (t := (6, [83, 79, 65])) (by decide) hq hno.out
            clear hq
            go_wp2_with fail
            go_ret
            exact ⟨ret_int (by have := HF.out; omega), below_on HB1.out HB4.out (Nat.le_refl _)⟩
          · rw [decide_eq_false hq] at hbe
            have HNO : Hid (∀ t ∈ typesP, t.1 < ((6 + 1 : Nat) : Int) → lowP t.2 ≠ lowP s.data.toList) := by
              intro t ht hl
              by_cases he : t.1 = 6
              · have : ∀ t ∈ typesP, t.1 = 6 → t.2 = [83, 79, 65] := by decide
                rw [this t ht he]
                exact hq
              · exact hno.out t ht (by omega)
            clear hq
            go_wp2_with fail
            go_roundw
            case rel => exact ⟨6 + 1, by omega, by omega, by go_num, HB4.out, HNO.out⟩
            case measure => simp [intOf]
        · have hn : typeNameP ((12 : Nat) : Int) = [80, 84, 82] := by decide
          rw [hn] at hcall
          have HCALL := Lib.hid hcall
          have HSM2 := Lib.hid (fun w' : World => rsmall_any w' ⟨#[80, 84, 82]⟩ (by decide))
          obtain ⟨M, hM⟩ : ∃ z : ByteArray, z = small ⟨#[80, 84, 82]⟩ := ⟨_, rfl⟩
          have hMd : M.data.toList = lowP [80, 84, 82] := by rw [hM]; rfl
          simp only [← hM] at HSM2
          have hbe : (M.toList == L.toList) = decide (lowP [80, 84, 82] = lowP s.data.toList) := by
            rw [ByteArray.toList_eq, ByteArray.toList_eq, hMd, HLD.out]
            by_cases h : lowP [80, 84, 82] = lowP s.data.toList <;> simp [h]
          clear hcall hn hM hMd
          go_wp2_with fail
          refine HCALL.out.mono ?_
          rintro e w3 ⟨rfl, hb3⟩
          have HB3 := Lib.hid (below_on hbr hb3 (Nat.le_refl _))
          clear hb3
          go_wp2_with fail
          refine (HSM2.out _).mono ?_
          rintro e w4 ⟨rfl, hb4⟩
          have HB4 := Lib.hid (below_on HB3.out hb4 (Nat.le_refl _))
          clear hb4
          by_cases hq : lowP [80, 84, 82] = lowP s.data.toList
          · rw [decide_eq_true hq] at hbe
            have HF : Hid (R = 12) := by show _ = _; rw [HR.out]; exact typeR_hit (t := (12, [80, 84, 82])) (by decide) hq hno.out
            clear hq
            go_wp2_with fail
            go_ret
            exact ⟨ret_int (by have := HF.out; omega), below_on HB1.out HB4.out (Nat.le_refl _)⟩
          · rw [decide_eq_false hq] at hbe
            have HNO : Hid (∀ t ∈ typesP, t.1 < ((12 + 1 : Nat) : Int) → lowP t.2 ≠ lowP s.data.toList) := by
              intro t ht hl
              by_cases he : t.1 = 12
              · have : ∀ t ∈ typesP, t.1 = 12 → t.2 = [80, 84, 82] := by decide
                rw [this t ht he]
                exact hq
              · exact hno.out t ht (by omega)
            clear hq
            go_wp2_with fail
            go_roundw
            case rel => exact ⟨12 + 1, by omega, by omega, by go_num, HB4.out, HNO.out⟩
            case measure => simp [intOf]
        · have hn : typeNameP ((15 : Nat) : Int) = [77, 88] := by decide
          rw [hn] at hcall
          have HCALL := Lib.hid hcall
          have HSM2 := Lib.hid (fun w' : World => rsmall_any w' ⟨#[77, 88]⟩ (by decide))
          obtain ⟨M, hM⟩ : ∃ z : ByteArray, z = small ⟨#[77, 88]⟩ := ⟨_, rfl⟩
          have hMd : M.data.toList = lowP [77, 88] := by rw [hM]; rfl
          simp only [← hM] at HSM2
          have hbe : (M.toList == L.toList) = decide (lowP [77, 88] = lowP s.data.toList) := by
            rw [ByteArray.toList_eq, ByteArray.toList_eq, hMd, HLD.out]
            by_cases h : lowP [77, 88] = lowP s.data.toList <;> simp [h]
          clear hcall hn hM hMd
          go_wp2_with fail
          refine HCALL.out.mono ?_
          rintro e w3 ⟨rfl, hb3⟩
          have HB3 := Lib.hid (below_on hbr hb3 (Nat.le_refl _))
          clear hb3
          go_wp2_with fail
          refine (HSM2.out _).mono ?_
          rintro e w4 ⟨rfl, hb4⟩
          have HB4 := Lib.hid (below_on HB3.out hb4 (Nat.le_refl _))
          clear hb4
          by_cases hq : lowP [77, 88] = lowP s.data.toList
          · rw [decide_eq_true hq] at hbe
            have HF : Hid (R = 15) := by show _ = _; rw [HR.out]; exact typeR_hit (t := (15, [77, 88])) (by decide) hq hno.out
            clear hq
            go_wp2_with fail
            go_ret
            exact ⟨ret_int (by have := HF.out; omega), below_on HB1.out HB4.out (Nat.le_refl _)⟩
          · rw [decide_eq_false hq] at hbe
            have HNO : Hid (∀ t ∈ typesP, t.1 < ((15 + 1 : Nat) : Int) → lowP t.2 ≠ lowP s.data.toList) := by
              intro t ht hl
              by_cases he : t.1 = 15
              · have : ∀ t ∈ typesP, t.1 = 15 → t.2 = [77, 88] := by decide
                rw [this t ht he]
                exact hq
              · exact hno.out t ht (by omega)
            clear hq
            go_wp2_with fail
            go_roundw
            case rel => exact ⟨15 + 1, by omega, by omega, by go_num, HB4.out, HNO.out⟩
            case measure => simp [intOf]
        · have hn : typeNameP ((16 : Nat) : Int) = [84, 88, 84] := by decide
          rw [hn] at hcall
          have HCALL := Lib.hid hcall
          have HSM2 := Lib.hid (fun w' : World => rsmall_any w' ⟨#[84, 88, 84]⟩ (by decide))
          obtain ⟨M, hM⟩ : ∃ z : ByteArray, z = small ⟨#[84, 88, 84]⟩ := ⟨_, rfl⟩
          have hMd : M.data.toList = lowP [84, 88, 84] := by rw [hM]; rfl
          simp only [← hM] at HSM2
          have hbe : (M.toList == L.toList) = decide (lowP [84, 88, 84] = lowP s.data.toList) := by
            rw [ByteArray.toList_eq, ByteArray.toList_eq, hMd, HLD.out]
            by_cases h : lowP [84, 88, 84] = lowP s.data.toList <;> simp [h]
          clear hcall hn hM hMd
          go_wp2_with fail
          refine HCALL.out.mono ?_
          rintro e w3 ⟨rfl, hb3⟩
          have HB3 := Lib.hid (below_on hbr hb3 (Nat.le_refl _))
          clear hb3
          go_wp2_with fail
          refine (HSM2.out _).mono ?_
          rintro e w4 ⟨rfl, hb4⟩
          have HB4 := Lib.hid (below_on HB3.out hb4 (Nat.le_refl _))
          clear hb4
          by_cases hq : lowP [84, 88, 84] = lowP s.data.toList
          · rw [decide_eq_true hq] at hbe
            have HF : Hid (R = 16) := by show _ = _; rw [HR.out]; exact typeR_hit (t := (16, [84, 88, 84])) (by decide) hq hno.out
            clear hq
            go_wp2_with fail
            go_ret
            exact ⟨ret_int (by have := HF.out; omega), below_on HB1.out HB4.out (Nat.le_refl _)⟩
          · rw [decide_eq_false hq] at hbe
            have HNO : Hid (∀ t ∈ typesP, t.1 < ((16 + 1 : Nat) : Int) → lowP t.2 ≠ lowP s.data.toList) := by
              intro t ht hl
              by_cases he : t.1 = 16
              · have : ∀ t ∈ typesP, t.1 = 16 → t.2 = [84, 88, 84] := by decide
                rw [this t ht he]
                exact hq
              · exact hno.out t ht (by omega)
            clear hq
            go_wp2_with fail
            go_roundw
            case rel => exact ⟨16 + 1, by omega, by omega, by go_num, HB4.out, HNO.out⟩
            case measure => simp [intOf]
        · have hn : typeNameP ((28 : Nat) : Int) = [65, 65, 65, 65] := by decide
          rw [hn] at hcall
          have HCALL := Lib.hid hcall
          have HSM2 := Lib.hid (fun w' : World => rsmall_any w' ⟨#[65, 65, 65, 65]⟩ (by decide))
          obtain ⟨M, hM⟩ : ∃ z : ByteArray, z = small ⟨#[65, 65, 65, 65]⟩ := ⟨_, rfl⟩
          have hMd : M.data.toList = lowP [65, 65, 65, 65] := by rw [hM]; rfl
          simp only [← hM] at HSM2
          have hbe : (M.toList == L.toList) = decide (lowP [65, 65, 65, 65] = lowP s.data.toList) := by
            rw [ByteArray.toList_eq, ByteArray.toList_eq, hMd, HLD.out]
            by_cases h : lowP [65, 65, 65, 65] = lowP s.data.toList <;> simp [h]
          clear hcall hn hM hMd
          go_wp2_with fail
          refine HCALL.out.mono ?_
          rintro e w3 ⟨rfl, hb3⟩
          have HB3 := Lib.hid (below_on hbr hb3 (Nat.le_refl _))
          clear hb3
          go_wp2_with fail
          refine (HSM2.out _).mono ?_
          rintro e w4 ⟨rfl, hb4⟩
          have HB4 := Lib.hid (below_on HB3.out hb4 (Nat.le_refl _))
          clear hb4
          by_cases hq : lowP [65, 65, 65, 65] = lowP s.data.toList
          · rw [decide_eq_true hq] at hbe
            have HF : Hid (R = 28) := by show _ = _; rw [HR.out]; exact typeR_hit (t := (28, [65, 65, 65, 65])) (by decide) hq hno.out
            clear hq
            go_wp2_with fail
            go_ret
            exact ⟨ret_int (by have := HF.out; omega), below_on HB1.out HB4.out (Nat.le_refl _)⟩
          · rw [decide_eq_false hq] at hbe
            have HNO : Hid (∀ t ∈ typesP, t.1 < ((28 + 1 : Nat) : Int) → lowP t.2 ≠ lowP s.data.toList) := by
              intro t ht hl
              by_cases he : t.1 = 28
              · have : ∀ t ∈ typesP, t.1 = 28 → t.2 = [65, 65, 65, 65] := by decide
                rw [this t ht he]
                exact hq
              · exact hno.out t ht (by omega)
            clear hq
            go_wp2_with fail
            go_roundw
            case rel => exact ⟨28 + 1, by omega, by omega, by go_num, HB4.out, HNO.out⟩
            case measure => simp [intOf]
        · have hn : typeNameP ((33 : Nat) : Int) = [83, 82, 86] := by decide
          rw [hn] at hcall
          have HCALL := Lib.hid hcall
          have HSM2 := Lib.hid (fun w' : World => rsmall_any w' ⟨#[83, 82, 86]⟩ (by decide))
          obtain ⟨M, hM⟩ : ∃ z : ByteArray, z = small ⟨#[83, 82, 86]⟩ := ⟨_, rfl⟩
          have hMd : M.data.toList = lowP [83, 82, 86] := by rw [hM]; rfl
          simp only [← hM] at HSM2
          have hbe : (M.toList == L.toList) = decide (lowP [83, 82, 86] = lowP s.data.toList) := by
            rw [ByteArray.toList_eq, ByteArray.toList_eq, hMd, HLD.out]
            by_cases h : lowP [83, 82, 86] = lowP s.data.toList <;> simp [h]
          clear hcall hn hM hMd
          go_wp2_with fail
          refine HCALL.out.mono ?_
          rintro e w3 ⟨rfl, hb3⟩
          have HB3 := Lib.hid (below_on hbr hb3 (Nat.le_refl _))
          clear hb3
          go_wp2_with fail
          refine (HSM2.out _).mono ?_
          rintro e w4 ⟨rfl, hb4⟩
          have HB4 := Lib.hid (below_on HB3.out hb4 (Nat.le_refl _))
          clear hb4
          by_cases hq : lowP [83, 82, 86] = lowP s.data.toList
          · rw [decide_eq_true hq] at hbe
            have HF : Hid (R = 33) := by show _ = _; rw [HR.out]; exact typeR_hit (t := (33, [83, 82, 86])) (by decide) hq hno.out
            clear hq
            go_wp2_with fail
            go_ret
            exact ⟨ret_int (by have := HF.out; omega), below_on HB1.out HB4.out (Nat.le_refl _)⟩
          · rw [decide_eq_false hq] at hbe
            have HNO : Hid (∀ t ∈ typesP, t.1 < ((33 + 1 : Nat) : Int) → lowP t.2 ≠ lowP s.data.toList) := by
              intro t ht hl
              by_cases he : t.1 = 33
              · have : ∀ t ∈ typesP, t.1 = 33 → t.2 = [83, 82, 86] := by decide
                rw [this t ht he]
                exact hq
              · exact hno.out t ht (by omega)
            clear hq
            go_wp2_with fail
            go_roundw
            case rel => exact ⟨33 + 1, by omega, by omega, by go_num, HB4.out, HNO.out⟩
            case measure => simp [intOf]
      · have hn := tname_num (k := (k : Int)) (by omega) (by omega) (by
          intro t ht h
          have : ∀ t ∈ typesP, t.1 = 1 ∨ t.1 = 2 ∨ t.1 = 5 ∨ t.1 = 6 ∨ t.1 = 12 ∨ t.1 = 15 ∨ t.1 = 16 ∨ t.1 = 28 ∨ t.1 = 33 := by decide
          have := this t ht
          omega)
        rw [hn] at hcall
        obtain ⟨T, hT⟩ : ∃ z : ByteArray, z = ⟨(TYPEP ++ Lib.itoa (k : Int)).toArray⟩ := ⟨_, rfl⟩
        rw [← hT] at hcall
        have hTd : T.data.toList = TYPEP ++ Lib.itoa (k : Int) := by rw [hT]
        have hTs : 5 ≤ T.size := by
          have h1 : T.data.toList.length = T.size := by simp
          have h2 : Lib.itoa (k : Int) ≠ [] := by rw [itoa_dec _ (by omega)]; exact dec_ne _
          have h3 := List.length_pos_iff.2 h2
          rw [hTd, List.length_append] at h1
          simp only [TYPEP, List.length_cons, List.length_nil] at h1
          omega
        have hTb : T.size ≤ 100 := by
          have h1 : T.data.toList.length = T.size := by simp
          have h3 := Lib.itoa_length_le (k : Int) (by omega) (by omega)
          rw [hTd, List.length_append] at h1
          simp only [TYPEP, List.length_cons, List.length_nil] at h1
          omega
        have d5 : decide ((T.size : Int) < 5) = false := by rw [decide_eq_false_iff_not]; omega
        have hx4 : ((T.extract 0 4).toList == ([84, 89, 80, 69] : List UInt8)) = true := by rw [take_four hTd]; rfl
        have HCALL := Lib.hid hcall
        have HNO : Hid (∀ t ∈ typesP, t.1 < ((k + 1 : Nat) : Int) → lowP t.2 ≠ lowP s.data.toList) := by
          intro t ht hl
          by_cases he : t.1 = (k : Int)
          · exfalso
            have : ∀ t ∈ typesP, t.1 = 1 ∨ t.1 = 2 ∨ t.1 = 5 ∨ t.1 = 6 ∨ t.1 = 12 ∨ t.1 = 15 ∨ t.1 = 16 ∨ t.1 = 28 ∨ t.1 = 33 := by decide
            have := this t ht
            omega
          · exact hno.out t ht (by omega)
        have h4T : (4 : Int) ≤ (T.size : Int) := by omega
        clear hcall hn hT hTd hin
        go_wp2_with fail
        refine HCALL.out.mono ?_
        rintro e w3 ⟨rfl, hb3⟩
        have HB3 := Lib.hid (below_on hbr hb3 (Nat.le_refl _))
        clear hb3
        go_wp2_with fail
        go_roundw
        case rel => exact ⟨k + 1, by omega, by omega, by go_num, HB3.out, HNO.out⟩
        case measure => simp [intOf]; omega
    · have HMS := Lib.hid (typeR_miss (s := s.data.toList) (fun t ht => hno.out t ht (by
        have : ∀ t ∈ typesP, t.1 ≤ 33 := by decide
        have := this t ht
        omega)))
      have hll : (lowP s.data.toList).length = L.size := by rw [← HLD.out]; simp
      have HLL := Lib.hid hll
      clear hll
      have hge : ¬ (k : Int) ≤ 33 := by omega
      by_cases h4 : 4 < L.size
      · have d4 : decide ((4 : Int) < (L.size : Int)) = true := by rw [decide_eq_true_eq]; omega
        have h4L : (4 : Int) ≤ (L.size : Int) := by omega
        by_cases hty : (lowP s.data.toList).take 4 = [116, 121, 112, 101]
        · have hx4 : ((L.extract 0 4).toList == ([116, 121, 112, 101] : List UInt8)) = true := by rw [take_four HLD.out, hty]; rfl
          obtain ⟨V, hV⟩ : ∃ z : ByteArray, z = L.extract 4 L.size := ⟨_, rfl⟩
          have hVd : V.data.toList = (lowP s.data.toList).drop 4 := by
            rw [hV, ← HLD.out]
            simp [ByteArray.data_extract]
            exact List.take_of_length_le (by simp)
          have hVs : V.size ≤ 1099511627776 := by
            rw [hV, ByteArray.size_extract]; omega
          have hnum := rnum_any wr V hVs
          rw [hVd] at hnum
          obtain ⟨n, hn⟩ : ∃ n, n = numR ((lowP s.data.toList).drop 4) := ⟨_, rfl⟩
          rw [← hn] at hnum
          have HNUM := Lib.hid hnum
          have HV := Lib.hid hV
          have HF : Hid (R = if 0 < n then n else 0) := by show _ = _; rw [HR.out, HMS.out, if_pos ⟨by rw [HLL.out]; exact h4, hty⟩, ← hn]
          clear hV hVd hVs hnum hn hty h4
          go_wp2_with (rw [← HV.out])
          refine HNUM.out.mono ?_
          rintro e w4 ⟨rfl, hb4⟩
          have HB4 := Lib.hid (below_on HBR.out hb4 (Nat.le_refl _))
          clear hb4
          by_cases hp : 0 < n
          · have d6 : decide (0 < n) = true := by rw [decide_eq_true_eq]; exact hp
            have HF2 : Hid (R = n) := by show _ = _; rw [HF.out, if_pos hp]
            clear hp
            go_wp2_with fail
            go_ret
            exact ⟨ret_int HF2.out.symm, HB4.out⟩
          · have d6 : decide (0 < n) = false := by rw [decide_eq_false_iff_not]; exact hp
            have HF2 : Hid (R = 0) := by show _ = _; rw [HF.out, if_neg hp]
            clear hp
            go_wp2_with fail
            go_ret
            exact ⟨ret_int HF2.out.symm, HB4.out⟩
        · have hx4 : ((L.extract 0 4).toList == ([116, 121, 112, 101] : List UInt8)) = false := by rw [take_four HLD.out, beq_eq_false_iff_ne]; exact hty
          have HF : Hid (R = 0) := by show _ = _; rw [HR.out, HMS.out, if_neg (fun h => hty h.2)]
          clear hty h4
          go_wp2_with fail
          go_ret
          exact ⟨ret_int HF.out.symm, HBR.out⟩
      · have d4 : decide ((4 : Int) < (L.size : Int)) = false := by rw [decide_eq_false_iff_not]; omega
        have HF : Hid (R = 0) := by show _ = _; rw [HR.out, HMS.out, if_neg (fun h => h4 (by rw [← HLL.out]; exact h.1))]
        clear h4
        go_wp2_with fail
        go_ret
        exact ⟨ret_int HF.out.symm, HBR.out⟩
end Go.Proofs.YtipbakdodbmfjaaGreatDoor

/- The contract of the reference's Number: a word that is a number. -/
import Derived.Test.YtipbakdodbmfjaaGreatDoorType
namespace Go.Proofs.YtipbakdodbmfjaaGreatDoor
open Go.ChangeShapes Go.WideShapes Go.ChangeAt Go.RowKit

theorem valP_lt : ∀ (n : Nat) (l : List UInt8), l.length = n → digsB l = true → valP l < 10 ^ n
  | 0, l, hn, _ => by rw [List.eq_nil_of_length_eq_zero hn]; simp [valP]
  | n + 1, l, hn, hd => by
    have hne : l ≠ [] := by rintro rfl; simp at hn
    obtain ⟨m, c, rfl⟩ : ∃ m c, l = m ++ [c] := ⟨l.dropLast, l.getLast hne, (List.dropLast_concat_getLast hne).symm⟩
    simp only [digsB, List.all_append, List.all_cons, List.all_nil, Bool.and_true, Bool.and_eq_true, decide_eq_true_eq] at hd
    have ih := valP_lt n m (by simp at hn; exact hn) hd.1
    rw [valP_snoc, Nat.pow_succ]
    omega
theorem digs_take {l : List UInt8} {k : Nat} (h : k < l.length) (hd : digsB (l.take k) = true) (h1 : 48 ≤ l[k].toNat) (h2 : l[k].toNat ≤ 57) : digsB (l.take (k + 1)) = true := by
  rw [List.take_succ_eq_append_getElem h]
  unfold digsB at hd ⊢
  rw [List.all_append, hd]
  simp [h1, h2]
theorem digs_bad {l : List UInt8} {k : Nat} (h : k < l.length) (h1 : l[k].toNat < 48 ∨ 57 < l[k].toNat) : digsB l = false := by
  unfold digsB
  rw [List.all_eq_false]
  refine ⟨l[k], List.getElem_mem h, ?_⟩
  simp
  omega
theorem val_take {l : List UInt8} {k : Nat} (h : k < l.length) : valP (l.take (k + 1)) = valP (l.take k) * 10 + (l[k].toNat - 48) := by
  rw [List.take_succ_eq_append_getElem h, valP_snoc]
theorem numR_len {w : List UInt8} (h : w.length < 1 ∨ 12 < w.length ∨ (1 < w.length ∧ w.headD 0 = 48)) : numR w = -1 := by unfold numR; rw [if_pos h]
theorem numR_digs {w : List UInt8} (h : ¬ (w.length < 1 ∨ 12 < w.length ∨ (1 < w.length ∧ w.headD 0 = 48))) : numR w = if digsB w = true then (if 65535 < valP w then -1 else (valP w : Int)) else -1 := by unfold numR; rw [if_neg h]
set_option maxHeartbeats 4000000 in
set_option maxRecDepth 100000 in
theorem rnum_any (w : World) (s : ByteArray) (hs : s.size ≤ 1099511627776) :
    Calls Tryz.prog 44 #[.string s, .int .i64 65535] w fun e w' => e = .returned (.int .i64 (numR s.data.toList)) ∧ Below w.heap.size w w' := by
  have hsl : s.data.toList.length = s.size := by simp
  obtain ⟨R, hR⟩ : ∃ R, R = numR s.data.toList := ⟨_, rfl⟩
  rw [← hR]
  have HR := Lib.hid hR
  have HSL := Lib.hid hsl
  clear hR hsl
  by_cases h1 : s.size < 1
  · have d1 : decide ((s.size : Int) < 1) = true := by rw [decide_eq_true_eq]; omega
    have HF : Hid (R = -1) := by show _ = _; rw [HR.out]; exact numR_len (Or.inl (by rw [HSL.out]; exact h1))
    clear h1
    go_enter Tryz.func44, Tryz.ntmps44
    go_wp2_with fail
    go_ret
    exact ⟨ret_int HF.out.symm, Below.refl _ _⟩
  have d1 : decide ((s.size : Int) < 1) = false := by rw [decide_eq_false_iff_not]; omega
  by_cases h12 : 12 < s.size
  · have d2 : decide ((12 : Int) < (s.size : Int)) = true := by rw [decide_eq_true_eq]; omega
    have HF : Hid (R = -1) := by show _ = _; rw [HR.out]; exact numR_len (Or.inr (Or.inl (by rw [HSL.out]; exact h12)))
    clear h1 h12
    go_enter Tryz.func44, Tryz.ntmps44
    go_wp2_with fail
    go_ret
    exact ⟨ret_int HF.out.symm, Below.refl _ _⟩
  have d2 : decide ((12 : Int) < (s.size : Int)) = false := by rw [decide_eq_false_iff_not]; omega
  have hpos : 0 < s.size := by omega
  have hhead : s.data.toList.headD 0 = s[0] := by
    have h2 : 0 < s.data.toList.length := by have := HSL.out; omega
    cases hl : s.data.toList with
    | nil => rw [hl] at h2; simp at h2
    | cons a r =>
      have : s[0] = s.data.toList[0] := rfl
      rw [this]
      simp [hl]
  by_cases hz : 1 < s.size ∧ s[0].toNat = 48
  · have d3 : decide ((1 : Int) < (s.size : Int)) = true := by rw [decide_eq_true_eq]; omega
    have q3 : ((s[0].toNat : Int) == 48) = true := by rw [beq_iff_eq]; omega
    have HF : Hid (R = -1) := by
      show _ = _
      rw [HR.out]
      refine numR_len (Or.inr (Or.inr ⟨by rw [HSL.out]; exact hz.1, ?_⟩))
      rw [hhead]
      apply UInt8.toNat_inj.1
      rw [hz.2]; rfl
    clear h1 h12 hz hhead
    go_enter Tryz.func44, Tryz.ntmps44
    go_wp2_with fail
    go_ret
    exact ⟨ret_int HF.out.symm, Below.refl _ _⟩
  have HNL : Hid (R = if digsB s.data.toList = true then (if 65535 < valP s.data.toList then -1 else (valP s.data.toList : Int)) else -1) := by
    show _ = _
    rw [HR.out]
    refine numR_digs ?_
    rintro (h | h | h)
    · rw [HSL.out] at h; omega
    · rw [HSL.out] at h; omega
    · rw [HSL.out, hhead] at h
      exact hz ⟨h.1, by rw [h.2]; rfl⟩
  have key : ∀ (b1 : decide ((1 : Int) < (s.size : Int)) = true ∧ ((s[0].toNat : Int) == 48) = false ∨ decide ((1 : Int) < (s.size : Int)) = false), Calls Tryz.prog 44 #[.string s, .int .i64 65535] w fun e w' => e = .returned (.int .i64 R) ∧ Below w.heap.size w w' := by
    intro b1
    clear hhead hz h1
    have hs12 : s.size ≤ 12 := by omega
    clear h12
    rcases b1 with ⟨d3, q3⟩ | d3
    all_goals
      go_enter Tryz.func44, Tryz.ntmps44
      go_wp2_with fail
      go_loopw [5, 6] (fun nv iv wr => ∃ k v : Nat, k ≤ s.size ∧ nv = .int .i64 v ∧ iv = .int .i64 k ∧ v < 1000000000000 ∧ Below w.heap.size w wr ∧ Hid (v = valP (s.data.toList.take k) ∧ digsB (s.data.toList.take k) = true)) (fun _ iv _ => s.size - (intOf iv).toNat)
      case atStart => exact ⟨0, 0, Nat.zero_le _, rfl, rfl, by omega, Below.refl _ _, rfl, rfl⟩
      case round =>
        obtain ⟨k, v, hk, rfl, rfl, hv, hbr, hinv⟩ := hrel
        by_cases hlt : k < s.size
        · have hkl : k < s.data.toList.length := by have := HSL.out; omega
          have hsk : s.data.toList[k] = s[k] := rfl
          have hdl := digs_take hkl hinv.out.2
          have hdb := digs_bad hkl
          have hvt := val_take hkl
          rw [hsk] at hdl hdb hvt
          have HDL := Lib.hid hdl
          have HDB := Lib.hid hdb
          have HVT := Lib.hid hvt
          clear hdl hdb hvt hsk
          have hc := (s[k]).toNat_lt
          by_cases hlo : s[k].toNat < 48
          · have d4 : decide ((s[k].toNat : Int) < 48) = true := by rw [decide_eq_true_eq]; omega
            have HF : Hid (R = -1) := by show _ = _; rw [HNL.out, HDB.out (Or.inl hlo)]; rfl
            clear hlo
            go_wp2_with fail
            go_ret
            exact ⟨ret_int HF.out.symm, hbr⟩
          have d4 : decide ((s[k].toNat : Int) < 48) = false := by rw [decide_eq_false_iff_not]; omega
          by_cases hhi : 57 < s[k].toNat
          · have d5 : decide ((57 : Int) < (s[k].toNat : Int)) = true := by rw [decide_eq_true_eq]; omega
            have HF : Hid (R = -1) := by show _ = _; rw [HNL.out, HDB.out (Or.inr hhi)]; rfl
            clear hlo hhi
            go_wp2_with fail
            go_ret
            exact ⟨ret_int HF.out.symm, hbr⟩
          have d5 : decide ((57 : Int) < (s[k].toNat : Int)) = false := by rw [decide_eq_false_iff_not]; omega
          have hd1 := HDL.out (by omega) (by omega)
          have HD1 := Lib.hid hd1
          have hbig := valP_lt (k + 1) (s.data.toList.take (k + 1)) (by simp; have := HSL.out; omega) hd1
          have hp12 : 10 ^ (k + 1) ≤ 10 ^ 12 := Nat.pow_le_pow_right (by omega) (by omega)
          have hv2 : v * 10 + (s[k].toNat - 48) < 1000000000000 := by
            have h1 := HVT.out
            rw [← hinv.out.1] at h1
            rw [← h1]
            exact Nat.lt_of_lt_of_le hbig hp12
          have a1 : IntKind.u8.wrap ((s[k].toNat : Int) - 48) = (s[k].toNat : Int) - 48 := IntWalk.u8_in _ (by omega)
          clear hbig hp12 hd1
          go_wp2_with fail
          go_roundw
          case rel => exact ⟨k + 1, v * 10 + (s[k].toNat - 48), by omega, by congr 1; omega, by go_num, hv2, hbr, by rw [HVT.out, hinv.out.1], HD1.out⟩
          case measure => simp [intOf]; omega
        · have hke : s.data.toList.take k = s.data.toList := List.take_of_length_le (by have := HSL.out; omega)
          have HDG : Hid (R = if 65535 < v then -1 else (v : Int)) := by
            show _ = _
            have h1 := hinv.out
            rw [hke] at h1
            rw [HNL.out, if_pos h1.2, ← h1.1]
          clear hke hinv
          by_cases hbig : 65535 < v
          · have d6 : decide ((65535 : Int) < (v : Int)) = true := by rw [decide_eq_true_eq]; omega
            have HF : Hid (R = -1) := by show _ = _; rw [HDG.out, if_pos hbig]
            clear hbig
            go_wp2_with fail
            go_ret
            exact ⟨ret_int HF.out.symm, hbr⟩
          · have d6 : decide ((65535 : Int) < (v : Int)) = false := by rw [decide_eq_false_iff_not]; omega
            have HF : Hid (R = (v : Int)) := by show _ = _; rw [HDG.out, if_neg hbig]
            clear hbig
            go_wp2_with fail
            go_ret
            exact ⟨ret_int HF.out.symm, hbr⟩
  apply key
  by_cases h2 : 1 < s.size
  · refine Or.inl ⟨by rw [decide_eq_true_eq]; omega, ?_⟩
    rw [beq_eq_false_iff_ne]
    intro h
    exact hz ⟨h2, by omega⟩
  · exact Or.inr (by rw [decide_eq_false_iff_not]; omega)
end Go.Proofs.YtipbakdodbmfjaaGreatDoor

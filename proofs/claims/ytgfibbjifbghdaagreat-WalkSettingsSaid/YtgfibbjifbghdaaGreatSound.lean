/- Contracts of name.Sound and the reference's Sound: each answers soundB, for every slice of strings. -/
import Derived.Test.YtgfibbjifbghdaaGreatSize
namespace Go.Proofs.YtgfibbjifbghdaaGreat
open Go.ChangeShapes Go.WideShapes Go.ChangeAt Go.RowKit

/-- which element is the first with p; -1: none -/
def idxZ {α : Type} (p : α → Bool) (l : List α) : Int := match l.findIdx? p with | some i => i | none => -1
theorem idxZ_found {α : Type} {p : α → Bool} {l : List α} {k : Nat} (hk : k < l.length) (h : ∀ j (hj : j < k), p (l[j]'(by omega)) = false) (hp : p l[k] = true) : idxZ p l = k := by
  have : l.findIdx? p = some k := by
    rw [List.findIdx?_eq_some_iff_getElem]
    exact ⟨hk, hp, fun j hj => by simp [h j hj]⟩
  simp [idxZ, this]
theorem idxZ_none {α : Type} {p : α → Bool} {l : List α} (h : ∀ j (hj : j < l.length), p l[j] = false) : idxZ p l = -1 := by
  have : l.findIdx? p = none := by
    rw [List.findIdx?_eq_none_iff]
    intro x hx
    obtain ⟨i, hi, rfl⟩ := List.getElem_of_mem hx
    exact h i hi
  simp [idxZ, this]
theorem idxZ_any {α : Type} (p : α → Bool) (l : List α) : decide (0 ≤ idxZ p l) = l.any p := by
  unfold idxZ
  cases h : l.findIdx? p with
  | none =>
    rw [List.findIdx?_eq_none_iff] at h
    have : l.any p = false := by simp only [List.any_eq_false]; intro x hx; simp [h x hx]
    simp [this]
  | some i =>
    rw [List.findIdx?_eq_some_iff_getElem] at h
    obtain ⟨hi, hp, _⟩ := h
    have : l.any p = true := List.any_eq_true.2 ⟨_, List.getElem_mem hi, hp⟩
    simp [this]

def badL (s : ByteArray) : Bool := s.size == 0 || decide (63 < s.size)

theorem badL_no {s : ByteArray} (h1 : 1 ≤ s.size) (h2 : s.size ≤ 63) : badL s = false := by
  have : ¬ s.size = 0 := by omega
  have h3 : ¬ 63 < s.size := by omega
  simp only [badL, Bool.or_eq_false_iff, beq_eq_false_iff_ne, decide_eq_false_iff_not]
  exact ⟨this, h3⟩
theorem badL_yes {s : ByteArray} (h : s.size < 1 ∨ 63 < s.size) : badL s = true := by
  simp only [badL, Bool.or_eq_true, beq_iff_eq, decide_eq_true_eq]
  omega
theorem toList_nil (s : ByteArray) : s.data.toList = [] ↔ s.size = 0 := by
  rw [List.eq_nil_iff_length_eq_zero]; simp

theorem sound1_any (w : World) (s : ByteArray) (hs : s.size ≤ 9223372036854775807) :
    Calls Tryz.prog 43 #[.string s] w fun e w' => e = .returned (.bool (badL s)) ∧ w = w' := by
  go_enter Tryz.func43, Tryz.ntmps43
  go_wp2
  · go_ret
    have h : s.toList = [] := by assumption
    rw [ByteArray.toList_eq, toList_nil] at h
    exact ⟨ret_bool (by simp [badL, h]), rfl⟩
  · go_ret
    have h : ¬ s.toList = [] := by assumption
    refine ⟨ret_bool ?_, rfl⟩
    have e : s.toList.isEmpty = (s.size == 0) := by
      rw [Bool.eq_iff_iff, List.isEmpty_iff, ByteArray.toList_eq, toList_nil]; simp
    show (s.toList.isEmpty || decide ((63 : Int) < s.size)) = badL s
    rw [e, badL]
    congr 1
    exact decide_eq_decide.2 (by omega)

theorem indexSound_any (w : World) (ao : Option Addr) (len cap : Nat) (ss : List ByteArray) (hs : Strs w ao len cap ss) :
    Calls Tryz.prog 73 #[.slice ao len cap, .func (.func 43) #[] #[]] w fun e w' => e = .returned (.int .i64 (idxZ badL ss)) ∧ w = w' := by
  have hl := hs.len
  have hcap := hs.row.hcap
  have hle := hs.row.hle
  go_enter Tryz.func73, Tryz.ntmps73
  go_wp2
  go_loop [8, 5] (fun i _ => ∃ k : Nat, k ≤ len ∧ i = .int .i64 k ∧ Hid (∀ j (hj : j < ss.length), j < k → badL ss[j] = false)) (fun i _ => len - (intOf i).toNat)
  case atStart => exact ⟨0, Nat.zero_le _, rfl, fun j hj h => absurd h (by omega)⟩
  case round =>
    obtain ⟨k, hk, rfl, hno⟩ := hrel
    by_cases hlt : k < len
    · obtain ⟨b, off, rfl⟩ := hs.row.addr hlt
      have hc := hs.at hlt
      have h3 := hs.get_small (i := k) (by omega)
      obtain ⟨s, hsk⟩ : ∃ s, s = ss[k] := ⟨_, rfl⟩
      rw [← hsk] at hc h3
      have HK := Lib.hid hsk
      clear hsk
      cases hb : badL s
      all_goals
        have HB := Lib.hid hb
        go_wp2_with (go_at_call 43; refine (sound1_any _ _ (by assumption)).mono ?_; rintro e w' ⟨rfl, rfl⟩)
      · go_round
        case rel =>
          refine ⟨k + 1, by omega, by go_num, fun j hj h => ?_⟩
          rcases Nat.lt_succ_iff_lt_or_eq.1 h with h | rfl
          · exact hno.out j hj h
          · rw [← HK.out]; exact HB.out
        case measure => simp [intOf]; omega
      · go_ret
        exact ⟨ret_int (idxZ_found (by omega) (fun j hj => hno.out j (by omega) hj) (by rw [← HK.out]; exact HB.out)).symm, rfl⟩
    · go_wp2
      go_ret
      exact ⟨ret_int (idxZ_none fun j hj => hno.out j hj (by omega)).symm, rfl⟩

theorem containsSound_any (w : World) (ao : Option Addr) (len cap : Nat) (ss : List ByteArray) (hs : Strs w ao len cap ss) :
    Calls Tryz.prog 42 #[.slice ao len cap, .func (.func 43) #[] #[]] w fun e w' => e = .returned (.bool (ss.any badL)) ∧ w = w' := by
  go_enter Tryz.func42, Tryz.ntmps42
  go_wp2_with (go_at_call 73; refine (indexSound_any _ _ _ _ _ hs).mono ?_; rintro e w' ⟨rfl, rfl⟩)
  go_ret
  exact ⟨ret_bool (idxZ_any badL ss), rfl⟩

def soundB (ss : List ByteArray) : Bool := decide (ss.length ≤ 255) && (!(ss.any badL) && decide (1 + sizeN ss ≤ 255))

theorem sizeN_fine : ∀ (ss : List ByteArray), ss.any badL = false → 2 * ss.length ≤ sizeN ss ∧ sizeN ss ≤ 64 * ss.length
  | [], _ => by simp [sizeN]
  | s :: ss, h => by
    simp only [List.any_cons, Bool.or_eq_false_iff] at h
    have ih := sizeN_fine ss h.2
    have hs := h.1
    simp only [badL, Bool.or_eq_false_iff, beq_eq_false_iff_ne, decide_eq_false_iff_not] at hs
    simp only [sizeN, List.length_cons]
    omega

theorem sound_any (w : World) (ao : Option Addr) (len cap : Nat) (ss : List ByteArray) (hs : Strs w ao len cap ss) :
    Calls Tryz.prog 23 #[.slice ao len cap] w fun e w' => e = .returned (.bool (soundB ss)) ∧ w = w' := by
  have hl := hs.len
  have hcap := hs.row.hcap
  have hle := hs.row.hle
  by_cases h1 : len ≤ 255
  · cases h2 : ss.any badL
    · have hf := sizeN_fine ss h2
      have H2 := Lib.hid h2
      have hz : sizeN ss < 4611686018427387904 := by omega
      clear hf
      go_enter Tryz.func23, Tryz.ntmps23
      go_wp2_with (first | (go_at_call 42; refine (containsSound_any _ _ _ _ _ hs).mono ?_; rintro e w' ⟨rfl, rfl⟩) | (go_at_call 44; refine (size_any _ _ _ _ _ hs (by assumption)).mono ?_; rintro e w' ⟨rfl, rfl⟩))
      go_ret
      exact ⟨ret_bool (by simp only [soundB, hl, h1, H2.out, decide_true, Bool.not_false, Bool.true_and]; exact decide_eq_decide.2 (by omega)), rfl⟩
    · go_enter Tryz.func23, Tryz.ntmps23
      go_wp2_with (go_at_call 42; refine (containsSound_any _ _ _ _ _ hs).mono ?_; rintro e w' ⟨rfl, rfl⟩)
      go_ret
      exact ⟨ret_bool (by simp [soundB, h2]), rfl⟩
  · go_enter Tryz.func23, Tryz.ntmps23
    go_wp2
    go_ret
    exact ⟨ret_bool (by simp [soundB]; omega), rfl⟩

theorem soundB_short {ss : List ByteArray} (h : 127 < ss.length) : soundB ss = false := by
  cases h2 : ss.any badL
  · have hf := sizeN_fine ss h2
    have : ¬ 1 + sizeN ss ≤ 255 := by omega
    simp [soundB, this]
  · simp [soundB, h2]
theorem any_of {α : Type} {p : α → Bool} {l : List α} {k : Nat} (hk : k < l.length) (h : p l[k] = true) : l.any p = true := List.any_eq_true.2 ⟨_, List.getElem_mem hk, h⟩
theorem any_none {α : Type} {p : α → Bool} {l : List α} (h : ∀ j (hj : j < l.length), p l[j] = false) : l.any p = false := by
  simp only [List.any_eq_false]; intro x hx
  obtain ⟨i, hi, rfl⟩ := List.getElem_of_mem hx
  simp [h i hi]

theorem rsound_any (w : World) (ao : Option Addr) (len cap : Nat) (ss : List ByteArray) (hs : Strs w ao len cap ss) :
    Calls Tryz.prog 6 #[.slice ao len cap] w fun e w' => e = .returned (.bool (soundB ss)) ∧ w = w' := by
  have hl := hs.len
  have hcap := hs.row.hcap
  have hle := hs.row.hle
  by_cases h1 : len ≤ 127
  · go_enter Tryz.func6, Tryz.ntmps6
    go_wp2
    go_loop [3] (fun i => ∃ k : Nat, k ≤ len ∧ i = .int .i64 k ∧ Hid (∀ j (hj : j < ss.length), j < k → badL ss[j] = false)) (fun i => len - (intOf i).toNat)
    case atStart => exact ⟨0, Nat.zero_le _, rfl, fun j hj h => absurd h (by omega)⟩
    case round =>
      obtain ⟨k, hk, rfl, hno⟩ := hrel
      by_cases hlt : k < len
      · obtain ⟨b, off, rfl⟩ := hs.row.addr hlt
        have hc := hs.at hlt
        have h3 := hs.get_small (i := k) (by omega)
        obtain ⟨s, hsk⟩ : ∃ s, s = ss[k] := ⟨_, rfl⟩
        rw [← hsk] at hc h3
        have HK := Lib.hid hsk
        clear hsk
        by_cases hb : 1 ≤ s.size ∧ s.size ≤ 63
        · obtain ⟨b1, b2⟩ := hb
          have HB : Hid (badL s = false) := badL_no b1 b2
          go_wp2
          go_round
          case rel =>
            refine ⟨k + 1, by omega, by go_num, fun j hj h => ?_⟩
            rcases Nat.lt_succ_iff_lt_or_eq.1 h with h | rfl
            · exact hno.out j hj h
            · rw [← HK.out]; exact HB.out
          case measure => simp [intOf]; omega
        · have HB : Hid (soundB ss = false) := by
            have : ss.any badL = true := any_of (k := k) (by omega) (by rw [← HK.out]; exact badL_yes (by omega))
            simp [Hid, soundB, this]
          have hb' : s.size < 1 ∨ 63 < s.size := by omega
          clear hb
          rcases hb' with hb | hb
          all_goals
            go_wp2
            go_ret
            exact ⟨ret_bool HB.out.symm, rfl⟩
      · have H2 := Lib.hid (any_none (p := badL) (l := ss) fun j hj => hno.out j hj (by omega))
        have hf := sizeN_fine ss H2.out
        have hz : sizeN ss < 4611686018427387904 := by omega
        clear hf
        go_wp2_with (go_at_call 12; refine (rsize_any _ _ _ _ _ hs (by assumption)).mono ?_; rintro e w' ⟨rfl, rfl⟩)
        go_ret
        have h1' : len ≤ 255 := by omega
        exact ⟨ret_bool (by simp only [soundB, hl, h1', H2.out, decide_true, Bool.not_false, Bool.true_and]; exact decide_eq_decide.2 (by omega)), rfl⟩
  · go_enter Tryz.func6, Tryz.ntmps6
    go_wp2
    go_ret
    exact ⟨ret_bool (soundB_short (by omega)).symm, rfl⟩
end Go.Proofs.YtgfibbjifbghdaaGreat

/- The text of a sound name is read as it, with and without the last point. No program is walked here. -/
import Derived.Test.YtipbakdodbmfjaaGreatDoorText
import Derived.Test.YtipbakdodbmfjaaGreatDoorPar
namespace Go.Proofs.YtipbakdodbmfjaaGreatDoor

theorem dig_toNat (n : Nat) (h : n < 10) : (dig n).toNat = 48 + n := by
  rw [dig, UInt8.toNat_ofNat']; omega
theorem unesc_dig (n : Nat) (h : n < 256) (r : List UInt8) : unesc (dig (n / 100) :: dig (n / 10 % 10) :: dig (n % 10) :: r) = some (UInt8.ofNat n, 3) := by
  have h1 := dig_toNat (n / 100) (by omega)
  have h2 := dig_toNat (n / 10 % 10) (by omega)
  have h3 := dig_toNat (n % 10) (by omega)
  have d1 : digB (dig (n / 100)) = true := by rw [digB, decide_eq_true_iff]; omega
  have d2 : digB (dig (n / 10 % 10)) = true := by rw [digB, decide_eq_true_iff]; omega
  have d3 : digB (dig (n % 10)) = true := by rw [digB, decide_eq_true_iff]; omega
  have hn : num3 (dig (n / 100)) (dig (n / 10 % 10)) (dig (n % 10)) = n := by rw [num3, h1, h2, h3]; omega
  have d4 : decide (n ≤ 255) = true := by rw [decide_eq_true_iff]; omega
  simp only [unesc, d1, d2, d3, hn, d4, if_true, Bool.and_self]
/-- a label's text is read as the label -/
theorem par_lab (l : List UInt8) (out : List ByteArray) : ∀ (lab r : List UInt8), par (labT l ++ r) out lab = par r out (lab ++ l) := by
  induction l with
  | nil => intro lab r; simp [labT]
  | cons c l ih =>
    intro lab r
    have e : labT (c :: l) ++ r = escL c ++ (labT l ++ r) := by simp [labT]
    have fin' : par (labT l ++ r) out (lab ++ [c]) = par r out (lab ++ c :: l) := by rw [ih]; simp
    rw [e]
    unfold escL
    split
    · rename_i h
      have hd : digB c = false := by rw [digB, decide_eq_false_iff_not]; omega
      rw [List.cons_append, par_esc (x := c) (k := 1) out lab rfl (by simp only [List.cons_append, List.nil_append, unesc, hd]; rfl)]
      simpa using fin'
    · split
      · rw [List.cons_append, par_esc (x := c) (k := 3) out lab rfl (by
          have := unesc_dig c.toNat c.toNat_lt (labT l ++ r)
          simpa using this)]
        simpa using fin'
      · rw [List.cons_append, par_plain out lab (by omega) (by omega) (by omega) (by omega)]
        simpa using fin'
theorem par_body (ss : List ByteArray) : ∀ (s : ByteArray) (out : List ByteArray), par (bodyT (s :: ss)) out [] = fin (out ++ s :: ss) := by
  induction ss with
  | nil =>
    intro s out
    have : bodyT [s] = labT s.data.toList ++ [46] := by simp [bodyT]
    rw [this, par_lab, par_end _ _ rfl]
    simp
  | cons t ss ih =>
    intro s out
    have : bodyT (s :: t :: ss) = labT s.data.toList ++ (46 :: bodyT (t :: ss)) := by simp [bodyT]
    rw [this, par_lab, par_dot _ _ rfl (by simp [bodyT]), ih]
    simp
theorem bodyT_two (t : ByteArray) (ss : List ByteArray) (h : 1 ≤ t.size) : (bodyT (t :: ss)).dropLast ≠ [] := by
  have hl : t.data.toList.length = t.size := by simp
  intro h2
  cases hs : t.data.toList with
  | nil => rw [hs] at hl; simp at hl; omega
  | cons c l =>
    have : 2 ≤ (bodyT (t :: ss)).length := by
      have h3 : 1 ≤ (escL c).length := by unfold escL; split; simp; split <;> simp
      simp [bodyT, hs, labT]; omega
    have h4 := congrArg List.length h2
    simp at h4
    omega
theorem par_open (ss : List ByteArray) : ∀ (s : ByteArray) (out : List ByteArray), (∀ t ∈ ss, 1 ≤ t.size) → par ((bodyT (s :: ss)).dropLast) out [] = fin (out ++ s :: ss) := by
  induction ss with
  | nil =>
    intro s out _
    have : (bodyT [s]).dropLast = labT s.data.toList ++ [] := by simp [bodyT]
    rw [this, par_lab, par_nil]
    simp
  | cons t ss ih =>
    intro s out hz
    have hb : bodyT (t :: ss) ≠ [] := by simp [bodyT]
    have : (bodyT (s :: t :: ss)).dropLast = labT s.data.toList ++ (46 :: (bodyT (t :: ss)).dropLast) := by
      have e : bodyT (s :: t :: ss) = (labT s.data.toList ++ [46]) ++ bodyT (t :: ss) := by simp [bodyT]
      rw [e, List.dropLast_append_of_ne_nil hb]
      simp
    rw [this, par_lab, par_dot _ _ rfl (bodyT_two t ss (hz t (by simp))), ih t _ (fun x hx => hz x (by simp [hx]))]
    simp
theorem bodyT_first (s : ByteArray) (ss : List ByteArray) (h : 1 ≤ s.size) : ∃ c r, bodyT (s :: ss) = c :: r ∧ c.toNat ≠ 46 ∧ r ≠ [] := by
  have hl : s.data.toList.length = s.size := by simp
  cases hs : s.data.toList with
  | nil => rw [hs] at hl; simp at hl; omega
  | cons c l =>
    have e : bodyT (s :: ss) = escL c ++ (labT l ++ [46] ++ bodyT ss) := by simp [bodyT, hs, labT]
    rw [e]
    unfold escL
    split
    · exact ⟨_, _, rfl, by decide, by simp⟩
    · split
      · exact ⟨_, _, rfl, by decide, by simp⟩
      · exact ⟨_, _, rfl, by omega, by simp⟩
theorem parse_text (ss : List ByteArray) (h : soundB ss = true) : parseB (textT ss) = some ss := by
  cases ss with
  | nil => rfl
  | cons s ss =>
    obtain ⟨c, r, e, h1, h2⟩ := bodyT_first s ss (soundB_len h s (by simp))
    have hb := par_body ss s []
    rw [textT, if_neg (by simp), parseB, if_neg (by rw [e]; intro h3; simp at h3; exact h1 (by rw [h3.1]; rfl)), hb]
    simp [fin, h]
theorem parse_open (ss : List ByteArray) (h : soundB ss = true) (hne : ss ≠ []) : parseB ((textT ss).dropLast) = some ss := by
  cases ss with
  | nil => exact absurd rfl hne
  | cons s ss =>
    obtain ⟨c, r, e, h1, h2⟩ := bodyT_first s ss (soundB_len h s (by simp))
    have hb := par_open ss s [] (fun t ht => soundB_len h t (by simp [ht]))
    rw [textT, if_neg (by simp), parseB, if_neg (by rw [e]; intro h3; cases r with | nil => exact h2 rfl | cons d r => (simp at h3; exact h1 (by rw [h3.1]; rfl))), hb]
    simp [fin, h]
end Go.Proofs.YtipbakdodbmfjaaGreatDoor

/- The plain law of types' names. No program is walked here. -/
import Derived.Test.YtipbakdodbmfjaaGreatDoorScriptAct
import Derived.Test.YtipbakdodbmfjaaGreatDoorSmall
namespace Go.Proofs.YtipbakdodbmfjaaGreatDoor

def typesP : List (Int × List UInt8) := [(1, [65]), (2, [78, 83]), (5, [67, 78, 65, 77, 69]), (6, [83, 79, 65]), (12, [80, 84, 82]), (15, [77, 88]), (16, [84, 88, 84]), (28, [65, 65, 65, 65]), (33, [83, 82, 86])]
def TYPEP : List UInt8 := [84, 89, 80, 69]
def typeNameP (k : Int) : List UInt8 := if k < 1 ∨ 65535 < k then [] else match typesP.find? (fun t => decide (t.1 = k)) with | some t => t.2 | none => TYPEP ++ Lib.itoa k
def upC (c : UInt8) : UInt8 := if 97 ≤ c.toNat ∧ c.toNat ≤ 122 then UInt8.ofNat (c.toNat - 32) else c
def upP (l : List UInt8) : List UInt8 := l.map upC
def lowP (l : List UInt8) : List UInt8 := l.map lowB
/-- which type a number behind TYPE is; 0: none -/
def numT (w : List UInt8) : Int := match numP w with | some v => if 1 ≤ v ∧ v ≤ 65535 then v else 0 | none => 0
/-- which type is called so; 0: none -/
def typeP (s : List UInt8) : Int :=
  match typesP.find? (fun t => decide (t.2 = upP s)) with
  | some t => t.1
  | none => if TYPEP.isPrefixOf (upP s) = true then numT ((upP s).drop 4) else 0
theorem upC_nat (c : UInt8) : (upC c).toNat = if 97 ≤ c.toNat ∧ c.toNat ≤ 122 then c.toNat - 32 else c.toNat := by
  unfold upC
  have := c.toNat_lt
  split
  · rw [UInt8.toNat_ofNat']; omega
  · rfl
theorem lowB_nat (c : UInt8) : (lowB c).toNat = if 65 ≤ c.toNat ∧ c.toNat ≤ 90 then c.toNat + 32 else c.toNat := by
  unfold lowB
  have := c.toNat_lt
  split
  · rw [UInt8.toNat_ofNat']; omega
  · rfl
theorem up_low (c : UInt8) : upC (lowB c) = upC c := by
  apply UInt8.toNat_inj.1
  rw [upC_nat, upC_nat, lowB_nat]
  (repeat' split) <;> omega
theorem low_up (c : UInt8) : lowB (upC c) = lowB c := by
  apply UInt8.toNat_inj.1
  rw [lowB_nat, lowB_nat, upC_nat]
  (repeat' split) <;> omega
theorem upP_low (l : List UInt8) : upP (lowP l) = upP l := by
  simp only [upP, lowP, List.map_map]
  exact List.map_congr_left fun c _ => up_low c
theorem lowP_up (l : List UInt8) : lowP (upP l) = lowP l := by
  simp only [upP, lowP, List.map_map]
  exact List.map_congr_left fun c _ => low_up c
theorem typeP_low (s : List UInt8) : typeP (lowP s) = typeP s := by simp only [typeP, upP_low]
/-- letters that are large already -/
theorem up_self {l : List UInt8} (h : ∀ c ∈ l, c.toNat < 97) : upP l = l := by
  unfold upP
  conv => rhs; rw [← List.map_id l]
  apply List.map_congr_left
  intro c hc
  have := h c hc
  simp [upC]
  omega
theorem up_dec (u : Nat) : upP (Lib.decDigits u) = Lib.decDigits u := up_self fun c hc => by have := dec_digit u c hc; omega
theorem itoa_dec (k : Int) (h : 0 ≤ k) : Lib.itoa k = Lib.decDigits k.toNat := by
  unfold Lib.itoa
  rw [if_neg (by omega)]
theorem types_short : ∀ t ∈ typesP, t.2.take 2 ≠ [84, 89] := by decide
theorem find_none (w : List UInt8) : typesP.find? (fun t => decide (t.2 = TYPEP ++ w)) = none := by
  rw [List.find?_eq_none]
  intro t ht h
  simp only [decide_eq_true_eq] at h
  have := types_short t ht
  rw [h] at this
  exact this rfl
theorem numT_itoa (k : Int) (h1 : 1 ≤ k) (h2 : k ≤ 65535) : numT (Lib.itoa k) = k := by
  unfold numT
  rw [numP_itoa k (by omega) (by omega)]
  simp only
  rw [if_pos ⟨h1, h2⟩]
theorem typeP_num (p : List UInt8) (hp : upP p = TYPEP) (k : Int) (h1 : 1 ≤ k) (h2 : k ≤ 65535) : typeP (p ++ Lib.itoa k) = k := by
  have e : upP (p ++ Lib.itoa k) = TYPEP ++ Lib.itoa k := by
    unfold upP
    rw [List.map_append]
    have h3 := up_dec k.toNat
    rw [← itoa_dec k (by omega)] at h3
    unfold upP at h3 hp
    rw [hp, h3]
  unfold typeP
  rw [e, find_none]
  have h3 : TYPEP.isPrefixOf (TYPEP ++ Lib.itoa k) = true := by rw [List.isPrefixOf_iff_prefix]; exact List.prefix_append _ _
  simp only [h3, if_true]
  exact numT_itoa k h1 h2
theorem types_name : ∀ t ∈ typesP, typeP t.2 = t.1 := by decide
/-- each type's name is its -/
theorem typeP_name (k : Int) (h1 : 1 ≤ k) (h2 : k ≤ 65535) : typeP (typeNameP k) = k := by
  unfold typeNameP
  rw [if_neg (by omega)]
  cases hf : typesP.find? (fun t => decide (t.1 = k)) with
  | some t =>
    have hm := List.mem_of_find?_eq_some hf
    have hk := List.find?_some hf
    simp only [decide_eq_true_eq] at hk
    simp only
    rw [types_name t hm, hk]
  | none => exact typeP_num TYPEP (by decide) k h1 h2

/-! ### The reference's -/
def valP (l : List UInt8) : Nat := l.foldl (fun n c => n * 10 + (c.toNat - 48)) 0
def digsB (l : List UInt8) : Bool := l.all fun c => decide (48 ≤ c.toNat) && decide (c.toNat ≤ 57)
/-- the reference's Number -/
def numR (w : List UInt8) : Int :=
  if w.length < 1 ∨ 12 < w.length ∨ (1 < w.length ∧ w.headD 0 = 48) then -1 else if digsB w = true then (if 65535 < valP w then -1 else (valP w : Int)) else -1
def typeR (s : List UInt8) : Int :=
  match typesP.find? (fun t => decide (lowP t.2 = lowP s)) with
  | some t => t.1
  | none => if 4 < (lowP s).length ∧ (lowP s).take 4 = [116, 121, 112, 101] then (if 0 < numR ((lowP s).drop 4) then numR ((lowP s).drop 4) else 0) else 0
theorem valP_snoc (l : List UInt8) (c : UInt8) : valP (l ++ [c]) = valP l * 10 + (c.toNat - 48) := by simp [valP]
/-- digits without a zero ahead are the numeral of their value -/
theorem dec_val : ∀ (n : Nat) (l : List UInt8), l.length = n → digsB l = true → l ≠ [] → (l.length = 1 ∨ l.headD 0 ≠ 48) → Lib.decDigits (valP l) = l
  | 0, l, hn, _, h, _ => absurd (List.eq_nil_of_length_eq_zero hn) h
  | n + 1, l, hn, hd, hne, h0 => by
    obtain ⟨m, c, rfl⟩ : ∃ m c, l = m ++ [c] := ⟨l.dropLast, l.getLast hne, (List.dropLast_concat_getLast hne).symm⟩
    simp only [digsB, List.all_append, List.all_cons, List.all_nil, Bool.and_true, Bool.and_eq_true, decide_eq_true_eq] at hd
    obtain ⟨hd1, hc1, hc2⟩ := hd
    rw [valP_snoc]
    have hc : UInt8.ofNat (48 + (c.toNat - 48)) = c := by
      rw [show 48 + (c.toNat - 48) = c.toNat from by omega, UInt8.ofNat_toNat]
    by_cases hl : m = []
    · subst hl
      simp only [valP, List.foldl_nil, Nat.zero_mul, Nat.zero_add, List.nil_append]
      rw [dec_one _ (by omega), hc]
    · have h1 : m.headD 0 ≠ 48 := by
        cases m with
        | nil => exact absurd rfl hl
        | cons a r =>
          rcases h0 with h | h
          · simp at h
          · simpa using h
      have hih := dec_val n m (by simp at hn; exact hn) hd1 hl (Or.inr h1)
      have hpos : 0 < valP m := by
        rcases Nat.eq_zero_or_pos (valP m) with h | h
        · rw [h, dec_one 0 (by omega)] at hih
          rw [← hih] at h1
          exact absurd rfl h1
        · exact h
      rw [dec_step _ (by omega), show (valP m * 10 + (c.toNat - 48)) / 10 = valP m from by omega, show (valP m * 10 + (c.toNat - 48)) % 10 = c.toNat - 48 from by omega, hih, hc]
theorem val_dec : ∀ (k u : Nat), u < 10 ^ (k + 1) → valP (Lib.decDigits u) = u
  | 0, u, h => by
    rw [dec_one u (by omega)]
    have := dig_nat u (by omega)
    simp only [valP, List.foldl_cons, List.foldl_nil]
    rw [this]
    omega
  | k + 1, u, h => by
    by_cases h10 : u < 10
    · rw [dec_one u h10]
      have := dig_nat u h10
      simp only [valP, List.foldl_cons, List.foldl_nil]
      rw [this]
      omega
    · rw [dec_step u h10, valP_snoc, val_dec k (u / 10) (by rw [Nat.pow_succ] at h; omega), dig_nat _ (by omega)]
      omega
theorem dec_head : ∀ (k u : Nat), u < 10 ^ (k + 1) → 0 < u → (Lib.decDigits u).headD 0 ≠ 48
  | 0, u, h, h0 => by
    rw [dec_one u (by omega)]
    have := dig_nat u (by omega)
    intro e
    simp only [List.headD_cons] at e
    rw [e] at this
    have h48 : (48 : UInt8).toNat = 48 := rfl
    omega
  | k + 1, u, h, h0 => by
    by_cases h10 : u < 10
    · rw [dec_one u h10]
      have := dig_nat u h10
      intro e
      simp only [List.headD_cons] at e
      rw [e] at this
      have h48 : (48 : UInt8).toNat = 48 := rfl
      omega
    · rw [dec_step u h10]
      have ih := dec_head k (u / 10) (by rw [Nat.pow_succ] at h; omega) (by omega)
      have hne := dec_ne (u / 10)
      cases hd : Lib.decDigits (u / 10) with
      | nil => exact absurd hd hne
      | cons a r => rw [hd] at ih; simpa using ih
theorem dec_digsB (u : Nat) : digsB (Lib.decDigits u) = true := by
  unfold digsB
  rw [List.all_eq_true]
  intro c hc
  have := dec_digit u c hc
  simp
  omega
theorem dec_len5 (u : Nat) (h : u ≤ 65535) : (Lib.decDigits u).length ≤ 5 := by
  rw [Lib.decDigits_length]
  rcases Nat.lt_or_ge u 10 with h1 | h1
  · rw [Lib.nDigits_small h1]; omega
  · rw [Lib.nDigits_big (by omega)]
    rcases Nat.lt_or_ge (u / 10) 10 with h2 | h2
    · rw [Lib.nDigits_small h2]; omega
    · rw [Lib.nDigits_big (by omega)]
      rcases Nat.lt_or_ge (u / 10 / 10) 10 with h3 | h3
      · rw [Lib.nDigits_small h3]; omega
      · rw [Lib.nDigits_big (by omega)]
        rcases Nat.lt_or_ge (u / 10 / 10 / 10) 10 with h4 | h4
        · rw [Lib.nDigits_small h4]; omega
        · rw [Lib.nDigits_big (by omega), Lib.nDigits_small (by omega)]
          omega
/-- of a positive number the reference's Number is the numeral's -/
theorem numR_dec (v : Int) (h1 : 1 ≤ v) (h2 : v ≤ 65535) : numR (Lib.itoa v) = v := by
  rw [itoa_dec v (by omega)]
  have hne := dec_ne v.toNat
  have hl := dec_len5 v.toNat (by omega)
  have hh := dec_head 5 v.toNat (by omega) (by omega)
  have hv := val_dec 5 v.toNat (by omega)
  have hp : 1 ≤ (Lib.decDigits v.toNat).length := List.length_pos_iff.2 hne
  unfold numR
  rw [if_neg (by rintro (h | h | h) <;> first | omega | exact hh h.2), if_pos (dec_digsB _), hv, if_neg (by omega)]
  omega
theorem digit_low {l : List UInt8} (h : digsB (lowP l) = true) : lowP l = l ∧ upP l = l := by
  simp only [digsB, lowP, List.all_map, List.all_eq_true, Function.comp, Bool.and_eq_true, decide_eq_true_eq] at h
  have key : ∀ c ∈ l, lowB c = c ∧ upC c = c := by
    intro c hc
    have h1 := h c hc
    rw [lowB_nat] at h1
    have h2 : ¬ (65 ≤ c.toNat ∧ c.toNat ≤ 90) := by
      intro h3
      rw [if_pos h3] at h1
      omega
    rw [if_neg h2] at h1
    exact ⟨by rw [lowB, if_neg h2], by rw [upC, if_neg (by omega)]⟩
  constructor
  · unfold lowP
    conv => rhs; rw [← List.map_id l]
    exact List.map_congr_left fun c hc => (key c hc).1
  · unfold upP
    conv => rhs; rw [← List.map_id l]
    exact List.map_congr_left fun c hc => (key c hc).2
/-- the number behind the four letters -/
theorem num_same (w : List UInt8) : numT (upP w) = if 0 < numR (lowP w) then numR (lowP w) else 0 := by
  by_cases hn : 0 < numR (lowP w)
  · rw [if_pos hn]
    unfold numR at hn ⊢
    split at hn
    · omega
    · rename_i hc
      split at hn
      · rename_i hd
        split at hn
        · omega
        · rename_i hv
          rw [if_neg hc, if_pos hd, if_neg hv]
          obtain ⟨e1, e2⟩ := digit_low hd
          rw [e1] at hc hd hn hv ⊢
          rw [e2]
          have hdec := dec_val _ w rfl hd (by rintro rfl; simp at hc) (by
            by_cases hl : w.length = 1
            · exact Or.inl hl
            · refine Or.inr fun h48 => ?_
              apply hc
              refine Or.inr (Or.inr ⟨?_, h48⟩)
              have : ¬ w.length < 1 := fun h => hc (Or.inl h)
              omega)
          have hi : Lib.itoa (valP w : Int) = w := by rw [itoa_dec _ (by omega)]; simpa using hdec
          have h5 := numT_itoa (valP w : Int) (by omega) (by omega)
          rw [hi] at h5
          exact h5
      · omega
  · rw [if_neg hn]
    unfold numT
    cases hp : numP (upP w) with
    | none => rfl
    | some v =>
      simp only
      by_cases hv : 1 ≤ v ∧ v ≤ 65535
      · exfalso
        apply hn
        obtain ⟨e, _, _⟩ := numP_spec hp
        have e2 : lowP w = Lib.itoa v := by
          rw [← lowP_up, e, itoa_dec v (by omega)]
          have hd := dec_digsB v.toNat
          have : lowP (Lib.decDigits v.toNat) = Lib.decDigits v.toNat := by
            unfold lowP
            conv => rhs; rw [← List.map_id (Lib.decDigits v.toNat)]
            apply List.map_congr_left
            intro c hc
            have := dec_digit v.toNat c hc
            simp only [id]
            rw [lowB, if_neg (by omega)]
          exact this
        rw [e2, numR_dec v hv.1 hv.2]
        omega
      · rw [if_neg hv]
theorem types_up : ∀ t ∈ typesP, upP t.2 = t.2 := by decide
theorem same_name (t s : List UInt8) (ht : upP t = t) : decide (t = upP s) = decide (lowP t = lowP s) := by
  apply decide_eq_decide.2
  constructor
  · intro h; rw [h, lowP_up]
  · intro h
    rw [← ht, ← upP_low, h, upP_low]
theorem find_congr {α : Type} {p q : α → Bool} : ∀ {l : List α}, (∀ a ∈ l, p a = q a) → l.find? p = l.find? q
  | [], _ => rfl
  | a :: l, h => by
    simp only [List.find?_cons, h a (by simp)]
    split
    · rfl
    · exact find_congr fun b hb => h b (by simp [hb])
theorem prefix_low (s : List UInt8) : TYPEP.isPrefixOf (upP s) = decide ((lowP s).take 4 = [116, 121, 112, 101]) := by
  rw [Bool.eq_iff_iff, List.isPrefixOf_iff_prefix, decide_eq_true_eq, List.prefix_iff_eq_take]
  have e1 : (lowP s).take 4 = lowP (s.take 4) := by simp [lowP, List.map_take]
  have e2 : (upP s).take TYPEP.length = upP (s.take 4) := by simp [upP, TYPEP, List.map_take]
  rw [e1, e2]
  constructor
  · intro h
    rw [← lowP_up, ← h]; decide
  · intro h
    rw [← upP_low, h]; decide
/-- the reference's answer is the program's -/
theorem type_same (s : List UInt8) : typeR s = typeP s := by
  unfold typeR typeP
  have hf : typesP.find? (fun t => decide (t.2 = upP s)) = typesP.find? (fun t => decide (lowP t.2 = lowP s)) := find_congr fun t ht => same_name t.2 s (types_up t ht)
  rw [hf]
  cases typesP.find? (fun t => decide (lowP t.2 = lowP s)) with
  | some t => rfl
  | none =>
    simp only
    have hd : (upP s).drop 4 = upP (s.drop 4) := by simp [upP, List.map_drop]
    have hd2 : (lowP s).drop 4 = lowP (s.drop 4) := by simp [lowP, List.map_drop]
    rw [hd, hd2, num_same, prefix_low]
    by_cases ht : (lowP s).take 4 = [116, 121, 112, 101]
    · have hl4 : 4 ≤ (lowP s).length := by
        have := congrArg List.length ht
        simp at this ⊢
        omega
      simp only [ht, decide_true, if_true, and_true]
      by_cases hl : 4 < (lowP s).length
      · rw [if_pos hl]
      · rw [if_neg hl]
        have hn : s.drop 4 = [] := List.drop_eq_nil_of_le (by simp [lowP] at hl; omega)
        rw [hn]
        rfl
    · simp [ht]
theorem typeP_pos (s : List UInt8) : 0 ≤ typeP s ∧ typeP s ≤ 65535 := by
  unfold typeP
  split
  · rename_i t h
    have hm := List.mem_of_find?_eq_some h
    have : ∀ t ∈ typesP, 0 ≤ t.1 ∧ t.1 ≤ 65535 := by decide
    exact this t hm
  · split
    · unfold numT
      split
      · split <;> omega
      · omega
    · omega
end Go.Proofs.YtipbakdodbmfjaaGreatDoor

/- Plain facts on lines: how long they are, which signs they hold; a script's text, cut into lines. No program is walked here. -/
import Derived.Test.YtipbakdodbmfjaaGreatDoorScriptLine
import Derived.Test.YtipbakdodbmfjaaGreatDoorHex
import Derived.Lib.ItoaLen
namespace Go.Proofs.YtipbakdodbmfjaaGreatDoor

theorem textT_len (ss : List ByteArray) : (textT ss).length ≤ 4 * sizeN ss + 1 := by
  have := bodyT_len ss
  unfold textT
  split
  · simp
  · omega
theorem dec_le20 (u : Nat) (h : u < 18446744073709551616) : (Lib.decDigits u).length ≤ 20 := by
  rw [Lib.decDigits_length]; exact Lib.nDigits_le20 u h
theorem write_len (f : Nat) (x : ActP) (hx : x.fits) : (writeP f x).length ≤ 4 * sizeN x.name + 2 * x.data.length + 32 := by
  obtain ⟨⟨a1, a2⟩, ⟨b1, b2⟩, ⟨n1, n2⟩, hm, ht⟩ := hx
  have h1 := Lib.itoa_length_le x.a a1 a2
  have h2 := Lib.itoa_length_le x.b b1 b2
  have h3 := Lib.itoa_length_le x.n n1 n2
  have h4 := textT_len x.name
  have h5 := dec_le20 x.mask hm
  have h6 := dec_le20 x.torn ht
  have h7 := hexB_len x.data
  unfold writeP hexP
  split
  · omega
  · split
    · omega
    · split
      · omega
      · split
        · omega
        · split
          · omega
          · split
            · omega
            · simp only [List.length_cons]; omega
theorem joinP_len (c : UInt8) (m : Nat) : ∀ ws : List (List UInt8), (∀ w ∈ ws, w.length ≤ m) → (joinP c ws).length ≤ ws.length * (m + 1)
  | [], _ => by simp [joinP]
  | [w], h => by have := h w (by simp); simp [joinP]; omega
  | w :: v :: ws, h => by
    have ih := joinP_len c m (v :: ws) (fun u hu => h u (by simp [hu]))
    have h1 := h w (by simp)
    simp only [joinP, List.length_append, List.length_cons] at ih ⊢
    have e := Nat.succ_mul (ws.length + 1) (m + 1)
    rw [Nat.succ_eq_add_one] at e
    omega
theorem forms_small : ∀ f ∈ formsP, f.1.length ≤ 32 ∧ f.2.2.length ≤ 3 := by decide
theorem text_len (f : Form) (hf : f ∈ formsP) (x : ActP) (hx : x.fits) : (textOf f x).length ≤ 4 * (4 * sizeN x.name + 2 * x.data.length + 33) := by
  obtain ⟨h1, h2⟩ := forms_small f hf
  have h := joinP_len 32 (4 * sizeN x.name + 2 * x.data.length + 32) (wordsOf f x) (by
    intro w hw
    rcases List.mem_cons.1 hw with rfl | hw
    · omega
    · obtain ⟨g, _, rfl⟩ := List.mem_map.1 hw
      exact write_len g x hx)
  have hl : (wordsOf f x).length ≤ 4 := by simp [wordsOf]; omega
  refine Nat.le_trans h ?_
  exact Nat.le_trans (Nat.mul_le_mul_right _ hl) (by omega)

theorem dec_hi (u : Nat) : ∀ c ∈ Lib.decDigits u, 33 ≤ c.toNat := by
  intro c hc
  have := (dec_digit u c hc).1
  omega
theorem itoa_hi (v : Int) : ∀ c ∈ Lib.itoa v, 33 ≤ c.toNat := by
  intro c hc
  unfold Lib.itoa at hc
  split at hc
  · rcases List.mem_cons.1 hc with rfl | hc
    · decide
    · exact dec_hi _ c hc
  · exact dec_hi _ c hc
theorem esc_hi (x : UInt8) : ∀ c ∈ escL x, 33 ≤ c.toNat := by
  intro c hc
  have hx := x.toNat_lt
  unfold escL at hc
  have hd : ∀ n, n < 10 → 33 ≤ (dig n).toNat := by
    intro n hn
    rw [dig_toNat n hn]; omega
  split at hc
  · rename_i h
    simp only [List.mem_cons, List.not_mem_nil, or_false] at hc
    rcases hc with rfl | rfl
    · decide
    · rcases h with h | h <;> omega
  · split at hc
    · simp only [List.mem_cons, List.not_mem_nil, or_false] at hc
      rcases hc with rfl | rfl | rfl | rfl
      · decide
      · exact hd _ (by omega)
      · exact hd _ (by omega)
      · exact hd _ (by omega)
    · rename_i h1 h2
      simp at hc
      subst hc
      omega
theorem text_hi (ss : List ByteArray) : ∀ c ∈ textT ss, 33 ≤ c.toNat := by
  intro c hc
  unfold textT at hc
  split at hc
  · simp at hc; subst hc; decide
  · unfold bodyT at hc
    rw [List.mem_flatMap] at hc
    obtain ⟨s, _, hc⟩ := hc
    rcases List.mem_append.1 hc with hc | hc
    · unfold labT at hc
      rw [List.mem_flatMap] at hc
      obtain ⟨x, _, hc⟩ := hc
      exact esc_hi x c hc
    · simp at hc; subst hc; decide
theorem hex_hi (b : List UInt8) : ∀ c ∈ hexP b, 33 ≤ c.toNat := by
  intro c hc
  rcases List.mem_cons.1 hc with rfl | hc
  · decide
  · have := (hexB_all b).1
    rw [List.all_eq_true] at this
    have h := this c hc
    unfold isHex at h
    simp only [Bool.or_eq_true, decide_eq_true_eq] at h
    omega
theorem write_hi (f : Nat) (x : ActP) : ∀ c ∈ writeP f x, 33 ≤ c.toNat := by
  unfold writeP
  split
  · exact itoa_hi _
  · split
    · exact itoa_hi _
    · split
      · exact itoa_hi _
      · split
        · exact text_hi _
        · split
          · exact dec_hi _
          · split
            · exact dec_hi _
            · exact hex_hi _
theorem joinP_mem (d : UInt8) : ∀ (ws : List (List UInt8)) (c : UInt8), c ∈ joinP d ws → c = d ∨ ∃ w ∈ ws, c ∈ w
  | [], c, h => by simp [joinP] at h
  | [w], c, h => Or.inr ⟨w, by simp, by simpa [joinP] using h⟩
  | w :: v :: ws, c, h => by
    simp only [joinP] at h
    rcases List.mem_append.1 h with h | h
    · exact Or.inr ⟨w, by simp, h⟩
    · rcases List.mem_cons.1 h with h | h
      · exact Or.inl h
      · rcases joinP_mem d (v :: ws) c h with h | ⟨u, hu, h⟩
        · exact Or.inl h
        · exact Or.inr ⟨u, by simp [hu], h⟩
theorem line_no10 (f : Form) (hf : f ∈ formsP) (x : ActP) : ∀ c ∈ textOf f x, c ≠ 10 := by
  intro c hc e
  subst e
  rcases joinP_mem 32 _ _ hc with h | ⟨w, hw, h⟩
  · exact absurd h (by decide)
  · rcases List.mem_cons.1 hw with rfl | hw
    · have : ∀ f ∈ formsP, (10 : UInt8) ∉ f.1 := by decide
      exact this f hf h
    · obtain ⟨g, _, rfl⟩ := List.mem_map.1 hw
      have := write_hi g x _ h
      exact absurd this (by decide)
theorem lineL_form {x : ActP} {s : List UInt8} (h : lineL x = some s) : ∃ f, f ∈ formsP ∧ f.2.1 = x.kind ∧ s = textOf f x := by
  unfold lineL at h
  split at h
  · cases h
  · rename_i f hf
    split at h
    · injection h with h
      exact ⟨f, (formOf_mem hf).1, (formOf_mem hf).2, h.symm⟩
    · cases h

/-- a text, cut at a sign -/
def cutP (c : UInt8) : List UInt8 → List UInt8 × List UInt8 × Bool
  | [] => ([], [], false)
  | x :: r => if x = c then ([], r, true) else (x :: (cutP c r).1, (cutP c r).2.1, (cutP c r).2.2)
theorem cutP_at (c : UInt8) (r : List UInt8) : ∀ s : List UInt8, (∀ x ∈ s, x ≠ c) → cutP c (s ++ c :: r) = (s, r, true)
  | [], _ => by simp [cutP]
  | x :: s, h => by
    have ih := cutP_at c r s (fun y hy => h y (by simp [hy]))
    simp only [List.cons_append, cutP, if_neg (h x (by simp)), ih]
theorem cutP_none (c : UInt8) : ∀ s : List UInt8, (∀ x ∈ s, x ≠ c) → cutP c s = (s, [], false)
  | [], _ => rfl
  | x :: s, h => by
    have ih := cutP_none c s (fun y hy => h y (by simp [hy]))
    simp only [cutP, if_neg (h x (by simp)), ih]
theorem cutP_cases (c : UInt8) : ∀ l : List UInt8, (∀ x ∈ l, x ≠ c) ∨ ∃ s r, l = s ++ c :: r ∧ ∀ x ∈ s, x ≠ c
  | [] => Or.inl (fun x h => by cases h)
  | y :: l => by
    by_cases h : y = c
    · exact Or.inr ⟨[], l, by simp [h], fun x h => by cases h⟩
    · rcases cutP_cases c l with h1 | ⟨s, r, e, h1⟩
      · refine Or.inl fun x hx => ?_
        rcases List.mem_cons.1 hx with rfl | hx
        · exact h
        · exact h1 x hx
      · refine Or.inr ⟨y :: s, r, by rw [e]; rfl, fun x hx => ?_⟩
        rcases List.mem_cons.1 hx with rfl | hx
        · exact h
        · exact h1 x hx
theorem cutP_len (c : UInt8) (l : List UInt8) : (cutP c l).1.length ≤ l.length ∧ (cutP c l).2.1.length ≤ l.length - 1 := by
  rcases cutP_cases c l with h | ⟨s, r, rfl, h⟩
  · rw [cutP_none c l h]; simp
  · rw [cutP_at c r s h]; simp
/-- the acts of a text, from line n on -/
def getP : Nat → List UInt8 → Nat → Except Nat (List ActP)
  | 0, _, _ => .ok []
  | f + 1, t, n =>
    if t = [] then .ok [] else
    match actP (cutP 10 t).1, (cutP 10 t).2.2 with
    | some a, true => match getP f (cutP 10 t).2.1 (n + 1) with | .ok l => .ok (a :: l) | .error k => .error k
    | _, _ => .error n
theorem getP_step {f : Nat} {s r : List UInt8} {n : Nat} {a : ActP} (h : ∀ x ∈ s, x ≠ 10) (ha : actP s = some a) : getP (f + 1) (s ++ 10 :: r) n = match getP f r (n + 1) with | .ok l => .ok (a :: l) | .error k => .error k := by
  simp only [getP, cutP_at 10 r s h, ha]
  rw [if_neg (by simp)]
/-- a script's text -/
def scriptT (ts : List (List UInt8)) : List UInt8 := ts.flatMap fun t => t ++ [10]
theorem scriptT_cons (t : List UInt8) (ts : List (List UInt8)) : scriptT (t :: ts) = t ++ 10 :: scriptT ts := by simp [scriptT]
theorem getP_nil (f n : Nat) : getP f [] n = .ok [] := by cases f <;> simp [getP]
/-- the lines of acts that have lines, then more text -/
theorem getP_lines : ∀ (xs : List ActP) (ts : List (List UInt8)) (r : List UInt8) (f n : Nat), xs.length ≤ f → (∀ x ∈ xs, x.fits) → xs.map lineL = ts.map some →
    getP f (scriptT ts ++ r) n = match getP (f - xs.length) r (n + xs.length) with | .ok l => .ok (xs ++ l) | .error k => .error k
  | [], [], r, f, n, _, _, _ => by
    simp only [scriptT, List.flatMap_nil, List.nil_append, List.length_nil, Nat.sub_zero, Nat.add_zero]
    cases getP f r n <;> rfl
  | [], _ :: _, _, _, _, _, _, h => by simp at h
  | _ :: _, [], _, _, _, _, _, h => by simp at h
  | x :: xs, t :: ts, r, 0, n, hf, _, _ => by simp at hf
  | x :: xs, t :: ts, r, f + 1, n, hf, hx, h => by
    simp only [List.map_cons, List.cons.injEq] at h
    obtain ⟨g, hg, _, e⟩ := lineL_form h.1
    have ha := line_act x (hx x (by simp)) t h.1
    rw [scriptT_cons, List.append_assoc, List.cons_append, getP_step (by rw [e]; exact line_no10 g hg x) ha]
    have ih := getP_lines xs ts r f (n + 1) (by simp at hf; omega) (fun y hy => hx y (by simp [hy])) h.2
    rw [ih]
    simp only [List.length_cons, Nat.succ_sub_succ]
    rw [show n + 1 + xs.length = n + (xs.length + 1) from by omega]
    cases getP (f - xs.length) r (n + (xs.length + 1)) <;> rfl
end Go.Proofs.YtipbakdodbmfjaaGreatDoor

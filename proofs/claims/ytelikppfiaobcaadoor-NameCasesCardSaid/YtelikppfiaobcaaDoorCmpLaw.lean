/- Plain laws of the order of names: it is antisymmetric and transitive, and 0 just between equal names. -/
import Derived.Test.YtelikppfiaobcaaDoorCmp
set_option linter.unusedVariables false
namespace Go.Proofs.YtelikppfiaobcaaDoor

/-- a three-way comparison that is one order -/
structure Order {α : Type} (c : α → α → Int) : Prop where
  anti : ∀ x y, c y x = - c x y
  trans : ∀ x y z, c x y ≤ 0 → c y z ≤ 0 → c x z ≤ 0 ∧ (c x z = 0 → c x y = 0 ∧ c y z = 0)

theorem Order.refl {α : Type} {c : α → α → Int} (h : Order c) (x : α) : c x x = 0 := by have := h.anti x x; omega
theorem Order.zero {α : Type} {c : α → α → Int} (h : Order c) {x y z : α} (h1 : c x y = 0) (h2 : c y z = 0) : c x z = 0 := by
  have a := (h.trans x y z (by omega) (by omega)).1
  have b := (h.trans z y x (by rw [h.anti]; omega) (by rw [h.anti]; omega)).1
  have := h.anti x z
  omega

theorem byte_cases (a b : UInt8) : a < b ∨ a = b ∨ b < a := by
  rcases Nat.lt_trichotomy a.toNat b.toNat with h | h | h
  · exact .inl h
  · exact .inr (.inl (UInt8.toNat_inj.1 h))
  · exact .inr (.inr h)
theorem byte_irrefl (a : UInt8) : ¬ a < a := Nat.lt_irrefl _
theorem byte_asymm {a b : UInt8} (h : a < b) : ¬ b < a := Nat.lt_asymm h

theorem compareBytes_eq (a : UInt8) (xs ys : List UInt8) : Lib.compareBytes (a :: xs) (a :: ys) = Lib.compareBytes xs ys := by
  rw [Lib.compareBytes, if_neg (byte_irrefl a), if_neg (byte_irrefl a)]
theorem compareBytes_lt {a b : UInt8} (h : a < b) (xs ys : List UInt8) : Lib.compareBytes (a :: xs) (b :: ys) = -1 := by
  rw [Lib.compareBytes, if_pos h]
theorem compareBytes_gt {a b : UInt8} (h : b < a) (xs ys : List UInt8) : Lib.compareBytes (a :: xs) (b :: ys) = 1 := by
  rw [Lib.compareBytes, if_neg (byte_asymm h), if_pos h]

theorem compareBytes_anti : ∀ x y : List UInt8, Lib.compareBytes y x = - Lib.compareBytes x y
  | [], [] => rfl
  | [], _ :: _ => rfl
  | _ :: _, [] => rfl
  | a :: xs, b :: ys => by
    rcases byte_cases a b with h | rfl | h
    · rw [compareBytes_lt h, compareBytes_gt h]; decide
    · rw [compareBytes_eq, compareBytes_eq]; exact compareBytes_anti xs ys
    · rw [compareBytes_lt h, compareBytes_gt h]
theorem compareBytes_zero : ∀ x y : List UInt8, Lib.compareBytes x y = 0 ↔ x = y
  | [], [] => by simp [Lib.compareBytes]
  | [], _ :: _ => by simp [Lib.compareBytes]
  | _ :: _, [] => by simp [Lib.compareBytes]
  | a :: xs, b :: ys => by
    rcases byte_cases a b with h | rfl | h
    · rw [compareBytes_lt h]
      simp only [List.cons.injEq]
      constructor
      · intro h; omega
      · rintro ⟨rfl, _⟩; exact absurd h (byte_irrefl _)
    · rw [compareBytes_eq, compareBytes_zero xs ys]; simp
    · rw [compareBytes_gt h]
      simp only [List.cons.injEq]
      constructor
      · intro h; omega
      · rintro ⟨rfl, _⟩; exact absurd h (byte_irrefl _)
theorem compareBytes_trans : ∀ x y z : List UInt8, Lib.compareBytes x y ≤ 0 → Lib.compareBytes y z ≤ 0 → Lib.compareBytes x z ≤ 0
  | [], _, [] => by simp [Lib.compareBytes]
  | [], _, _ :: _ => by simp [Lib.compareBytes]
  | _ :: _, [], _ => by intro h; simp [Lib.compareBytes] at h
  | _ :: _, _ :: _, [] => by intro _ h; simp [Lib.compareBytes] at h
  | a :: xs, b :: ys, c :: zs => by
    intro h1 h2
    rcases byte_cases a b with h | rfl | h
    · rcases byte_cases b c with k | rfl | k
      · have : a < c := Nat.lt_trans h k
        rw [compareBytes_lt this]; decide
      · rw [compareBytes_lt h]; decide
      · rw [compareBytes_gt k] at h2; omega
    · rcases byte_cases a c with k | rfl | k
      · rw [compareBytes_lt k]; decide
      · rw [compareBytes_eq] at h1 h2 ⊢
        exact compareBytes_trans xs ys zs h1 h2
      · rw [compareBytes_gt k] at h2; omega
    · rw [compareBytes_gt h] at h1; omega

theorem order_bytes : Order Lib.compareBytes := by
  refine ⟨compareBytes_anti, fun x y z h1 h2 => ⟨compareBytes_trans x y z h1 h2, fun h0 => ?_⟩⟩
  have e := (compareBytes_zero x z).1 h0
  subst e
  have h3 := compareBytes_anti x y
  have : Lib.compareBytes x y = 0 := by omega
  exact ⟨this, by omega⟩

theorem order_label : Order cmpL := ⟨fun x y => order_bytes.anti _ _, fun x y z h1 h2 => order_bytes.trans _ _ _ h1 h2⟩

theorem cmpR_anti : ∀ x y : List ByteArray, cmpR y x = - cmpR x y
  | [], [] => rfl
  | [], _ :: _ => rfl
  | _ :: _, [] => rfl
  | a :: xs, b :: ys => by
    have h := order_label.anti a b
    rw [cmpR, cmpR]
    by_cases h0 : cmpL a b = 0
    · rw [if_pos h0, if_pos (by omega)]; exact cmpR_anti xs ys
    · rw [if_neg h0, if_neg (by omega), h]
theorem cmpR_trans : ∀ x y z : List ByteArray, cmpR x y ≤ 0 → cmpR y z ≤ 0 → cmpR x z ≤ 0 ∧ (cmpR x z = 0 → cmpR x y = 0 ∧ cmpR y z = 0)
  | [], [], [] => by simp [cmpR]
  | [], [], _ :: _ => by simp [cmpR]
  | [], _ :: _, [] => by simp [cmpR]
  | [], _ :: _, _ :: _ => by simp [cmpR]
  | _ :: _, [], _ => by intro h; simp [cmpR] at h
  | _ :: _, _ :: _, [] => by intro _ h; simp [cmpR] at h
  | a :: xs, b :: ys, c :: zs => by
    intro h1 h2
    rw [cmpR] at h1 h2
    have t := order_label.trans a b c
    have z := order_label.zero (x := a) (y := b) (z := c)
    rw [cmpR, cmpR, cmpR]
    by_cases p : cmpL a b = 0
    · rw [if_pos p] at h1 ⊢
      by_cases q : cmpL b c = 0
      · rw [if_pos q] at h2 ⊢
        rw [if_pos (z p q)]
        exact cmpR_trans xs ys zs h1 h2
      · rw [if_neg q] at h2 ⊢
        have t' := t (by omega) h2
        have : ¬ cmpL a c = 0 := fun h => q (t'.2 h).2
        rw [if_neg this]
        exact ⟨t'.1, fun h => absurd h this⟩
    · rw [if_neg p] at h1 ⊢
      by_cases q : cmpL b c = 0
      · rw [if_pos q] at h2 ⊢
        have t' := t h1 (by omega)
        have : ¬ cmpL a c = 0 := fun h => p (t'.2 h).1
        rw [if_neg this]
        exact ⟨t'.1, fun h => absurd h this⟩
      · rw [if_neg q] at h2 ⊢
        have t' := t h1 h2
        have : ¬ cmpL a c = 0 := fun h => p (t'.2 h).1
        rw [if_neg this]
        exact ⟨t'.1, fun h => absurd h this⟩
theorem order_name : Order cmpN := ⟨fun x y => cmpR_anti _ _, fun x y z h1 h2 => cmpR_trans _ _ _ h1 h2⟩

theorem cmpR_zero : ∀ x y : List ByteArray, cmpR x y = 0 ↔ x.map small = y.map small
  | [], [] => by simp [cmpR]
  | [], _ :: _ => by simp [cmpR]
  | _ :: _, [] => by simp [cmpR]
  | a :: xs, b :: ys => by
    have h : cmpL a b = 0 ↔ small a = small b := by
      rw [cmpL, compareBytes_zero]
      constructor
      · intro h; apply ByteArray.ext; exact Array.toList_inj.1 h
      · intro h; rw [h]
    rw [cmpR]
    by_cases h0 : cmpL a b = 0
    · rw [if_pos h0, cmpR_zero xs ys]
      simp [h.1 h0]
    · rw [if_neg h0]
      simp only [List.map_cons, List.cons.injEq]
      constructor
      · intro k; exact absurd k h0
      · intro k; exact absurd (h.2 k.1) h0
theorem cmpN_zero (x y : List ByteArray) : cmpN x y = 0 ↔ x.map small = y.map small := by
  rw [cmpN, cmpR_zero]
  simp
theorem cmpR_bound : ∀ x y : List ByteArray, -1 ≤ cmpR x y ∧ cmpR x y ≤ 1
  | [], [] => by simp [cmpR]
  | [], _ :: _ => by simp [cmpR]
  | _ :: _, [] => by simp [cmpR]
  | a :: xs, b :: ys => by
    have hb : ∀ x y : List UInt8, -1 ≤ Lib.compareBytes x y ∧ Lib.compareBytes x y ≤ 1 := by
      intro x
      induction x with
      | nil => intro y; cases y <;> simp [Lib.compareBytes]
      | cons c x ih =>
        intro y
        cases y with
        | nil => simp [Lib.compareBytes]
        | cons d y =>
          rcases byte_cases c d with h | rfl | h
          · rw [compareBytes_lt h]; decide
          · rw [compareBytes_eq]; exact ih y
          · rw [compareBytes_gt h]; decide
    rw [cmpR]
    split
    · exact cmpR_bound xs ys
    · exact hb _ _
theorem cmpN_bound (x y : List ByteArray) : -1 ≤ cmpN x y ∧ cmpN x y ≤ 1 := cmpR_bound _ _
end Go.Proofs.YtelikppfiaobcaaDoor

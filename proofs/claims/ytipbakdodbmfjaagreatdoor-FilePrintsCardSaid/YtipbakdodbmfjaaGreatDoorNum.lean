/- Plain facts on numerals: what is written in decimal is read as it. No program is walked here. -/
import Derived.Test.YtipbakdodbmfjaaGreatDoorBase
import Derived.Lib.AtoiAllCases
import Derived.Lib.ParseIntBCases
import Derived.Lib.ItoaNum
import Derived.Lib.ItoaMem
namespace Go.Proofs.YtipbakdodbmfjaaGreatDoor
theorem dec_step (u : Nat) (h : ¬ u < 10) : Lib.decDigits u = Lib.decDigits (u / 10) ++ [UInt8.ofNat (48 + u % 10)] := by
  rw [Lib.decDigits, dif_neg h]
theorem dec_one (u : Nat) (h : u < 10) : Lib.decDigits u = [UInt8.ofNat (48 + u)] := by rw [Lib.decDigits, dif_pos h]
theorem dig_nat (n : Nat) (h : n < 10) : (UInt8.ofNat (48 + n)).toNat = 48 + n := by rw [UInt8.toNat_ofNat']; omega
theorem pu10_append : ∀ (l r : List UInt8) (acc u : Nat), Lib.parseUint10 acc l = .ok u → Lib.parseUint10 acc (l ++ r) = Lib.parseUint10 u r
  | [], r, acc, u, h => by simp only [Lib.parseUint10] at h; injection h with h; subst h; rfl
  | c :: l, r, acc, u, h => by
    simp only [Lib.parseUint10] at h
    simp only [List.cons_append, Lib.parseUint10]
    split at h
    · split at h
      · cases h
      · split at h
        · cases h
        · rename_i h1 h2 h3
          rw [if_pos h1, if_neg h2, if_neg h3]
          exact pu10_append l r _ u h
    · cases h
theorem pu10_dec : ∀ (u : Nat), u < 18446744073709551616 → Lib.parseUint10 0 (Lib.decDigits u) = .ok u := by
  intro u
  induction u using Nat.strongRecOn with
  | ind u ih =>
    intro h
    by_cases h10 : u < 10
    · have := dig_nat u h10
      rw [dec_one u h10]
      simp only [Lib.parseUint10, this]
      rw [if_pos (by omega), if_neg (by omega), if_neg (by omega)]
      congr 1; omega
    · have := dig_nat (u % 10) (by omega)
      rw [dec_step u h10, pu10_append _ _ _ (u / 10) (ih (u / 10) (by omega) (by omega))]
      simp only [Lib.parseUint10, this]
      rw [if_pos (by omega), if_neg (by omega), if_neg (by omega)]
      congr 1; omega
theorem dec_ne (u : Nat) : Lib.decDigits u ≠ [] := by
  by_cases h : u < 10
  · rw [dec_one u h]; simp
  · rw [dec_step u h]; simp
theorem mag_dec (u : Nat) (h : u < 18446744073709551616) : Lib.parseMag (Lib.decDigits u) = .ok u := by
  rw [Lib.parseMag, if_neg (dec_ne u)]; exact pu10_dec u h
theorem dec_digit : ∀ (u : Nat), ∀ c ∈ Lib.decDigits u, 48 ≤ c.toNat ∧ c.toNat ≤ 57 := by
  intro u
  induction u using Nat.strongRecOn with
  | ind u ih =>
    intro c hc
    by_cases h10 : u < 10
    · rw [dec_one u h10] at hc
      rw [List.mem_singleton] at hc; subst hc
      rw [dig_nat u h10]; omega
    · rw [dec_step u h10] at hc
      rcases List.mem_append.1 hc with hc | hc
      · exact ih (u / 10) (by omega) c hc
      · rw [List.mem_singleton] at hc; subst hc
        rw [dig_nat _ (by omega)]; omega
theorem atoi_itoa (n : Int) (h0 : -9223372036854775808 ≤ n) (h1 : n ≤ 9223372036854775807) : Lib.atoiAll (Lib.itoa n) = .ok n := by
  unfold Lib.itoa
  split
  · rw [Lib.atoiAll_minus, mag_dec _ (by omega)]
    simp only [Lib.signed]
    rw [if_neg (by omega)]
    congr 1; omega
  · have hne := dec_ne n.toNat
    have hd := dec_digit n.toNat
    have hm := mag_dec n.toNat (by omega)
    cases hl : Lib.decDigits n.toNat with
    | nil => exact absurd hl hne
    | cons c r =>
      rw [hl] at hd hm
      have hc := hd c (by simp)
      rw [Lib.atoiAll_plain c r (by omega) (by omega), hm]
      simp only [Lib.signless]
      rw [if_neg (by omega)]
      congr 1; omega
theorem pu64_dec (u : Nat) (h : u < 18446744073709551616) : Lib.parseUintB 64 (Lib.decDigits u) = .ok u := by
  rw [Lib.parseUintB_64]; exact mag_dec u h
end Go.Proofs.YtipbakdodbmfjaaGreatDoor

/- The plain law of a script's lines: which line an act is, and which act a line is. No program is walked here. -/
import Derived.Test.YtipbakdodbmfjaaGreatDoorParseLaw
import Derived.Test.YtipbakdodbmfjaaGreatDoorNum
namespace Go.Proofs.YtipbakdodbmfjaaGreatDoor

/-- a line's words -/
def splitP (c : UInt8) : List UInt8 → List (List UInt8)
  | [] => [[]]
  | x :: r => if x = c then [] :: splitP c r else match splitP c r with | w :: ws => (x :: w) :: ws | [] => [[x]]
def joinP (c : UInt8) : List (List UInt8) → List UInt8
  | [] => []
  | [w] => w
  | w :: v :: ws => w ++ c :: joinP c (v :: ws)
theorem splitP_ne (c : UInt8) : ∀ l, splitP c l ≠ []
  | [] => by simp [splitP]
  | x :: r => by
    simp only [splitP]
    split
    · simp
    · split <;> simp
theorem join_split (c : UInt8) : ∀ l, joinP c (splitP c l) = l
  | [] => rfl
  | x :: r => by
    have ih := join_split c r
    have hne := splitP_ne c r
    simp only [splitP]
    by_cases h : x = c
    · rw [if_pos h]
      cases hs : splitP c r with
      | nil => exact absurd hs hne
      | cons w ws => rw [hs] at ih; simp only [joinP, ih, h, List.nil_append]
    · rw [if_neg h]
      cases hs : splitP c r with
      | nil => exact absurd hs hne
      | cons w ws =>
        rw [hs] at ih
        cases ws with
        | nil => simp only [joinP] at ih ⊢; rw [ih]
        | cons v ws => simp only [joinP] at ih ⊢; rw [List.cons_append, ih]
theorem split_word (c : UInt8) : ∀ (w : List UInt8), (∀ x ∈ w, x ≠ c) → splitP c w = [w]
  | [], _ => rfl
  | x :: w, h => by
    have h1 := split_word c w (fun y hy => h y (by simp [hy]))
    simp only [splitP, if_neg (h x (by simp)), h1]
theorem split_word_cons (c : UInt8) (r : List UInt8) : ∀ (w : List UInt8), (∀ x ∈ w, x ≠ c) → splitP c (w ++ c :: r) = w :: splitP c r
  | [], _ => by simp [splitP]
  | x :: w, h => by
    have h1 := split_word_cons c r w (fun y hy => h y (by simp [hy]))
    simp only [List.cons_append, splitP, if_neg (h x (by simp)), h1]
theorem split_join (c : UInt8) : ∀ (ws : List (List UInt8)), ws ≠ [] → (∀ w ∈ ws, ∀ x ∈ w, x ≠ c) → splitP c (joinP c ws) = ws
  | [], h, _ => absurd rfl h
  | [w], _, h => by simpa [joinP] using split_word c w (h w (by simp))
  | w :: v :: ws, _, h => by
    have ih := split_join c (v :: ws) (by simp) (fun u hu => h u (by simp [hu]))
    simp only [joinP]
    rw [split_word_cons c _ w (h w (by simp)), ih]

/-- bytes as they are written -/
def hexD (n : Nat) : UInt8 := if n < 10 then UInt8.ofNat (48 + n) else UInt8.ofNat (87 + n)
def hexB (b : List UInt8) : List UInt8 := b.flatMap fun c => [hexD (c.toNat / 16), hexD (c.toNat % 16)]
def hexP (b : List UInt8) : List UInt8 := 120 :: hexB b
def isHex (c : UInt8) : Bool := decide (48 ≤ c.toNat ∧ c.toNat ≤ 57) || decide (97 ≤ c.toNat ∧ c.toNat ≤ 102)
def hexV (c : UInt8) : Nat := if c.toNat < 58 then c.toNat - 48 else c.toNat - 87
def pairs : List UInt8 → List UInt8
  | c :: d :: r => UInt8.ofNat (hexV c * 16 + hexV d) :: pairs r
  | _ => []
def unhexP (w : List UInt8) : Option (List UInt8) :=
  match w with
  | c :: r => if c = 120 ∧ r.length % 2 = 0 ∧ r.all isHex = true then some (pairs r) else none
  | [] => none
theorem hexD_nat (n : Nat) (h : n < 16) : isHex (hexD n) = true ∧ hexV (hexD n) = n := by
  unfold hexD isHex hexV
  split
  · have : (UInt8.ofNat (48 + n)).toNat = 48 + n := by rw [UInt8.toNat_ofNat']; omega
    rw [this]
    exact ⟨by simp; omega, by rw [if_pos (by omega)]; omega⟩
  · have : (UInt8.ofNat (87 + n)).toNat = 87 + n := by rw [UInt8.toNat_ofNat']; omega
    rw [this]
    exact ⟨by simp; omega, by rw [if_neg (by omega)]; omega⟩
theorem hexV_back (c : UInt8) (h : isHex c = true) : hexV c < 16 ∧ hexD (hexV c) = c := by
  unfold isHex at h
  simp only [Bool.or_eq_true, decide_eq_true_eq] at h
  unfold hexV hexD
  split
  · refine ⟨by omega, ?_⟩
    rw [if_pos (by omega), show 48 + (c.toNat - 48) = c.toNat from by omega, UInt8.ofNat_toNat]
  · refine ⟨by omega, ?_⟩
    rw [if_neg (by omega), show 87 + (c.toNat - 87) = c.toNat from by omega, UInt8.ofNat_toNat]
theorem hexB_all : ∀ b : List UInt8, (hexB b).all isHex = true ∧ (hexB b).length % 2 = 0 ∧ pairs (hexB b) = b
  | [] => ⟨rfl, rfl, rfl⟩
  | c :: b => by
    obtain ⟨h1, h2, h3⟩ := hexB_all b
    have hc := c.toNat_lt
    obtain ⟨a1, a2⟩ := hexD_nat (c.toNat / 16) (by omega)
    obtain ⟨b1, b2⟩ := hexD_nat (c.toNat % 16) (by omega)
    have e : hexB (c :: b) = hexD (c.toNat / 16) :: hexD (c.toNat % 16) :: hexB b := by simp [hexB]
    rw [e]
    refine ⟨by simp [a1, b1, h1], by simp; omega, ?_⟩
    simp only [pairs, a2, b2, h3]
    rw [show c.toNat / 16 * 16 + c.toNat % 16 = c.toNat from by omega, UInt8.ofNat_toNat]
theorem unhex_hex (b : List UInt8) : unhexP (hexP b) = some b := by
  obtain ⟨h1, h2, h3⟩ := hexB_all b
  simp only [unhexP, hexP, h1, h2, h3, and_self, if_true]
theorem hexB_pairs : ∀ (n : Nat) (r : List UInt8), r.length ≤ n → r.length % 2 = 0 → r.all isHex = true → hexB (pairs r) = r
  | _, [], _, _, _ => rfl
  | 0, _ :: _, h, _, _ => by simp at h
  | _ + 1, [_], _, h, _ => by simp at h
  | n + 1, c :: d :: r, hn, h2, ha => by
    simp only [List.length_cons] at hn h2
    simp only [List.all_cons, Bool.and_eq_true] at ha
    obtain ⟨c1, c2⟩ := hexV_back c ha.1
    obtain ⟨d1, d2⟩ := hexV_back d ha.2.1
    have ih := hexB_pairs n r (by omega) (by omega) ha.2.2
    have e : (UInt8.ofNat (hexV c * 16 + hexV d)).toNat = hexV c * 16 + hexV d := by rw [UInt8.toNat_ofNat']; omega
    have e2 : hexB (pairs (c :: d :: r)) = hexD ((UInt8.ofNat (hexV c * 16 + hexV d)).toNat / 16) :: hexD ((UInt8.ofNat (hexV c * 16 + hexV d)).toNat % 16) :: hexB (pairs r) := by simp [pairs, hexB]
    rw [e2, e, show (hexV c * 16 + hexV d) / 16 = hexV c from by omega, show (hexV c * 16 + hexV d) % 16 = hexV d from by omega, c2, d2, ih]
theorem hex_unhex (w b : List UInt8) (h : unhexP w = some b) : w = hexP b := by
  unfold unhexP at h
  cases w with
  | nil => cases h
  | cons c r =>
    simp only at h
    split at h
    · rename_i hc
      injection h with h
      subst h
      rw [hexP, hexB_pairs r.length r (Nat.le_refl _) hc.2.1 hc.2.2, hc.1]
    · cases h
end Go.Proofs.YtipbakdodbmfjaaGreatDoor

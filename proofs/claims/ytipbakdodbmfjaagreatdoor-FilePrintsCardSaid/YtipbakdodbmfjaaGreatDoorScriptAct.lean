/- The plain law of a script's lines, second part: fields, acts, lines. No program is walked here. -/
import Derived.Test.YtipbakdodbmfjaaGreatDoorScriptLaw
namespace Go.Proofs.YtipbakdodbmfjaaGreatDoor

structure ActP where
  kind : Int
  a : Int
  b : Int
  n : Int
  name : List ByteArray
  mask : Nat
  torn : Nat
  data : List UInt8
def ActP.fits (x : ActP) : Prop := (-9223372036854775808 ≤ x.a ∧ x.a ≤ 9223372036854775807) ∧ (-9223372036854775808 ≤ x.b ∧ x.b ≤ 9223372036854775807) ∧ (-9223372036854775808 ≤ x.n ∧ x.n ≤ 9223372036854775807) ∧ x.mask < 18446744073709551616 ∧ x.torn < 18446744073709551616
def ActP.zero (k : Int) : ActP := ⟨k, 0, 0, 0, [], 0, 0, []⟩

def writeP (f : Nat) (x : ActP) : List UInt8 :=
  if f = 0 then Lib.itoa x.a else if f = 1 then Lib.itoa x.b else if f = 2 then Lib.itoa x.n else if f = 3 then textT x.name
  else if f = 4 then Lib.decDigits x.mask else if f = 5 then Lib.decDigits x.torn else hexP x.data
def numP (w : List UInt8) : Option Int := match Lib.atoiAll w with | .ok v => if Lib.itoa v = w then some v else none | _ => none
def bitsP (w : List UInt8) : Option Nat := match Lib.parseUintB 64 w with | .ok v => if Lib.decDigits v = w then some v else none | _ => none
def nameP (w : List UInt8) : Option (List ByteArray) := match parseB w with | some ss => if textT ss = w then some ss else none | none => none
/-- a field taken over from another act -/
def putP (f : Nat) (y x : ActP) : ActP :=
  if f = 0 then { x with a := y.a } else if f = 1 then { x with b := y.b } else if f = 2 then { x with n := y.n } else if f = 3 then { x with name := y.name }
  else if f = 4 then { x with mask := y.mask } else if f = 5 then { x with torn := y.torn } else { x with data := y.data }
def readP (f : Nat) (w : List UInt8) (x : ActP) : Option ActP :=
  if f = 0 then (numP w).map fun v => { x with a := v } else if f = 1 then (numP w).map fun v => { x with b := v } else if f = 2 then (numP w).map fun v => { x with n := v }
  else if f = 3 then (nameP w).map fun v => { x with name := v } else if f = 4 then (bitsP w).map fun v => { x with mask := v } else if f = 5 then (bitsP w).map fun v => { x with torn := v }
  else (unhexP w).map fun v => { x with data := v }

theorem numP_itoa (v : Int) (h0 : -9223372036854775808 ≤ v) (h1 : v ≤ 9223372036854775807) : numP (Lib.itoa v) = some v := by
  simp [numP, atoi_itoa v h0 h1]
theorem bitsP_dec (v : Nat) (h : v < 18446744073709551616) : bitsP (Lib.decDigits v) = some v := by
  simp [bitsP, pu64_dec v h]
theorem nameP_text (ss : List ByteArray) (h : soundB ss = true) : nameP (textT ss) = some ss := by
  simp [nameP, parse_text ss h]
theorem parse_bad (ss : List ByteArray) (h : soundB ss = false) : parseB (textT ss) = none ∨ (parseB (textT ss) = some [] ∧ ss.length = 1) := by
  cases ss with
  | nil => exact absurd h (by decide)
  | cons s ss =>
    rw [textT, if_neg (by simp), parseB]
    by_cases he : bodyT (s :: ss) = [46]
    · rw [if_pos he]
      refine Or.inr ⟨rfl, ?_⟩
      cases ss with
      | nil => rfl
      | cons t ss =>
        have := congrArg List.length he
        simp [bodyT] at this
        omega
    · rw [if_neg he, par_body]
      exact Or.inl (by simp [fin, h])
theorem nameP_bad (ss : List ByteArray) (h : soundB ss = false) : nameP (textT ss) = none ∨ (nameP (textT ss) = some [] ∧ ss.length = 1) := by
  rcases parse_bad ss h with h1 | ⟨h1, h2⟩
  · exact Or.inl (by simp [nameP, h1])
  · have : nameP (textT ss) = none ∨ nameP (textT ss) = some [] := by
      simp only [nameP, h1]
      split
      · exact Or.inr rfl
      · exact Or.inl rfl
    rcases this with h3 | h3
    · exact Or.inl h3
    · exact Or.inr ⟨h3, h2⟩
theorem parse_sound {w : List UInt8} {ss : List ByteArray} (h : parseB w = some ss) : soundB ss = true := by
  have key : ∀ (f : Nat) (r : List UInt8) (out : List ByteArray) (lab : List UInt8), pgo f r out lab = some ss → soundB ss = true := by
    intro f
    have hfin : ∀ o, fin o = some ss → soundB ss = true := by
      intro o ho
      unfold fin at ho
      split at ho
      · rename_i hb; injection ho with ho; subst ho; exact hb
      · cases ho
    induction f with
    | zero => intro r out lab h; simp [pgo] at h
    | succ f ih =>
      intro r out lab h
      cases r with
      | nil => simp only [pgo] at h; exact hfin _ h
      | cons c r =>
        simp only [pgo] at h
        split at h
        · split at h
          · cases h
          · exact ih _ _ _ h
        · split at h
          · split at h
            · exact hfin _ h
            · exact ih _ _ _ h
          · split at h
            · cases h
            · exact ih _ _ _ h
  unfold parseB at h
  split at h
  · injection h with h; subst h; rfl
  · exact key _ _ _ _ h
theorem nameP_spec {w : List UInt8} {ss : List ByteArray} (h : nameP w = some ss) : w = textT ss ∧ soundB ss = true := by
  unfold nameP at h
  cases hp : parseB w with
  | none => rw [hp] at h; cases h
  | some tt =>
    rw [hp] at h
    simp only at h
    split at h
    · rename_i he
      injection h with h
      subst h
      exact ⟨he.symm, parse_sound hp⟩
    · cases h
theorem numP_spec {w : List UInt8} {v : Int} (h : numP w = some v) : w = Lib.itoa v ∧ -9223372036854775808 ≤ v ∧ v ≤ 9223372036854775807 := by
  unfold numP at h
  split at h
  · rename_i u hu
    split at h
    · rename_i he
      injection h with h; subst h
      have := Lib.atoiAll_bounds hu
      exact ⟨he.symm, this.1, this.2⟩
    · cases h
  · cases h
theorem bitsP_spec {w : List UInt8} {v : Nat} (h : bitsP w = some v) : w = Lib.decDigits v ∧ v < 18446744073709551616 := by
  unfold bitsP at h
  split at h
  · rename_i u hu
    split at h
    · rename_i he
      injection h with h; subst h
      have := Lib.parseUintB_le hu
      exact ⟨he.symm, by omega⟩
    · cases h
  · cases h

/-- what stands in a field may be read back -/
def okP (f : Nat) (x : ActP) : Bool := decide (f ≠ 3) || soundB x.name
theorem read_write (f : Nat) (hf : f ≤ 6) (y x : ActP) (hy : y.fits) (ho : okP f y = true) : readP f (writeP f y) x = some (putP f y x) := by
  obtain ⟨⟨a1, a2⟩, ⟨b1, b2⟩, ⟨n1, n2⟩, m, t⟩ := hy
  have : f = 0 ∨ f = 1 ∨ f = 2 ∨ f = 3 ∨ f = 4 ∨ f = 5 ∨ f = 6 := by omega
  rcases this with rfl | rfl | rfl | rfl | rfl | rfl | rfl
  · simp [readP, writeP, putP, numP_itoa _ a1 a2]
  · simp [readP, writeP, putP, numP_itoa _ b1 b2]
  · simp [readP, writeP, putP, numP_itoa _ n1 n2]
  · have : soundB y.name = true := by simpa [okP] using ho
    simp [readP, writeP, putP, nameP_text _ this]
  · simp [readP, writeP, putP, bitsP_dec _ m]
  · simp [readP, writeP, putP, bitsP_dec _ t]
  · simp [readP, writeP, putP, unhex_hex]
/-- what is read is what is written of what was read -/
theorem write_read (f : Nat) (hf : f ≤ 6) (w : List UInt8) (x z : ActP) (h : readP f w x = some z) (hx : x.fits) : w = writeP f z ∧ z = putP f z x ∧ okP f z = true ∧ z.fits := by
  obtain ⟨a, b, n, m, t⟩ := hx
  have : f = 0 ∨ f = 1 ∨ f = 2 ∨ f = 3 ∨ f = 4 ∨ f = 5 ∨ f = 6 := by omega
  rcases this with rfl | rfl | rfl | rfl | rfl | rfl | rfl
  · simp only [readP, if_true, Option.map_eq_some_iff] at h
    obtain ⟨v, hv, rfl⟩ := h
    obtain ⟨h1, h2, h3⟩ := numP_spec hv
    exact ⟨by simp [writeP, h1], by simp [putP], rfl, ⟨h2, h3⟩, b, n, m, t⟩
  · simp [readP] at h
    obtain ⟨v, hv, rfl⟩ := h
    obtain ⟨h1, h2, h3⟩ := numP_spec hv
    exact ⟨by simp [writeP, h1], by simp [putP], rfl, a, ⟨h2, h3⟩, n, m, t⟩
  · simp [readP] at h
    obtain ⟨v, hv, rfl⟩ := h
    obtain ⟨h1, h2, h3⟩ := numP_spec hv
    exact ⟨by simp [writeP, h1], by simp [putP], rfl, a, b, ⟨h2, h3⟩, m, t⟩
  · simp [readP] at h
    obtain ⟨v, hv, rfl⟩ := h
    obtain ⟨h1, h2⟩ := nameP_spec hv
    exact ⟨by simp [writeP, h1], by simp [putP], by simp [okP, h2], a, b, n, m, t⟩
  · simp [readP] at h
    obtain ⟨v, hv, rfl⟩ := h
    obtain ⟨h1, h2⟩ := bitsP_spec hv
    exact ⟨by simp [writeP, h1], by simp [putP], rfl, a, b, n, h2, t⟩
  · simp [readP] at h
    obtain ⟨v, hv, rfl⟩ := h
    obtain ⟨h1, h2⟩ := bitsP_spec hv
    exact ⟨by simp [writeP, h1], by simp [putP], rfl, a, b, n, m, h2⟩
  · simp [readP] at h
    obtain ⟨v, hv, rfl⟩ := h
    exact ⟨by simp [writeP, hex_unhex _ _ hv], by simp [putP], rfl, a, b, n, m, t⟩
end Go.Proofs.YtipbakdodbmfjaaGreatDoor

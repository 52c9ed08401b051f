/- What a text is read as, as a name: the plain function, and how it goes on, byte by byte. No program is walked here. -/
import Derived.Test.YtipbakdodbmfjaaGreatDoorSound
namespace Go.Proofs.YtipbakdodbmfjaaGreatDoor

theorem soundB_len {ss : List ByteArray} (h : soundB ss = true) : ∀ s ∈ ss, 1 ≤ s.size := by
  simp only [soundB, Bool.and_eq_true, Bool.not_eq_true', List.any_eq_false] at h
  intro s hs
  have h2 := h.2.1 s hs
  simp only [badL, Bool.or_eq_true, beq_iff_eq, decide_eq_true_iff, not_or] at h2
  omega
def digB (c : UInt8) : Bool := decide (48 ≤ c.toNat ∧ c.toNat ≤ 57)
def num3 (c d e : UInt8) : Nat := (c.toNat - 48) * 100 + (d.toNat - 48) * 10 + (e.toNat - 48)
/-- the byte of an escape, behind its sign, and how many bytes it takes -/
def unesc : List UInt8 → Option (UInt8 × Nat)
  | [] => none
  | c :: r =>
    if digB c then
      match r with
      | d :: e :: _ => if digB d && digB e && decide (num3 c d e ≤ 255) then some (UInt8.ofNat (num3 c d e), 3) else none
      | _ => none
    else some (c, 1)
def fin (ss : List ByteArray) : Option (List ByteArray) := if soundB ss then some ss else none
def pgo : Nat → List UInt8 → List ByteArray → List UInt8 → Option (List ByteArray)
  | 0, _, _, _ => none
  | _ + 1, [], out, lab => fin (out ++ [⟨lab.toArray⟩])
  | f + 1, c :: r, out, lab =>
    if c.toNat = 92 then
      match unesc r with
      | none => none
      | some (x, k) => pgo f (r.drop k) out (lab ++ [x])
    else if c.toNat = 46 then
      if r = [] then fin (out ++ [⟨lab.toArray⟩]) else pgo f r (out ++ [⟨lab.toArray⟩]) []
    else if c.toNat < 33 ∨ 126 < c.toNat then none
    else pgo f r out (lab ++ [c])
def par (r : List UInt8) (out : List ByteArray) (lab : List UInt8) : Option (List ByteArray) := pgo (r.length + 1) r out lab
def parseB (s : List UInt8) : Option (List ByteArray) := if s = [46] then some [] else par s [] []
theorem pgo_fuel : ∀ (f g : Nat) (r : List UInt8) (out : List ByteArray) (lab : List UInt8), r.length < f → r.length < g → pgo f r out lab = pgo g r out lab := by
  intro f
  induction f with
  | zero => intro g r out lab h; omega
  | succ f ih =>
    intro g r out lab h1 h2
    cases g with
    | zero => omega
    | succ g =>
      cases r with
      | nil => simp [pgo]
      | cons c r =>
        simp only [List.length_cons] at h1 h2
        simp only [pgo]
        split
        · split
          · rfl
          · exact ih g _ _ _ (by simp; omega) (by simp; omega)
        · split
          · split
            · rfl
            · exact ih g _ _ _ (by omega) (by omega)
          · split
            · rfl
            · exact ih g _ _ _ (by omega) (by omega)
theorem par_nil (out : List ByteArray) (lab : List UInt8) : par [] out lab = fin (out ++ [⟨lab.toArray⟩]) := by simp [par, pgo]
theorem par_esc {c : UInt8} {r : List UInt8} {x : UInt8} {k : Nat} (out : List ByteArray) (lab : List UInt8) (hc : c.toNat = 92) (hu : unesc r = some (x, k)) : par (c :: r) out lab = par (r.drop k) out (lab ++ [x]) := by
  rw [par, pgo, if_pos hc, hu]
  exact pgo_fuel _ _ _ _ _ (by simp; omega) (by omega)
theorem par_esc_none {c : UInt8} {r : List UInt8} (out : List ByteArray) (lab : List UInt8) (hc : c.toNat = 92) (hu : unesc r = none) : par (c :: r) out lab = none := by
  rw [par, pgo, if_pos hc, hu]
theorem par_dot {c : UInt8} {r : List UInt8} (out : List ByteArray) (lab : List UInt8) (hc : c.toNat = 46) (hr : r ≠ []) : par (c :: r) out lab = par r (out ++ [⟨lab.toArray⟩]) [] := by
  rw [par, pgo, if_neg (by omega), if_pos hc, if_neg hr]
  rfl
theorem par_end {c : UInt8} (out : List ByteArray) (lab : List UInt8) (hc : c.toNat = 46) : par [c] out lab = fin (out ++ [⟨lab.toArray⟩]) := by
  rw [par, pgo, if_neg (by omega), if_pos hc, if_pos rfl]
theorem par_bad {c : UInt8} {r : List UInt8} (out : List ByteArray) (lab : List UInt8) (hc : c.toNat < 33 ∨ 126 < c.toNat) : par (c :: r) out lab = none := by
  rw [par, pgo, if_neg (by omega), if_neg (by omega), if_pos hc]
theorem par_plain {c : UInt8} {r : List UInt8} (out : List ByteArray) (lab : List UInt8) (h1 : c.toNat ≠ 92) (h2 : c.toNat ≠ 46) (h3 : 33 ≤ c.toNat) (h4 : c.toNat ≤ 126) : par (c :: r) out lab = par r out (lab ++ [c]) := by
  rw [par, pgo, if_neg h1, if_neg h2, if_neg (by omega)]
  rfl
theorem fin_hole (out : List ByteArray) : fin (out ++ [⟨([] : List UInt8).toArray⟩]) = none := by
  have : soundB (out ++ [⟨([] : List UInt8).toArray⟩]) = false := by
    have h : (out ++ [(⟨([] : List UInt8).toArray⟩ : ByteArray)]).any badL = true := by
      rw [List.any_append]
      have : ([(⟨([] : List UInt8).toArray⟩ : ByteArray)]).any badL = true := by decide
      rw [this, Bool.or_true]
    rw [soundB, h]
    simp
  simp [fin, this]
theorem par_dot_bad {c : UInt8} {r : List UInt8} (out : List ByteArray) (lab : List UInt8) (hc : c.toNat = 46) (hr : r = []) (hs : soundB (out ++ [⟨lab.toArray⟩]) = false) : par (c :: r) out lab = par r (out ++ [⟨lab.toArray⟩]) [] := by
  subst hr
  rw [par_end _ _ hc, par_nil, fin_hole]
  simp [fin, hs]
theorem unesc_le {r : List UInt8} {x : UInt8} {k : Nat} (h : unesc r = some (x, k)) : 1 ≤ k ∧ k ≤ 3 ∧ k ≤ r.length := by
  cases r with
  | nil => simp [unesc] at h
  | cons c r =>
    simp only [unesc] at h
    split at h
    · split at h
      · split at h
        · simp only [Option.some.injEq, Prod.mk.injEq] at h
          simp only [List.length_cons]
          omega
        · simp at h
      · simp at h
    · simp only [Option.some.injEq, Prod.mk.injEq] at h
      simp only [List.length_cons]
      omega
end Go.Proofs.YtipbakdodbmfjaaGreatDoor

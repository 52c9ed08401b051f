/- Plain facts: a script's text with a line that is none. -/
import Derived.Test.YtipbakdodbmfjaaGreatDoorBackLaw
namespace Go.Proofs.YtipbakdodbmfjaaGreatDoor
open Go.ChangeShapes Go.WideShapes Go.ChangeAt Go.RowKit

/-- lines that are none -/
def wrongW : List (List UInt8) := [[], [102, 114, 111, 98], [116, 105, 99, 107, 32, 48, 49], [116, 105, 99, 107, 32, 43, 49], [115, 101, 114, 118, 101, 114], [115, 101, 114, 118, 101, 114, 32, 49, 32, 50], [32, 115, 101, 114, 118, 101, 114, 32, 49], [99, 108, 105, 101, 110, 116, 32, 49, 32, 50, 32, 120, 103, 48], [102, 108, 117, 115, 104, 32, 99, 111, 109], [99, 114, 97, 115, 104, 32, 48, 32, 45, 49, 32, 48], [99, 114, 97, 115, 104, 32, 48, 32, 49, 56, 52, 52, 54, 55, 52, 52, 48, 55, 51, 55, 48, 57, 53, 53, 49, 54, 49, 54, 32, 48], [100, 101, 97, 100, 32, 49], [99, 108, 105, 101, 110, 116, 32, 49, 32, 50, 32, 88, 48, 48], [116, 105, 99, 107, 32, 57, 50, 50, 51, 51, 55, 50, 48, 51, 54, 56, 53, 52, 55, 55, 53, 56, 48, 56]]
theorem wrong_none : wrongW.all (fun w => (actP w).isNone && (w.all (fun c => decide (c ≠ 10)) && decide (w.length ≤ 100))) = true := by decide +kernel
theorem wrong_at {q : Nat} (h : q < wrongW.length) : actP wrongW[q] = none ∧ (∀ c ∈ wrongW[q], c ≠ 10) ∧ wrongW[q].length ≤ 100 := by
  have h1 := wrong_none
  rw [List.all_eq_true] at h1
  have h2 := h1 _ (List.getElem_mem h)
  simp only [Bool.and_eq_true, List.all_eq_true, decide_eq_true_eq, Option.isNone_iff_eq_none] at h2
  exact ⟨h2.1, h2.2.1, h2.2.2⟩
def compactW : List UInt8 := [99, 111, 109, 112, 97, 99, 116]
/-- the text so far, its first i lines being ts: line k + 1 is the wrong one -/
def faultT (k i : Nat) (wr : List UInt8) (ts : List (List UInt8)) : List UInt8 := if i ≤ k then scriptT ts else scriptT (ts.take k) ++ (wr ++ 10 :: scriptT (ts.drop k))
theorem scriptT_append (a b : List (List UInt8)) : scriptT (a ++ b) = scriptT a ++ scriptT b := by simp [scriptT]
/-- a line more, not at the wrong place -/
theorem fault_line {k i : Nat} {wr t : List UInt8} {ts : List (List UInt8)} (hl : ts.length = i) (h : i ≠ k) : faultT k (i + 1) wr (ts ++ [t]) = faultT k i wr ts ++ (t ++ [10]) := by
  unfold faultT
  by_cases hi : i < k
  · rw [if_pos (by omega), if_pos (by omega), scriptT_snoc]
  · rw [if_neg (by omega), if_neg (by omega), List.take_append_of_le_length (by omega), List.drop_append_of_le_length (by omega), scriptT_snoc]
    simp
/-- the wrong line -/
theorem fault_wrong {k : Nat} {wr : List UInt8} {ts : List (List UInt8)} (hl : ts.length = k) : faultT k (k + 1) wr ts = faultT k k wr ts ++ (wr ++ [10]) := by
  unfold faultT
  rw [if_neg (by omega), if_pos (Nat.le_refl _), List.take_of_length_le (by omega), List.drop_eq_nil_of_le (by omega)]
  simp [scriptT]
/-- the wrong line, and the line after it -/
theorem fault_both {k : Nat} {wr t : List UInt8} {ts : List (List UInt8)} (hl : ts.length = k) : faultT k (k + 1) wr (ts ++ [t]) = faultT k k wr ts ++ (wr ++ [10]) ++ (t ++ [10]) := by
  unfold faultT
  rw [if_neg (by omega), if_pos (Nat.le_refl _), List.take_append_of_le_length (by omega), List.drop_append_of_le_length (by omega), List.take_of_length_le (by omega), List.drop_eq_nil_of_le (by omega)]
  simp [scriptT]
theorem getP_wrong {f n : Nat} {w r : List UInt8} (h : ∀ c ∈ w, c ≠ 10) (ha : actP w = none) : getP (f + 1) (w ++ 10 :: r) n = .error n := by
  simp only [getP, cutP_at 10 r w h, ha]
  rw [if_neg (by simp)]
theorem getP_open {f n : Nat} {w : List UInt8} (h : ∀ c ∈ w, c ≠ 10) (hn : w ≠ []) : getP (f + 1) w n = .error n := by
  simp only [getP, cutP_none 10 w h]
  rw [if_neg hn]
  cases actP w <;> rfl
/-- the wrong line's number is told -/
theorem get_fault {xs : List ActP} {ts : List (List UInt8)} {k : Nat} {wr : List UInt8} (hf : ∀ x ∈ xs, x.fits) (hts : xs.map lineL = ts.map some) (hk : k ≤ xs.length) (h : ∀ c ∈ wr, c ≠ 10) (ha : actP wr = none) (F : Nat) (hF : xs.length < F) :
    getP F (faultT k (xs.length + 1) wr ts) 1 = .error (k + 1) := by
  have hl : ts.length = xs.length := by simpa using (congrArg List.length hts).symm
  have hts2 : (xs.take k).map lineL = (ts.take k).map some := by rw [List.map_take, hts, List.map_take]
  have hkl : (xs.take k).length = k := by simp; omega
  unfold faultT
  rw [if_neg (by omega), getP_lines (xs.take k) (ts.take k) _ F 1 (by omega) (fun x hx => hf x (List.mem_of_mem_take hx)) hts2, hkl]
  obtain ⟨g, hg⟩ : ∃ g, F - k = g + 1 := ⟨F - k - 1, by omega⟩
  rw [hg, getP_wrong h ha]
  simp only
  rw [Nat.add_comm]
theorem get_open {xs : List ActP} {ts : List (List UInt8)} (hf : ∀ x ∈ xs, x.fits) (hts : xs.map lineL = ts.map some) (F : Nat) (hF : xs.length < F) :
    getP F (scriptT ts ++ compactW) 1 = .error (xs.length + 1) := by
  rw [getP_lines xs ts _ F 1 (by omega) hf hts]
  obtain ⟨g, hg⟩ : ∃ g, F - xs.length = g + 1 := ⟨F - xs.length - 1, by omega⟩
  rw [hg, getP_open (by decide) (by decide)]
  simp only
  rw [Nat.add_comm]
end Go.Proofs.YtipbakdodbmfjaaGreatDoor

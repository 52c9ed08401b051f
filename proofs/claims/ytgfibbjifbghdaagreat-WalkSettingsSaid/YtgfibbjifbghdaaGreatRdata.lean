/- The contract of the reference's Data: may a type say so? -/
import Derived.Test.YtgfibbjifbghdaaGreatFit
namespace Go.Proofs.YtgfibbjifbghdaaGreat
open Go.ChangeShapes Go.WideShapes Go.ChangeAt Go.RowKit

def dataB (k : Int) (d : DataP) : Bool :=
  if k < 1 ∨ 65535 < k then false
  else if k = 1 then decide (d.bytes.length = 4) && emptyB d true false false false false
  else if k = 28 then decide (d.bytes.length = 16) && emptyB d true false false false false
  else if k = 2 ∨ k = 5 ∨ k = 12 then soundB d.host && emptyB d false true false false false
  else if k = 15 then (soundB d.host && fitB d.nums 1 2) && emptyB d false true false true false
  else if k = 6 then ((soundB d.host && soundB d.mail) && fitB d.nums 5 4) && emptyB d false true true true false
  else if k = 33 then (soundB d.host && fitB d.nums 3 2) && emptyB d false true false true false
  else if k = 16 then (decide (1 ≤ d.texts.length) && (decide (d.texts.length ≤ 64) && emptyB d false false false false true)) && d.texts.all (fun s => decide (s.size ≤ 255))
  else decide (d.bytes.length ≤ 65535) && emptyB d true false false false false
theorem dataB_out {k : Int} {d : DataP} (h : k < 1 ∨ 65535 < k) : dataB k d = false := by rw [dataB, if_pos h]
theorem dataB_other {k : Int} {d : DataP} (h1 : 1 ≤ k) (h2 : k ≤ 65535) (h : k ≠ 1 ∧ k ≠ 28 ∧ k ≠ 2 ∧ k ≠ 5 ∧ k ≠ 12 ∧ k ≠ 15 ∧ k ≠ 6 ∧ k ≠ 33 ∧ k ≠ 16) : dataB k d = (decide (d.bytes.length ≤ 65535) && emptyB d true false false false false) := by
  obtain ⟨a1, a2, a3, a4, a5, a6, a7, a8, a9⟩ := h
  rw [dataB, if_neg (by omega), if_neg a1, if_neg a2, if_neg (by omega), if_neg a6, if_neg a7, if_neg a8, if_neg a9]
/-- which kinds there are -/
theorem kind_cases (k : Int) : (k < 1 ∨ 65535 < k) ∨ k = 1 ∨ k = 28 ∨ (k = 2 ∨ k = 5 ∨ k = 12) ∨ k = 15 ∨ k = 6 ∨ k = 33 ∨ k = 16 ∨ ((1 ≤ k ∧ k ≤ 65535) ∧ (k ≠ 1 ∧ k ≠ 28 ∧ k ≠ 2 ∧ k ≠ 5 ∧ k ≠ 12 ∧ k ≠ 15 ∧ k ≠ 6 ∧ k ≠ 33 ∧ k ≠ 16)) := by omega

end Go.Proofs.YtgfibbjifbghdaaGreat

/- The frame behind a region: all slots but those that it writes are as they were. -/
import Derived.Test.YtgfibbjifbghdaaGreatSoupo
namespace Go.Proofs.YtgfibbjifbghdaaGreat
open Go
theorem fold_set (T : Array Value) : ∀ (ds : List Nat) (acc : Array Value) (i : Nat), (ds.foldl (fun acc d => acc.setIfInBounds d (T.getD d undef)) acc)[i]? = if i ∈ ds ∧ i < acc.size then some (T.getD i undef) else acc[i]?
  | [], acc, i => by simp
  | d :: ds, acc, i => by
    rw [List.foldl_cons, fold_set T ds]
    simp only [Array.size_setIfInBounds, List.mem_cons]
    by_cases h1 : i ∈ ds
    · simp only [h1, or_true, true_and]
      split
      · rfl
      · rename_i h2
        rw [Array.getElem?_eq_none (by simp; omega), Array.getElem?_eq_none (by omega)]
    · simp only [h1, or_false, false_and, if_false]
      by_cases h3 : i = d
      · subst h3
        simp only [true_and]
        rw [Array.getElem?_setIfInBounds]
        simp only [if_true]
        split
        · rfl
        · rw [Array.getElem?_eq_none (by omega)]
      · simp only [h3, false_and, if_false]
        rw [Array.getElem?_setIfInBounds, if_neg (fun h => h3 h.symm)]
def coverB (ks : Array Oper) (m : Nat) (ds : List Nat) : Bool := (List.range m).all fun t => ds.contains t || noDst ks t
/-- the frame is the one ahead, but for the slots named -/
theorem tmps_same {ks : Array Oper} {a0 a : Act} (h : SameBut ks a0 a) (m : Nat) (hm : a0.tmps.size = m) (ds : List Nat) (hds : coverB ks m ds = true) : a.tmps = ds.foldl (fun acc d => acc.setIfInBounds d (a.tmps.getD d undef)) a0.tmps := by
  apply Array.ext_getElem?
  intro i
  rw [fold_set]
  by_cases hi : i < a.tmps.size
  · have hi0 : i < a0.tmps.size := by rw [← h.size]; exact hi
    have h2 : a.tmps[i]? = some (a.tmps.getD i undef) := by rw [Array.getD_eq_getD_getElem?, Array.getElem?_eq_getElem hi]; rfl
    by_cases hn : i ∈ ds ∧ i < a0.tmps.size
    · rw [if_pos hn]; exact h2
    · rw [if_neg hn]
      have h3 : i ∉ ds := fun h => hn ⟨h, hi0⟩
      have h4 := List.all_eq_true.1 hds i (List.mem_range.2 (by omega))
      simp only [Bool.or_eq_true, List.contains_iff_mem, h3, false_or] at h4
      have h5 := h.keep i h4
      rw [h2, h5, Array.getD_eq_getD_getElem?, Array.getElem?_eq_getElem hi0]
      rfl
  · have hs := h.size
    rw [Array.getElem?_eq_none (by omega), if_neg (by omega), Array.getElem?_eq_none (by omega)]
theorem slot_at {T : Array Value} {t m : Nat} {v : Value} (hs : T.size = m) (ht : t < m) (h : T.getD t undef = v) : T[t]? = some v := by
  rw [Array.getD_eq_getD_getElem?, Array.getElem?_eq_getElem (by omega)] at h
  rw [Array.getElem?_eq_getElem (by omega)]
  exact congrArg some h
end Go.Proofs.YtgfibbjifbghdaaGreat

/- Words for the walks of drawn regions: the frame's slots, read unopened, and all written out at the end. -/
import Derived.Test.YtgfibbjifbghdaaGreatSoup
namespace Go.Proofs.YtgfibbjifbghdaaGreat
open Go
theorem arr_eta (T : Array Value) (n : Nat) (h : T.size = n) : T = ((List.range n).map fun i => T.getD i undef).toArray := by
  apply Array.ext_getElem?
  intro i
  have e : ((List.range n).map fun i => T.getD i undef).toArray[i]? = ((List.range n).map fun i => T.getD i undef)[i]? := List.getElem?_toArray
  rw [e, List.getElem?_map]
  by_cases hi : i < n
  · rw [List.getElem?_range hi, Option.map_some, Array.getD_eq_getD_getElem?, Array.getElem?_eq_getElem (by omega)]
    rfl
  · rw [Array.getElem?_eq_none (by omega), List.getElem?_eq_none (by simp; omega)]
    rfl
theorem slot_of {T : Array Value} {t : Nat} {v : Value} (h : T.getD t undef = v) : T[t]?.getD undef = v := by rw [← Array.getD_eq_getD_getElem?]; exact h
end Go.Proofs.YtgfibbjifbghdaaGreat

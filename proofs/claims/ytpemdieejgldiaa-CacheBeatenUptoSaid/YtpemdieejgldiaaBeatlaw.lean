/- The law behind law14.CacheBeaten: what is believed more, and is fresh, is never taken away. -/
import Derived.Test.YtpemdieejgldiaaCput
import Derived.Test.YtpemdieejgldiaaClook
namespace Go.Proofs.Ytpemdieejgldiaa
open Go.ChangeShapes Go.WideShapes Go.ChangeAt Go.RowKit

theorem off_le (L : List Slot) (key : List UInt8) : (offL L key).length ≤ L.length := List.length_filter_le _ _
def oldF (L : List Slot) (o : FactP) : Option FactP := (atL L (keyF o)).map (·.f)
def nextF (L : List Slot) (o : FactP) (now : Int) : Option FactP := if putB L o now = true then some o else oldF L o
theorem put_next {B : Nat} {w : World} {C k : Nat} {L : List Slot} {o : FactP} {now : Int} {j : Nat} (h : PutDone B w C 100 0 k L o (putB L o now)) (hk : k ≤ j) (hL : L.length ≤ j) :
    ∃ k' L', IsCache B w C 100 0 k' L' ∧ k' ≤ j + 1 ∧ L'.length ≤ j + 1 ∧ oldF L' o = nextF L o now := by
  cases hb : putB L o now with
  | false => exact ⟨k, L, h.no hb, by omega, by omega, by simp [nextF, hb]⟩
  | true =>
    obtain ⟨b, kk, hI⟩ := h.yes hb
    refine ⟨_, _, hI, by omega, by have := off_le L (keyF o); simp; omega, ?_⟩
    rw [nextF, if_pos hb, oldF, atL_snoc, atL_off, if_pos rfl]
    simp
theorem next_there {L : List Slot} {o : FactP} {now : Int} (h : (oldF L o).isSome = true) : (nextF L o now).isSome = true := by
  rw [nextF]
  split
  · rfl
  · exact h
theorem next_rank {L : List Slot} {o : FactP} {now : Int} (h : (oldF L o).isSome = true) : ¬ (((nextF L o now).getD zF).rank < ((oldF L o).getD zF).rank ∧ 0 < leftZ ((oldF L o).getD zF).got ((oldF L o).getD zF).ttl now) := by
  rw [nextF]
  split
  · rename_i hp
    rw [oldF] at h ⊢
    cases hs : atL L (keyF o) with
    | none => rw [hs] at h; cases h
    | some s =>
      simp only [Option.map_some, Option.getD_some]
      simp only [putB, freeB, hs, beatsB, Bool.and_eq_true, Bool.or_eq_true, decide_eq_true_eq, Bool.not_eq_true', decide_eq_false_iff_not] at hp
      obtain ⟨_, _, _, _, _, _, h2⟩ := hp
      omega
  · exact fun h => absurd h.1 (Int.lt_irrefl _)
theorem next_same {B : Nat} {w : World} {C k : Nat} {L : List Slot} {o : FactP} {now : Int} (hC : IsCache B w C 100 0 k L) (h : (nextF L o now).isSome = true) :
    sameF ((nextF L o now).getD zF) o = true ∨ ((oldF L o).isSome = true ∧ sameF ((nextF L o now).getD zF) ((oldF L o).getD zF) = true) := by
  rw [nextF] at h ⊢
  split at h
  · rename_i hp
    rw [if_pos hp]
    simp only [putB, Bool.and_eq_true] at hp
    exact .inl (sameF_refl hp.1)
  · rename_i hp
    rw [if_neg hp]
    refine .inr ⟨h, ?_⟩
    rw [oldF] at h ⊢
    cases hs : atL L (keyF o) with
    | none => rw [hs] at h; cases h
    | some s => exact sameF_refl (hC.slot s (atL_mem hs).1).2.2.2.1
end Go.Proofs.Ytpemdieejgldiaa

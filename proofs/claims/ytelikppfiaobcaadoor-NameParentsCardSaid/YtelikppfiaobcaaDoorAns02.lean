/- The contract of the statements' own 'answers' of layer 2. -/
import Derived.Test.YtelikppfiaobcaaDoorText
import Derived.Test.YtelikppfiaobcaaDoorLaw02
namespace Go.Proofs.YtelikppfiaobcaaDoor
open Go.ChangeShapes Go.WideShapes Go.ChangeAt Go.RowKit

theorem strs_lit (w : World) (ss : List ByteArray) (hn : ss.length ≤ 1000) (hs : ∀ s ∈ ss, s.size ≤ 9223372036854775807) :
    Strs (w.alloc (.cells (ss.map Value.string).toArray 9)) (some ⟨w.heap.size, 0, none⟩) ss.length ss.length ss := by
  refine ⟨⟨by simp, Nat.le_refl _, by omega, by omega, fun e => (by cases e), fun h0 => ⟨w.heap.size, 0, rfl, fun i hi => ?_⟩⟩, hs⟩
  have := World.cell?_alloc_new w (ss.map Value.string).toArray 9 i
  rw [Nat.zero_add, this, List.getElem?_toArray, List.getElem?_eq_getElem hi]

theorem answers_any (w : World) (hT : Tab w) :
    Calls Tryd.prog 10 #[] w fun e w' => e = .returned (.bool true) ∧ Below w.heap.size w w' := by
  have hb : Below w.heap.size w (w.alloc (.cells #[.string ⟨#[97]⟩, .string ⟨#[98]⟩] 9)) := (Below.refl _ _).alloc (Nat.le_refl _) _
  have hst := strs_lit w [⟨#[97]⟩, ⟨#[98]⟩] (by simp) (by intro s hs; simp at hs; rcases hs with rfl | rfl <;> decide)
  have ht : textT [⟨#[97]⟩, ⟨#[98]⟩] = [97, 46, 98, 46] := by decide
  have HC := text_any _ _ _ _ _ hst (by decide) (tab_on hT hb)
  rw [ht] at HC
  have HH := Lib.hid HC
  clear HC ht hst
  have HB := Lib.hid hb; clear hb
  go_enter Tryd.func10, Tryd.ntmps10
  go_wp2_with fail
  refine HH.out.mono ?_
  rintro e w1 ⟨rfl, hb1⟩
  go_wp2
  go_ret
  exact ⟨ret_bool (by decide), below_on HB.out hb1 (Nat.le_refl _)⟩
end Go.Proofs.YtelikppfiaobcaaDoor

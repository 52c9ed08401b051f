/- Cache.Look: a fact, whatever the time. -/
import Derived.Test.YtgfibbjifbghdaaGreatCat
import Derived.Test.YtgfibbjifbghdaaGreatFown
namespace Go.Proofs.YtgfibbjifbghdaaGreat
open Go.ChangeShapes Go.WideShapes Go.ChangeAt Go.RowKit

def zH : FactH := ⟨none, 0, 0, none, 0, 0, none, 0, 0, noDH⟩
def zF : FactP := ⟨[], 0, 0, 0, 0, 0, [], [], noP⟩
theorem zC : factC zH zF = noF := rfl
theorem zF_is (S : Nat → Prop) (w : World) : IsFact S w zH zF := by
  have hz : wfi 0 := by decide
  have hr : Row w none 0 0 [] := Row.empty (by decide) (fun _ => rfl)
  have hs : Strs w none 0 0 [] := ⟨hr, by simp⟩
  have hi : rowIn S none 0 := fun h => absurd h (by omega)
  exact ⟨hs, hi, hz, hz, hz, hz, hz, ⟨rfl, Nat.le_refl _, by decide, fun _ => rfl, fun h => absurd h (by decide)⟩, hs, hi, ⟨hr, hs, hs, hr, hs, by simp [zF, noP]⟩, ⟨hi, hi, hi, hi, hi⟩⟩
end Go.Proofs.YtgfibbjifbghdaaGreat

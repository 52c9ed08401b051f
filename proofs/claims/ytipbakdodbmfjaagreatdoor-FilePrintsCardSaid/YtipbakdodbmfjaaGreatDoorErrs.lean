/- What the row's list says of the library's two errors, in the words of the walk. -/
import Derived.Test.YtipbakdodbmfjaaGreatDoorUnescape
import Derived.Stop.LaidErr
import Derived.Stop.Joined
import Derived.LaidMore
namespace Go.Proofs.YtipbakdodbmfjaaGreatDoor
theorem star_eq : True := trivial
theorem rowErr (u : TypeId) (h : Tryz.prog.typeName? 3 u = some "*errors.errorString") : u = 212 := by
  have e : ("*" ++ "errors.errorString" : String) = "*errors.errorString" := by decide +kernel
  exact typeName_ptr_named (nm := "errors.errorString") (by rw [e]; kernel_rfl) (by kernel_rfl) (by decide) u (by rw [e]; exact h)
theorem err_cell {n : String} {text : List UInt8} {r : List (String × DataW Unit)} {W : World} {g : Nat}
    (h : laidMet Tryz.prog ((n, .iface "*errors.errorString" (.ptr (.agg [.lit (.string text)]))) :: r) W)
    (hg : Tryz.prog.globalNamed n = some g) (ht : (Tryz.prog.globals[g]?).map (·.type) = some 96) : ∃ t p, W.cell? ⟨g, 0, none⟩ = some (.iface t p) := by
  obtain ⟨a, s, hv, _⟩ := laid_sentinel h hg ht Tryz.underlying96 rowErr Tryz.underlying212 Tryz.underlying214 rfl rfl Tryz.underlying9 (by kernel_rfl) (by kernel_rfl)
  exact ⟨_, _, by simpa using World.var?_cell hg hv 0⟩
end Go.Proofs.YtipbakdodbmfjaaGreatDoor

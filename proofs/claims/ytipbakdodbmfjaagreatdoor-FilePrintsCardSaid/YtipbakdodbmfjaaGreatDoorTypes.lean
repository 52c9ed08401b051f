/- The program's table of types, in memory; what the row's list says of it. -/
import Derived.Test.YtipbakdodbmfjaaGreatDoorTypeLaw
import Derived.Test.YtipbakdodbmfjaaGreatDoorEnv
import Derived.OpenShut
import Derived.ChangeArms
import Derived.LaidMore
namespace Go.Proofs.YtipbakdodbmfjaaGreatDoor
open Go.ChangeShapes Go.WideShapes Go.ChangeAt Go.RowKit

def typesV : List Value := typesP.flatMap fun t => [.int .i64 t.1, .string ⟨t.2.toArray⟩]
def Types (w : World) : Prop := ∀ j, j < 18 → w.cell? ⟨0, j, none⟩ = typesV[j]?
theorem Types.lt {w : World} (h : Types w) : 0 < w.heap.size := by
  have := World.block_lt_of_cell? w _ ((h 0 (by omega)).trans rfl)
  simpa using this
theorem Types.below {w w' : World} {B : Nat} (h : Types w) (hb : Below B w w') (hB : 0 < B) : Types w' := fun j hj => by
  rw [hb.cell (p := ⟨0, j, none⟩) hB]; exact h j hj
theorem Types.on {w w' : World} (h : Types w) (hb : Below w.heap.size w w') : Types w' := h.below hb h.lt
theorem cellsNamed : Tryz.prog.cellsOf 74 = 2 := by kernel_rfl
theorem cellsTypes : Tryz.prog.cellsOf 75 = 18 := by kernel_rfl
theorem cellsIntT : Tryz.prog.cellsOf 3 = 1 := by kernel_rfl
theorem cellsStrT : Tryz.prog.cellsOf 9 = 1 := by kernel_rfl
theorem named_cells {H : Type} {enc : TypeId × Value → H} {W : World} {base : Nat} {spare : Nat → Bool} {held : Bool} {fuel : Nat} {a b : Value} {x : DataW H × List MemPlace} {n : Int} {bs : List UInt8}
    (h : DataW.trod enc Tryz.prog W base spare held fuel 74 [a, b] = some x) (hx : x.1 = .agg [.lit (.int .i64 n), .lit (.string bs)]) : a = .int .i64 n ∧ b = .string ⟨bs.toArray⟩ := by
  obtain ⟨xs, m, rfl, rfl, hl, hn, hf⟩ := DataW.trod_struct Tryz.underlying74 h
  match xs, hn with
  | [y0, y1], _ =>
    have g0 := hf 0 _ rfl
    have g1 := hf 1 _ rfl
    simp [cellsIntT, cellsStrT] at g0 g1
    obtain ⟨k, e0, rfl, _⟩ := DataW.trod_int Tryz.underlying3 g0
    obtain ⟨s, e1, rfl, _⟩ := DataW.trod_string Tryz.underlying9 g1
    simp only [List.map_cons, List.map_nil, DataW.agg.injEq, List.cons.injEq, DataW.lit.injEq, Lit.int.injEq, Lit.string.injEq, and_true, true_and] at hx
    cases e0
    cases e1
    refine ⟨by rw [hx.1], ?_⟩
    rw [← hx.2]
set_option maxRecDepth 100000 in
theorem types_of_laid {W : World} {rest : List (String × DataW Unit)} (h : laidMet Tryz.prog (("gazetteer/file.types", Rows.laid_gazetteer_file_types) :: rest) W) : Types W := by
  obtain ⟨ps, ⟨g', t', cs, fuel, p, q, hg', ht', hvar, hd, _, _⟩, _⟩ := h
  obtain rfl := Option.some.inj ((show Tryz.prog.globalNamed "gazetteer/file.types" = some 0 by kernel_rfl).symm.trans hg')
  obtain rfl := Option.some.inj ((show (Tryz.prog.globals[0]?).map (·.type) = some 75 by kernel_rfl).symm.trans ht')
  have hcell := fun j => World.var?_cell hg' hvar j
  obtain ⟨xs, m, rfl, hx, hlen, hxl, hel⟩ := DataW.trod_array Tryz.underlying75 hd
  rw [cellsTypes] at hlen
  obtain ⟨l⟩ := cs
  match l, hlen, xs, hxl with
  | [c0, c1, c2, c3, c4, c5, c6, c7, c8, c9, c10, c11, c12, c13, c14, c15, c16, c17], _, [x0, x1, x2, x3, x4, x5, x6, x7, x8], _ =>
    have hx1 := (Prod.mk.inj hx).1
    unfold Rows.laid_gazetteer_file_types at hx1
    simp only [List.map_cons, List.map_nil, DataW.agg.injEq, List.cons.injEq, and_true] at hx1
    obtain ⟨e0, e1, e2, e3, e4, e5, e6, e7, e8⟩ := hx1
    have k0 := hel 0 (by omega)
    have k1 := hel 1 (by omega)
    have k2 := hel 2 (by omega)
    have k3 := hel 3 (by omega)
    have k4 := hel 4 (by omega)
    have k5 := hel 5 (by omega)
    have k6 := hel 6 (by omega)
    have k7 := hel 7 (by omega)
    have k8 := hel 8 (by omega)
    rw [cellsNamed] at k0 k1 k2 k3 k4 k5 k6 k7 k8
    obtain ⟨rfl, rfl⟩ := named_cells k0 e0.symm
    obtain ⟨rfl, rfl⟩ := named_cells k1 e1.symm
    obtain ⟨rfl, rfl⟩ := named_cells k2 e2.symm
    obtain ⟨rfl, rfl⟩ := named_cells k3 e3.symm
    obtain ⟨rfl, rfl⟩ := named_cells k4 e4.symm
    obtain ⟨rfl, rfl⟩ := named_cells k5 e5.symm
    obtain ⟨rfl, rfl⟩ := named_cells k6 e6.symm
    obtain ⟨rfl, rfl⟩ := named_cells k7 e7.symm
    obtain ⟨rfl, rfl⟩ := named_cells k8 e8.symm
    intro j _
    rw [hcell j]
    rw [List.getElem?_toArray]
    rfl
end Go.Proofs.YtipbakdodbmfjaaGreatDoor

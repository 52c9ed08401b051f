/- More words on memory: slices of slices; what the call owns. -/
import Derived.Test.YtgfibbjifbghdaaGreatBase
namespace Go.Proofs.YtgfibbjifbghdaaGreat
open Go.ChangeShapes Go.WideShapes Go.ChangeAt Go.RowKit

theorem owns_fresh {w : World} {base : Nat} {e : TypeId} {ao : Option Addr} {m n cap : Nat} {xs : List Value} (h : w.ownsRow base e 1 (.slice ao m cap) n xs) : ∀ a, ao = some a → base ≤ a.block := by
  intro a ha
  subst ha
  exact (h.lt a.block rfl).1
theorem Row.grown {w w' : World} {ao : Option Addr} {len cap : Nat} {vs : List Value} {row : Option Nat} (h : Row w ao len cap vs) (hg : w.grownBy w' row) (hne : ∀ a, ao = some a → some a.block ≠ row) : Row w' ao len cap vs := by
  refine ⟨h.hlen, h.hle, h.hcap, h.hmax, h.hnil, fun h0 => ?_⟩
  obtain ⟨b, off, e, hc⟩ := h.hcells h0
  exact ⟨b, off, e, fun i hi => hg.cell (a := ⟨b, off + i, none⟩) (hc i hi) (hne ⟨b, off, none⟩ e)⟩
theorem Strs.grown {w w' : World} {ao : Option Addr} {len cap : Nat} {ss : List ByteArray} {row : Option Nat} (h : Strs w ao len cap ss) (hg : w.grownBy w' row) (hne : ∀ a, ao = some a → some a.block ≠ row) : Strs w' ao len cap ss := ⟨h.row.grown hg hne, h.small⟩
/-- an element of a slice of names, in memory that the call has made since block B -/
def Elem (B : Nat) (w : World) (v : Value) (ns : List ByteArray) : Prop := ∃ ao cap, v = .slice ao ns.length cap ∧ Strs w ao ns.length cap ns ∧ ∀ a, ao = some a → B < a.block
theorem Elem.below {B B' : Nat} {w w' : World} {v : Value} {ns : List ByteArray} (h : Elem B w v ns) (hb : Below B' w w') (hB : w.heap.size ≤ B') : Elem B w' v ns := by
  obtain ⟨ao, cap, e, hs, hf⟩ := h
  exact ⟨ao, cap, e, hs.below hb hB, hf⟩
theorem Elem.grown {B : Nat} {w w' : World} {v : Value} {ns : List ByteArray} (h : Elem B w v ns) (hg : w.grownBy w' (some B)) : Elem B w' v ns := by
  obtain ⟨ao, cap, e, hs, hf⟩ := h
  exact ⟨ao, cap, e, hs.grown hg (fun a ha => by have := hf a ha; simp; omega), hf⟩
/-- what a call hands back: a new slice of strings -/
def StrsNew (w : World) (ss : List ByteArray) (e : Ending) (w' : World) : Prop :=
  ∃ ao cap, e = .returned (.slice ao ss.length cap) ∧ Strs w' ao ss.length cap ss ∧ Below w.heap.size w w' ∧ ∀ a, ao = some a → w.heap.size ≤ a.block
/-- one element appended within the capacity -/
theorem append_one_fits {P : Program} (w : World) (base : Nat) (t ty e : TypeId) (i : TypeInfo) (ht : P.underlying t = some (.slice e)) (hi : P.info? e = some i) (hsize : i.size = 1)
    (g n cap : Nat) (xs : List Value) (hown : w.ownsRow base e 1 (.slice (some ⟨g, 0, none⟩) n cap) n xs) (x : Value) (hx : x.oneCell' = true) (hroom : n + 1 ≤ cap) :
    ∃ w', (Builtin.append_ #[t, t] ty #[.slice (some ⟨g, 0, none⟩) n cap, .slice (some ⟨w.heap.size, 0, none⟩) 1 1]).run P (w.alloc (.cells #[x] e)) = .ok (.slice (some ⟨g, 0, none⟩) (n + 1) cap) w' ∧
      w'.ownsRow base e 1 (.slice (some ⟨g, 0, none⟩) (n + 1) cap) (n + 1) (xs ++ [x]) ∧ (w.alloc (.cells #[x] e)).grownBy w' (some g) :=
  run_append_fits (P := P) (w.alloc (.cells #[x] e)) base t ty e i 1 ht hi hsize g n cap xs (hown.alloc _) ⟨w.heap.size, 0, none⟩ 1 1 [x] rfl (by
    intro j u hj
    obtain ⟨b, off, e', hc⟩ := (row_one w x e).hcells (by omega)
    cases e'
    have hj' : j < [x].length := by
      rcases Nat.lt_or_ge j [x].length with h | h
      · exact h
      · rw [List.getElem?_eq_none h] at hj; cases hj
    rw [addr_add, hc j hj', ← hj, List.getElem?_eq_getElem hj']) (by intro u hu; simp at hu; subst hu; exact hx) hroom
end Go.Proofs.YtgfibbjifbghdaaGreat

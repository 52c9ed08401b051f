/- Packed: what is beside the packed texts. -/
import Derived.Test.YtjpefpclmndgeaaGreatPl9
import Derived.Test.YtjpefpclmndgeaaGreatRows
import Derived.SizedLaws
import Derived.OpenShut
import Derived.ShutString
import Derived.ChangeOld
namespace Go.Proofs.YtjpefpclmndgeaaGreat
section
open Go.ChangeShapes Go.WideShapes Go.ChangeAt Go.RowKit
theorem laidOut : laidOutB Tryz.prog = true := by kernel_rfl

theorem reach_le : reachBytes ≤ 140737488355328 := Nat.le_of_lt reachBytes_lt

theorem row_of_cells {W : World} {a : Addr} {len cap n : Nat} {f : Nat → Value} (hl : len ≤ cap) (hm : cap ≤ 140737488355328) (hn : len ≤ n) (hc : ∀ i, i < n → W.cell? (a.add i) = some (f i)) :
    Row W (some a) len cap ((List.range len).map f) := by
  refine ⟨by simp, hl, by omega, by omega, fun e => (by cases e), fun h0 => ?_⟩
  obtain ⟨b, off, spot⟩ := a
  have h1 := hc 0 (by omega)
  have hspot : spot = none := by simpa [Addr.add] using World.cell?_spot h1
  subst hspot
  refine ⟨b, off, rfl, fun i hi => ?_⟩
  have hi' : i < len := by simpa using hi
  have := hc i (by omega)
  rw [ZbB] at this
  rw [this]; simp

theorem open_strs_arg {H : Type} {enc : TypeId × Value → H} {W : World} {t : TypeId} {v : Value} {d : DataW H} {ps : List MemPlace} {ts : List TypeId} {ds : List (DataW H)} {j : Nat}
    (ht : Tryz.prog.underlying t = some (.slice 9)) (h : DataW.Trod enc Tryz.prog W 0 (fun _ => true) true t v d ps)
    (hsz : (DataW.weightsEach Tryz.prog ts ds).all (· ≤ reachBytes) = true) (h1 : ts[j]? = some t) (h2 : ds[j]? = some d) (hv : ∃ a n c, v = .slice a n c) :
    ∃ ao len cap ss, v = .slice ao len cap ∧ Strs W ao len cap ss ∧ cap * 16 ≤ 140737488355328 := by
  obtain ⟨a0, n0, c0, rfl⟩ := hv
  obtain ⟨fuel, hf⟩ := h
  rcases open_strings ht Tryz.underlying9 (by kernel_rfl) hf with ⟨hcs, _⟩ | ⟨a, len, cap, ss, hcs, _, hl, hm, hlen, hx, hcell, hws⟩
  · simp [Value.cells] at hcs
    obtain ⟨rfl, rfl, rfl⟩ := hcs
    exact ⟨_, _, _, [], rfl, ⟨Row.empty (by omega) (fun _ => rfl), fun s hs => by cases hs⟩, by omega⟩
  · simp [Value.cells] at hcs
    obtain ⟨rfl, rfl, rfl⟩ := hcs
    simp at hlen
    simp only [Prod.mk.injEq] at hx
    have hs := sized_slice hsz h1 (h2.trans (by rw [hx.1])) ht
    have hb : Tryz.prog.bytesOf 9 = 16 := by kernel_rfl
    rw [hb] at hs
    simp only [strs, List.length_map, List.length_take, List.length_drop] at hs
    have hr := reach_le
    have hlen' : (ss.take n0).length = n0 := by simp; omega
    refine ⟨_, _, _, ss.take n0, rfl, ⟨?_, fun s h => by have := hws s (List.mem_of_mem_take h); unfold maxLen at this; exact this⟩, by omega⟩
    have hr := row_of_cells (f := fun i => .string (ss.getD i ByteArray.empty)) hl (by omega) (by omega : n0 ≤ ss.length) hcell
    have e : (ss.take n0).map Value.string = (List.range n0).map fun i => .string (ss.getD i ByteArray.empty) := by
      apply List.ext_getElem
      · simp; omega
      · intro i h1 h2
        have : i < ss.length := by simp at h2; omega
        simp [this]
    rw [e]
    exact hr

theorem open_ints_arg {H : Type} {enc : TypeId × Value → H} {W : World} {t e : TypeId} {k : IntKind} {bytes : Nat} {v : Value} {d : DataW H} {ps : List MemPlace} {ts : List TypeId} {ds : List (DataW H)} {j : Nat}
    (ht : Tryz.prog.underlying t = some (.slice e)) (he : Tryz.prog.underlying e = some (.int k)) (hce : Tryz.prog.cellsOf e = 1) (hby : Tryz.prog.bytesOf e = bytes) (hb0 : 0 < bytes) (h : DataW.Trod enc Tryz.prog W 0 (fun _ => true) true t v d ps)
    (hsz : (DataW.weightsEach Tryz.prog ts ds).all (· ≤ reachBytes) = true) (h1 : ts[j]? = some t) (h2 : ds[j]? = some d) (hv : ∃ a n c, v = .slice a n c) :
    ∃ ao len cap, ∃ zs : List Int, v = .slice ao len cap ∧ Row W ao len cap (zs.map (Value.int k)) ∧ (∀ z ∈ zs, (Lit.int k z).wf = true) ∧ cap * bytes ≤ 140737488355328 := by
  obtain ⟨a0, n0, c0, rfl⟩ := hv
  obtain ⟨fuel, hf⟩ := h
  rcases open_ints ht he hce hf with ⟨hcs, _⟩ | ⟨a, len, cap, zs, hcs, _, hl, hm, hz, hx, hcell, hwz⟩
  · simp [Value.cells] at hcs
    obtain ⟨rfl, rfl, rfl⟩ := hcs
    exact ⟨_, _, _, [], rfl, Row.empty (by omega) (fun _ => rfl), fun s hs => (by cases hs), by omega⟩
  · simp [Value.cells] at hcs
    obtain ⟨rfl, rfl, rfl⟩ := hcs
    simp at hz
    simp only [Prod.mk.injEq] at hx
    have hs := sized_slice hsz h1 (h2.trans (by rw [hx.1])) ht
    rw [hby] at hs
    simp only [lits, List.length_map, List.length_take, List.length_drop] at hs
    have hr := reach_le
    have hcc : c0 * 1 ≤ c0 * bytes := Nat.mul_le_mul_left _ hb0
    have hmm : min n0 zs.length + (zs.length - n0) = c0 := by omega
    rw [hmm] at hs
    refine ⟨_, _, _, zs.take n0, rfl, ?_, fun s h => hwz s (List.mem_of_mem_take h), by omega⟩
    have hr := row_of_cells (f := fun i => .int k (zs.getD i 0)) hl (by omega) (by omega : n0 ≤ zs.length) hcell
    have e : (zs.take n0).map (Value.int k) = (List.range n0).map fun i => .int k (zs.getD i 0) := by
      apply List.ext_getElem
      · simp; omega
      · intro i h1 h2
        have : i < zs.length := by simp at h2; omega
        simp [this]
    rw [e]
    exact hr

end
end Go.Proofs.YtjpefpclmndgeaaGreat

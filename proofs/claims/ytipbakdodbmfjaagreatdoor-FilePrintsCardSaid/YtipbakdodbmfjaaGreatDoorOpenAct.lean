/- Opening an act that came in as data, by itself or in a slice. -/
import Derived.Test.YtipbakdodbmfjaaGreatDoorOpen
import Derived.Test.YtipbakdodbmfjaaGreatDoorActIo
import Derived.ChangeArms
import Derived.Deep.Slices
namespace Go.Proofs.YtipbakdodbmfjaaGreatDoor
open Go.ChangeShapes Go.WideShapes Go.ChangeAt Go.RowKit

theorem cellsAct : Tryz.prog.cellsOf 60 = 8 := by kernel_rfl
theorem cellsInt : Tryz.prog.cellsOf 3 = 1 := by kernel_rfl
theorem cellsU64 : Tryz.prog.cellsOf 58 = 1 := by kernel_rfl
theorem cellsStrs : Tryz.prog.cellsOf 30 = 1 := by kernel_rfl
theorem cellsByts : Tryz.prog.cellsOf 29 = 1 := by kernel_rfl
abbrev wfi (n : Int) : Prop := -9223372036854775808 ≤ n ∧ n ≤ 9223372036854775807
theorem slice_of {H : Type} {enc : TypeId × Value → H} {W : World} {fuel : Nat} {t e : TypeId} {c : Value} {y : DataW H × List MemPlace} (ht : Tryz.prog.underlying t = some (.slice e)) (h : DataW.trod enc Tryz.prog W 0 (fun _ => true) true fuel t [c] = some y) : ∃ a n k, c = .slice a n k := by
  rcases DataW.trod_slice ht h with ⟨h1, _⟩ | ⟨a, n, k, _, _, _, _, h1, _⟩
  · exact ⟨_, _, _, List.cons.inj h1 |>.1⟩
  · exact ⟨_, _, _, List.cons.inj h1 |>.1⟩
theorem lits_bytes (zs : List Int) (h : ∀ z ∈ zs, (Lit.int .u8 z).wf = true) : ∃ l : List UInt8, zs.map (Value.int .u8) = l.map fun c => Value.int .u8 (c.toNat : Int) := by
  refine ⟨zs.map fun z => UInt8.ofNat z.toNat, ?_⟩
  rw [List.map_map]
  apply List.map_congr_left
  intro z hz
  have := bounds_u8 (h z hz)
  simp only [Function.comp]
  congr 1
  rw [UInt8.toNat_ofNat']
  omega
theorem open_strs_cell {H : Type} {enc : TypeId × Value → H} {W : World} {fuel : Nat} {c : Value} {y : DataW H × List MemPlace} (h : DataW.trod enc Tryz.prog W 0 (fun _ => true) true fuel 30 [c] = some y)
    (hsz : (y.1.weights Tryz.prog 30).all (· ≤ reachBytes) = true) : ∃ ao n k ss, c = .slice ao n k ∧ Strs W ao n k ss := by
  obtain ⟨a, n, k, rfl⟩ := slice_of Tryz.underlying30 h
  obtain ⟨ao, n2, k2, ss, e, hs, _⟩ := open_strs_arg (ts := [30]) (ds := [y.1]) (j := 0) Tryz.underlying30 (show DataW.Trod enc Tryz.prog W 0 (fun _ => true) true 30 (.slice a n k) y.1 y.2 from ⟨fuel, by simpa [Value.cells] using h⟩) (by simpa [DataW.weightsEach] using hsz) rfl rfl ⟨_, _, _, rfl⟩
  exact ⟨_, _, _, ss, e, hs⟩
theorem open_byts_cell {H : Type} {enc : TypeId × Value → H} {W : World} {fuel : Nat} {c : Value} {y : DataW H × List MemPlace} (h : DataW.trod enc Tryz.prog W 0 (fun _ => true) true fuel 29 [c] = some y)
    (hsz : (y.1.weights Tryz.prog 29).all (· ≤ reachBytes) = true) : ∃ ao n k l, c = .slice ao n k ∧ Byts W ao n k l := by
  obtain ⟨a, n, k, rfl⟩ := slice_of Tryz.underlying29 h
  obtain ⟨ao, n2, k2, zs, e, hs, hw, _⟩ := open_ints_arg (bytes := 1) (ts := [29]) (ds := [y.1]) (j := 0) Tryz.underlying29 Tryz.underlying5 (by kernel_rfl) (by kernel_rfl) (by decide) (show DataW.Trod enc Tryz.prog W 0 (fun _ => true) true 29 (.slice a n k) y.1 y.2 from ⟨fuel, by simpa [Value.cells] using h⟩) (by simpa [DataW.weightsEach] using hsz) rfl rfl ⟨_, _, _, rfl⟩
  obtain ⟨l, hl⟩ := lits_bytes zs hw
  rw [hl] at hs
  exact ⟨_, _, _, l, e, hs⟩
set_option maxRecDepth 100000 in
theorem open_act {H : Type} {enc : TypeId × Value → H} {W : World} {fuel : Nat} {cs : List Value} {x : DataW H × List MemPlace} (h : DataW.trod enc Tryz.prog W 0 (fun _ => true) true fuel 60 cs = some x)
    (hsz : (x.1.weights Tryz.prog 60).all (· ≤ reachBytes) = true) :
    ∃ (a : ActP) (nao : Option Addr) (nl nc : Nat) (dao : Option Addr) (dl dc : Nat), cs = (actCells a nao nl nc dao dl dc).toList ∧ Strs W nao nl nc a.name ∧ Byts W dao dl dc a.data ∧ a.fits ∧ wfi a.kind := by
  obtain ⟨xs, n, rfl, rfl, hl, hx, hf⟩ := DataW.trod_struct Tryz.underlying60 h
  rw [cellsAct] at hl
  match cs, hl, xs, hx with
  | [c0, c1, c2, c3, c4, c5, c6, c7], _, [y0, y1, y2, y3, y4, y5, y6, y7], _ =>
    have g0 := hf 0 _ rfl
    have g1 := hf 1 _ rfl
    have g2 := hf 2 _ rfl
    have g3 := hf 3 _ rfl
    have g4 := hf 4 _ rfl
    have g5 := hf 5 _ rfl
    have g6 := hf 6 _ rfl
    have g7 := hf 7 _ rfl
    simp [cellsInt, cellsU64, cellsStrs, cellsByts] at g0 g1 g2 g3 g4 g5 g6 g7
    obtain ⟨k0, e0, rfl, w0⟩ := DataW.trod_int Tryz.underlying3 g0
    obtain ⟨k1, e1, rfl, w1⟩ := DataW.trod_int Tryz.underlying3 g1
    obtain ⟨k2, e2, rfl, w2⟩ := DataW.trod_int Tryz.underlying3 g2
    obtain ⟨k3, e3, rfl, w3⟩ := DataW.trod_int Tryz.underlying3 g3
    obtain ⟨k5, e5, rfl, w5⟩ := DataW.trod_int Tryz.underlying58 g5
    obtain ⟨k6, e6, rfl, w6⟩ := DataW.trod_int Tryz.underlying58 g6
    cases e0; cases e1; cases e2; cases e3; cases e5; cases e6
    simp only [DataW.weights, Tryz.underlying60, List.map_cons, List.map_nil, DataW.weightsEach, List.nil_append, List.append_nil, List.all_append, Bool.and_eq_true] at hsz
    obtain ⟨nao, nl, nc, ss, rfl, hS⟩ := open_strs_cell g4 hsz.1
    obtain ⟨dao, dl, dc, l, rfl, hD⟩ := open_byts_cell g7 hsz.2
    have b0 := bounds_i64 w0
    have b1 := bounds_i64 w1
    have b2 := bounds_i64 w2
    have b3 := bounds_i64 w3
    have b5 := bounds_u64 w5
    have b6 := bounds_u64 w6
    refine ⟨⟨k0, k1, k2, k3, ss, k5.toNat, k6.toNat, l⟩, nao, nl, nc, dao, dl, dc, ?_, hS, hD, ⟨b1, b2, b3, by simp only; omega, by simp only; omega⟩, b0⟩
    simp only [actCells]
    rw [Int.toNat_of_nonneg b5.1, Int.toNat_of_nonneg b6.1]
end Go.Proofs.YtipbakdodbmfjaaGreatDoor

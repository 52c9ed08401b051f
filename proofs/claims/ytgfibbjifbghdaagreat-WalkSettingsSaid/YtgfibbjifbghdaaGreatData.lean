/- A record's data in memory; opening one that came in. -/
import Derived.Test.YtgfibbjifbghdaaGreatOpen
import Derived.Test.YtgfibbjifbghdaaGreatCells
import Derived.Test.YtgfibbjifbghdaaGreatLists
import Derived.Test.YtgfibbjifbghdaaGreatRegion
import Derived.ChangeArms
import Derived.Deep.Slices
namespace Go.Proofs.YtgfibbjifbghdaaGreat
open Go.ChangeShapes Go.WideShapes Go.ChangeAt Go.RowKit

/-- A slice of bytes reads as the list l. -/
abbrev Byts (w : World) (ao : Option Addr) (len cap : Nat) (l : List UInt8) : Prop := Row w ao len cap (l.map fun c => Value.int .u8 (c.toNat : Int))
theorem cellsInt : Tryz.prog.cellsOf 3 = 1 := by kernel_rfl
theorem cellsStrs : Tryz.prog.cellsOf 29 = 1 := by kernel_rfl
theorem cellsByts : Tryz.prog.cellsOf 28 = 1 := by kernel_rfl
abbrev wfi (n : Int) : Prop := -9223372036854775808 ≤ n ∧ n ≤ 9223372036854775807
theorem slice_of {H : Type} {enc : TypeId × Value → H} {W : World} {fuel : Nat} {t e : TypeId} {c : Value} {y : DataW H × List MemPlace} (ht : Tryz.prog.underlying t = some (.slice e)) (h : DataW.trod enc Tryz.prog W 0 (fun _ => true) true fuel t [c] = some y) : ∃ a n k, c = .slice a n k := by
  rcases DataW.trod_slice ht h with ⟨h1, _⟩ | ⟨a, n, k, _, _, _, _, h1, _⟩
  · exact ⟨_, _, _, List.cons.inj h1 |>.1⟩
  · exact ⟨_, _, _, List.cons.inj h1 |>.1⟩
theorem lits_bytes (zs : List Int) (h : ∀ z ∈ zs, (Lit.int .u8 z).wf = true) : ∃ l : List UInt8, zs.map (Value.int .u8) = l.map fun c => Value.int .u8 (c.toNat : Int) := by
  refine ⟨zs.map fun z => UInt8.ofNat z.toNat, ?_⟩
  rw [List.map_map]
  apply List.map_congr_left
  intro z hz
  have := bounds_u8 (h z hz)
  simp only [Function.comp]
  congr 1
  rw [UInt8.toNat_ofNat']
  omega
theorem open_strs_cell {H : Type} {enc : TypeId × Value → H} {W : World} {fuel : Nat} {c : Value} {y : DataW H × List MemPlace} (h : DataW.trod enc Tryz.prog W 0 (fun _ => true) true fuel 29 [c] = some y)
    (hsz : (y.1.weights Tryz.prog 29).all (· ≤ reachBytes) = true) : ∃ ao n k ss, c = .slice ao n k ∧ Strs W ao n k ss := by
  obtain ⟨a, n, k, rfl⟩ := slice_of Tryz.underlying29 h
  obtain ⟨ao, n2, k2, ss, e, hs, _⟩ := open_strs_arg (ts := [29]) (ds := [y.1]) (j := 0) Tryz.underlying29 (show DataW.Trod enc Tryz.prog W 0 (fun _ => true) true 29 (.slice a n k) y.1 y.2 from ⟨fuel, by simpa [Value.cells] using h⟩) (by simpa [DataW.weightsEach] using hsz) rfl rfl ⟨_, _, _, rfl⟩
  exact ⟨_, _, _, ss, e, hs⟩
theorem open_byts_cell {H : Type} {enc : TypeId × Value → H} {W : World} {fuel : Nat} {c : Value} {y : DataW H × List MemPlace} (h : DataW.trod enc Tryz.prog W 0 (fun _ => true) true fuel 28 [c] = some y)
    (hsz : (y.1.weights Tryz.prog 28).all (· ≤ reachBytes) = true) : ∃ ao n k l, c = .slice ao n k ∧ Byts W ao n k l := by
  obtain ⟨a, n, k, rfl⟩ := slice_of Tryz.underlying28 h
  obtain ⟨ao, n2, k2, zs, e, hs, hw, _⟩ := open_ints_arg (bytes := 1) (ts := [28]) (ds := [y.1]) (j := 0) Tryz.underlying28 Tryz.underlying5 (by kernel_rfl) (by kernel_rfl) (by decide) (show DataW.Trod enc Tryz.prog W 0 (fun _ => true) true 28 (.slice a n k) y.1 y.2 from ⟨fuel, by simpa [Value.cells] using h⟩) (by simpa [DataW.weightsEach] using hsz) rfl rfl ⟨_, _, _, rfl⟩
  obtain ⟨l, hl⟩ := lits_bytes zs hw
  rw [hl] at hs
  exact ⟨_, _, _, l, e, hs⟩
structure DataP where
  bytes : List UInt8
  host : List ByteArray
  mail : List ByteArray
  nums : List Int
  texts : List ByteArray
structure DataH where
  ba : Option Addr
  bl : Nat
  bc : Nat
  ha : Option Addr
  hl : Nat
  hc : Nat
  ma : Option Addr
  ml : Nat
  mc : Nat
  na : Option Addr
  nl : Nat
  nc : Nat
  ta : Option Addr
  tl : Nat
  tc : Nat
def dataC (h : DataH) : Array Value := #[.slice h.ba h.bl h.bc, .slice h.ha h.hl h.hc, .slice h.ma h.ml h.mc, .slice h.na h.nl h.nc, .slice h.ta h.tl h.tc]
abbrev Nums (w : World) (ao : Option Addr) (n c : Nat) (l : List Int) : Prop := Row w ao n c (l.map (Value.int .i64))
structure IsData (w : World) (h : DataH) (d : DataP) : Prop where
  bytes : Byts w h.ba h.bl h.bc d.bytes
  host : Strs w h.ha h.hl h.hc d.host
  mail : Strs w h.ma h.ml h.mc d.mail
  nums : Nums w h.na h.nl h.nc d.nums
  texts : Strs w h.ta h.tl h.tc d.texts
  fits : ∀ n ∈ d.nums, wfi n
theorem IsData.on {w w' : World} {h : DataH} {d : DataP} (hd : IsData w h d) (hb : Below w.heap.size w w') : IsData w' h d :=
  ⟨hd.bytes.below hb (Nat.le_refl _), hd.host.below hb (Nat.le_refl _), hd.mail.below hb (Nat.le_refl _), hd.nums.below hb (Nat.le_refl _), hd.texts.below hb (Nat.le_refl _), hd.fits⟩
structure DataLen (h : DataH) (d : DataP) : Prop where
  bytes : d.bytes.length = h.bl
  host : d.host.length = h.hl
  mail : d.mail.length = h.ml
  nums : d.nums.length = h.nl
  texts : d.texts.length = h.tl
theorem IsData.len {w : World} {h : DataH} {d : DataP} (hd : IsData w h d) : DataLen h d :=
  ⟨by simpa using hd.bytes.hlen, hd.host.len, hd.mail.len, by simpa using hd.nums.hlen, hd.texts.len⟩

theorem cellsNums : Tryz.prog.cellsOf 96 = 1 := by kernel_rfl
theorem open_nums_cell {H : Type} {enc : TypeId × Value → H} {W : World} {fuel : Nat} {c : Value} {y : DataW H × List MemPlace} (h : DataW.trod enc Tryz.prog W 0 (fun _ => true) true fuel 96 [c] = some y)
    (hsz : (y.1.weights Tryz.prog 96).all (· ≤ reachBytes) = true) : ∃ ao n k l, c = .slice ao n k ∧ Nums W ao n k l ∧ ∀ x ∈ l, wfi x := by
  obtain ⟨a, n, k, rfl⟩ := slice_of Tryz.underlying96 h
  obtain ⟨ao, n2, k2, zs, e, hs, hw, _⟩ := open_ints_arg (bytes := 8) (ts := [96]) (ds := [y.1]) (j := 0) Tryz.underlying96 Tryz.underlying3 (by kernel_rfl) (by kernel_rfl) (by decide) (show DataW.Trod enc Tryz.prog W 0 (fun _ => true) true 96 (.slice a n k) y.1 y.2 from ⟨fuel, by simpa [Value.cells] using h⟩) (by simpa [DataW.weightsEach] using hsz) rfl rfl ⟨_, _, _, rfl⟩
  exact ⟨_, _, _, zs, e, hs, fun x hx => bounds_i64 (hw x hx)⟩
theorem cellsData : Tryz.prog.cellsOf 98 = 5 := by kernel_rfl
set_option maxRecDepth 100000 in
theorem open_data {H : Type} {enc : TypeId × Value → H} {W : World} {fuel : Nat} {cs : List Value} {x : DataW H × List MemPlace} (h : DataW.trod enc Tryz.prog W 0 (fun _ => true) true fuel 98 cs = some x)
    (hsz : (x.1.weights Tryz.prog 98).all (· ≤ reachBytes) = true) :
    ∃ (d : DataP) (k : DataH), cs = (dataC k).toList ∧ IsData W k d := by
  obtain ⟨xs, n, rfl, rfl, hl, hx, hf⟩ := DataW.trod_struct Tryz.underlying98 h
  rw [cellsData] at hl
  match cs, hl, xs, hx with
  | [c0, c1, c2, c3, c4], _, [y0, y1, y2, y3, y4], _ =>
    have g0 := hf 0 _ rfl
    have g1 := hf 1 _ rfl
    have g2 := hf 2 _ rfl
    have g3 := hf 3 _ rfl
    have g4 := hf 4 _ rfl
    simp [cellsStrs, cellsByts, cellsNums] at g0 g1 g2 g3 g4
    simp only [DataW.weights, Tryz.underlying98, List.map_cons, List.map_nil, DataW.weightsEach, List.append_nil, List.all_append, Bool.and_eq_true] at hsz
    obtain ⟨ba, bl, bc, l0, rfl, h0⟩ := open_byts_cell g0 hsz.1
    obtain ⟨ha, hl, hc, l1, rfl, h1⟩ := open_strs_cell g1 hsz.2.1
    obtain ⟨ma, ml, mc, l2, rfl, h2⟩ := open_strs_cell g2 hsz.2.2.1
    obtain ⟨na, nl, nc, l3, rfl, h3, h3'⟩ := open_nums_cell g3 hsz.2.2.2.1
    obtain ⟨ta, tl, tc, l4, rfl, h4⟩ := open_strs_cell g4 hsz.2.2.2.2
    exact ⟨⟨l0, l1, l2, l3, l4⟩, ⟨ba, bl, bc, ha, hl, hc, ma, ml, mc, na, nl, nc, ta, tl, tc⟩, rfl, ⟨h0, h1, h2, h3, h4, h3'⟩⟩
set_option maxRecDepth 100000 in
theorem open_data_arg {H : Type} {enc : TypeId × Value → H} {W : World} {base : Nat} {v : Value} {d : DataW H} {ps : List MemPlace} (hk : Value.okWide Tryz.prog W .any base 98 v)
    (h : DataW.Trod enc Tryz.prog W 0 (fun _ => true) true 98 v d ps) (hsz : (d.weights Tryz.prog 98).all (· ≤ reachBytes) = true) :
    ∃ (x : DataP) (k : DataH), v = .agg (dataC k) ∧ IsData W k x := by
  obtain ⟨cs, rfl, _⟩ := okWide_struct Tryz.underlying98 hk
  obtain ⟨fuel, hf⟩ := h
  obtain ⟨x, k, e, h1⟩ := open_data (x := (d, ps)) (cs := cs.toList) (by simpa [Value.cells] using hf) hsz
  exact ⟨x, k, by rw [Array.toList_inj.1 e], h1⟩

end Go.Proofs.YtgfibbjifbghdaaGreat

/- Facts in memory; opening facts that came in; which facts may be. -/
import Derived.Test.YtgfibbjifbghdaaGreatMem
import Derived.Test.YtgfibbjifbghdaaGreatData
namespace Go.Proofs.YtgfibbjifbghdaaGreat
open Go.ChangeShapes Go.WideShapes Go.ChangeAt Go.RowKit

structure DataIn (S : Nat → Prop) (h : DataH) : Prop where
  iB : rowIn S h.ba h.bl
  iH : rowIn S h.ha h.hl
  iM : rowIn S h.ma h.ml
  iN : rowIn S h.na h.nl
  iT : rowIn S h.ta h.tl
theorem DataIn.mono {S S' : Nat → Prop} {w : World} {h : DataH} {d : DataP} (i : DataIn S h) (hd : IsData w h d) (hS : ∀ b, b < w.heap.size → S b → S' b) : DataIn S' h :=
  ⟨i.iB.mono hd.bytes hS, i.iH.mono hd.host.row hS, i.iM.mono hd.mail.row hS, i.iN.mono hd.nums hS, i.iT.mono hd.texts.row hS⟩
theorem IsData.keep {S : Nat → Prop} {w w' : World} {h : DataH} {d : DataP} (hd : IsData w h d) (i : DataIn S h) (hs : Same S w w') : IsData w' h d :=
  ⟨hd.bytes.keep i.iB hs, hd.host.keep i.iH hs, hd.mail.keep i.iM hs, hd.nums.keep i.iN hs, hd.texts.keep i.iT hs, hd.fits⟩
def dataK : Kind DataP where
  H := DataH
  size := 5
  cells := fun h _ => dataC h
  is := fun S w h d => IsData w h d ∧ DataIn S h
  hsize := fun _ _ => rfl
  pos := by decide
  one := fun h x u hu => by
    simp [dataC] at hu
    rcases hu with rfl | rfl | rfl | rfl | rfl <;> rfl
  mono := fun h hS => ⟨h.1, h.2.mono h.1 hS⟩
  keep := fun h hs => ⟨h.1.keep h.2 hs, h.2⟩
abbrev Datas (S : Nat → Prop) (w : World) (ao : Option Addr) (n c : Nat) (ds : List DataP) : Prop := Seq dataK S w ao n c ds
theorem data_elem {S : Nat → Prop} {w : World} {b off : Nat} {d : DataP} (h : Elem1 dataK S w b off d) : ∃ k, (∀ j, j < 5 → w.cell? ⟨b, off + j, none⟩ = (dataC k)[j]?) ∧ IsData w k d ∧ DataIn S k := by
  obtain ⟨k, h1, h2⟩ := h
  exact ⟨k, h1, h2.1, h2.2⟩

structure FactP where
  name : List ByteArray
  typ : Int
  kind : Int
  rank : Int
  got : Int
  ttl : Int
  set : List DataP
  zone : List ByteArray
  soa : DataP
structure FactH where
  na : Option Addr
  nl : Nat
  nc : Nat
  sa : Option Addr
  sl : Nat
  sc : Nat
  za : Option Addr
  zl : Nat
  zc : Nat
  d : DataH
def factC (h : FactH) (f : FactP) : Array Value := #[.slice h.na h.nl h.nc, .int .i64 f.typ, .int .i64 f.kind, .int .i64 f.rank, .int .i64 f.got, .int .i64 f.ttl, .slice h.sa h.sl h.sc, .slice h.za h.zl h.zc,
  .slice h.d.ba h.d.bl h.d.bc, .slice h.d.ha h.d.hl h.d.hc, .slice h.d.ma h.d.ml h.d.mc, .slice h.d.na h.d.nl h.d.nc, .slice h.d.ta h.d.tl h.d.tc]
structure IsFact (S : Nat → Prop) (w : World) (h : FactH) (f : FactP) : Prop where
  name : Strs w h.na h.nl h.nc f.name
  nameIn : rowIn S h.na h.nl
  typ : wfi f.typ
  kind : wfi f.kind
  rank : wfi f.rank
  got : wfi f.got
  ttl : wfi f.ttl
  set : Datas S w h.sa h.sl h.sc f.set
  zone : Strs w h.za h.zl h.zc f.zone
  zoneIn : rowIn S h.za h.zl
  soa : IsData w h.d f.soa
  soaIn : DataIn S h.d
theorem IsFact.mono {S S' : Nat → Prop} {w : World} {h : FactH} {f : FactP} (i : IsFact S w h f) (hS : ∀ b, b < w.heap.size → S b → S' b) : IsFact S' w h f :=
  ⟨i.name, i.nameIn.mono i.name.row hS, i.typ, i.kind, i.rank, i.got, i.ttl, i.set.mono hS, i.zone, i.zoneIn.mono i.zone.row hS, i.soa, i.soaIn.mono i.soa hS⟩
theorem IsFact.keep {S : Nat → Prop} {w w' : World} {h : FactH} {f : FactP} (i : IsFact S w h f) (hs : Same S w w') : IsFact S w' h f :=
  ⟨i.name.keep i.nameIn hs, i.nameIn, i.typ, i.kind, i.rank, i.got, i.ttl, i.set.keep hs, i.zone.keep i.zoneIn hs, i.zoneIn, i.soa.keep i.soaIn hs, i.soaIn⟩
theorem IsFact.on {S : Nat → Prop} {w w' : World} {h : FactH} {f : FactP} (i : IsFact S w h f) (hb : Below w.heap.size w w') : IsFact S w' h f := i.keep (Same.below hb S)
def factK : Kind FactP where
  H := FactH
  size := 13
  cells := fun h f => factC h f
  is := IsFact
  hsize := fun _ _ => rfl
  pos := by decide
  one := fun h x u hu => by
    simp [factC] at hu
    rcases hu with rfl | rfl | rfl | rfl | rfl | rfl | rfl | rfl | rfl | rfl | rfl | rfl | rfl <;> rfl
  mono := fun h hS => h.mono hS
  keep := fun h hs => h.keep hs
abbrev Facts (S : Nat → Prop) (w : World) (ao : Option Addr) (n c : Nat) (fs : List FactP) : Prop := Seq factK S w ao n c fs
theorem IsFact.step {T : List TypeId} {w w' : World} {h : FactH} {f : FactP} (i : IsFact (tagged T w) w h f) (hs : Same (tagged T w) w w') : IsFact (tagged T w') w' h f := factK.step i hs
theorem fact_elem {S : Nat → Prop} {w : World} {b off : Nat} {f : FactP} (h : Elem1 factK S w b off f) : ∃ k, (∀ j, j < 13 → w.cell? ⟨b, off + j, none⟩ = (factC k f)[j]?) ∧ IsFact S w k f := h

/- facts that came in -/
instance : Inhabited DataP := ⟨⟨[], [], [], [], []⟩⟩
instance : Inhabited FactP := ⟨⟨[], 0, 0, 0, 0, 0, [], [], default⟩⟩
theorem cellsFact : Tryz.prog.cellsOf 100 = 13 := by kernel_rfl
theorem cellsDatas : Tryz.prog.cellsOf 95 = 1 := by kernel_rfl
theorem all_below (w : World) {ao : Option Addr} {n c : Nat} {vs : List Value} (h : Row w ao n c vs) : rowIn (fun b => b < w.heap.size) ao n := h.mem_lt
theorem IsData.all {w : World} {h : DataH} {d : DataP} (hd : IsData w h d) : DataIn (fun b => b < w.heap.size) h := ⟨hd.bytes.mem_lt, hd.host.row.mem_lt, hd.mail.row.mem_lt, hd.nums.mem_lt, hd.texts.row.mem_lt⟩
theorem weightsAllF {H : Type} {P : Program} {e : TypeId} {p : Nat → Bool} : ∀ {l : List (DataW H)}, (DataW.weightsAll P e l).all p = true → ∀ d ∈ l, (d.weights P e).all p = true
  | [], _, d, hd => by cases hd
  | a :: l, h, d, hd => by
    simp only [DataW.weightsAll, List.all_append, Bool.and_eq_true] at h
    rcases List.mem_cons.1 hd with rfl | hd
    · exact h.1
    · exact weightsAllF h.2 d hd
/-- a slice of structs that came in -/
theorem open_seq {H α : Type} [Inhabited α] {enc : TypeId × Value → H} {W : World} {fuel : Nat} {c : Value} {d : DataW H × List MemPlace} (K : Kind α) (t e : TypeId) (ht : Tryz.prog.underlying t = some (.slice e)) (hce : Tryz.prog.cellsOf e = K.size) (hbe : 1 ≤ Tryz.prog.bytesOf e)
    (hopen : ∀ {fuel : Nat} {cs : List Value} {x : DataW H × List MemPlace}, DataW.trod enc Tryz.prog W 0 (fun _ => true) true fuel e cs = some x → (x.1.weights Tryz.prog e).all (· ≤ reachBytes) = true → ∃ (a : α) (k : K.H), cs = (K.cells k a).toList ∧ K.is (fun b => b < W.heap.size) W k a)
    (hf : DataW.trod enc Tryz.prog W 0 (fun _ => true) true fuel t [c] = some d)
    (hsz : (d.1.weights Tryz.prog t).all (· ≤ reachBytes) = true) : ∃ ao n k xs, c = .slice ao n k ∧ Seq K (fun b => b < W.heap.size) W ao n k xs := by
  obtain ⟨a0, n0, c0, rfl⟩ := slice_of ht hf
  obtain ⟨d, ps⟩ := d
  rcases Deep.open_slice ht hf with ⟨hcs, _⟩ | ⟨a, len, cap, m, n, D, Pl, hcs, _, hl, hm, hmm, hx, hel⟩
  · simp at hcs
    obtain ⟨rfl, rfl, rfl⟩ := hcs
    exact ⟨_, _, _, [], rfl, Seq.nil _ _ (by omega) (fun _ => rfl)⟩
  · simp at hcs
    obtain ⟨rfl, rfl, rfl⟩ := hcs
    simp only [if_true] at hmm
    subst hmm
    simp only [Prod.mk.injEq] at hx
    rw [hx.1] at hsz
    simp only [DataW.weights, ht, List.all_cons, Bool.and_eq_true, List.all_append] at hsz
    have hr := reach_le
    have hw := of_decide_eq_true hsz.1
    simp only [List.length_map, List.length_range] at hw
    have hw2 : (n0 + (m - n0)) * 1 ≤ (n0 + (m - n0)) * Tryz.prog.bytesOf e := Nat.mul_le_mul (Nat.le_refl _) hbe
    have hsp : 0 < n0 → ∃ b off, a = ⟨b, off, none⟩ := by
      intro h0
      obtain ⟨cs', h1, h2⟩ := hel 0 (by omega)
      rw [hce, Nat.zero_mul] at h1
      obtain ⟨x, k, e', _⟩ := hopen h2 (weightsAllF hsz.2.1 (D 0) (List.mem_map_of_mem (List.mem_range.2 h0)))
      subst e'
      obtain ⟨_, _, hcell⟩ := World.cells?_some h1
      obtain ⟨b, off, spot⟩ := a
      have h3 := hcell 0 K.pos
      have hks := K.hsize k x
      rw [Array.getElem?_toList, Array.getElem?_eq_getElem (by rw [hks]; exact K.pos)] at h3
      have h5 := World.cell?_spot h3
      have : spot = none := by simpa [Addr.add] using h5
      subst this
      exact ⟨b, off, rfl⟩
    have key : ∀ i, i < n0 → ∃ x : α, ∃ b off, a = ⟨b, off, none⟩ ∧ Elem1 K (fun b => b < W.heap.size) W b (off + i * K.size) x := by
      intro i hi
      obtain ⟨b, off, rfl⟩ := hsp (by omega)
      obtain ⟨cs', h1, h2⟩ := hel i (by omega)
      rw [hce] at h1
      obtain ⟨x, k, e', hR⟩ := hopen h2 (weightsAllF hsz.2.1 (D i) (List.mem_map_of_mem (List.mem_range.2 hi)))
      subst e'
      obtain ⟨_, _, hcell⟩ := World.cells?_some h1
      refine ⟨x, b, off, rfl, k, fun j hj => ?_, hR⟩
      have := hcell j hj
      rw [addr_add, addr_add, Array.getElem?_toList] at this
      exact this
    obtain ⟨f, hfn⟩ := Deep.choose_lt key
    refine ⟨_, _, _, (List.range n0).map f, rfl, ⟨by simp, hl, by omega, fun e => (by cases e), fun h0 => ?_⟩⟩
    obtain ⟨b, off, e, he⟩ := hfn 0 h0
    refine ⟨b, off, by rw [e], by simpa using he.lt, fun i hi => ?_⟩
    have hi' : i < n0 := by simpa using hi
    obtain ⟨b2, off2, e2, h2⟩ := hfn i hi'
    rw [e] at e2
    cases e2
    simpa using h2
theorem open_datas_cell {H : Type} {enc : TypeId × Value → H} {W : World} {fuel : Nat} {c : Value} {d : DataW H × List MemPlace} (hf : DataW.trod enc Tryz.prog W 0 (fun _ => true) true fuel 95 [c] = some d)
    (hsz : (d.1.weights Tryz.prog 95).all (· ≤ reachBytes) = true) : ∃ ao n k ds, c = .slice ao n k ∧ Datas (fun b => b < W.heap.size) W ao n k ds :=
  open_seq dataK 95 98 Tryz.underlying95 cellsData (by decide +kernel) (fun h1 h2 => by
    obtain ⟨d, k, e, hD⟩ := open_data h1 h2
    exact ⟨d, k, e, hD, hD.all⟩) hf hsz
set_option maxHeartbeats 2000000 in
set_option maxRecDepth 100000 in
theorem open_fact {H : Type} {enc : TypeId × Value → H} {W : World} {fuel : Nat} {cs : List Value} {x : DataW H × List MemPlace} (h : DataW.trod enc Tryz.prog W 0 (fun _ => true) true fuel 100 cs = some x)
    (hsz : (x.1.weights Tryz.prog 100).all (· ≤ reachBytes) = true) :
    ∃ (f : FactP) (k : FactH), cs = (factC k f).toList ∧ IsFact (fun b => b < W.heap.size) W k f := by
  obtain ⟨xs, n, rfl, rfl, hl, hx, hf⟩ := DataW.trod_struct Tryz.underlying100 h
  rw [cellsFact] at hl
  match cs, hl, xs, hx with
  | [c0, c1, c2, c3, c4, c5, c6, c7, c8, c9, c10, c11, c12], _, [y0, y1, y2, y3, y4, y5, y6, y7, y8], _ =>
    have g0 := hf 0 _ rfl
    have g1 := hf 1 _ rfl
    have g2 := hf 2 _ rfl
    have g3 := hf 3 _ rfl
    have g4 := hf 4 _ rfl
    have g5 := hf 5 _ rfl
    have g6 := hf 6 _ rfl
    have g7 := hf 7 _ rfl
    have g8 := hf 8 _ rfl
    simp [cellsInt, cellsStrs, cellsData, cellsDatas] at g0 g1 g2 g3 g4 g5 g6 g7 g8
    obtain ⟨k1, e1, rfl, w1⟩ := DataW.trod_int Tryz.underlying3 g1
    obtain ⟨k2, e2, rfl, w2⟩ := DataW.trod_int Tryz.underlying3 g2
    obtain ⟨k3, e3, rfl, w3⟩ := DataW.trod_int Tryz.underlying3 g3
    obtain ⟨k4, e4, rfl, w4⟩ := DataW.trod_int Tryz.underlying3 g4
    obtain ⟨k5, e5, rfl, w5⟩ := DataW.trod_int Tryz.underlying3 g5
    cases e1; cases e2; cases e3; cases e4; cases e5
    simp only [DataW.weights, Tryz.underlying100, List.map_cons, List.map_nil, DataW.weightsEach, List.nil_append, List.append_nil, List.all_append, Bool.and_eq_true] at hsz
    obtain ⟨nao, nl, nc, ss, rfl, hS⟩ := open_strs_cell g0 hsz.1
    obtain ⟨sao, sl, sc, ds, rfl, hDs⟩ := open_datas_cell g6 hsz.2.1
    obtain ⟨zao, zl, zc, zs, rfl, hZ⟩ := open_strs_cell g7 hsz.2.2.1
    obtain ⟨d, k, e, hD⟩ := open_data g8 hsz.2.2.2
    exact ⟨⟨ss, k1, k2, k3, k4, k5, ds, zs, d⟩, ⟨nao, nl, nc, sao, sl, sc, zao, zl, zc, k⟩, by simp [dataC] at e; obtain ⟨rfl, rfl, rfl, rfl, rfl⟩ := e; rfl,
      ⟨hS, hS.row.mem_lt, bounds_i64 w1, bounds_i64 w2, bounds_i64 w3, bounds_i64 w4, bounds_i64 w5, hDs, hZ, hZ.row.mem_lt, hD, hD.all⟩⟩
set_option maxRecDepth 100000 in
theorem open_fact_arg {H : Type} {enc : TypeId × Value → H} {W : World} {base : Nat} {v : Value} {d : DataW H} {ps : List MemPlace} (hk : Value.okWide Tryz.prog W .any base 100 v)
    (h : DataW.Trod enc Tryz.prog W 0 (fun _ => true) true 100 v d ps) (hsz : (d.weights Tryz.prog 100).all (· ≤ reachBytes) = true) :
    ∃ (f : FactP) (k : FactH), v = .agg (factC k f) ∧ IsFact (fun b => b < W.heap.size) W k f := by
  obtain ⟨cs, rfl, _⟩ := okWide_struct Tryz.underlying100 hk
  obtain ⟨fuel, hf⟩ := h
  obtain ⟨x, k, e, h1⟩ := open_fact (x := (d, ps)) (cs := cs.toList) (by simpa [Value.cells] using hf) hsz
  exact ⟨x, k, by rw [Array.toList_inj.1 e], h1⟩
end Go.Proofs.YtgfibbjifbghdaaGreat

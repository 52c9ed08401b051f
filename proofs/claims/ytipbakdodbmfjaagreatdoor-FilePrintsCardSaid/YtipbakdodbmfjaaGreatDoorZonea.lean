/- Records and zones: in memory, opened, their checks, and which two may not be in one zone. -/
import Derived.Test.YtipbakdodbmfjaaGreatDoorDatas
import Derived.Test.YtipbakdodbmfjaaGreatDoorEqual
import Derived.Test.YtipbakdodbmfjaaGreatDoorLists
import Derived.BigQuiet
namespace Go.Proofs.YtipbakdodbmfjaaGreatDoor
section
open Go.ChangeShapes Go.WideShapes Go.ChangeAt Go.RowKit

structure RRP where
  name : List ByteArray
  kind : Int
  cls : Int
  ttl : Int
  data : DataP
structure RRH where
  na : Option Addr
  nl : Nat
  nc : Nat
  d : DataH
def rrC (h : RRH) (r : RRP) : Array Value := #[.slice h.na h.nl h.nc, .int .i64 r.kind, .int .i64 r.cls, .int .i64 r.ttl, .slice h.d.ba h.d.bl h.d.bc, .slice h.d.ha h.d.hl h.d.hc, .slice h.d.ma h.d.ml h.d.mc, .slice h.d.na h.d.nl h.d.nc, .slice h.d.ta h.d.tl h.d.tc]
structure IsRR (w : World) (h : RRH) (r : RRP) : Prop where
  name : Strs w h.na h.nl h.nc r.name
  data : IsData w h.d r.data
  kind : wfi r.kind
  cls : wfi r.cls
  ttl : wfi r.ttl
theorem IsRR.on {w w' : World} {h : RRH} {r : RRP} (hr : IsRR w h r) (hb : Below w.heap.size w w') : IsRR w' h r := ⟨hr.name.below hb (Nat.le_refl _), hr.data.on hb, hr.kind, hr.cls, hr.ttl⟩
def rrB (r : RRP) : Bool := soundB r.name && (dataB r.kind r.data && (fitsB r.cls 2 && (decide (0 ≤ r.ttl) && decide (r.ttl < 2147483648))))
set_option maxHeartbeats 4000000 in
set_option maxRecDepth 100000 in
theorem rrsound_any (w : World) (h : RRH) (r : RRP) (hr : IsRR w h r) :
    Calls Tryz.prog 62 #[.agg (rrC h r)] w fun e w' => e = .returned (.bool (rrB r)) ∧ Below w.heap.size w w' := by
  have hwa : Below w.heap.size w (w.alloc (.cells (rrC h r) 48)) := (Below.refl _ _).alloc (Nat.le_refl _) _
  have hA : Blk (w.alloc (.cells (rrC h r) 48)) w.heap.size (rrC h r) 48 := heap_alloc_new w _
  have HWA := Lib.hid hwa
  have HR := Lib.hid (hr.on hwa)
  have HA := Lib.hid hA
  obtain ⟨S, hS⟩ : ∃ S, S = soundB r.name := ⟨_, rfl⟩
  obtain ⟨D, hD⟩ : ∃ S, S = dataB r.kind r.data := ⟨_, rfl⟩
  obtain ⟨F, hF⟩ : ∃ S, S = fitsB r.cls 2 := ⟨_, rfl⟩
  have HE := Lib.hid (show rrB r = (S && (D && (F && (decide (0 ≤ r.ttl) && decide (r.ttl < 2147483648))))) by rw [hS, hD, hF]; rfl)
  rw [HE.out]
  have HS := Lib.hid (sound_any _ _ _ _ _ (hr.on hwa).name)
  have HD := Lib.hid (fun w' (h' : IsData w' h.d r.data) => dsound_any w' r.kind h.d r.data h')
  have HF := Lib.hid (fun w' => nfits2 w' r.cls hr.cls)
  rw [← hS] at HS
  rw [← hD] at HD
  rw [← hF] at HF
  clear hwa hA hr hS hD hF HE
  obtain ⟨na, nl, nc, ⟨ba, bl, bc, ha, hl, hc, ma, ml, mc, xa, xl, xc, ta, tl, tc⟩⟩ := h
  simp only [rrC, dataC] at HWA HA HD HS HR
  have c0 := HA.out.cell 0
  have c1 := HA.out.cell 1
  have c2 := HA.out.cell 2
  have c3 := HA.out.cell 3
  have c4 := HA.out.cell 4
  have c5 := HA.out.cell 5
  have c6 := HA.out.cell 6
  have c7 := HA.out.cell 7
  have c8 := HA.out.cell 8
  simp at c0 c1 c2 c3 c4 c5 c6 c7 c8
  go_enter Tryz.func62, Tryz.ntmps62
  simp only [rrC]
  go_wp2_with fail
  refine HS.out.mono ?_
  rintro e w1 ⟨rfl, rfl⟩
  cases S
  · go_wp2_with fail
    go_ret
    exact ⟨rfl, HWA.out⟩
  go_wp2_with fail
  clear c0 c1 c2 c3 c4 c5 c6 c7 c8
  refine (HD.out _ HR.out.data).mono ?_
  rintro e w2 ⟨rfl, hb2⟩
  have HB2 := Lib.hid (below_on HWA.out hb2 (Nat.le_refl _))
  have c2 := (HA.out.on hb2).cell 2
  have c3 := (HA.out.on hb2).cell 3
  simp at c2 c3
  clear hb2
  cases D
  · go_wp2_with fail
    go_ret
    exact ⟨rfl, HB2.out⟩
  go_wp2_with fail
  refine (HF.out _).mono ?_
  rintro e w3 ⟨rfl, rfl⟩
  cases F
  · go_wp2_with fail
    go_ret
    exact ⟨rfl, HB2.out⟩
  by_cases h0 : 0 ≤ r.ttl
  · have d0 : decide (0 ≤ r.ttl) = true := decide_eq_true h0
    by_cases h1 : r.ttl < 2147483648
    · have d1 : decide (r.ttl < 2147483648) = true := decide_eq_true h1
      go_wp2_with fail
      go_ret
      exact ⟨ret_bool (by simp [h0, h1]), HB2.out⟩
    · have d1 : decide (r.ttl < 2147483648) = false := decide_eq_false h1
      go_wp2_with fail
      go_ret
      exact ⟨ret_bool (by simp [h0, h1]), HB2.out⟩
  · have d0 : decide (0 ≤ r.ttl) = false := decide_eq_false h0
    go_wp2_with fail
    go_ret
    exact ⟨ret_bool (by simp; omega), HB2.out⟩
set_option maxHeartbeats 4000000 in
set_option maxRecDepth 100000 in
theorem r3sound_any (w : World) (h : RRH) (r : RRP) (hr : IsRR w h r) :
    Calls Tryz.prog 64 #[.agg (rrC h r)] w fun e w' => e = .returned (.bool (rrB r)) ∧ Below w.heap.size w w' := by
  have hwa : Below w.heap.size w (w.alloc (.cells (rrC h r) 48)) := (Below.refl _ _).alloc (Nat.le_refl _) _
  have hA : Blk (w.alloc (.cells (rrC h r) 48)) w.heap.size (rrC h r) 48 := heap_alloc_new w _
  have HWA := Lib.hid hwa
  have HR := Lib.hid (hr.on hwa)
  have HA := Lib.hid hA
  obtain ⟨S, hS⟩ : ∃ S, S = soundB r.name := ⟨_, rfl⟩
  obtain ⟨D, hD⟩ : ∃ S, S = dataB r.kind r.data := ⟨_, rfl⟩
  obtain ⟨F, hF⟩ : ∃ S, S = fitsB r.cls 2 := ⟨_, rfl⟩
  have HE := Lib.hid (show rrB r = (S && (D && (F && (decide (0 ≤ r.ttl) && decide (r.ttl < 2147483648))))) by rw [hS, hD, hF]; rfl)
  rw [HE.out]
  have HS := Lib.hid (rsound_any _ _ _ _ _ (hr.on hwa).name)
  have HD := Lib.hid (fun w' (h' : IsData w' h.d r.data) => rdata_any w' r.kind h.d r.data h')
  have HF := Lib.hid (fun w' => rfits_any w' r.cls 2 (by omega) (by omega) hr.cls)
  rw [← hS] at HS
  rw [← hD] at HD
  rw [← hF] at HF
  simp only [show ((2 : Nat) : Int) = 2 from rfl] at HF
  clear hwa hA hr hS hD hF HE
  obtain ⟨na, nl, nc, ⟨ba, bl, bc, ha, hl, hc, ma, ml, mc, xa, xl, xc, ta, tl, tc⟩⟩ := h
  simp only [rrC, dataC] at HWA HA HD HS HR
  have c0 := HA.out.cell 0
  have c1 := HA.out.cell 1
  have c2 := HA.out.cell 2
  have c3 := HA.out.cell 3
  have c4 := HA.out.cell 4
  have c5 := HA.out.cell 5
  have c6 := HA.out.cell 6
  have c7 := HA.out.cell 7
  have c8 := HA.out.cell 8
  simp at c0 c1 c2 c3 c4 c5 c6 c7 c8
  go_enter Tryz.func64, Tryz.ntmps64
  simp only [rrC]
  go_wp2_with fail
  refine HS.out.mono ?_
  rintro e w1 ⟨rfl, rfl⟩
  cases S
  · go_wp2_with fail
    go_ret
    exact ⟨rfl, HWA.out⟩
  go_wp2_with fail
  clear c0 c1 c2 c3 c4 c5 c6 c7 c8
  refine (HD.out _ HR.out.data).mono ?_
  rintro e w2 ⟨rfl, hb2⟩
  have HB2 := Lib.hid (below_on HWA.out hb2 (Nat.le_refl _))
  have c2 := (HA.out.on hb2).cell 2
  have c3 := (HA.out.on hb2).cell 3
  simp at c2 c3
  clear hb2
  cases D
  · go_wp2_with fail
    go_ret
    exact ⟨rfl, HB2.out⟩
  go_wp2_with fail
  refine (HF.out _).mono ?_
  rintro e w3 ⟨rfl, rfl⟩
  cases F
  · go_wp2_with fail
    go_ret
    exact ⟨rfl, HB2.out⟩
  by_cases h0 : 0 ≤ r.ttl
  · have d0 : decide (0 ≤ r.ttl) = true := decide_eq_true h0
    by_cases h1 : r.ttl < 2147483648
    · have d1 : decide (r.ttl < 2147483648) = true := decide_eq_true h1
      go_wp2_with fail
      go_ret
      exact ⟨ret_bool (by simp [h0, h1]), HB2.out⟩
    · have d1 : decide (r.ttl < 2147483648) = false := decide_eq_false h1
      go_wp2_with fail
      go_ret
      exact ⟨ret_bool (by simp [h0, h1]), HB2.out⟩
  · have d0 : decide (0 ≤ r.ttl) = false := decide_eq_false h0
    go_wp2_with fail
    go_ret
    exact ⟨ret_bool (by simp; omega), HB2.out⟩
end
section
open Go.ChangeShapes Go.WideShapes Go.ChangeAt Go.RowKit

instance : Inhabited DataP := ⟨⟨[], [], [], [], []⟩⟩
instance : Inhabited RRP := ⟨⟨[], 0, 0, 0, default⟩⟩
theorem rrC_size (h : RRH) (r : RRP) : (rrC h r).size = 9 := rfl
/-- at place off of block b: a record's nine cells -/
def RRIn (w : World) (b off : Nat) (r : RRP) : Prop :=
  ∃ h, (∀ j, j < 9 → w.cell? ⟨b, off + j, none⟩ = (rrC h r)[j]?) ∧ IsRR w h r
theorem RRIn.on {w w' : World} {b off : Nat} {r : RRP} (h : RRIn w b off r) (hb : Below w.heap.size w w') : RRIn w' b off r := by
  obtain ⟨k, h1, h2⟩ := h
  refine ⟨k, fun j hj => ?_, h2.on hb⟩
  have h4 := h1 j hj
  have hj' : j < (rrC k r).size := by simpa [rrC] using hj
  rw [Array.getElem?_eq_getElem hj'] at h4 ⊢
  exact cell_keep hb h4
structure RRs (w : World) (ao : Option Addr) (n c : Nat) (rs : List RRP) : Prop where
  hlen : rs.length = n
  hle : n ≤ c
  hmax : c ≤ 9223372036854775807
  hnil : ao = none → c = 0
  hcells : 0 < n → ∃ b off, ao = some ⟨b, off, none⟩ ∧ ∀ i (h : i < rs.length), RRIn w b (off + i * 9) rs[i]
theorem RRs.on {w w' : World} {ao : Option Addr} {n c : Nat} {rs : List RRP} (h : RRs w ao n c rs) (hb : Below w.heap.size w w') : RRs w' ao n c rs :=
  ⟨h.hlen, h.hle, h.hmax, h.hnil, fun h0 => by
    obtain ⟨b, off, e, hc⟩ := h.hcells h0
    exact ⟨b, off, e, fun i hi => (hc i hi).on hb⟩⟩
theorem RRs.nil {w : World} {ao : Option Addr} {c : Nat} (h : c ≤ 9223372036854775807) (hn : ao = none → c = 0) : RRs w ao 0 c [] := ⟨rfl, Nat.zero_le _, h, hn, fun h => absurd h (Nat.lt_irrefl 0)⟩
theorem RRs.addr {w : World} {ao : Option Addr} {n c : Nat} {rs : List RRP} (h : RRs w ao n c rs) {k : Nat} (hk : k < n) : ∃ b off, ao = some ⟨b, off, none⟩ := by
  obtain ⟨b, off, e, _⟩ := h.hcells (by omega)
  exact ⟨b, off, e⟩
theorem RRs.at {w : World} {b off : Nat} {n c : Nat} {rs : List RRP} (h : RRs w (some ⟨b, off, none⟩) n c rs) {k : Nat} (hk : k < n) : RRIn w b (off + k * 9) (rs[k]'(by have := h.hlen; omega)) := by
  obtain ⟨b', off', e, hc⟩ := h.hcells (by omega)
  cases e
  exact hc k (by have := h.hlen; omega)
/-- the first k of them -/
theorem RRs.take {w : World} {ao : Option Addr} {n c : Nat} {rs : List RRP} (h : RRs w ao n c rs) {k : Nat} (hk : k ≤ n) : RRs w ao k c (rs.take k) := by
  have hl := h.hlen
  refine ⟨by simp; omega, by have := h.hle; omega, h.hmax, h.hnil, fun h0 => ?_⟩
  obtain ⟨b, off, e, hc⟩ := h.hcells (by omega)
  refine ⟨b, off, e, fun i hi => ?_⟩
  rw [List.getElem_take]
  exact hc i (by simp at hi; omega)

structure ZP where
  name : List ByteArray
  recs : List RRP
structure ZH where
  na : Option Addr
  nl : Nat
  nc : Nat
  ra : Option Addr
  rl : Nat
  rc : Nat
def zoneC (h : ZH) : Array Value := #[.slice h.na h.nl h.nc, .slice h.ra h.rl h.rc]
structure IsZone (w : World) (h : ZH) (z : ZP) : Prop where
  name : Strs w h.na h.nl h.nc z.name
  recs : RRs w h.ra h.rl h.rc z.recs
theorem IsZone.on {w w' : World} {h : ZH} {z : ZP} (hz : IsZone w h z) (hb : Below w.heap.size w w') : IsZone w' h z := ⟨hz.name.below hb (Nat.le_refl _), hz.recs.on hb⟩

theorem cellsRR : Tryz.prog.cellsOf 48 = 9 := by kernel_rfl
theorem cellsZone : Tryz.prog.cellsOf 46 = 2 := by kernel_rfl
theorem cellsRRs : Tryz.prog.cellsOf 44 = 1 := by kernel_rfl
theorem weightsAllR {H : Type} {P : Program} {e : TypeId} {p : Nat → Bool} : ∀ {l : List (DataW H)}, (DataW.weightsAll P e l).all p = true → ∀ d ∈ l, (d.weights P e).all p = true
  | [], _, d, hd => by cases hd
  | a :: l, h, d, hd => by
    simp only [DataW.weightsAll, List.all_append, Bool.and_eq_true] at h
    rcases List.mem_cons.1 hd with rfl | hd
    · exact h.1
    · exact weightsAllR h.2 d hd
set_option maxRecDepth 100000 in
theorem open_rr {H : Type} {enc : TypeId × Value → H} {W : World} {fuel : Nat} {cs : List Value} {x : DataW H × List MemPlace} (h : DataW.trod enc Tryz.prog W 0 (fun _ => true) true fuel 48 cs = some x)
    (hsz : (x.1.weights Tryz.prog 48).all (· ≤ reachBytes) = true) :
    ∃ (r : RRP) (k : RRH), cs = (rrC k r).toList ∧ IsRR W k r := by
  obtain ⟨xs, n, rfl, rfl, hl, hx, hf⟩ := DataW.trod_struct Tryz.underlying48 h
  rw [cellsRR] at hl
  match cs, hl, xs, hx with
  | [c0, c1, c2, c3, c4, c5, c6, c7, c8], _, [y0, y1, y2, y3, y4], _ =>
    have g0 := hf 0 _ rfl
    have g1 := hf 1 _ rfl
    have g2 := hf 2 _ rfl
    have g3 := hf 3 _ rfl
    have g4 := hf 4 _ rfl
    simp [cellsInt, cellsStrs, cellsData] at g0 g1 g2 g3 g4
    obtain ⟨k1, e1, rfl, w1⟩ := DataW.trod_int Tryz.underlying3 g1
    obtain ⟨k2, e2, rfl, w2⟩ := DataW.trod_int Tryz.underlying3 g2
    obtain ⟨k3, e3, rfl, w3⟩ := DataW.trod_int Tryz.underlying3 g3
    cases e1; cases e2; cases e3
    simp only [DataW.weights, Tryz.underlying48, List.map_cons, List.map_nil, DataW.weightsEach, List.nil_append, List.append_nil, List.all_append, Bool.and_eq_true] at hsz
    obtain ⟨nao, nl, nc, ss, rfl, hS⟩ := open_strs_cell g0 hsz.1
    obtain ⟨d, k, e, hD⟩ := open_data g4 hsz.2
    exact ⟨⟨ss, k1, k2, k3, d⟩, ⟨nao, nl, nc, k⟩, by simp [dataC] at e; obtain ⟨rfl, rfl, rfl, rfl, rfl⟩ := e; rfl, ⟨hS, hD, bounds_i64 w1, bounds_i64 w2, bounds_i64 w3⟩⟩
theorem open_rrs_cell {H : Type} {enc : TypeId × Value → H} {W : World} {fuel : Nat} {c : Value} {d : DataW H × List MemPlace} (hf : DataW.trod enc Tryz.prog W 0 (fun _ => true) true fuel 44 [c] = some d)
    (hsz : (d.1.weights Tryz.prog 44).all (· ≤ reachBytes) = true) : ∃ ao n k rs, c = .slice ao n k ∧ RRs W ao n k rs := by
  have ht : Tryz.prog.underlying 44 = some (.slice 48) := Tryz.underlying44
  obtain ⟨a0, n0, c0, rfl⟩ := slice_of ht hf
  obtain ⟨d, ps⟩ := d
  rcases Deep.open_slice ht hf with ⟨hcs, _⟩ | ⟨a, len, cap, m, n, D, Pl, hcs, _, hl, hm, hmm, hx, hel⟩
  · simp at hcs
    obtain ⟨rfl, rfl, rfl⟩ := hcs
    exact ⟨_, _, _, [], rfl, RRs.nil (by omega) (fun _ => rfl)⟩
  · simp at hcs
    obtain ⟨rfl, rfl, rfl⟩ := hcs
    simp only [if_true] at hmm
    subst hmm
    simp only [Prod.mk.injEq] at hx
    rw [hx.1] at hsz
    simp only [DataW.weights, ht, List.all_cons, Bool.and_eq_true, List.all_append] at hsz
    have hb : 1 ≤ Tryz.prog.bytesOf 48 := by decide +kernel
    have hr := reach_le
    have hw := of_decide_eq_true hsz.1
    simp only [List.length_map, List.length_range] at hw
    have hw2 : (n0 + (m - n0)) * 1 ≤ (n0 + (m - n0)) * Tryz.prog.bytesOf 48 := Nat.mul_le_mul (Nat.le_refl _) hb
    have hsp : 0 < n0 → ∃ b off, a = ⟨b, off, none⟩ := by
      intro h0
      obtain ⟨cs', h1, h2⟩ := hel 0 (by omega)
      rw [cellsRR] at h1
      obtain ⟨x, k, rfl, _⟩ := open_rr h2 (weightsAllR hsz.2.1 (D 0) (List.mem_map_of_mem (List.mem_range.2 h0)))
      obtain ⟨_, _, hcell⟩ := World.cells?_some h1
      obtain ⟨b, off, spot⟩ := a
      have h3 := hcell 0 (by omega)
      have h4 : W.cell? ((Addr.add ⟨b, off, spot⟩ (0 * 9)).add 0) = some (.slice k.na k.nl k.nc) := by rw [h3]; rfl
      have h5 := World.cell?_spot h4
      have : spot = none := by simpa [Addr.add] using h5
      subst this
      exact ⟨b, off, rfl⟩
    have key : ∀ i, i < n0 → ∃ x : RRP, ∃ b off, a = ⟨b, off, none⟩ ∧ RRIn W b (off + i * 9) x := by
      intro i hi
      obtain ⟨b, off, rfl⟩ := hsp (by omega)
      obtain ⟨cs', h1, h2⟩ := hel i (by omega)
      rw [cellsRR] at h1
      obtain ⟨x, k, rfl, hR⟩ := open_rr h2 (weightsAllR hsz.2.1 (D i) (List.mem_map_of_mem (List.mem_range.2 hi)))
      refine ⟨x, ?_⟩
      obtain ⟨_, _, hcell⟩ := World.cells?_some h1
      refine ⟨b, off, rfl, k, fun j hj => ?_, hR⟩
      have := hcell j hj
      rw [addr_add, addr_add] at this
      rw [this]
      simp
    obtain ⟨f, hfn⟩ := Deep.choose_lt key
    refine ⟨_, _, _, (List.range n0).map f, rfl, ⟨by simp, hl, by omega, fun e => (by cases e), fun h0 => ?_⟩⟩
    obtain ⟨b, off, e, _⟩ := hfn 0 h0
    refine ⟨b, off, by rw [e], fun i hi => ?_⟩
    have hi' : i < n0 := by simpa using hi
    obtain ⟨b2, off2, e2, h2⟩ := hfn i hi'
    rw [e] at e2
    cases e2
    simpa using h2
set_option maxRecDepth 100000 in
theorem open_zone_arg {H : Type} {enc : TypeId × Value → H} {W : World} {base : Nat} {v : Value} {d : DataW H} {ps : List MemPlace} (hk : Value.okWide Tryz.prog W .any base 46 v)
    (h : DataW.Trod enc Tryz.prog W 0 (fun _ => true) true 46 v d ps) (hsz : (d.weights Tryz.prog 46).all (· ≤ reachBytes) = true) :
    ∃ (z : ZP) (k : ZH), v = .agg (zoneC k) ∧ IsZone W k z := by
  obtain ⟨cs, rfl, _⟩ := okWide_struct Tryz.underlying46 hk
  obtain ⟨fuel, hf⟩ := h
  have hf' : DataW.trod enc Tryz.prog W 0 (fun _ => true) true fuel 46 cs.toList = some (d, ps) := by simpa [Value.cells] using hf
  obtain ⟨xs, n, e1, e2, hl, hx, hff⟩ := DataW.trod_struct Tryz.underlying46 hf'
  rw [cellsZone] at hl
  obtain ⟨cl⟩ := cs
  simp only at hl hff
  match cl, hl, xs, hx with
  | [c0, c1], _, [y0, y1], _ =>
    have g0 := hff 0 _ rfl
    have g1 := hff 1 _ rfl
    simp [cellsStrs, cellsRRs] at g0 g1
    simp only [Prod.mk.injEq] at e2
    rw [e2.1] at hsz
    simp only [DataW.weights, Tryz.underlying46, List.map_cons, List.map_nil, DataW.weightsEach, List.append_nil, List.all_append, Bool.and_eq_true] at hsz
    obtain ⟨nao, nl, nc, ss, rfl, hS⟩ := open_strs_cell g0 hsz.1
    obtain ⟨rao, rl, rc, rs, rfl, hR⟩ := open_rrs_cell g1 hsz.2
    exact ⟨⟨ss, rs⟩, ⟨nao, nl, nc, rao, rl, rc⟩, rfl, ⟨hS, hR⟩⟩

/- which zones may be -/
def sameD (x y : DataP) : Bool := decide (x.bytes = y.bytes) && (decide (x.nums = y.nums) && (decide (x.texts = y.texts) && (eqB x.host y.host && eqB x.mail y.mail)))
def clashP (a b : RRP) : Bool := eqB a.name b.name && (if a.kind = b.kind then (decide (a.kind = 5) || (decide (a.ttl ≠ b.ttl) || sameD a.data b.data)) else (decide (a.kind = 5) || decide (b.kind = 5)))
def oneP (zn : List ByteArray) (r : RRP) : Bool := rrB r && (decide (r.cls = 1) && (underB r.name zn && (decide (r.kind ≠ 41) && decide (r.kind ≠ 255))))
def soaP (zn : List ByteArray) (r : RRP) : Bool := decide (r.kind ≠ 6) || decide (r.name.length = zn.length)
def goZ (zn : List ByteArray) : List RRP → List RRP → Nat → Bool
  | _, [], n => decide (n = 1)
  | seen, r :: rest, n => oneP zn r && (!(seen.any fun o => clashP o r) && (soaP zn r && goZ zn (seen ++ [r]) rest (if r.kind = 6 then n + 1 else n)))
def zoneB (z : ZP) : Bool := soundB z.name && (decide (1 ≤ z.recs.length ∧ z.recs.length ≤ 256) && goZ z.name [] z.recs 0)
theorem goZ_at {zn : List ByteArray} {rs : List RRP} {k : Nat} (h : k < rs.length) (n : Nat) :
    goZ zn (rs.take k) (rs.drop k) n = (oneP zn rs[k] && (!((rs.take k).any fun o => clashP o rs[k]) && (soaP zn rs[k] && goZ zn (rs.take (k + 1)) (rs.drop (k + 1)) (if rs[k].kind = 6 then n + 1 else n)))) := by
  rw [List.drop_eq_getElem_cons h, goZ, List.take_succ_eq_append_getElem h]
theorem goZ_end {zn : List ByteArray} {rs : List RRP} (n : Nat) : goZ zn (rs.take rs.length) (rs.drop rs.length) n = decide (n = 1) := by
  rw [List.drop_length]; rfl
theorem under_eq {a b : List ByteArray} (h : underB a b = true) : eqB a b = decide (a.length = b.length) := by
  by_cases hl : a.length = b.length
  · have hd : a.length - b.length = 0 := by omega
    simp only [underB, Bool.and_eq_true, hd, List.drop_zero] at h
    rw [decide_eq_true hl]
    exact h.2
  · rw [decide_eq_false hl]
    exact eqB_len hl
end
section
open Go.ChangeShapes Go.WideShapes Go.ChangeAt Go.RowKit
set_option maxHeartbeats 2000000 in
set_option maxRecDepth 100000 in
theorem sleq_byts (w : World) (ao bo : Option Addr) (la ca lb cb : Nat) (sa sb : List UInt8) (ha : Byts w ao la ca sa) (hb : Byts w bo lb cb sb) :
    Calls Tryz.prog 174 #[.slice ao la ca, .slice bo lb cb] w fun e w' => e = .returned (.bool (decide (sa = sb))) ∧ Below w.heap.size w w' := by
  have hla : sa.length = la := by simpa using ha.hlen
  have hlb : sb.length = lb := by simpa using hb.hlen
  have hmx := ha.hmax
  have hca := ha.hcap
  have hle := ha.hle
  have hcb := hb.hcap
  have hleb := hb.hle
  by_cases hll : la = lb
  · subst hll
    go_enter Tryz.func174, Tryz.ntmps174
    go_wp2
    go_loopw [13, 5] (fun i _ wr => ∃ k : Nat, k ≤ la ∧ i = .int .i64 k ∧ Below w.heap.size w wr ∧ Hid (∀ j (hj : j < sa.length) (hj' : j < sb.length), j < k → sa[j] = sb[j])) (fun i _ _ => la - (intOf i).toNat)
    case atStart => exact ⟨0, Nat.zero_le _, rfl, Below.refl _ _, fun j hj _ h => absurd h (by omega)⟩
    case round =>
      obtain ⟨k, hk, rfl, hbr, hno⟩ := hrel
      by_cases hlt : k < la
      · obtain ⟨b1, off1, rfl⟩ := ha.addr hlt
        obtain ⟨b2, off2, rfl⟩ := hb.addr hlt
        have hc1 := (ha.below hbr (Nat.le_refl _)).at hlt
        have hc2 := (hb.below hbr (Nat.le_refl _)).at hlt
        rw [List.getElem_map] at hc1 hc2
        obtain ⟨x, hxk⟩ : ∃ x, x = (sa[k]'(by omega)).toNat := ⟨_, rfl⟩
        obtain ⟨y, hyk⟩ : ∃ y, y = (sb[k]'(by omega)).toNat := ⟨_, rfl⟩
        rw [← hxk] at hc1
        rw [← hyk] at hc2
        have HX := Lib.hid hxk; clear hxk
        have HY := Lib.hid hyk; clear hyk
        have hkp : (0 : Int) ≤ (k : Int) := Int.natCast_nonneg _
        have hkl : (k : Int) < (la : Int) := by omega
        by_cases hs : x = y
        · have HS := Lib.hid hs
          have hT : ((x : Int) != (y : Int)) = false := by rw [hs]; simp
          have hT2 : ((x : Int) == (y : Int)) = true := by rw [hs]; simp
          clear hs
          go_wp2_with fail
          go_quiet (fail)
          go_wp2
          go_roundw
          case rel =>
            refine ⟨k + 1, by omega, by go_num, below_drewN hbr _, fun j hj hj' h => ?_⟩
            rcases Nat.lt_succ_iff_lt_or_eq.1 h with h | rfl
            · exact hno.out j hj hj' h
            · have hz := HX.out.symm.trans (HS.out.trans HY.out)
              exact UInt8.toNat.inj hz
          case measure => simp [intOf]; omega
        · have HS := Lib.hid hs
          have hT : ((x : Int) != (y : Int)) = true := by rw [bne_iff_ne]; omega
          have hT2 : ((x : Int) == (y : Int)) = false := by rw [beq_eq_false_iff_ne]; omega
          clear hs
          go_wp2_with fail
          go_quiet (fail)
          go_wp2
          go_ret
          refine ⟨ret_bool ?_, below_drewN hbr _⟩
          have : ¬ sa = sb := by
            intro e; subst e
            exact HS.out (HX.out.trans HY.out.symm)
          simp [this]
      · go_wp2
        go_ret
        refine ⟨ret_bool ?_, hbr⟩
        have : sa = sb := List.ext_getElem (by omega) (fun j h1 h2 => hno.out j h1 h2 (by omega))
        simp [this]
  · have hne : ((la : Int) != (lb : Int)) = true := by rw [bne_iff_ne]; omega
    go_enter Tryz.func174, Tryz.ntmps174
    go_wp2
    go_ret
    refine ⟨ret_bool ?_, Below.refl _ _⟩
    have : ¬ sa = sb := fun e => by subst e; omega
    simp [this]
set_option maxHeartbeats 2000000 in
set_option maxRecDepth 100000 in
theorem sleq_ints (w : World) (ao bo : Option Addr) (la ca lb cb : Nat) (sa sb : List Int) (ha : Nums w ao la ca sa) (hb : Nums w bo lb cb sb) :
    Calls Tryz.prog 175 #[.slice ao la ca, .slice bo lb cb] w fun e w' => e = .returned (.bool (decide (sa = sb))) ∧ Below w.heap.size w w' := by
  have hla : sa.length = la := by simpa using ha.hlen
  have hlb : sb.length = lb := by simpa using hb.hlen
  have hmx := ha.hmax
  have hca := ha.hcap
  have hle := ha.hle
  have hcb := hb.hcap
  have hleb := hb.hle
  by_cases hll : la = lb
  · subst hll
    go_enter Tryz.func175, Tryz.ntmps175
    go_wp2
    go_loopw [13, 5] (fun i _ wr => ∃ k : Nat, k ≤ la ∧ i = .int .i64 k ∧ Below w.heap.size w wr ∧ Hid (∀ j (hj : j < sa.length) (hj' : j < sb.length), j < k → sa[j] = sb[j])) (fun i _ _ => la - (intOf i).toNat)
    case atStart => exact ⟨0, Nat.zero_le _, rfl, Below.refl _ _, fun j hj _ h => absurd h (by omega)⟩
    case round =>
      obtain ⟨k, hk, rfl, hbr, hno⟩ := hrel
      by_cases hlt : k < la
      · obtain ⟨b1, off1, rfl⟩ := ha.addr hlt
        obtain ⟨b2, off2, rfl⟩ := hb.addr hlt
        have hc1 := (ha.below hbr (Nat.le_refl _)).at hlt
        have hc2 := (hb.below hbr (Nat.le_refl _)).at hlt
        rw [List.getElem_map] at hc1 hc2
        obtain ⟨x, hxk⟩ : ∃ x, x = sa[k]'(by omega) := ⟨_, rfl⟩
        obtain ⟨y, hyk⟩ : ∃ y, y = sb[k]'(by omega) := ⟨_, rfl⟩
        rw [← hxk] at hc1
        rw [← hyk] at hc2
        have HX := Lib.hid hxk; clear hxk
        have HY := Lib.hid hyk; clear hyk
        have hkp : (0 : Int) ≤ (k : Int) := Int.natCast_nonneg _
        have hkl : (k : Int) < (la : Int) := by omega
        by_cases hs : x = y
        · have HS := Lib.hid hs
          have hT : ((x : Int) != (y : Int)) = false := by rw [hs]; simp
          have hT2 : ((x : Int) == (y : Int)) = true := by rw [hs]; simp
          clear hs
          go_wp2_with fail
          go_quiet (fail)
          go_wp2
          go_roundw
          case rel =>
            refine ⟨k + 1, by omega, by go_num, below_drewN hbr _, fun j hj hj' h => ?_⟩
            rcases Nat.lt_succ_iff_lt_or_eq.1 h with h | rfl
            · exact hno.out j hj hj' h
            · have hz := HX.out.symm.trans (HS.out.trans HY.out)
              exact hz
          case measure => simp [intOf]; omega
        · have HS := Lib.hid hs
          have hT : ((x : Int) != (y : Int)) = true := by rw [bne_iff_ne]; omega
          have hT2 : ((x : Int) == (y : Int)) = false := by rw [beq_eq_false_iff_ne]; omega
          clear hs
          go_wp2_with fail
          go_quiet (fail)
          go_wp2
          go_ret
          refine ⟨ret_bool ?_, below_drewN hbr _⟩
          have : ¬ sa = sb := by
            intro e; subst e
            exact HS.out (HX.out.trans HY.out.symm)
          simp [this]
      · go_wp2
        go_ret
        refine ⟨ret_bool ?_, hbr⟩
        have : sa = sb := List.ext_getElem (by omega) (fun j h1 h2 => hno.out j h1 h2 (by omega))
        simp [this]
  · have hne : ((la : Int) != (lb : Int)) = true := by rw [bne_iff_ne]; omega
    go_enter Tryz.func175, Tryz.ntmps175
    go_wp2
    go_ret
    refine ⟨ret_bool ?_, Below.refl _ _⟩
    have : ¬ sa = sb := fun e => by subst e; omega
    simp [this]
set_option maxHeartbeats 2000000 in
set_option maxRecDepth 100000 in
theorem sleq_strs (w : World) (ao bo : Option Addr) (la ca lb cb : Nat) (sa sb : List ByteArray) (ha : Strs w ao la ca sa) (hb : Strs w bo lb cb sb) :
    Calls Tryz.prog 176 #[.slice ao la ca, .slice bo lb cb] w fun e w' => e = .returned (.bool (decide (sa = sb))) ∧ Below w.heap.size w w' := by
  have hla : sa.length = la := by simpa using ha.row.hlen
  have hlb : sb.length = lb := by simpa using hb.row.hlen
  have hmx := ha.row.hmax
  have hca := ha.row.hcap
  have hle := ha.row.hle
  have hcb := hb.row.hcap
  have hleb := hb.row.hle
  by_cases hll : la = lb
  · subst hll
    go_enter Tryz.func176, Tryz.ntmps176
    go_wp2
    go_loopw [13, 5] (fun i _ wr => ∃ k : Nat, k ≤ la ∧ i = .int .i64 k ∧ Below w.heap.size w wr ∧ Hid (∀ j (hj : j < sa.length) (hj' : j < sb.length), j < k → sa[j] = sb[j])) (fun i _ _ => la - (intOf i).toNat)
    case atStart => exact ⟨0, Nat.zero_le _, rfl, Below.refl _ _, fun j hj _ h => absurd h (by omega)⟩
    case round =>
      obtain ⟨k, hk, rfl, hbr, hno⟩ := hrel
      by_cases hlt : k < la
      · obtain ⟨b1, off1, rfl⟩ := ha.row.addr hlt
        obtain ⟨b2, off2, rfl⟩ := hb.row.addr hlt
        have hc1 := (ha.below hbr (Nat.le_refl _)).at hlt
        have hc2 := (hb.below hbr (Nat.le_refl _)).at hlt
        obtain ⟨x, hxk⟩ : ∃ x, x = sa[k]'(by omega) := ⟨_, rfl⟩
        obtain ⟨y, hyk⟩ : ∃ y, y = sb[k]'(by omega) := ⟨_, rfl⟩
        rw [← hxk] at hc1
        rw [← hyk] at hc2
        have HX := Lib.hid hxk; clear hxk
        have HY := Lib.hid hyk; clear hyk
        have hkp : (0 : Int) ≤ (k : Int) := Int.natCast_nonneg _
        have hkl : (k : Int) < (la : Int) := by omega
        by_cases hs : x = y
        · have HS := Lib.hid hs
          have hT : (x.toList == y.toList) = decide (x = y) := toList_beq _ _
          rw [decide_eq_true hs] at hT
          clear hs
          go_wp2_with fail
          go_quiet (fail)
          go_wp2
          go_roundw
          case rel =>
            refine ⟨k + 1, by omega, by go_num, below_drewN hbr _, fun j hj hj' h => ?_⟩
            rcases Nat.lt_succ_iff_lt_or_eq.1 h with h | rfl
            · exact hno.out j hj hj' h
            · have hz := HX.out.symm.trans (HS.out.trans HY.out)
              exact hz
          case measure => simp [intOf]; omega
        · have HS := Lib.hid hs
          have hT : (x.toList == y.toList) = decide (x = y) := toList_beq _ _
          rw [decide_eq_false hs] at hT
          clear hs
          go_wp2_with fail
          go_quiet (fail)
          go_wp2
          go_ret
          refine ⟨ret_bool ?_, below_drewN hbr _⟩
          have : ¬ sa = sb := by
            intro e; subst e
            exact HS.out (HX.out.trans HY.out.symm)
          simp [this]
      · go_wp2
        go_ret
        refine ⟨ret_bool ?_, hbr⟩
        have : sa = sb := List.ext_getElem (by omega) (fun j h1 h2 => hno.out j h1 h2 (by omega))
        simp [this]
  · have hne : ((la : Int) != (lb : Int)) = true := by rw [bne_iff_ne]; omega
    go_enter Tryz.func176, Tryz.ntmps176
    go_wp2
    go_ret
    refine ⟨ret_bool ?_, Below.refl _ _⟩
    have : ¬ sa = sb := fun e => by subst e; omega
    simp [this]
set_option maxHeartbeats 2000000 in
set_option maxRecDepth 100000 in
theorem r1same_any (w : World) (ao bo : Option Addr) (la ca lb cb : Nat) (sa sb : List UInt8) (ha : Byts w ao la ca sa) (hb : Byts w bo lb cb sb) :
    Calls Tryz.prog 78 #[.slice ao la ca, .slice bo lb cb] w fun e w' => e = .returned (.bool (decide (sa = sb))) ∧ Below w.heap.size w w' := by
  have hla : sa.length = la := by simpa using ha.hlen
  have hlb : sb.length = lb := by simpa using hb.hlen
  have hmx := ha.hmax
  have hca := ha.hcap
  have hle := ha.hle
  have hcb := hb.hcap
  have hleb := hb.hle
  by_cases hll : la = lb
  · subst hll
    go_enter Tryz.func78, Tryz.ntmps78
    go_wp2
    go_loopw [5] (fun i wr => ∃ k : Nat, k ≤ la ∧ i = .int .i64 k ∧ Below w.heap.size w wr ∧ Hid (∀ j (hj : j < sa.length) (hj' : j < sb.length), j < k → sa[j] = sb[j])) (fun i _ => la - (intOf i).toNat)
    case atStart => exact ⟨0, Nat.zero_le _, rfl, Below.refl _ _, fun j hj _ h => absurd h (by omega)⟩
    case round =>
      obtain ⟨k, hk, rfl, hbr, hno⟩ := hrel
      by_cases hlt : k < la
      · obtain ⟨b1, off1, rfl⟩ := ha.addr hlt
        obtain ⟨b2, off2, rfl⟩ := hb.addr hlt
        have hc1 := (ha.below hbr (Nat.le_refl _)).at hlt
        have hc2 := (hb.below hbr (Nat.le_refl _)).at hlt
        rw [List.getElem_map] at hc1 hc2
        obtain ⟨x, hxk⟩ : ∃ x, x = (sa[k]'(by omega)).toNat := ⟨_, rfl⟩
        obtain ⟨y, hyk⟩ : ∃ y, y = (sb[k]'(by omega)).toNat := ⟨_, rfl⟩
        rw [← hxk] at hc1
        rw [← hyk] at hc2
        have HX := Lib.hid hxk; clear hxk
        have HY := Lib.hid hyk; clear hyk
        have hkp : (0 : Int) ≤ (k : Int) := Int.natCast_nonneg _
        have hkl : (k : Int) < (la : Int) := by omega
        by_cases hs : x = y
        · have HS := Lib.hid hs
          have hT : ((x : Int) != (y : Int)) = false := by rw [hs]; simp
          have hT2 : ((x : Int) == (y : Int)) = true := by rw [hs]; simp
          clear hs
          go_wp2_with fail
          go_quiet (fail)
          go_wp2
          go_roundw
          case rel =>
            refine ⟨k + 1, by omega, by go_num, below_drewN hbr _, fun j hj hj' h => ?_⟩
            rcases Nat.lt_succ_iff_lt_or_eq.1 h with h | rfl
            · exact hno.out j hj hj' h
            · have hz := HX.out.symm.trans (HS.out.trans HY.out)
              exact UInt8.toNat.inj hz
          case measure => simp [intOf]; omega
        · have HS := Lib.hid hs
          have hT : ((x : Int) != (y : Int)) = true := by rw [bne_iff_ne]; omega
          have hT2 : ((x : Int) == (y : Int)) = false := by rw [beq_eq_false_iff_ne]; omega
          clear hs
          go_wp2_with fail
          go_quiet (fail)
          go_wp2
          go_ret
          refine ⟨ret_bool ?_, below_drewN hbr _⟩
          have : ¬ sa = sb := by
            intro e; subst e
            exact HS.out (HX.out.trans HY.out.symm)
          simp [this]
      · go_wp2
        go_ret
        refine ⟨ret_bool ?_, hbr⟩
        have : sa = sb := List.ext_getElem (by omega) (fun j h1 h2 => hno.out j h1 h2 (by omega))
        simp [this]
  · have hne : ((la : Int) != (lb : Int)) = true := by rw [bne_iff_ne]; omega
    go_enter Tryz.func78, Tryz.ntmps78
    go_wp2
    go_ret
    refine ⟨ret_bool ?_, Below.refl _ _⟩
    have : ¬ sa = sb := fun e => by subst e; omega
    simp [this]
set_option maxHeartbeats 2000000 in
set_option maxRecDepth 100000 in
theorem r1ints_any (w : World) (ao bo : Option Addr) (la ca lb cb : Nat) (sa sb : List Int) (ha : Nums w ao la ca sa) (hb : Nums w bo lb cb sb) :
    Calls Tryz.prog 103 #[.slice ao la ca, .slice bo lb cb] w fun e w' => e = .returned (.bool (decide (sa = sb))) ∧ Below w.heap.size w w' := by
  have hla : sa.length = la := by simpa using ha.hlen
  have hlb : sb.length = lb := by simpa using hb.hlen
  have hmx := ha.hmax
  have hca := ha.hcap
  have hle := ha.hle
  have hcb := hb.hcap
  have hleb := hb.hle
  by_cases hll : la = lb
  · subst hll
    go_enter Tryz.func103, Tryz.ntmps103
    go_wp2
    go_loopw [5] (fun i wr => ∃ k : Nat, k ≤ la ∧ i = .int .i64 k ∧ Below w.heap.size w wr ∧ Hid (∀ j (hj : j < sa.length) (hj' : j < sb.length), j < k → sa[j] = sb[j])) (fun i _ => la - (intOf i).toNat)
    case atStart => exact ⟨0, Nat.zero_le _, rfl, Below.refl _ _, fun j hj _ h => absurd h (by omega)⟩
    case round =>
      obtain ⟨k, hk, rfl, hbr, hno⟩ := hrel
      by_cases hlt : k < la
      · obtain ⟨b1, off1, rfl⟩ := ha.addr hlt
        obtain ⟨b2, off2, rfl⟩ := hb.addr hlt
        have hc1 := (ha.below hbr (Nat.le_refl _)).at hlt
        have hc2 := (hb.below hbr (Nat.le_refl _)).at hlt
        rw [List.getElem_map] at hc1 hc2
        obtain ⟨x, hxk⟩ : ∃ x, x = sa[k]'(by omega) := ⟨_, rfl⟩
        obtain ⟨y, hyk⟩ : ∃ y, y = sb[k]'(by omega) := ⟨_, rfl⟩
        rw [← hxk] at hc1
        rw [← hyk] at hc2
        have HX := Lib.hid hxk; clear hxk
        have HY := Lib.hid hyk; clear hyk
        have hkp : (0 : Int) ≤ (k : Int) := Int.natCast_nonneg _
        have hkl : (k : Int) < (la : Int) := by omega
        by_cases hs : x = y
        · have HS := Lib.hid hs
          have hT : ((x : Int) != (y : Int)) = false := by rw [hs]; simp
          have hT2 : ((x : Int) == (y : Int)) = true := by rw [hs]; simp
          clear hs
          go_wp2_with fail
          go_quiet (fail)
          go_wp2
          go_roundw
          case rel =>
            refine ⟨k + 1, by omega, by go_num, below_drewN hbr _, fun j hj hj' h => ?_⟩
            rcases Nat.lt_succ_iff_lt_or_eq.1 h with h | rfl
            · exact hno.out j hj hj' h
            · have hz := HX.out.symm.trans (HS.out.trans HY.out)
              exact hz
          case measure => simp [intOf]; omega
        · have HS := Lib.hid hs
          have hT : ((x : Int) != (y : Int)) = true := by rw [bne_iff_ne]; omega
          have hT2 : ((x : Int) == (y : Int)) = false := by rw [beq_eq_false_iff_ne]; omega
          clear hs
          go_wp2_with fail
          go_quiet (fail)
          go_wp2
          go_ret
          refine ⟨ret_bool ?_, below_drewN hbr _⟩
          have : ¬ sa = sb := by
            intro e; subst e
            exact HS.out (HX.out.trans HY.out.symm)
          simp [this]
      · go_wp2
        go_ret
        refine ⟨ret_bool ?_, hbr⟩
        have : sa = sb := List.ext_getElem (by omega) (fun j h1 h2 => hno.out j h1 h2 (by omega))
        simp [this]
  · have hne : ((la : Int) != (lb : Int)) = true := by rw [bne_iff_ne]; omega
    go_enter Tryz.func103, Tryz.ntmps103
    go_wp2
    go_ret
    refine ⟨ret_bool ?_, Below.refl _ _⟩
    have : ¬ sa = sb := fun e => by subst e; omega
    simp [this]
set_option maxRecDepth 100000 in
theorem rtexts_any (w : World) (ao bo : Option Addr) (la ca lb cb : Nat) (sa sb : List ByteArray) (ha : Strs w ao la ca sa) (hb : Strs w bo lb cb sb) :
    Calls Tryz.prog 104 #[.slice ao la ca, .slice bo lb cb] w fun e w' => e = .returned (.bool (decide (sa = sb))) ∧ Below w.heap.size w w' := by
  have HH := Lib.hid (exact_any w ao bo la ca lb cb sa sb ha hb)
  clear ha hb
  simp only [exactB] at HH
  go_enter Tryz.func104, Tryz.ntmps104
  go_wp2_with fail
  refine HH.out.mono ?_
  rintro e w' ⟨rfl, hb⟩
  go_wp2_with fail
  go_ret
  exact ⟨rfl, hb⟩
set_option maxHeartbeats 8000000 in
set_option maxRecDepth 100000 in
theorem dsame_any (w : World) (h1 h2 : DataH) (d1 d2 : DataP) (ha : IsData w h1 d1) (hb : IsData w h2 d2) :
    Calls Tryz.prog 140 #[.agg (dataC h1), .agg (dataC h2)] w fun e w' => e = .returned (.bool (sameD d1 d2)) ∧ Below w.heap.size w w' := by
  have hb1 : Below w.heap.size w (w.alloc (.cells (dataC h1) 33)) := (Below.refl _ _).alloc (Nat.le_refl _) _
  have hs1 : (w.alloc (.cells (dataC h1) 33)).heap.size = w.heap.size + 1 := by simp
  have hb2 : Below w.heap.size w ((w.alloc (.cells (dataC h1) 33)).alloc (.cells (dataC h2) 33)) := hb1.alloc (by omega) _
  have hA0 : Blk (w.alloc (.cells (dataC h1) 33)) w.heap.size (dataC h1) 33 := heap_alloc_new w _
  have HA := Lib.hid (hA0.on ((Below.refl _ _).alloc (Nat.le_refl _) (.cells (dataC h2) 33)))
  have HB := Lib.hid (show Blk ((w.alloc (.cells (dataC h1) 33)).alloc (.cells (dataC h2) 33)) (w.heap.size + 1) (dataC h2) 33 by rw [← hs1]; exact heap_alloc_new _ _)
  have HBE := Lib.hid hb2
  have H1 := Lib.hid (ha.on hb2)
  have H2 := Lib.hid (hb.on hb2)
  obtain ⟨S0, hS0⟩ : ∃ S, S = decide (d1.bytes = d2.bytes) := ⟨_, rfl⟩
  obtain ⟨S1, hS1⟩ : ∃ S, S = decide (d1.nums = d2.nums) := ⟨_, rfl⟩
  obtain ⟨S2, hS2⟩ : ∃ S, S = decide (d1.texts = d2.texts) := ⟨_, rfl⟩
  obtain ⟨S3, hS3⟩ : ∃ S, S = eqB d1.host d2.host := ⟨_, rfl⟩
  obtain ⟨S4, hS4⟩ : ∃ S, S = eqB d1.mail d2.mail := ⟨_, rfl⟩
  have HE := Lib.hid (show sameD d1 d2 = (S0 && (S1 && (S2 && (S3 && S4)))) by simp only [sameD, hS0, hS1, hS2, hS3, hS4])
  rw [HE.out]
  have HQ0 := Lib.hid (fun (w' : World) (a : IsData w' h1 d1) (b : IsData w' h2 d2) => sleq_byts w' _ _ _ _ _ _ _ _ a.bytes b.bytes)
  rw [← hS0] at HQ0
  have HQ1 := Lib.hid (fun (w' : World) (a : IsData w' h1 d1) (b : IsData w' h2 d2) => sleq_ints w' _ _ _ _ _ _ _ _ a.nums b.nums)
  rw [← hS1] at HQ1
  have HQ2 := Lib.hid (fun (w' : World) (a : IsData w' h1 d1) (b : IsData w' h2 d2) => sleq_strs w' _ _ _ _ _ _ _ _ a.texts b.texts)
  rw [← hS2] at HQ2
  have HQ3 := Lib.hid (fun (w' : World) (a : IsData w' h1 d1) (b : IsData w' h2 d2) => equal_any w' _ _ _ _ _ _ _ _ a.host b.host)
  rw [← hS3] at HQ3
  have HQ4 := Lib.hid (fun (w' : World) (a : IsData w' h1 d1) (b : IsData w' h2 d2) => equal_any w' _ _ _ _ _ _ _ _ a.mail b.mail)
  rw [← hS4] at HQ4
  clear hb1 hs1 hb2 hA0 ha hb HE hS0 hS1 hS2 hS3 hS4
  obtain ⟨ba, bl, bc, ha', hl, hc, ma, ml, mc, na, nl, nc, ta, tl, tc⟩ := h1
  obtain ⟨ba2, bl2, bc2, ha2, hl2, hc2, ma2, ml2, mc2, na2, nl2, nc2, ta2, tl2, tc2⟩ := h2
  simp only [dataC] at HA HB HBE H1 H2 HQ0 HQ1 HQ2 HQ3 HQ4
  go_enter Tryz.func140, Tryz.ntmps140
  simp only [dataC]
  have a0 := HA.out.cell 0
  have b0 := HB.out.cell 0
  simp at a0 b0
  go_wp2_with fail
  clear a0 b0
  refine (HQ0.out _ H1.out H2.out).mono ?_
  rintro e w1 ⟨rfl, hb1⟩
  have HX1 := Lib.hid (hb1)
  clear hb1
  cases S0
  · go_wp2_with fail
    go_ret
    exact ⟨rfl, below_on HBE.out HX1.out (Nat.le_refl _)⟩
  have a1 := (HA.out.on HX1.out).cell 3
  have b1 := (HB.out.on HX1.out).cell 3
  simp at a1 b1
  go_wp2_with fail
  clear a1 b1
  refine (HQ1.out _ (H1.out.on HX1.out) (H2.out.on HX1.out)).mono ?_
  rintro e w2 ⟨rfl, hb2⟩
  have HX2 := Lib.hid (below_on HX1.out hb2 (Nat.le_refl _))
  clear hb2
  cases S1
  · go_wp2_with fail
    go_ret
    exact ⟨rfl, below_on HBE.out HX2.out (Nat.le_refl _)⟩
  have a2 := (HA.out.on HX2.out).cell 4
  have b2 := (HB.out.on HX2.out).cell 4
  simp at a2 b2
  go_wp2_with fail
  clear a2 b2
  refine (HQ2.out _ (H1.out.on HX2.out) (H2.out.on HX2.out)).mono ?_
  rintro e w3 ⟨rfl, hb3⟩
  have HX3 := Lib.hid (below_on HX2.out hb3 (Nat.le_refl _))
  clear hb3
  cases S2
  · go_wp2_with fail
    go_ret
    exact ⟨rfl, below_on HBE.out HX3.out (Nat.le_refl _)⟩
  have a3 := (HA.out.on HX3.out).cell 1
  have b3 := (HB.out.on HX3.out).cell 1
  simp at a3 b3
  go_wp2_with fail
  clear a3 b3
  refine (HQ3.out _ (H1.out.on HX3.out) (H2.out.on HX3.out)).mono ?_
  rintro e w4 ⟨rfl, hb4⟩
  have HX4 := Lib.hid (below_on HX3.out hb4 (Nat.le_refl _))
  clear hb4
  cases S3
  · go_wp2_with fail
    go_ret
    exact ⟨rfl, below_on HBE.out HX4.out (Nat.le_refl _)⟩
  have a4 := (HA.out.on HX4.out).cell 2
  have b4 := (HB.out.on HX4.out).cell 2
  simp at a4 b4
  go_wp2_with fail
  clear a4 b4
  refine (HQ4.out _ (H1.out.on HX4.out) (H2.out.on HX4.out)).mono ?_
  rintro e w5 ⟨rfl, hb5⟩
  have HX5 := Lib.hid (below_on HX4.out hb5 (Nat.le_refl _))
  clear hb5
  go_wp2_with fail
  go_ret
  exact ⟨ret_bool (by simp), below_on HBE.out HX5.out (Nat.le_refl _)⟩
set_option maxHeartbeats 8000000 in
set_option maxRecDepth 100000 in
theorem rdsame_any (w : World) (h1 h2 : DataH) (d1 d2 : DataP) (ha : IsData w h1 d1) (hb : IsData w h2 d2) :
    Calls Tryz.prog 61 #[.agg (dataC h1), .agg (dataC h2)] w fun e w' => e = .returned (.bool (sameD d1 d2)) ∧ Below w.heap.size w w' := by
  have hb1 : Below w.heap.size w (w.alloc (.cells (dataC h1) 33)) := (Below.refl _ _).alloc (Nat.le_refl _) _
  have hs1 : (w.alloc (.cells (dataC h1) 33)).heap.size = w.heap.size + 1 := by simp
  have hb2 : Below w.heap.size w ((w.alloc (.cells (dataC h1) 33)).alloc (.cells (dataC h2) 33)) := hb1.alloc (by omega) _
  have hA0 : Blk (w.alloc (.cells (dataC h1) 33)) w.heap.size (dataC h1) 33 := heap_alloc_new w _
  have HA := Lib.hid (hA0.on ((Below.refl _ _).alloc (Nat.le_refl _) (.cells (dataC h2) 33)))
  have HB := Lib.hid (show Blk ((w.alloc (.cells (dataC h1) 33)).alloc (.cells (dataC h2) 33)) (w.heap.size + 1) (dataC h2) 33 by rw [← hs1]; exact heap_alloc_new _ _)
  have HBE := Lib.hid hb2
  have H1 := Lib.hid (ha.on hb2)
  have H2 := Lib.hid (hb.on hb2)
  obtain ⟨S0, hS0⟩ : ∃ S, S = decide (d1.bytes = d2.bytes) := ⟨_, rfl⟩
  obtain ⟨S1, hS1⟩ : ∃ S, S = decide (d1.nums = d2.nums) := ⟨_, rfl⟩
  obtain ⟨S2, hS2⟩ : ∃ S, S = decide (d1.texts = d2.texts) := ⟨_, rfl⟩
  obtain ⟨S3, hS3⟩ : ∃ S, S = eqB d1.host d2.host := ⟨_, rfl⟩
  obtain ⟨S4, hS4⟩ : ∃ S, S = eqB d1.mail d2.mail := ⟨_, rfl⟩
  have HE := Lib.hid (show sameD d1 d2 = (S0 && (S1 && (S2 && (S3 && S4)))) by simp only [sameD, hS0, hS1, hS2, hS3, hS4])
  rw [HE.out]
  have HQ0 := Lib.hid (fun (w' : World) (a : IsData w' h1 d1) (b : IsData w' h2 d2) => r1same_any w' _ _ _ _ _ _ _ _ a.bytes b.bytes)
  rw [← hS0] at HQ0
  have HQ1 := Lib.hid (fun (w' : World) (a : IsData w' h1 d1) (b : IsData w' h2 d2) => r1ints_any w' _ _ _ _ _ _ _ _ a.nums b.nums)
  rw [← hS1] at HQ1
  have HQ2 := Lib.hid (fun (w' : World) (a : IsData w' h1 d1) (b : IsData w' h2 d2) => rtexts_any w' _ _ _ _ _ _ _ _ a.texts b.texts)
  rw [← hS2] at HQ2
  have HQ3 := Lib.hid (fun (w' : World) (a : IsData w' h1 d1) (b : IsData w' h2 d2) => requal_any w' _ _ _ _ _ _ _ _ a.host b.host)
  rw [← hS3] at HQ3
  have HQ4 := Lib.hid (fun (w' : World) (a : IsData w' h1 d1) (b : IsData w' h2 d2) => requal_any w' _ _ _ _ _ _ _ _ a.mail b.mail)
  rw [← hS4] at HQ4
  clear hb1 hs1 hb2 hA0 ha hb HE hS0 hS1 hS2 hS3 hS4
  obtain ⟨ba, bl, bc, ha', hl, hc, ma, ml, mc, na, nl, nc, ta, tl, tc⟩ := h1
  obtain ⟨ba2, bl2, bc2, ha2, hl2, hc2, ma2, ml2, mc2, na2, nl2, nc2, ta2, tl2, tc2⟩ := h2
  simp only [dataC] at HA HB HBE H1 H2 HQ0 HQ1 HQ2 HQ3 HQ4
  go_enter Tryz.func61, Tryz.ntmps61
  simp only [dataC]
  have a0 := HA.out.cell 0
  have b0 := HB.out.cell 0
  simp at a0 b0
  go_wp2_with fail
  clear a0 b0
  refine (HQ0.out _ H1.out H2.out).mono ?_
  rintro e w1 ⟨rfl, hb1⟩
  have HX1 := Lib.hid (hb1)
  clear hb1
  cases S0
  · go_wp2_with fail
    go_ret
    exact ⟨rfl, below_on HBE.out HX1.out (Nat.le_refl _)⟩
  have a1 := (HA.out.on HX1.out).cell 3
  have b1 := (HB.out.on HX1.out).cell 3
  simp at a1 b1
  go_wp2_with fail
  clear a1 b1
  refine (HQ1.out _ (H1.out.on HX1.out) (H2.out.on HX1.out)).mono ?_
  rintro e w2 ⟨rfl, hb2⟩
  have HX2 := Lib.hid (below_on HX1.out hb2 (Nat.le_refl _))
  clear hb2
  cases S1
  · go_wp2_with fail
    go_ret
    exact ⟨rfl, below_on HBE.out HX2.out (Nat.le_refl _)⟩
  have a2 := (HA.out.on HX2.out).cell 4
  have b2 := (HB.out.on HX2.out).cell 4
  simp at a2 b2
  go_wp2_with fail
  clear a2 b2
  refine (HQ2.out _ (H1.out.on HX2.out) (H2.out.on HX2.out)).mono ?_
  rintro e w3 ⟨rfl, hb3⟩
  have HX3 := Lib.hid (below_on HX2.out hb3 (Nat.le_refl _))
  clear hb3
  cases S2
  · go_wp2_with fail
    go_ret
    exact ⟨rfl, below_on HBE.out HX3.out (Nat.le_refl _)⟩
  have a3 := (HA.out.on HX3.out).cell 1
  have b3 := (HB.out.on HX3.out).cell 1
  simp at a3 b3
  go_wp2_with fail
  clear a3 b3
  refine (HQ3.out _ (H1.out.on HX3.out) (H2.out.on HX3.out)).mono ?_
  rintro e w4 ⟨rfl, hb4⟩
  have HX4 := Lib.hid (below_on HX3.out hb4 (Nat.le_refl _))
  clear hb4
  cases S3
  · go_wp2_with fail
    go_ret
    exact ⟨rfl, below_on HBE.out HX4.out (Nat.le_refl _)⟩
  have a4 := (HA.out.on HX4.out).cell 2
  have b4 := (HB.out.on HX4.out).cell 2
  simp at a4 b4
  go_wp2_with fail
  clear a4 b4
  refine (HQ4.out _ (H1.out.on HX4.out) (H2.out.on HX4.out)).mono ?_
  rintro e w5 ⟨rfl, hb5⟩
  have HX5 := Lib.hid (below_on HX4.out hb5 (Nat.le_refl _))
  clear hb5
  go_wp2_with fail
  go_ret
  exact ⟨ret_bool (by simp), below_on HBE.out HX5.out (Nat.le_refl _)⟩
end
section
open Go.ChangeShapes Go.WideShapes Go.ChangeAt Go.RowKit

set_option maxHeartbeats 8000000 in
set_option maxRecDepth 100000 in
theorem clash_any (w : World) (h1 h2 : RRH) (r1 r2 : RRP) (ha : IsRR w h1 r1) (hb : IsRR w h2 r2) :
    Calls Tryz.prog 110 #[.agg (rrC h1 r1), .agg (rrC h2 r2)] w fun e w' => e = .returned (.bool (clashP r1 r2)) ∧ Below w.heap.size w w' := by
  have hb1 : Below w.heap.size w (w.alloc (.cells (rrC h1 r1) 48)) := (Below.refl _ _).alloc (Nat.le_refl _) _
  have hs1 : (w.alloc (.cells (rrC h1 r1) 48)).heap.size = w.heap.size + 1 := by simp
  have hb2 : Below w.heap.size w ((w.alloc (.cells (rrC h1 r1) 48)).alloc (.cells (rrC h2 r2) 48)) := hb1.alloc (by omega) _
  have hA0 : Blk (w.alloc (.cells (rrC h1 r1) 48)) w.heap.size (rrC h1 r1) 48 := heap_alloc_new w _
  have HA := Lib.hid (hA0.on ((Below.refl _ _).alloc (Nat.le_refl _) (.cells (rrC h2 r2) 48)))
  have HB := Lib.hid (show Blk ((w.alloc (.cells (rrC h1 r1) 48)).alloc (.cells (rrC h2 r2) 48)) (w.heap.size + 1) (rrC h2 r2) 48 by rw [← hs1]; exact heap_alloc_new _ _)
  have HBE := Lib.hid hb2
  have H1 := Lib.hid (ha.on hb2)
  have H2 := Lib.hid (hb.on hb2)
  obtain ⟨S0, hS0⟩ : ∃ S, S = eqB r1.name r2.name := ⟨_, rfl⟩
  obtain ⟨S1, hS1⟩ : ∃ S, S = sameD r1.data r2.data := ⟨_, rfl⟩
  obtain ⟨R, hR⟩ : ∃ R, R = clashP r1 r2 := ⟨_, rfl⟩
  have HE := Lib.hid (show R = (S0 && (if r1.kind = r2.kind then (decide (r1.kind = 5) || (decide (r1.ttl ≠ r2.ttl) || S1)) else (decide (r1.kind = 5) || decide (r2.kind = 5)))) by simp only [hR, clashP, hS0, hS1])
  have HQ0 := Lib.hid (fun (w' : World) (a : IsRR w' h1 r1) (b : IsRR w' h2 r2) => equal_any w' _ _ _ _ _ _ _ _ a.name b.name)
  have HQ1 := Lib.hid (fun (w' : World) (a : IsRR w' h1 r1) (b : IsRR w' h2 r2) => dsame_any w' h1.d h2.d _ _ a.data b.data)
  rw [← hS0] at HQ0
  rw [← hS1] at HQ1
  rw [← hR]
  clear hb1 hs1 hb2 hA0 ha hb hS0 hS1 hR
  obtain ⟨na, nl, nc, ⟨ba, bl, bc, ha, hl, hc, ma, ml, mc, xa, xl, xc, ta, tl, tc⟩⟩ := h1
  obtain ⟨na', nl', nc', ⟨ba', bl', bc', ha', hl', hc', ma', ml', mc', xa', xl', xc', ta', tl', tc'⟩⟩ := h2
  simp only [rrC, dataC] at HA HB HBE H1 H2 HQ0 HQ1
  go_enter Tryz.func110, Tryz.ntmps110
  simp only [rrC]
  have a0 := HA.out.cell 0
  have b0 := HB.out.cell 0
  simp at a0 b0
  go_wp2_with fail
  clear a0 b0
  refine (HQ0.out _ H1.out H2.out).mono ?_
  rintro e w1 ⟨rfl, hb1⟩
  have HX1 := Lib.hid hb1
  have HB1 := Lib.hid (below_on HBE.out hb1 (Nat.le_refl _))
  have HA2 := Lib.hid (HA.out.on hb1)
  have HB2 := Lib.hid (HB.out.on hb1)
  clear hb1
  cases S0
  · have HE0 := Lib.hid (show R = false by rw [HE.out]; rfl)
    go_wp2_with fail
    go_ret
    exact ⟨ret_bool HE0.out.symm, HB1.out⟩
  have a1 := HA2.out.cell 1
  have b1 := HB2.out.cell 1
  have a3 := HA2.out.cell 3
  have b3 := HB2.out.cell 3
  have a4 := HA2.out.cell 4
  have b4 := HB2.out.cell 4
  have a5 := HA2.out.cell 5
  have b5 := HB2.out.cell 5
  have a6 := HA2.out.cell 6
  have b6 := HB2.out.cell 6
  have a7 := HA2.out.cell 7
  have b7 := HB2.out.cell 7
  have a8 := HA2.out.cell 8
  have b8 := HB2.out.cell 8
  simp at a1 b1 a3 b3 a4 b4 a5 b5 a6 b6 a7 b7 a8 b8
  by_cases hk : r1.kind = r2.kind
  · have q0 : (r1.kind != r2.kind) = false := by rw [hk]; simp
    have HK := Lib.hid hk
    clear hk
    by_cases h5 : r1.kind = 5
    · have q1 : (r1.kind == 5) = true := by rw [h5]; rfl
      have H5 := Lib.hid h5
      clear h5
      go_wp2_with fail
      go_ret
      exact ⟨ret_bool (by rw [HE.out, if_pos HK.out]; simp [H5.out]), HB1.out⟩
    have q1 : (r1.kind == 5) = false := by rw [beq_eq_false_iff_ne]; exact h5
    have H5 := Lib.hid h5
    clear h5
    by_cases ht : r1.ttl = r2.ttl
    · have q2 : (r1.ttl != r2.ttl) = false := by rw [ht]; simp
      have HT := Lib.hid ht
      clear ht
      go_wp2_with fail
      refine (HQ1.out _ (H1.out.on HX1.out) (H2.out.on HX1.out)).mono ?_
      rintro e w2 ⟨rfl, hb2⟩
      go_wp2_with fail
      go_ret
      exact ⟨ret_bool (by rw [HE.out, if_pos HK.out, HT.out]; simp [H5.out]), below_on HB1.out hb2 (Nat.le_refl _)⟩
    · have q2 : (r1.ttl != r2.ttl) = true := by rw [bne_iff_ne]; exact ht
      have HT := Lib.hid ht
      clear ht
      go_wp2_with fail
      go_ret
      exact ⟨ret_bool (by rw [HE.out, if_pos HK.out]; simp [HT.out]), HB1.out⟩
  · have q0 : (r1.kind != r2.kind) = true := by rw [bne_iff_ne]; exact hk
    have HK := Lib.hid hk
    clear hk
    by_cases h5 : r1.kind = 5
    · have q1 : (r1.kind == 5) = true := by rw [h5]; rfl
      have H5 := Lib.hid h5
      clear h5
      go_wp2_with fail
      go_ret
      exact ⟨ret_bool (by rw [HE.out, if_neg HK.out]; simp [H5.out]), HB1.out⟩
    have q1 : (r1.kind == 5) = false := by rw [beq_eq_false_iff_ne]; exact h5
    have H5 := Lib.hid h5
    clear h5
    by_cases h6 : r2.kind = 5
    · have q2 : (r2.kind == 5) = true := by rw [h6]; rfl
      have H6 := Lib.hid h6
      clear h6
      go_wp2_with fail
      go_ret
      exact ⟨ret_bool (by rw [HE.out, if_neg HK.out]; simp [H6.out]), HB1.out⟩
    · have q2 : (r2.kind == 5) = false := by rw [beq_eq_false_iff_ne]; exact h6
      have H6 := Lib.hid h6
      clear h6
      go_wp2_with fail
      go_ret
      exact ⟨ret_bool (by rw [HE.out, if_neg HK.out]; simp [H5.out, H6.out]), HB1.out⟩

set_option maxHeartbeats 4000000 in
set_option maxRecDepth 100000 in
theorem sound1z_any (w : World) (h k : RRH) (o r : RRP) (ho : IsRR w h o) (hr : IsRR w k r) (g : Nat) (hg : Blk w g (rrC k r) 48) :
    Calls Tryz.prog 109 #[.agg (rrC h o), .pointer (some ⟨g, 0, none⟩)] w fun e w' => e = .returned (.bool (clashP o r)) ∧ Below w.heap.size w w' := by
  have hb1 : Below w.heap.size w (w.alloc (.cells (rrC h o) 48)) := (Below.refl _ _).alloc (Nat.le_refl _) _
  have hA0 : Blk (w.alloc (.cells (rrC h o) 48)) w.heap.size (rrC h o) 48 := heap_alloc_new w _
  have HQ := Lib.hid (clash_any (w.alloc (.cells (rrC h o) 48)) h k o r (ho.on hb1) (hr.on hb1))
  have HA := Lib.hid hA0
  have HB := Lib.hid (hg.on hb1)
  have HBE := Lib.hid hb1
  clear hb1 hA0 ho hr hg
  obtain ⟨na, nl, nc, ⟨ba, bl, bc, ha, hl, hc, ma, ml, mc, xa, xl, xc, ta, tl, tc⟩⟩ := h
  obtain ⟨na', nl', nc', ⟨ba', bl', bc', ha', hl', hc', ma', ml', mc', xa', xl', xc', ta', tl', tc'⟩⟩ := k
  simp only [rrC] at HA HB HBE HQ
  go_enter Tryz.func109, Tryz.ntmps109
  simp only [rrC]
  have a0 := HA.out.cell 0
  have a1 := HA.out.cell 1
  have a2 := HA.out.cell 2
  have a3 := HA.out.cell 3
  have a4 := HA.out.cell 4
  have a5 := HA.out.cell 5
  have a6 := HA.out.cell 6
  have a7 := HA.out.cell 7
  have a8 := HA.out.cell 8
  have b0 := HB.out.cell 0
  have b1 := HB.out.cell 1
  have b2 := HB.out.cell 2
  have b3 := HB.out.cell 3
  have b4 := HB.out.cell 4
  have b5 := HB.out.cell 5
  have b6 := HB.out.cell 6
  have b7 := HB.out.cell 7
  have b8 := HB.out.cell 8
  simp at a0 a1 a2 a3 a4 a5 a6 a7 a8 b0 b1 b2 b3 b4 b5 b6 b7 b8
  go_wp2_with fail
  refine HQ.out.mono ?_
  rintro e w2 ⟨rfl, hb2⟩
  go_wp2_with fail
  go_ret
  exact ⟨rfl, below_on HBE.out hb2 (Nat.le_refl _)⟩

abbrev clashF (g : Nat) : Value := .func (.func 109) #[] #[.pointer (some ⟨g, 0, none⟩)]
theorem rrany_none {rs : List RRP} {r : RRP} (h : ∀ j (hj : j < rs.length), clashP rs[j] r = false) : (rs.any fun o => clashP o r) = false := by
  rw [List.any_eq_false]
  intro x hx
  obtain ⟨j, hj, rfl⟩ := List.getElem_of_mem hx
  simp [h j hj]
theorem rrany_some {rs : List RRP} {r : RRP} {j : Nat} (hj : j < rs.length) (h : clashP rs[j] r = true) : (rs.any fun o => clashP o r) = true := List.any_eq_true.2 ⟨_, List.getElem_mem hj, h⟩
set_option maxHeartbeats 4000000 in
set_option maxRecDepth 100000 in
theorem indexRR_any (w : World) (ao : Option Addr) (n c : Nat) (rs : List RRP) (hrs : RRs w ao n c rs) (k : RRH) (r : RRP) (hr : IsRR w k r) (g : Nat) (hg : Blk w g (rrC k r) 48) :
    Calls Tryz.prog 139 #[.slice ao n c, clashF g] w fun e w' => (∃ i : Int, e = .returned (.int .i64 i) ∧ decide (0 ≤ i) = rs.any fun o => clashP o r) ∧ Below w.heap.size w w' := by
  have hl := hrs.hlen
  have hle := hrs.hle
  have hmx := hrs.hmax
  have HRS := Lib.hid hrs
  have HR := Lib.hid hr
  have HG := Lib.hid hg
  have HL := Lib.hid hl
  clear hrs hr hg hl
  go_enter Tryz.func139, Tryz.ntmps139
  go_wp2_with fail
  go_loopw [8, 5] (fun i _ wr => ∃ j : Nat, j ≤ n ∧ i = .int .i64 j ∧ Hid (Below w.heap.size w wr ∧ ∀ q (hq : q < rs.length), q < j → clashP rs[q] r = false)) (fun i _ _ => n - (intOf i).toNat)
  case atStart => exact ⟨0, Nat.zero_le _, rfl, Below.refl _ _, fun j hj h => absurd h (by omega)⟩
  case round =>
    obtain ⟨j, hj, rfl, hinv⟩ := hrel
    by_cases hlt : j < n
    · obtain ⟨b, off, rfl⟩ := HRS.out.addr hlt
      obtain ⟨h, hc, ho⟩ := (HRS.out.on hinv.out.1).at hlt
      obtain ⟨o, hox⟩ : ∃ o, o = rs[j]'(by have := HL.out; omega) := ⟨_, rfl⟩
      rw [← hox] at hc ho
      have HOX := Lib.hid hox
      have hcall := sound1z_any wr h k o r ho (HR.out.on hinv.out.1) g (HG.out.on hinv.out.1)
      obtain ⟨S, hS⟩ : ∃ S, S = clashP o r := ⟨_, rfl⟩
      rw [← hS] at hcall
      have HS := Lib.hid hS
      have HC := Lib.hid hcall
      have e0 := hc 0 (by omega)
      have e1 := hc 1 (by omega)
      have e2 := hc 2 (by omega)
      have e3 := hc 3 (by omega)
      have e4 := hc 4 (by omega)
      have e5 := hc 5 (by omega)
      have e6 := hc 6 (by omega)
      have e7 := hc 7 (by omega)
      have e8 := hc 8 (by omega)
      clear hc ho hox hcall hS
      obtain ⟨na, nl, nc, ⟨ba, bl, bc, ha, hl, hc, ma, ml, mc, xa, xl, xc, ta, tl, tc⟩⟩ := h
      simp only [rrC] at HC
      simp [rrC] at e0 e1 e2 e3 e4 e5 e6 e7 e8
      go_wp2_with fail
      refine HC.out.mono ?_
      rintro e w2 ⟨rfl, hb2⟩
      have HB2 := Lib.hid (below_on hinv.out.1 hb2 (Nat.le_refl _))
      clear hb2 e0 e1 e2 e3 e4 e5 e6 e7 e8
      cases S
      · go_wp2_with fail
        go_roundw
        case rel =>
          refine ⟨j + 1, by omega, by go_num, HB2.out, fun q hq h => ?_⟩
          rcases Nat.lt_succ_iff_lt_or_eq.1 h with h | rfl
          · exact hinv.out.2 q hq h
          · rw [← HOX.out]; exact HS.out.symm
        case measure => simp [intOf]; omega
      · go_wp2_with fail
        go_ret
        exact ⟨⟨_, rfl, by rw [rrany_some (j := j) (by have := HL.out; omega) (by rw [← HOX.out]; exact HS.out.symm)]; simp⟩, HB2.out⟩
    · go_wp2_with fail
      go_ret
      exact ⟨⟨_, rfl, by rw [rrany_none fun q hq => hinv.out.2 q hq (by have := HL.out; omega)]; rfl⟩, hinv.out.1⟩
set_option maxRecDepth 100000 in
theorem containsRR_any (w : World) (ao : Option Addr) (n c : Nat) (rs : List RRP) (hrs : RRs w ao n c rs) (k : RRH) (r : RRP) (hr : IsRR w k r) (g : Nat) (hg : Blk w g (rrC k r) 48) :
    Calls Tryz.prog 108 #[.slice ao n c, clashF g] w fun e w' => e = .returned (.bool (rs.any fun o => clashP o r)) ∧ Below w.heap.size w w' := by
  have HC := Lib.hid (indexRR_any w ao n c rs hrs k r hr g hg)
  clear hrs hr hg
  go_enter Tryz.func108, Tryz.ntmps108
  go_wp2_with fail
  refine HC.out.mono ?_
  rintro e w2 ⟨⟨i, rfl, hi⟩, hb2⟩
  go_wp2_with fail
  go_ret
  exact ⟨rfl, hb2⟩
end
end Go.Proofs.YtipbakdodbmfjaaGreatDoor

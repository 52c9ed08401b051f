/- A fact's key: the contracts of Builder.Write and of fact.Key. -/
import Derived.Test.YtgfibbjifbghdaaGreatFactLaw
import Derived.Test.YtgfibbjifbghdaaGreatLower
import Derived.Test.YtgfibbjifbghdaaGreatSide
import Derived.Test.YtgfibbjifbghdaaGreatSize
import Derived.Test.YtgfibbjifbghdaaGreatShelf
namespace Go.Proofs.YtgfibbjifbghdaaGreat
open Go.ChangeShapes Go.WideShapes Go.ChangeAt Go.RowKit

set_option maxHeartbeats 2000000 in
set_option maxRecDepth 100000 in
theorem writeString_side (C b : Nat) (bs : List Value) (s : ByteArray) (w : World) (h : SideB C b bs w) (hlen : bs.length + s.size ≤ 140737488355328) :
    Calls Tryz.prog 119 #[.pointer (some ⟨b, 0, none⟩), .string s] w fun e w' => e = .returned (.tuple #[.int .i64 s.size, .nilIface]) ∧ (SideB C b (bs ++ Lib.strCells s) w' ∧ Besd C b w w') := by
  obtain ⟨i0, hi, hz0, hz1, hz2⟩ := info_parts infoByte
  have hCC := Lib.hid (copyCheck_side C b bs w h)
  have hle := h.le
  have hbC := h.lt
  clear h
  go_enter Tryz.func119, Tryz.ntmps119
  go_wp2_with (go_at_call 147; refine hCC.out.mono ?_)
  rintro e w1 ⟨rfl, v, hbk, hown, hb1⟩
  have hle1 := hb1.bel.size
  have c0 : w1.cell? ⟨b, 0, none⟩ = some (.pointer (some ⟨b, 0, none⟩)) := by rw [Lib.cell_of_heap hbk]; rfl
  have c1 : w1.cell? ⟨b, 1, none⟩ = some v := by rw [Lib.cell_of_heap hbk]; rfl
  go_wp2_with (at_builtin; refine Lib.wpList_append_own_string _ rfl _ _ 28 9 rfl C 5 i0 Tryz.underlying28 Tryz.underlying9 hi hz0 hz1 hz2 _ _ _ rfl hown s rfl ?c3 ?c4 ?c5 ?_)
  case c3 => unfold maxLen; omega
  case c4 => omega
  case c5 => omega
  intro v' w2 hown' hgrow _
  have hne := owns_ne hown hbC
  have hlt : b < w1.heap.size := by omega
  have hb2 : w2.heap[b]? = some (.cells #[.pointer (some ⟨b, 0, none⟩), v] 212 (0, 0)) := by
    rw [hgrow.block b hlt (fun e => hne e.symm)]
    exact hbk
  have d0 : w2.cell? ⟨b, 0, none⟩ = some (.pointer (some ⟨b, 0, none⟩)) := by rw [Lib.cell_of_heap hb2]; rfl
  have d1 : w2.cell? ⟨b, 1, none⟩ = some v := by rw [Lib.cell_of_heap hb2]; rfl
  have f1 : w2.frozen? ⟨b, 1, none⟩ = false := Lib.frozen_of_heap hb2 1
  obtain ⟨ao, n', cap, rfl⟩ : ∃ ao n' cap, v' = .slice ao n' cap := by
    rcases hown'.2 with ⟨hv, _⟩ | ⟨g, cap, cur, hv, _⟩
    · exact ⟨_, _, _, hv⟩
    · exact ⟨_, _, _, hv⟩
  have hgz := hgrow.size
  have HO := Lib.hid hown
  have HO' := Lib.hid hown'
  have HG := Lib.hid hgrow
  have HB1 := Lib.hid hb1
  clear hown hown' hgrow hb1 hne
  go_wp2
  go_ret2
  have hown' := HO'.out
  have hgrow := HG.out
  refine ⟨rfl, ⟨hbC, by simp at hgz ⊢; omega, _, _, .inr rfl, heap_setCell_same w2 b 1 _ _ _ hb2, ?_⟩, ?_, ?_⟩
  · have h := hown'.kept (but_set w2 b 1 (.slice ao n' cap)) (Or.inr (owns_ne hown' hbC))
    simpa [Lib.strCells_length] using h
  · refine ((HB1.out.bel.grown hgrow (by omega) (fun k hk => ?_))).setCell (p := ⟨b, 1, none⟩) (Nat.le_refl _) _
    have := (HO.out.lt k hk).1
    omega
  · intro k hk hkb
    rw [(but_set w2 b 1 _).block k (by omega) (fun h => hkb (Option.some.inj h)), hgrow.block k (by omega) (fun e => owns_ne HO.out hk e.symm)]
    exact HB1.out.kept k hk hkb

theorem copyCheck_but (C b : Nat) (bs : List Value) (w : World) (h : SideB C b bs w) :
    Calls Tryz.prog 147 #[.pointer (some ⟨b, 0, none⟩)] w fun e w' => e = .returned (.tuple #[]) ∧ ∃ v, w'.heap[b]? = some (.cells #[.pointer (some ⟨b, 0, none⟩), v] 212 (0, 0)) ∧ w'.ownsRow C 5 1 v bs.length bs ∧ w.grownBy w' (some b) := by
  obtain ⟨p, v, hp, h1, h2⟩ := h.row
  have hlt := h.lt
  rcases hp with rfl | rfl
  · refine (copyCheck_fresh b w (by simp [World.cell?, h1]) (by simp [World.shape?, h1]) (Lib.frozen_of_heap h1 0)).mono ?_
    rintro e w' ⟨rfl, rfl⟩
    exact ⟨rfl, v, heap_setCell_same w b 0 _ _ _ h1, h2.kept (but_set w b 0 _) (Or.inr (owns_ne h2 hlt)), but_set _ _ _ _⟩
  · refine (copyCheck_used b w (by simp [World.cell?, h1])).mono ?_
    rintro e w' ⟨rfl, rfl⟩
    exact ⟨rfl, v, h1, h2, World.grownBy.refl _ _⟩
set_option maxHeartbeats 2000000 in
set_option maxRecDepth 100000 in
theorem bwrite_side (C b : Nat) (bs : List Value) (ao : Option Addr) (n c : Nat) (l : List UInt8) (w : World) (h : SideB C b bs w) (hr : Byts w ao n c l) (hao : ∀ a, ao = some a → a.block ≠ b) (hlen : bs.length + n ≤ 140737488355328) :
    Calls Tryz.prog 120 #[.pointer (some ⟨b, 0, none⟩), .slice ao n c] w fun e w' => e = .returned (.tuple #[.int .i64 n, .nilIface]) ∧ (SideB C b (bs ++ Lib.byteCells l) w' ∧ Besd C b w w') := by
  obtain ⟨i0, hi, hz0, hz1, hz2⟩ := info_parts infoByte
  have hCC := Lib.hid (copyCheck_but C b bs w h)
  have hle := h.le
  have hbC := h.lt
  have HR := Lib.hid (And.intro hr hao)
  clear h hr hao
  go_enter Tryz.func120, Tryz.ntmps120
  go_wp2_with (go_at_call 147; refine hCC.out.mono ?_)
  rintro e w1 ⟨rfl, v, hbk, hown, hb1⟩
  have hle1 := hb1.size
  have c0 : w1.cell? ⟨b, 0, none⟩ = some (.pointer (some ⟨b, 0, none⟩)) := by rw [Lib.cell_of_heap hbk]; rfl
  have c1 : w1.cell? ⟨b, 1, none⟩ = some v := by rw [Lib.cell_of_heap hbk]; rfl
  have hr1 := HR.out.1.grown hb1 (fun a ha e => HR.out.2 a ha (Option.some.inj e))
  obtain ⟨v', w2, hrun, hown', hgrow⟩ := append_row (P := Tryz.prog) w1 C 28 28 5 i0 _ 1 Tryz.underlying28 hi hz0 hz1 hz2 rfl v bs.length bs hown ao n c _ hr1 (by
    intro u hu
    obtain ⟨x, _, rfl⟩ := List.mem_map.1 hu
    rfl) (by omega) (by omega) (by omega)
  have hne := owns_ne hown hbC
  have hlt : b < w1.heap.size := by omega
  have hb2 : w2.heap[b]? = some (.cells #[.pointer (some ⟨b, 0, none⟩), v] 212 (0, 0)) := by
    rw [hgrow.block b hlt (fun e => hne e.symm)]
    exact hbk
  have d0 : w2.cell? ⟨b, 0, none⟩ = some (.pointer (some ⟨b, 0, none⟩)) := by rw [Lib.cell_of_heap hb2]; rfl
  have d1 : w2.cell? ⟨b, 1, none⟩ = some v := by rw [Lib.cell_of_heap hb2]; rfl
  have f1 : w2.frozen? ⟨b, 1, none⟩ = false := Lib.frozen_of_heap hb2 1
  obtain ⟨ao', n', cap, rfl⟩ : ∃ ao n' cap, v' = .slice ao n' cap := by
    rcases hown'.2 with ⟨hv, _⟩ | ⟨g, cap, cur, hv, _⟩
    · exact ⟨_, _, _, hv⟩
    · exact ⟨_, _, _, hv⟩
  have HRUN := Lib.hid hrun
  clear hrun hr1 hi hz0 hz1 hz2
  go_wp2_with (at_builtin; refine wpList_append_run rfl _ _ _ rfl _ _ rfl rfl HRUN.out ?_)
  have hgz := hgrow.size
  have hln : l.length = n := by simpa using HR.out.1.hlen
  have HLN := Lib.hid hln
  have HO := Lib.hid hown
  have HO' := Lib.hid hown'
  have HG := Lib.hid hgrow
  have HB1 := Lib.hid hb1
  clear hown hown' hgrow hb1 hne hln
  go_wp2
  go_ret2
  have hown' := HO'.out
  have hgrow := HG.out
  refine ⟨rfl, ⟨hbC, by simp at hgz ⊢; omega, _, _, .inr rfl, heap_setCell_same w2 b 1 _ _ _ hb2, ?_⟩, ?_, ?_⟩
  · have h := hown'.kept (but_set w2 b 1 (.slice ao' n' cap)) (Or.inr (owns_ne hown' hbC))
    simpa [Lib.byteCells, HLN.out] using h
  · refine (((below_of_but HB1.out (Nat.le_refl _) (by omega)).grown hgrow (by omega) (fun k hk => ?_))).setCell (p := ⟨b, 1, none⟩) (Nat.le_refl _) _
    have := (HO.out.lt k hk).1
    omega
  · intro k hk hkb
    rw [(but_set w2 b 1 _).block k (by omega) (fun h => hkb (Option.some.inj h)), hgrow.block k (by omega) (fun e => owns_ne HO.out hk e.symm)]
    exact HB1.out.block k (by omega) (fun e => hkb (Option.some.inj e))

theorem nameK_snoc (n : List ByteArray) (k : Nat) (h : k < n.length) : nameK (n.take (k + 1)) = nameK (n.take k) ++ labelK n[k] := by
  rw [nameK, List.take_succ_eq_append_getElem h, List.flatMap_append]; simp [nameK]
theorem nameK_len (n : List ByteArray) : (nameK n).length = sizeN n := by
  induction n with
  | nil => rfl
  | cons a n ih =>
    simp only [nameK, List.flatMap_cons, List.length_append] at ih ⊢
    rw [ih, sizeN]
    have h1 : (small a).data.toList.length = a.size := (by simpa using (show (small a).data.size = a.size from small_size a))
    simp only [labelK, List.length_cons, h1]
theorem byteCells_append (a b : List UInt8) : Lib.byteCells a ++ Lib.byteCells b = Lib.byteCells (a ++ b) := by simp [Lib.byteCells]
theorem byte_of_nat (n : Nat) : IntKind.u8.wrap (n : Int) = ((UInt8.ofNat (n % 256)).toNat : Int) := by
  rw [UInt8.toNat_ofNat']
  simp [IntKind.wrap, IntKind.bits, IntKind.signed]
theorem byteZ_nat (n : Int) : ((byteZ n).toNat : Int) = n % 256 := by
  rw [byteZ, UInt8.toNat_ofNat']
  have h1 := Int.emod_nonneg n (show (256 : Int) ≠ 0 by decide)
  have h2 := Int.emod_lt_of_pos n (show (0 : Int) < 256 by decide)
  omega
theorem row_new (w : World) (cs : Array Value) (e : TypeId) (h : cs.size ≤ 140737488355328) : Row (w.alloc (.cells cs e)) (some ⟨w.heap.size, 0, none⟩) cs.size cs.size cs.toList := by
  refine ⟨by simp, Nat.le_refl _, by omega, h, fun e => (by cases e), fun h0 => ⟨w.heap.size, 0, rfl, fun i hi => ?_⟩⟩
  rw [Nat.zero_add, World.cell?_alloc_new w cs e i]
  simp at hi
  simp [hi]
theorem row_not {w : World} {a : Addr} {n c : Nat} {vs : List Value} {g : Nat} {cs : Array Value} {T : TypeId} (h : Row w (some a) n c vs) (hB : Blk w g cs T) (h0 : 0 < n) (hne : ∀ (v : Value), v ∈ vs → ∀ j : Nat, cs[j]? ≠ some v) : a.block ≠ g := by
  rintro rfl
  obtain ⟨b, off, e, hc⟩ := h.hcells h0
  cases e
  have hl : 0 < vs.length := by have := h.hlen; omega
  have h1 := hc 0 hl
  rw [hB.cell] at h1
  exact hne _ (List.getElem_mem hl) _ h1
theorem strCells_bytes (s : ByteArray) : Lib.strCells s = Lib.byteCells s.data.toList := rfl
theorem small_mem_size {n : List ByteArray} {s : ByteArray} (h : s ∈ n) : s.size + 1 ≤ sizeN n := by
  induction n with
  | nil => cases h
  | cons a n ih =>
    rw [sizeN]
    rcases List.mem_cons.1 h with rfl | h
    · omega
    · have := ih h; omega
theorem sizeN_len (n : List ByteArray) : n.length ≤ sizeN n := by
  induction n with
  | nil => exact Nat.zero_le _
  | cons a n ih => rw [sizeN, List.length_cons]; omega
set_option maxHeartbeats 4000000 in
set_option maxRecDepth 100000 in
theorem fkey_any (w : World) (h : FactH) (f : FactP) (hn : Strs w h.na h.nl h.nc f.name) (hz : sizeN f.name ≤ 1099511627776) :
    Calls Tryz.prog 76 #[.agg (factC h f)] w fun e w' => e = .returned (.string ⟨(keyF f).toArray⟩) ∧ Below w.heap.size w w' := by
  have hb1 : Below w.heap.size w (w.alloc (.cells (factC h f) 100)) := (Below.refl _ _).alloc (Nat.le_refl _) _
  have hs1 : (w.alloc (.cells (factC h f) 100)).heap.size = w.heap.size + 1 := by simp
  have hb2 : Below w.heap.size w ((w.alloc (.cells (factC h f) 100)).alloc (.cells #[.pointer none, .slice none 0 0] 212)) := hb1.alloc (by omega) _
  have hA0 : Blk (w.alloc (.cells (factC h f) 100)) w.heap.size (factC h f) 100 := heap_alloc_new w _
  have hA : Blk ((w.alloc (.cells (factC h f) 100)).alloc (.cells #[.pointer none, .slice none 0 0] 212)) w.heap.size (factC h f) 100 := hA0.on ((Below.refl _ _).alloc (Nat.le_refl _) _)
  have hN : Blk ((w.alloc (.cells (factC h f) 100)).alloc (.cells #[.pointer none, .slice none 0 0] 212)) (w.heap.size + 1) #[.pointer none, .slice none 0 0] 212 := by
    have := heap_alloc_new (w.alloc (.cells (factC h f) 100)) (.cells #[.pointer none, .slice none 0 0] 212)
    simpa [Blk] using this
  have HB2 := Lib.hid hb2
  have HA := Lib.hid hA
  have HN := Lib.hid hN
  have HNM := Lib.hid (hn.below hb2 (Nat.le_refl _))
  have hl := hn.len
  have hz2 := sizeN_len f.name
  have HLW := Lib.hid (lower_any _ _ _ _ _ (hn.below hb2 (Nat.le_refl _)) (by omega))
  have HZ := Lib.hid hz
  have HL := Lib.hid hl
  have hnl : h.nl ≤ 1099511627776 := by omega
  have hsz2 : ((w.alloc (.cells (factC h f) 100)).alloc (.cells #[.pointer none, .slice none 0 0] 212)).heap.size = w.heap.size + 2 := by simp
  have HSZ2 := Lib.hid hsz2
  clear hb1 hs1 hb2 hA0 hA hN hn hl hz hz2 hsz2
  obtain ⟨na, nl, nc, sa, sl, sc, za, zl, zc, ⟨ba, bl, bc, ha, hl, hc, ma, ml, mc, xa, xl, xc, ta, tl, tc⟩⟩ := h
  simp only [factC] at HB2 HA HN HNM HLW HL hnl HSZ2
  go_enter Tryz.func76, Tryz.ntmps76
  simp only [factC]
  have a0 := HA.out.cell 0
  simp at a0
  go_wp2_with fail
  clear a0
  refine HLW.out.mono ?_
  rintro e w3 ⟨lo, lc, rfl, hlow, hb3⟩
  rw [List.length_map, HL.out] at hlow
  have hsz3 : w.heap.size + 2 ≤ w3.heap.size := by have := hb3.size; have := HSZ2.out; omega
  have hN3 := HN.out.on hb3
  have hAB : ∀ a, lo = some a → 0 < nl → a.block ≠ w.heap.size + 1 := by
    intro a ha h0
    subst ha
    exact row_not hlow.row hN3 h0 (fun v hv j => by
      obtain ⟨s, _, rfl⟩ := List.mem_map.1 hv
      match j with
      | 0 => simp
      | 1 => simp
      | j + 2 => simp)
  have HS := Lib.hid (show SideB w3.heap.size (w.heap.size + 1) (Lib.byteCells (nameK (f.name.take 0))) w3 from ⟨by omega, Nat.le_refl _, _, _, .inl rfl, hN3, by simpa [nameK, Lib.byteCells] using World.ownsRow_nil _ _ _ _⟩)
  have HA3 := Lib.hid (HA.out.on hb3)
  have HB3 := Lib.hid (below_on HB2.out hb3 (Nat.le_refl _))
  have HLO := Lib.hid hlow
  have HAB := Lib.hid hAB
  have HS3 := Lib.hid hsz3
  have hlc := hlow.row.hle
  have hlm := hlow.row.hcap
  clear hb3 hlow hAB hN3 hsz3 HLW HA HN HB2 HSZ2
  rw [List.length_map, HL.out]
  go_wp2_with fail
  go_loopw [10, 5] (fun i _ wr => ∃ k : Nat, k ≤ nl ∧ i = .int .i64 k ∧ Hid (SideB w3.heap.size (w.heap.size + 1) (Lib.byteCells (nameK (f.name.take k))) wr ∧ Besd w3.heap.size (w.heap.size + 1) w3 wr)) (fun i _ _ => nl - (intOf i).toNat)
  case atStart => exact ⟨0, Nat.zero_le _, rfl, HS.out, Besd.refl _ _ _⟩
  case round =>
    obtain ⟨k, hk, rfl, hinv⟩ := hrel
    clear HS
    by_cases hlt : k < nl
    · obtain ⟨b, off, rfl⟩ := HLO.out.row.addr hlt
      have hlow := HLO.out.keep (S := fun x => x < w3.heap.size ∧ x ≠ w.heap.size + 1) (w' := wr) (fun h0 a ha => ⟨HLO.out.row.mem_lt h0 a ha, HAB.out a ha h0⟩) (fun x hx hS => hinv.out.2.kept x hS.1 hS.2)
      have hc := hlow.at hlt
      rw [List.getElem_map] at hc
      have hkn : k < f.name.length := by have := HL.out; omega
      have hmem : f.name[k] ∈ f.name := List.getElem_mem hkn
      have hsm := small_mem_size hmem
      have hbl : (Lib.byteCells (nameK (f.name.take k))).length ≤ 1099511627776 := by
        rw [Lib.byteCells_length, nameK_len]
        exact Nat.le_trans (sizeN_take_le _ _) HZ.out
      have hsn := nameK_snoc f.name k hkn
      obtain ⟨s, hsk⟩ : ∃ s, s = f.name[k] := ⟨_, rfl⟩
      rw [← hsk] at hc hsm hsn
      have hss := small_size s
      have hsmall : s.size ≤ 1099511627776 := by have := HZ.out; omega
      obtain ⟨z, hzk⟩ : ∃ z, z = small s := ⟨_, rfl⟩
      rw [← hzk] at hc hss
      have HSN := Lib.hid hsn
      have HZK := Lib.hid hzk
      have HSS := Lib.hid hss
      have hzs : z.size ≤ 1099511627776 := by omega
      have HBL := Lib.hid hbl
      have HWB := Lib.hid (byte_of_nat z.size)
      clear hlow hmem hsm hsn hsk hss hzk hbl hkn
      obtain ⟨Y, hY⟩ : ∃ Y, Y = (UInt8.ofNat (z.size % 256)).toNat := ⟨_, rfl⟩
      have HY := Lib.hid hY
      have hwr : IntKind.u8.wrap (z.size : Int) = (Y : Int) := by rw [HWB.out, hY]
      clear hY
      have HW1 := Lib.hid (writeByte_side w3.heap.size (w.heap.size + 1) _ (Y : Int) wr hinv.out.1 (by have := HBL.out; omega))
      go_wp2_with fail
      refine HW1.out.mono ?_
      rintro e w4 ⟨rfl, hS4, hB4⟩
      have HW2 := Lib.hid (writeString_side w3.heap.size (w.heap.size + 1) _ z w4 hS4 (by have := HBL.out; simp; omega))
      have HB4 := Lib.hid (hinv.out.2.trans hB4)
      clear HW1 hS4 hB4
      go_wp2_with fail
      refine HW2.out.mono ?_
      rintro e w5 ⟨rfl, hS5, hB5⟩
      have HS5 := Lib.hid hS5
      have HB5 := Lib.hid (HB4.out.trans hB5)
      clear HW2 hS5 hB5 HB4 hc hwr
      go_wp2_with fail
      go_roundw
      case rel =>
        refine ⟨k + 1, by omega, by go_num, ?_, HB5.out⟩
        have h5 := HS5.out
        rw [HSN.out, labelK, ← byteCells_append]
        rw [show (Lib.byteCells (UInt8.ofNat (s.size % 256) :: (small s).data.toList)) = [.int .u8 (Y : Int)] ++ Lib.strCells z by rw [HY.out, strCells_bytes, HZK.out, ← HSS.out]; simp [Lib.byteCells]; rw [← HZK.out], ← List.append_assoc]
        exact h5
      case measure => simp [intOf]; omega
    · obtain rfl : k = nl := by omega
      have hkt : f.name.take k = f.name := List.take_of_length_le (by have := HL.out; omega)
      have hinv2 := hinv.out
      rw [hkt] at hinv2
      have HI := Lib.hid hinv2
      have hA4 : Blk wr w.heap.size _ _ := (hinv2.2.kept w.heap.size (by have := HS3.out; omega) (by omega)).trans HA3.out
      have a1 := hA4.cell 1
      simp at a1
      have hrow : Byts (wr.alloc (.cells #[.int .u8 0, .int .u8 (f.typ / 256 % 256), .int .u8 (f.typ % 256)] 5)) (some ⟨wr.heap.size, 0, none⟩) 3 3 [0, byteZ (f.typ / 256), byteZ f.typ] := by
        have := row_new wr #[.int .u8 0, .int .u8 (f.typ / 256 % 256), .int .u8 (f.typ % 256)] 5 (by simp)
        simpa [Byts, byteZ_nat] using this
      have hba : Below wr.heap.size wr (wr.alloc (.cells #[.int .u8 0, .int .u8 (f.typ / 256 % 256), .int .u8 (f.typ % 256)] 5)) := (Below.refl _ _).alloc (Nat.le_refl _) _
      have HW := Lib.hid (bwrite_side _ _ _ _ _ _ _ _ (hinv2.1.on hba) hrow (fun a ha => by
        cases ha
        have := hinv2.1.lt
        have := hinv2.1.le
        simp only
        omega) (by
        rw [Lib.byteCells_length, nameK_len]
        have := HZ.out
        omega))
      have HBA := Lib.hid hba
      clear hinv hinv2 hA4 hrow hba
      go_wp2_with fail
      refine HW.out.mono ?_
      rintro e w5 ⟨rfl, hS5, hB5⟩
      rw [byteCells_append] at hS5
      have hsz5 : w.heap.size + 1 ≤ w5.heap.size := by
        have := hS5.le
        have := hS5.lt
        omega
      have HST := Lib.hid (Tryz.Builder_String_any (w.heap.size + 1) (w.heap.size + 1) _ w5 hS5.is hsz5)
      have HB5 := Lib.hid hB5
      clear hS5 hB5 HW hsz5
      go_wp2_with fail
      refine HST.out.mono ?_
      rintro e w6 ⟨rfl, hB6⟩
      go_wp2_with fail
      go_ret
      refine ⟨rfl, ?_⟩
      have h1 : Below w.heap.size wr w5 := (((Below.refl w.heap.size wr).alloc (by have := HI.out.1.le; have := HI.out.1.lt; omega) _)).trans (HB5.out.bel.mono (by omega))
      exact ((HB3.out.trans (HI.out.2.bel.mono (by omega))).trans h1).trans (hB6.mono (by omega))
end Go.Proofs.YtgfibbjifbghdaaGreat

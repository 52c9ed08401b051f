/- A record's data: opened, its checks and their contracts. -/
import Derived.Test.YtipbakdodbmfjaaGreatDoorOpenAct
import Derived.Test.YtipbakdodbmfjaaGreatDoorActs
namespace Go.Proofs.YtipbakdodbmfjaaGreatDoor
section
open Go.ChangeShapes Go.WideShapes Go.ChangeAt Go.RowKit

structure DataP where
  bytes : List UInt8
  host : List ByteArray
  mail : List ByteArray
  nums : List Int
  texts : List ByteArray
structure DataH where
  ba : Option Addr
  bl : Nat
  bc : Nat
  ha : Option Addr
  hl : Nat
  hc : Nat
  ma : Option Addr
  ml : Nat
  mc : Nat
  na : Option Addr
  nl : Nat
  nc : Nat
  ta : Option Addr
  tl : Nat
  tc : Nat
def dataC (h : DataH) : Array Value := #[.slice h.ba h.bl h.bc, .slice h.ha h.hl h.hc, .slice h.ma h.ml h.mc, .slice h.na h.nl h.nc, .slice h.ta h.tl h.tc]
abbrev Nums (w : World) (ao : Option Addr) (n c : Nat) (l : List Int) : Prop := Row w ao n c (l.map (Value.int .i64))
structure IsData (w : World) (h : DataH) (d : DataP) : Prop where
  bytes : Byts w h.ba h.bl h.bc d.bytes
  host : Strs w h.ha h.hl h.hc d.host
  mail : Strs w h.ma h.ml h.mc d.mail
  nums : Nums w h.na h.nl h.nc d.nums
  texts : Strs w h.ta h.tl h.tc d.texts
  fits : ∀ n ∈ d.nums, wfi n
theorem IsData.on {w w' : World} {h : DataH} {d : DataP} (hd : IsData w h d) (hb : Below w.heap.size w w') : IsData w' h d :=
  ⟨hd.bytes.below hb (Nat.le_refl _), hd.host.below hb (Nat.le_refl _), hd.mail.below hb (Nat.le_refl _), hd.nums.below hb (Nat.le_refl _), hd.texts.below hb (Nat.le_refl _), hd.fits⟩
structure DataLen (h : DataH) (d : DataP) : Prop where
  bytes : d.bytes.length = h.bl
  host : d.host.length = h.hl
  mail : d.mail.length = h.ml
  nums : d.nums.length = h.nl
  texts : d.texts.length = h.tl
theorem IsData.len {w : World} {h : DataH} {d : DataP} (hd : IsData w h d) : DataLen h d :=
  ⟨by simpa using hd.bytes.hlen, hd.host.len, hd.mail.len, by simpa using hd.nums.hlen, hd.texts.len⟩

theorem cellsNums : Tryz.prog.cellsOf 31 = 1 := by kernel_rfl
theorem open_nums_cell {H : Type} {enc : TypeId × Value → H} {W : World} {fuel : Nat} {c : Value} {y : DataW H × List MemPlace} (h : DataW.trod enc Tryz.prog W 0 (fun _ => true) true fuel 31 [c] = some y)
    (hsz : (y.1.weights Tryz.prog 31).all (· ≤ reachBytes) = true) : ∃ ao n k l, c = .slice ao n k ∧ Nums W ao n k l ∧ ∀ x ∈ l, wfi x := by
  obtain ⟨a, n, k, rfl⟩ := slice_of Tryz.underlying31 h
  obtain ⟨ao, n2, k2, zs, e, hs, hw, _⟩ := open_ints_arg (bytes := 8) (ts := [31]) (ds := [y.1]) (j := 0) Tryz.underlying31 Tryz.underlying3 (by kernel_rfl) (by kernel_rfl) (by decide) (show DataW.Trod enc Tryz.prog W 0 (fun _ => true) true 31 (.slice a n k) y.1 y.2 from ⟨fuel, by simpa [Value.cells] using h⟩) (by simpa [DataW.weightsEach] using hsz) rfl rfl ⟨_, _, _, rfl⟩
  exact ⟨_, _, _, zs, e, hs, fun x hx => bounds_i64 (hw x hx)⟩
theorem cellsData : Tryz.prog.cellsOf 33 = 5 := by kernel_rfl
set_option maxRecDepth 100000 in
theorem open_data {H : Type} {enc : TypeId × Value → H} {W : World} {fuel : Nat} {cs : List Value} {x : DataW H × List MemPlace} (h : DataW.trod enc Tryz.prog W 0 (fun _ => true) true fuel 33 cs = some x)
    (hsz : (x.1.weights Tryz.prog 33).all (· ≤ reachBytes) = true) :
    ∃ (d : DataP) (k : DataH), cs = (dataC k).toList ∧ IsData W k d := by
  obtain ⟨xs, n, rfl, rfl, hl, hx, hf⟩ := DataW.trod_struct Tryz.underlying33 h
  rw [cellsData] at hl
  match cs, hl, xs, hx with
  | [c0, c1, c2, c3, c4], _, [y0, y1, y2, y3, y4], _ =>
    have g0 := hf 0 _ rfl
    have g1 := hf 1 _ rfl
    have g2 := hf 2 _ rfl
    have g3 := hf 3 _ rfl
    have g4 := hf 4 _ rfl
    simp [cellsStrs, cellsByts, cellsNums] at g0 g1 g2 g3 g4
    simp only [DataW.weights, Tryz.underlying33, List.map_cons, List.map_nil, DataW.weightsEach, List.append_nil, List.all_append, Bool.and_eq_true] at hsz
    obtain ⟨ba, bl, bc, l0, rfl, h0⟩ := open_byts_cell g0 hsz.1
    obtain ⟨ha, hl, hc, l1, rfl, h1⟩ := open_strs_cell g1 hsz.2.1
    obtain ⟨ma, ml, mc, l2, rfl, h2⟩ := open_strs_cell g2 hsz.2.2.1
    obtain ⟨na, nl, nc, l3, rfl, h3, h3'⟩ := open_nums_cell g3 hsz.2.2.2.1
    obtain ⟨ta, tl, tc, l4, rfl, h4⟩ := open_strs_cell g4 hsz.2.2.2.2
    exact ⟨⟨l0, l1, l2, l3, l4⟩, ⟨ba, bl, bc, ha, hl, hc, ma, ml, mc, na, nl, nc, ta, tl, tc⟩, rfl, ⟨h0, h1, h2, h3, h4, h3'⟩⟩
set_option maxRecDepth 100000 in
theorem open_data_arg {H : Type} {enc : TypeId × Value → H} {W : World} {base : Nat} {v : Value} {d : DataW H} {ps : List MemPlace} (hk : Value.okWide Tryz.prog W .any base 33 v)
    (h : DataW.Trod enc Tryz.prog W 0 (fun _ => true) true 33 v d ps) (hsz : (d.weights Tryz.prog 33).all (· ≤ reachBytes) = true) :
    ∃ (x : DataP) (k : DataH), v = .agg (dataC k) ∧ IsData W k x := by
  obtain ⟨cs, rfl, _⟩ := okWide_struct Tryz.underlying33 hk
  obtain ⟨fuel, hf⟩ := h
  obtain ⟨x, k, e, h1⟩ := open_data (x := (d, ps)) (cs := cs.toList) (by simpa [Value.cells] using hf) hsz
  exact ⟨x, k, by rw [Array.toList_inj.1 e], h1⟩

def lightB (d : DataP) : Bool := d.texts.all (fun s => decide (s.size ≤ 300)) && (decide (d.bytes.length ≤ 3000) && (decide (d.host.length ≤ 130) && (decide (d.mail.length ≤ 130) && (decide (d.texts.length ≤ 70) && decide (d.nums.length ≤ 70)))))
structure LightData (d : DataP) : Prop where
  text : ∀ s ∈ d.texts, s.size ≤ 300
  bytes : d.bytes.length ≤ 3000
  host : d.host.length ≤ 130
  mail : d.mail.length ≤ 130
  texts : d.texts.length ≤ 70
  nums : d.nums.length ≤ 70
theorem light_data {d : DataP} (h : lightB d = true) : LightData d := by
  simp only [lightB, Bool.and_eq_true, decide_eq_true_eq, List.all_eq_true] at h
  exact ⟨h.1, h.2.1, h.2.2.1, h.2.2.2.1, h.2.2.2.2.1, h.2.2.2.2.2⟩
set_option maxHeartbeats 2000000 in
set_option maxRecDepth 100000 in
theorem light_any (w : World) (h : DataH) (d : DataP) (hd : IsData w h d) :
    Calls Tryz.prog 18 #[.agg (dataC h)] w fun e w' => e = .returned (.bool (lightB d)) ∧ Below w.heap.size w w' := by
  have hlen := hd.len
  have hB : Blk (w.alloc (.cells (dataC h) 33)) w.heap.size (dataC h) 33 := heap_alloc_new w _
  have hb1 : Below w.heap.size w (w.alloc (.cells (dataC h) 33)) := (Below.refl _ _).alloc (Nat.le_refl _) _
  have hT := hd.texts.below hb1 (Nat.le_refl _)
  obtain ⟨ba, bl, bc, ha, hl, hc, ma, ml, mc, na, nl, nc, ta, tl, tc⟩ := h
  obtain ⟨e0, e1, e2, e3, e4⟩ := hlen
  simp only [dataC] at *
  have c0 := hB.cell 0
  have c1 := hB.cell 1
  have c2 := hB.cell 2
  have c3 := hB.cell 3
  have c4 := hB.cell 4
  simp at c0 c1 c2 c3 c4
  have hcap := hT.row.hcap
  have hle := hT.row.hle
  have HB1 := Lib.hid hb1
  have HE := Lib.hid (And.intro e0 (And.intro e1 (And.intro e2 e3)))
  clear hb1 hB hd e0 e1 e2 e3
  go_enter Tryz.func18, Tryz.ntmps18
  go_wp2
  go_loop [3] (fun i => ∃ k : Nat, k ≤ tl ∧ i = .int .i64 k ∧ Hid (∀ j (hj : j < d.texts.length), j < k → (d.texts[j]).size ≤ 300)) (fun i => tl - (intOf i).toNat)
  case atStart => exact ⟨0, Nat.zero_le _, rfl, fun j hj h => absurd h (by omega)⟩
  case round =>
    obtain ⟨k, hk, rfl, hno⟩ := hrel
    by_cases hlt : k < tl
    · obtain ⟨b, off, rfl⟩ := hT.row.addr hlt
      have hc := hT.at hlt
      have h3 := hT.get_small (i := k) (by omega)
      obtain ⟨s, hsk⟩ : ∃ s, s = d.texts[k] := ⟨_, rfl⟩
      rw [← hsk] at hc h3
      have HK := Lib.hid hsk
      clear hsk
      by_cases hs : s.size ≤ 300
      · have HS := Lib.hid hs
        have d1 : decide ((300 : Int) < (s.size : Int)) = false := by rw [decide_eq_false_iff_not]; omega
        clear hs
        go_wp2
        go_round
        case rel =>
          refine ⟨k + 1, by omega, by go_num, fun j hj h => ?_⟩
          rcases Nat.lt_succ_iff_lt_or_eq.1 h with h | rfl
          · exact hno.out j hj h
          · rw [← HK.out]; exact HS.out
        case measure => simp [intOf]; omega
      · have HS := Lib.hid hs
        have d1 : decide ((300 : Int) < (s.size : Int)) = true := by rw [decide_eq_true_eq]; omega
        clear hs
        go_wp2
        go_ret
        refine ⟨ret_bool ?_, HB1.out⟩
        symm
        rw [lightB, Bool.and_eq_false_iff]
        left
        rw [List.all_eq_false]
        exact ⟨s, by rw [HK.out]; exact List.getElem_mem _, by simpa using HS.out⟩
    · have HA : Hid (d.texts.all (fun s => decide (s.size ≤ 300)) = true) := by
        rw [Hid, List.all_eq_true]
        intro s hs
        obtain ⟨j, hj, rfl⟩ := List.getElem_of_mem hs
        simpa using hno.out j hj (by omega)
      clear hno
      go_wp2
      all_goals
        go_ret
        refine ⟨ret_bool ?_, HB1.out⟩
        obtain ⟨e0, e1, e2, e3⟩ := HE.out
        simp only [lightB, HA.out, e0, e1, e2, e3, e4, Bool.true_and]
        rw [Bool.eq_iff_iff]
        simp only [Bool.and_eq_true, decide_eq_true_eq, Bool.false_eq_true, false_iff]
        omega
end
section
open Go.ChangeShapes Go.WideShapes Go.ChangeAt Go.RowKit

def fitsB (n : Int) (size : Nat) : Bool := decide (0 ≤ n) && decide (n < (256 : Int) ^ size)
def fitB (l : List Int) (count size : Nat) : Bool := decide (l.length = count) && l.all fun n => fitsB n size
def emptyB (d : DataP) (b h m n t : Bool) : Bool :=
  (b || decide (d.bytes.length = 0)) && ((h || decide (d.host.length = 0)) && ((m || decide (d.mail.length = 0)) && ((n || decide (d.nums.length = 0)) && (t || decide (d.texts.length = 0)))))

theorem nfits2 (w : World) (n : Int) (hw : wfi n) : Calls Tryz.prog 86 #[.int .i64 n, .int .i64 2] w fun e w' => e = .returned (.bool (fitsB n 2)) ∧ w = w' := by
  by_cases h0 : 0 ≤ n
  · have d0 : decide (0 ≤ n) = true := decide_eq_true h0
    have HQ := Lib.hid (show (n / 65536 == 0) = decide (n < 65536) from by
      rw [Bool.eq_iff_iff, decide_eq_true_eq, beq_iff_eq]; omega)
    go_enter Tryz.func86, Tryz.ntmps86
    go_wp2
    go_ret
    refine ⟨ret_bool ?_, rfl⟩
    simp [fitsB, d0, HQ.out]
  · have d0 : decide (0 ≤ n) = false := decide_eq_false h0
    go_enter Tryz.func86, Tryz.ntmps86
    go_wp2
    go_ret
    exact ⟨ret_bool (by simp [fitsB, d0]), rfl⟩
theorem nfits4 (w : World) (n : Int) (hw : wfi n) : Calls Tryz.prog 86 #[.int .i64 n, .int .i64 4] w fun e w' => e = .returned (.bool (fitsB n 4)) ∧ w = w' := by
  by_cases h0 : 0 ≤ n
  · have d0 : decide (0 ≤ n) = true := decide_eq_true h0
    have HQ := Lib.hid (show (n / 4294967296 == 0) = decide (n < 4294967296) from by
      rw [Bool.eq_iff_iff, decide_eq_true_eq, beq_iff_eq]; omega)
    go_enter Tryz.func86, Tryz.ntmps86
    go_wp2
    go_ret
    refine ⟨ret_bool ?_, rfl⟩
    simp [fitsB, d0, HQ.out]
  · have d0 : decide (0 ≤ n) = false := decide_eq_false h0
    go_enter Tryz.func86, Tryz.ntmps86
    go_wp2
    go_ret
    exact ⟨ret_bool (by simp [fitsB, d0]), rfl⟩
theorem div_fits (n : Int) (h0 : 0 ≤ n) : ∀ size : Nat, (n / (256 : Int) ^ size == 0) = decide (n < (256 : Int) ^ size) := fun size => by
  have hp : (0 : Int) < (256 : Int) ^ size := Int.pow_pos (by omega)
  rw [Bool.eq_iff_iff, decide_eq_true_eq, beq_iff_eq]
  constructor
  · intro h
    have h1 := Int.emod_add_mul_ediv n ((256 : Int) ^ size)
    have h2 := Int.emod_lt_of_pos n hp
    rw [h, Int.mul_zero, Int.add_zero] at h1
    omega
  · intro h
    exact Int.ediv_eq_zero_of_lt h0 h
theorem rfits_any (w : World) (n : Int) (size : Nat) (hs1 : 1 ≤ size) (hs7 : size ≤ 7) (hw : wfi n) : Calls Tryz.prog 93 #[.int .i64 n, .int .i64 (size : Int)] w fun e w' => e = .returned (.bool (fitsB n size)) ∧ w = w' := by
  have d1 : decide ((size : Int) < 1) = false := by rw [decide_eq_false_iff_not]; omega
  have d2 : decide ((7 : Int) < (size : Int)) = false := by rw [decide_eq_false_iff_not]; omega
  by_cases h0 : 0 ≤ n
  · have d0 : decide (n < 0) = false := by rw [decide_eq_false_iff_not]; omega
    have HN := Lib.hid h0
    have HW := Lib.hid hw
    clear h0 hw
    go_enter Tryz.func93, Tryz.ntmps93
    go_wp2
    go_loop [0, 5] (fun nv i => ∃ k : Nat, k ≤ size ∧ i = .int .i64 k ∧ nv = .int .i64 (n / (256 : Int) ^ k)) (fun _ i => size - (intOf i).toNat)
    case atStart => exact ⟨0, Nat.zero_le _, rfl, by simp⟩
    case round =>
      obtain ⟨k, hk, rfl, rfl⟩ := hrel
      by_cases hlt : k < size
      · have hstep : Hid ((n / (256 : Int) ^ k) / 256 = n / (256 : Int) ^ (k + 1)) := by
          rw [Hid, Int.ediv_ediv_of_nonneg (by exact Int.pow_nonneg (by omega)), Int.pow_succ]
        have hpos : Hid (0 ≤ n / (256 : Int) ^ k) := Int.ediv_nonneg HN.out (Int.pow_nonneg (by omega))
        have hle : Hid (n / (256 : Int) ^ k ≤ n) := Int.ediv_le_self _ HN.out
        have hq : Hid ((n / (256 : Int) ^ k).tdiv 256 = n / (256 : Int) ^ (k + 1)) := by
          rw [Hid, Int.tdiv_eq_ediv_of_nonneg hpos.out]; exact hstep.out
        obtain ⟨q, hqe⟩ : ∃ q, q = n / (256 : Int) ^ k := ⟨_, rfl⟩
        rw [← hqe] at hpos hle hq ⊢
        have q0 := hpos.out
        have q1 : q ≤ 9223372036854775807 := by have := hle.out; have := HW.out.2; omega
        clear hqe
        go_wp2
        go_round
        case rel => exact ⟨k + 1, by omega, by go_num, by rw [← hq.out, Int.tdiv_eq_ediv_of_nonneg q0]⟩
        case measure => simp [intOf]; omega
      · obtain rfl : k = size := by omega
        have HD := Lib.hid (div_fits n HN.out k)
        go_wp2
        go_ret
        refine ⟨ret_bool ?_, rfl⟩
        rw [HD.out]
        simp [fitsB, HN.out]
  · have d0 : decide (n < 0) = true := by rw [decide_eq_true_eq]; omega
    have d3 : decide (0 ≤ n) = false := by rw [decide_eq_false_iff_not]; omega
    go_enter Tryz.func93, Tryz.ntmps93
    go_wp2
    go_ret
    exact ⟨ret_bool (by simp [fitsB, d3]), rfl⟩
theorem fit_any (w : World) (ao : Option Addr) (len cap : Nat) (l : List Int) (hl : Nums w ao len cap l) (hf : ∀ n ∈ l, wfi n) (count size : Nat) (hs1 : 1 ≤ size) (hs7 : size ≤ 7) :
    Calls Tryz.prog 58 #[.slice ao len cap, .int .i64 (count : Int), .int .i64 (size : Int)] w fun e w' => e = .returned (.bool (fitB l count size)) ∧ w = w' := by
  have hlen : l.length = len := by simpa using hl.hlen
  have hcap := hl.hcap
  have hle := hl.hle
  by_cases hc : len = count
  · subst hc
    have HF := Lib.hid hf
    have HL := Lib.hid hlen
    clear hf hlen
    go_enter Tryz.func58, Tryz.ntmps58
    go_wp2
    go_loop [7] (fun i => ∃ k : Nat, k ≤ len ∧ i = .int .i64 k ∧ Hid (∀ j (hj : j < l.length), j < k → fitsB l[j] size = true)) (fun i => len - (intOf i).toNat)
    case atStart => exact ⟨0, Nat.zero_le _, rfl, fun j hj h => absurd h (by omega)⟩
    case round =>
      obtain ⟨k, hk, rfl, hno⟩ := hrel
      by_cases hlt : k < len
      · obtain ⟨b, off, rfl⟩ := hl.addr hlt
        have hc := hl.at hlt
        rw [List.getElem_map] at hc
        have hkl : k < l.length := by have := HL.out; omega
        have hw1 := HF.out _ (List.getElem_mem hkl)
        obtain ⟨z, hz⟩ : ∃ z, z = l[k] := ⟨_, rfl⟩
        rw [← hz] at hc hw1
        have HZ := Lib.hid hz
        have HC := Lib.hid (rfits_any w z size hs1 hs7 hw1)
        clear hz hw1
        cases hb : fitsB z size
        all_goals
          rw [hb] at HC
          have HB := Lib.hid hb
          clear hb
        · go_wp2_with fail
          refine HC.out.mono ?_
          rintro e w' ⟨rfl, rfl⟩
          go_wp2_with fail
          go_ret
          refine ⟨ret_bool ?_, rfl⟩
          symm
          rw [fitB, Bool.and_eq_false_iff]
          right
          rw [List.all_eq_false]
          exact ⟨z, by rw [HZ.out]; exact List.getElem_mem _, by simp [HB.out]⟩
        · go_wp2_with fail
          refine HC.out.mono ?_
          rintro e w' ⟨rfl, rfl⟩
          go_wp2_with fail
          go_round
          case rel =>
            refine ⟨k + 1, by omega, by go_num, fun j hj h => ?_⟩
            rcases Nat.lt_succ_iff_lt_or_eq.1 h with h | rfl
            · exact hno.out j hj h
            · rw [← HZ.out]; exact HB.out
          case measure => simp [intOf]; omega
      · go_wp2
        go_ret
        refine ⟨ret_bool ?_, rfl⟩
        symm
        rw [fitB, Bool.and_eq_true, decide_eq_true_eq, List.all_eq_true]
        refine ⟨HL.out, fun x hx => ?_⟩
        obtain ⟨j, hj, rfl⟩ := List.getElem_of_mem hx
        exact hno.out j hj (by have := HL.out; omega)
  · have d1 : ((len : Int) != (count : Int)) = true := by rw [bne_iff_ne]; omega
    go_enter Tryz.func58, Tryz.ntmps58
    go_wp2
    go_ret
    exact ⟨ret_bool (by simp [fitB, hlen, hc]), rfl⟩
set_option maxHeartbeats 4000000 in
set_option maxRecDepth 100000 in
theorem empty_any (w : World) (h : DataH) (d : DataP) (hd : DataLen h d) (b1 b2 b3 b4 b5 : Bool) :
    Calls Tryz.prog 57 #[.agg (dataC h), .bool b1, .bool b2, .bool b3, .bool b4, .bool b5] w fun e w' => e = .returned (.bool (emptyB d b1 b2 b3 b4 b5)) ∧ Below w.heap.size w w' := by
  have hB : Blk (w.alloc (.cells (dataC h) 33)) w.heap.size (dataC h) 33 := heap_alloc_new w _
  obtain ⟨ba, bl, bc, ha, hl, hc, ma, ml, mc, na, nl, nc, ta, tl, tc⟩ := h
  obtain ⟨e0, e1, e2, e3, e4⟩ := hd
  simp only [dataC] at *
  have c0 := hB.cell 0
  have c1 := hB.cell 1
  have c2 := hB.cell 2
  have c3 := hB.cell 3
  have c4 := hB.cell 4
  simp at c0 c1 c2 c3 c4
  have HE := Lib.hid (show ∀ x, x = emptyB d b1 b2 b3 b4 b5 → x = ((b1 || decide (bl = 0)) && ((b2 || decide (hl = 0)) && ((b3 || decide (ml = 0)) && ((b4 || decide (nl = 0)) && (b5 || decide (tl = 0)))))) from by
    rintro x rfl; simp only [emptyB, e0, e1, e2, e3, e4])
  obtain ⟨E, hE⟩ : ∃ x, x = emptyB d b1 b2 b3 b4 b5 := ⟨_, rfl⟩
  rw [← hE]
  have HE2 := Lib.hid (HE.out E hE)
  clear hB e0 e1 e2 e3 e4 hE HE
  go_enter Tryz.func57, Tryz.ntmps57
  go_wp2
  all_goals
    go_ret
    refine ⟨ret_bool ?_, (Below.refl _ _).alloc (Nat.le_refl _) _⟩
    rw [HE2.out]
    clear HE2
    simp_all
    try (rw [Bool.eq_iff_iff, beq_iff_eq, decide_eq_true_eq]; omega)
end
section
open Go.ChangeShapes Go.WideShapes Go.ChangeAt Go.RowKit

def dataB (k : Int) (d : DataP) : Bool :=
  if k < 1 ∨ 65535 < k then false
  else if k = 1 then decide (d.bytes.length = 4) && emptyB d true false false false false
  else if k = 28 then decide (d.bytes.length = 16) && emptyB d true false false false false
  else if k = 2 ∨ k = 5 ∨ k = 12 then soundB d.host && emptyB d false true false false false
  else if k = 15 then (soundB d.host && fitB d.nums 1 2) && emptyB d false true false true false
  else if k = 6 then ((soundB d.host && soundB d.mail) && fitB d.nums 5 4) && emptyB d false true true true false
  else if k = 33 then (soundB d.host && fitB d.nums 3 2) && emptyB d false true false true false
  else if k = 16 then (decide (1 ≤ d.texts.length) && (decide (d.texts.length ≤ 64) && emptyB d false false false false true)) && d.texts.all (fun s => decide (s.size ≤ 255))
  else decide (d.bytes.length ≤ 65535) && emptyB d true false false false false
theorem dataB_out {k : Int} {d : DataP} (h : k < 1 ∨ 65535 < k) : dataB k d = false := by rw [dataB, if_pos h]
theorem dataB_other {k : Int} {d : DataP} (h1 : 1 ≤ k) (h2 : k ≤ 65535) (h : k ≠ 1 ∧ k ≠ 28 ∧ k ≠ 2 ∧ k ≠ 5 ∧ k ≠ 12 ∧ k ≠ 15 ∧ k ≠ 6 ∧ k ≠ 33 ∧ k ≠ 16) : dataB k d = (decide (d.bytes.length ≤ 65535) && emptyB d true false false false false) := by
  obtain ⟨a1, a2, a3, a4, a5, a6, a7, a8, a9⟩ := h
  rw [dataB, if_neg (by omega), if_neg a1, if_neg a2, if_neg (by omega), if_neg a6, if_neg a7, if_neg a8, if_neg a9]
/-- which kinds there are -/
theorem kind_cases (k : Int) : (k < 1 ∨ 65535 < k) ∨ k = 1 ∨ k = 28 ∨ (k = 2 ∨ k = 5 ∨ k = 12) ∨ k = 15 ∨ k = 6 ∨ k = 33 ∨ k = 16 ∨ ((1 ≤ k ∧ k ≤ 65535) ∧ (k ≠ 1 ∧ k ≠ 28 ∧ k ≠ 2 ∧ k ≠ 5 ∧ k ≠ 12 ∧ k ≠ 15 ∧ k ≠ 6 ∧ k ≠ 33 ∧ k ≠ 16)) := by omega

set_option maxHeartbeats 8000000 in
set_option maxRecDepth 100000 in
theorem rdata_any (w : World) (k : Int) (h : DataH) (d : DataP) (hd : IsData w h d) :
    Calls Tryz.prog 24 #[.int .i64 k, .agg (dataC h)] w fun e w' => e = .returned (.bool (dataB k d)) ∧ Below w.heap.size w w' := by
  have hlen := hd.len
  have hB : Blk (w.alloc (.cells (dataC h) 33)) w.heap.size (dataC h) 33 := heap_alloc_new w _
  have hb1 : Below w.heap.size w (w.alloc (.cells (dataC h) 33)) := (Below.refl _ _).alloc (Nat.le_refl _) _
  have HEMP := Lib.hid (fun w' b1 b2 b3 b4 b5 => empty_any w' h d hlen b1 b2 b3 b4 b5)
  have hd1 := hd.on hb1
  have HBK := Lib.hid (show ∀ w', Below (w.heap.size + 1) (w.alloc (.cells (dataC h) 33)) w' → w'.cell? ⟨w.heap.size, 4, none⟩ = some (.slice h.ta h.tl h.tc) from fun w' hb => (cell_keep (hb.mono (by simp)) (hB.cell 4)))
  have HTX := Lib.hid (show ∀ w', Below (w.heap.size + 1) (w.alloc (.cells (dataC h) 33)) w' → Strs w' h.ta h.tl h.tc d.texts from fun w' hb => hd1.texts.below hb (by simp))
  have hs1 : (w.alloc (.cells (dataC h) 33)).heap.size = w.heap.size + 1 := by simp
  obtain ⟨ba, bl, bc, ha, hl, hc, ma, ml, mc, na, nl, nc, ta, tl, tc⟩ := h
  obtain ⟨e0, e1, e2, e3, e4⟩ := hlen
  simp only [dataC] at *
  have c0 := hB.cell 0
  have c1 := hB.cell 1
  have c2 := hB.cell 2
  have c3 := hB.cell 3
  have c4 := hB.cell 4
  simp at c0 c1 c2 c3 c4
  have HS1 := Lib.hid (rsound_any _ _ _ _ _ hd1.host)
  have HS2 := Lib.hid (rsound_any _ _ _ _ _ hd1.mail)
  have HF2 := Lib.hid (fun (count : Nat) => fit_any _ _ _ _ _ hd1.nums hd1.fits count 2 (by omega) (by omega))
  have HF4 := Lib.hid (fun (count : Nat) => fit_any _ _ _ _ _ hd1.nums hd1.fits count 4 (by omega) (by omega))
  have HB1 := Lib.hid hb1
  have HL := Lib.hid e4
  have HL0 := Lib.hid e0
  have HSZ := Lib.hid hs1
  have hcap := hd1.texts.row.hcap
  have hle := hd1.texts.row.hle
  clear hb1 hB hd hd1 e0 e1 e2 e3 e4 hs1
  rcases kind_cases k with hk | rfl | rfl | hk | rfl | rfl | rfl | rfl | ⟨⟨k1, k2⟩, hk⟩
  · rw [dataB_out hk]
    rcases hk with hk | hk
    all_goals
      go_enter Tryz.func24, Tryz.ntmps24
      go_wp2
      go_ret
      exact ⟨rfl, HB1.out⟩
  · obtain ⟨M, hM⟩ : ∃ M, M = emptyB d true false false false false := ⟨_, rfl⟩
    have HE : Hid (dataB 1 d = (decide (bl = 4) && M)) := by show dataB 1 d = _; rw [hM, ← HL0.out]; rfl
    have HEM := Lib.hid (fun w' => HEMP.out w' true false false false false)
    rw [← hM] at HEM
    rw [HE.out]
    clear hM HE HEMP
    by_cases hq : bl = 4
    · have g1 : ((bl : Int) == 4) = true := by rw [beq_iff_eq]; omega
      rw [decide_eq_true hq, Bool.true_and]
      clear hq
      go_enter Tryz.func24, Tryz.ntmps24
      go_wp2_with (go_at_call 57; refine (HEM.out _).mono ?_; rintro e w' ⟨rfl, hb2⟩)
      go_ret
      exact ⟨rfl, below_on HB1.out hb2 (Nat.le_refl _)⟩
    · have g1 : ((bl : Int) == 4) = false := by rw [beq_eq_false_iff_ne]; omega
      rw [decide_eq_false hq, Bool.false_and]
      clear hq
      go_enter Tryz.func24, Tryz.ntmps24
      go_wp2
      go_ret
      exact ⟨rfl, HB1.out⟩
  · obtain ⟨M, hM⟩ : ∃ M, M = emptyB d true false false false false := ⟨_, rfl⟩
    have HE : Hid (dataB 28 d = (decide (bl = 16) && M)) := by show dataB 28 d = _; rw [hM, ← HL0.out]; rfl
    have HEM := Lib.hid (fun w' => HEMP.out w' true false false false false)
    rw [← hM] at HEM
    rw [HE.out]
    clear hM HE HEMP
    by_cases hq : bl = 16
    · have g1 : ((bl : Int) == 16) = true := by rw [beq_iff_eq]; omega
      rw [decide_eq_true hq, Bool.true_and]
      clear hq
      go_enter Tryz.func24, Tryz.ntmps24
      go_wp2_with (go_at_call 57; refine (HEM.out _).mono ?_; rintro e w' ⟨rfl, hb2⟩)
      go_ret
      exact ⟨rfl, below_on HB1.out hb2 (Nat.le_refl _)⟩
    · have g1 : ((bl : Int) == 16) = false := by rw [beq_eq_false_iff_ne]; omega
      rw [decide_eq_false hq, Bool.false_and]
      clear hq
      go_enter Tryz.func24, Tryz.ntmps24
      go_wp2
      go_ret
      exact ⟨rfl, HB1.out⟩
  · obtain ⟨M, hM⟩ : ∃ M, M = emptyB d false true false false false := ⟨_, rfl⟩
    obtain ⟨S, hS⟩ : ∃ S, S = soundB d.host := ⟨_, rfl⟩
    have HE : Hid (dataB k d = (S && M)) := by show dataB k d = _; rw [hM, hS]; rcases hk with rfl | rfl | rfl <;> rfl
    have HEM := Lib.hid (fun w' => HEMP.out w' false true false false false)
    rw [← hM] at HEM
    rw [← hS] at HS1
    rw [HE.out]
    clear hM hS HE
    rcases hk with rfl | rfl | rfl
    all_goals
      go_enter Tryz.func24, Tryz.ntmps24
      go_wp2_with (first | (go_at_call 57; refine (HEM.out _).mono ?_; rintro e w' ⟨rfl, hb2⟩) | (go_at_call 23; refine HS1.out.mono ?_; rintro e w' ⟨rfl, rfl⟩))
    all_goals
      go_ret
      refine ⟨ret_bool ?_, by first | exact HB1.out | (refine below_on HB1.out ?_ (Nat.le_refl _); assumption)⟩
      simp_all
  · obtain ⟨M, hM⟩ : ∃ M, M = emptyB d false true false true false := ⟨_, rfl⟩
    obtain ⟨S, hS⟩ : ∃ S, S = soundB d.host := ⟨_, rfl⟩
    obtain ⟨F, hF⟩ : ∃ S, S = fitB d.nums 1 2 := ⟨_, rfl⟩
    have HE : Hid (dataB 15 d = ((S && F) && M)) := by show dataB 15 d = _; rw [hM, hS, hF]; rfl
    have HEM := Lib.hid (fun w' => HEMP.out w' false true false true false)
    have HF := Lib.hid (HF2.out 1)
    rw [← hM] at HEM
    rw [← hS] at HS1
    rw [← hF] at HF
    rw [HE.out]
    clear hM hS hF HE
    go_enter Tryz.func24, Tryz.ntmps24
    go_wp2_with (first | (go_at_call 57; refine (HEM.out _).mono ?_; rintro e w' ⟨rfl, hb2⟩) | (go_at_call 23; refine HS1.out.mono ?_; rintro e w' ⟨rfl, rfl⟩) | (go_at_call 58; refine HF.out.mono ?_; rintro e w' ⟨rfl, rfl⟩))
    all_goals
      go_ret
      refine ⟨ret_bool ?_, by first | exact HB1.out | (refine below_on HB1.out ?_ (Nat.le_refl _); assumption)⟩
      simp_all
  · obtain ⟨M, hM⟩ : ∃ M, M = emptyB d false true true true false := ⟨_, rfl⟩
    obtain ⟨S, hS⟩ : ∃ S, S = soundB d.host := ⟨_, rfl⟩
    obtain ⟨S2, hS2⟩ : ∃ S, S = soundB d.mail := ⟨_, rfl⟩
    obtain ⟨F, hF⟩ : ∃ S, S = fitB d.nums 5 4 := ⟨_, rfl⟩
    have HE : Hid (dataB 6 d = (((S && S2) && F) && M)) := by show dataB 6 d = _; rw [hM, hS, hS2, hF]; rfl
    have HEM := Lib.hid (fun w' => HEMP.out w' false true true true false)
    have HF := Lib.hid (HF4.out 5)
    rw [← hM] at HEM
    rw [← hS] at HS1
    rw [← hS2] at HS2
    rw [← hF] at HF
    rw [HE.out]
    clear hM hS hS2 hF HE HEMP HF2 HF4
    go_enter Tryz.func24, Tryz.ntmps24
    go_wp2_with fail
    refine HS1.out.mono ?_
    rintro e w' ⟨rfl, rfl⟩
    cases S
    · go_wp2_with fail
      go_ret
      exact ⟨rfl, HB1.out⟩
    go_wp2_with fail
    refine HS2.out.mono ?_
    rintro e w' ⟨rfl, rfl⟩
    cases S2
    · go_wp2_with fail
      go_ret
      exact ⟨rfl, HB1.out⟩
    go_wp2_with fail
    refine HF.out.mono ?_
    rintro e w' ⟨rfl, rfl⟩
    cases F
    · go_wp2_with fail
      go_ret
      exact ⟨rfl, HB1.out⟩
    go_wp2_with fail
    refine (HEM.out _).mono ?_
    rintro e w' ⟨rfl, hb2⟩
    go_wp2_with fail
    go_ret
    exact ⟨rfl, below_on HB1.out hb2 (Nat.le_refl _)⟩
  · obtain ⟨M, hM⟩ : ∃ M, M = emptyB d false true false true false := ⟨_, rfl⟩
    obtain ⟨S, hS⟩ : ∃ S, S = soundB d.host := ⟨_, rfl⟩
    obtain ⟨F, hF⟩ : ∃ S, S = fitB d.nums 3 2 := ⟨_, rfl⟩
    have HE : Hid (dataB 33 d = ((S && F) && M)) := by show dataB 33 d = _; rw [hM, hS, hF]; rfl
    have HEM := Lib.hid (fun w' => HEMP.out w' false true false true false)
    have HF := Lib.hid (HF2.out 3)
    rw [← hM] at HEM
    rw [← hS] at HS1
    rw [← hF] at HF
    rw [HE.out]
    clear hM hS hF HE
    go_enter Tryz.func24, Tryz.ntmps24
    go_wp2_with (first | (go_at_call 57; refine (HEM.out _).mono ?_; rintro e w' ⟨rfl, hb2⟩) | (go_at_call 23; refine HS1.out.mono ?_; rintro e w' ⟨rfl, rfl⟩) | (go_at_call 58; refine HF.out.mono ?_; rintro e w' ⟨rfl, rfl⟩))
    all_goals
      go_ret
      refine ⟨ret_bool ?_, by first | exact HB1.out | (refine below_on HB1.out ?_ (Nat.le_refl _); assumption)⟩
      simp_all
  · obtain ⟨M, hM⟩ : ∃ M, M = emptyB d false false false false true := ⟨_, rfl⟩
    have HE : Hid (dataB 16 d = ((decide (1 ≤ tl) && (decide (tl ≤ 64) && M)) && d.texts.all (fun s => decide (s.size ≤ 255)))) := by show dataB 16 d = _; rw [hM, ← HL.out]; rfl
    have HEM := Lib.hid (fun w' => HEMP.out w' false false false false true)
    rw [← hM] at HEM
    rw [HE.out]
    clear hM HE HEMP HF2 HF4 HS1 HS2
    by_cases h1 : 1 ≤ tl
    case neg =>
      have g1 : decide ((tl : Int) < 1) = true := by rw [decide_eq_true_eq]; omega
      rw [decide_eq_false h1, Bool.false_and, Bool.false_and]
      clear h1
      go_enter Tryz.func24, Tryz.ntmps24
      go_wp2
      go_ret
      exact ⟨rfl, HB1.out⟩
    by_cases h2 : tl ≤ 64
    case neg =>
      have g1 : decide ((tl : Int) < 1) = false := by rw [decide_eq_false_iff_not]; omega
      have g2 : decide ((64 : Int) < (tl : Int)) = true := by rw [decide_eq_true_eq]; omega
      rw [decide_eq_false h2, Bool.false_and, Bool.and_false, Bool.false_and]
      clear h1 h2
      go_enter Tryz.func24, Tryz.ntmps24
      go_wp2
      go_ret
      exact ⟨rfl, HB1.out⟩
    have g1 : decide ((tl : Int) < 1) = false := by rw [decide_eq_false_iff_not]; omega
    have g2 : decide ((64 : Int) < (tl : Int)) = false := by rw [decide_eq_false_iff_not]; omega
    rw [decide_eq_true h1, decide_eq_true h2, Bool.true_and, Bool.true_and]
    go_enter Tryz.func24, Tryz.ntmps24
    go_wp2_with fail
    refine (HEM.out _).mono ?_
    rintro e w2 ⟨rfl, hb2⟩
    have hb2' : Below (w.heap.size + 1) (w.alloc (.cells #[.slice ba bl bc, .slice ha hl hc, .slice ma ml mc, .slice na nl nc, .slice ta tl tc] 33)) w2 := by rw [← HSZ.out]; exact hb2
    have t4 := HBK.out _ hb2'
    have hT := HTX.out _ hb2'
    have HB2 := Lib.hid (below_on HB1.out hb2 (Nat.le_refl _))
    clear hb2 hb2' HEM
    cases M
    · go_wp2_with fail
      go_ret
      exact ⟨rfl, HB2.out⟩
    go_wp2_with fail
    go_loop [5] (fun i => ∃ k : Nat, k ≤ tl ∧ i = .int .i64 k ∧ Hid (∀ j (hj : j < d.texts.length), j < k → (d.texts[j]).size ≤ 255)) (fun i => tl - (intOf i).toNat)
    case atStart => exact ⟨0, Nat.zero_le _, rfl, fun j hj h => absurd h (by omega)⟩
    case round =>
      obtain ⟨k, hk, rfl, hno⟩ := hrel
      by_cases hlt : k < tl
      · obtain ⟨b, off, rfl⟩ := hT.row.addr hlt
        have hc := hT.at hlt
        have h3 := hT.get_small (i := k) (by have := HL.out; omega)
        obtain ⟨s, hsk⟩ : ∃ s, s = d.texts[k]'(by have := HL.out; omega) := ⟨_, rfl⟩
        rw [← hsk] at hc h3
        have HK := Lib.hid hsk
        clear hsk
        by_cases hs : s.size ≤ 255
        · have HS := Lib.hid hs
          have d1 : decide ((255 : Int) < (s.size : Int)) = false := by rw [decide_eq_false_iff_not]; omega
          clear hs
          go_wp2_with fail
          go_round
          case rel =>
            refine ⟨k + 1, by omega, by go_num, fun j hj h => ?_⟩
            rcases Nat.lt_succ_iff_lt_or_eq.1 h with h | rfl
            · exact hno.out j hj h
            · rw [← HK.out]; exact HS.out
          case measure => simp [intOf]; omega
        · have HS := Lib.hid hs
          have d1 : decide ((255 : Int) < (s.size : Int)) = true := by rw [decide_eq_true_eq]; omega
          clear hs
          go_wp2_with fail
          go_ret
          refine ⟨ret_bool ?_, HB2.out⟩
          symm
          rw [List.all_eq_false]
          exact ⟨s, by rw [HK.out]; exact List.getElem_mem _, by simpa using HS.out⟩
      · have HA : Hid (d.texts.all (fun s => decide (s.size ≤ 255)) = true) := by
          rw [Hid, List.all_eq_true]
          intro s hs
          obtain ⟨j, hj, rfl⟩ := List.getElem_of_mem hs
          simpa using hno.out j hj (by have := HL.out; omega)
        clear hno
        go_wp2_with fail
        go_ret
        exact ⟨ret_bool HA.out.symm, HB2.out⟩
  · obtain ⟨M, hM⟩ : ∃ M, M = emptyB d true false false false false := ⟨_, rfl⟩
    have HE : Hid (dataB k d = (decide (bl ≤ 65535) && M)) := by show dataB k d = _; rw [dataB_other k1 k2 hk, hM, ← HL0.out]
    have HEM := Lib.hid (fun w' => HEMP.out w' true false false false false)
    rw [← hM] at HEM
    rw [HE.out]
    clear hM HE
    obtain ⟨a1, a2, a3, a4, a5, a6, a7, a8, a9⟩ := hk
    have g1 : (k == 1) = false := by rw [beq_eq_false_iff_ne]; exact a1
    have g2 : (k == 28) = false := by rw [beq_eq_false_iff_ne]; exact a2
    have g3 : (k == 2) = false := by rw [beq_eq_false_iff_ne]; exact a3
    have g4 : (k == 5) = false := by rw [beq_eq_false_iff_ne]; exact a4
    have g5 : (k == 12) = false := by rw [beq_eq_false_iff_ne]; exact a5
    have g6 : (k == 15) = false := by rw [beq_eq_false_iff_ne]; exact a6
    have g7 : (k == 6) = false := by rw [beq_eq_false_iff_ne]; exact a7
    have g8 : (k == 33) = false := by rw [beq_eq_false_iff_ne]; exact a8
    have g9 : (k == 16) = false := by rw [beq_eq_false_iff_ne]; exact a9
    clear a1 a2 a3 a4 a5 a6 a7 a8 a9
    go_enter Tryz.func24, Tryz.ntmps24
    go_wp2_with (go_at_call 57; refine (HEM.out _).mono ?_; rintro e w' ⟨rfl, hb2⟩)
    all_goals
      go_ret
      refine ⟨ret_bool ?_, by first | exact HB1.out | (refine below_on HB1.out ?_ (Nat.le_refl _); assumption)⟩
      simp_all
      try omega
end
section
open Go.ChangeShapes Go.WideShapes Go.ChangeAt Go.RowKit

def shapeC (b : Int) (host mail short : Bool) (nums size : Int) (texts first : Bool) : Array Value := #[.int .i64 b, .bool host, .bool mail, .bool short, .int .i64 nums, .int .i64 size, .bool texts, .bool first]
theorem shapes_results {tmps : Array Value} {w : World} {R : Nat} {b : Int} {host mail short : Bool} {nums size : Int} {texts first : Bool} (h2 : tmps[2]? = some (.pointer (some ⟨R, 0, none⟩))) (hB : Blk w R (shapeC b host mail short nums size texts first) 116) :
    (results Tryz.f83 tmps).run Tryz.prog w = .ok (.agg (shapeC b host mail short nums size texts first)) w := by
  have c0 := hB.cell 0
  have c1 := hB.cell 1
  have c2 := hB.cell 2
  have c3 := hB.cell 3
  have c4 := hB.cell 4
  have c5 := hB.cell 5
  have c6 := hB.cell 6
  have c7 := hB.cell 7
  simp [shapeC] at c0 c1 c2 c3 c4 c5 c6 c7
  simp [results, go_sem, h2, c0, c1, c2, c3, c4, c5, c6, c7, shapeC]
set_option maxHeartbeats 2000000 in
set_option maxRecDepth 100000 in
theorem shapes_a (w : World) : Calls Tryz.prog 83 #[.int .i64 1] w fun e w' => e = .returned (.agg (shapeC 4 false false false 0 0 false false)) ∧ Below w.heap.size w w' := by
  have hb : Below w.heap.size w (w.alloc (.cells (shapeC 4 false false false 0 0 false false) 116)) := (Below.refl _ _).alloc (Nat.le_refl _) _
  have hB : Blk (w.alloc (.cells (shapeC 4 false false false 0 0 false false) 116)) w.heap.size (shapeC 4 false false false 0 0 false false) 116 := heap_alloc_new w _
  go_enter Tryz.func83, Tryz.ntmps83
  go_wp2
  refine bodyPost_ret (v := .agg (shapeC 4 false false false 0 0 false false)) (shapes_results rfl hB) rfl ?_
  exact ⟨rfl, hb⟩
set_option maxHeartbeats 2000000 in
set_option maxRecDepth 100000 in
theorem shapes_aaaa (w : World) : Calls Tryz.prog 83 #[.int .i64 28] w fun e w' => e = .returned (.agg (shapeC 16 false false false 0 0 false false)) ∧ Below w.heap.size w w' := by
  have hb : Below w.heap.size w (w.alloc (.cells (shapeC 16 false false false 0 0 false false) 116)) := (Below.refl _ _).alloc (Nat.le_refl _) _
  have hB : Blk (w.alloc (.cells (shapeC 16 false false false 0 0 false false) 116)) w.heap.size (shapeC 16 false false false 0 0 false false) 116 := heap_alloc_new w _
  go_enter Tryz.func83, Tryz.ntmps83
  go_wp2
  refine bodyPost_ret (v := .agg (shapeC 16 false false false 0 0 false false)) (shapes_results rfl hB) rfl ?_
  exact ⟨rfl, hb⟩
set_option maxHeartbeats 2000000 in
set_option maxRecDepth 100000 in
theorem shapes_ns (w : World) (k : Int) (hk : k = 2 ∨ k = 5 ∨ k = 12) : Calls Tryz.prog 83 #[.int .i64 k] w fun e w' => e = .returned (.agg (shapeC 0 true false true 0 0 false false)) ∧ Below w.heap.size w w' := by
  have hb : Below w.heap.size w (w.alloc (.cells (shapeC 0 true false true 0 0 false false) 116)) := (Below.refl _ _).alloc (Nat.le_refl _) _
  have hB : Blk (w.alloc (.cells (shapeC 0 true false true 0 0 false false) 116)) w.heap.size (shapeC 0 true false true 0 0 false false) 116 := heap_alloc_new w _
  rcases hk with rfl | rfl | rfl
  all_goals
    go_enter Tryz.func83, Tryz.ntmps83
    go_wp2
    refine bodyPost_ret (v := .agg (shapeC 0 true false true 0 0 false false)) (shapes_results rfl hB) rfl ?_
    exact ⟨rfl, hb⟩
set_option maxHeartbeats 2000000 in
set_option maxRecDepth 100000 in
theorem shapes_mx (w : World) : Calls Tryz.prog 83 #[.int .i64 15] w fun e w' => e = .returned (.agg (shapeC 0 true false true 1 2 false true)) ∧ Below w.heap.size w w' := by
  have hb : Below w.heap.size w (w.alloc (.cells (shapeC 0 true false true 1 2 false true) 116)) := (Below.refl _ _).alloc (Nat.le_refl _) _
  have hB : Blk (w.alloc (.cells (shapeC 0 true false true 1 2 false true) 116)) w.heap.size (shapeC 0 true false true 1 2 false true) 116 := heap_alloc_new w _
  go_enter Tryz.func83, Tryz.ntmps83
  go_wp2
  refine bodyPost_ret (v := .agg (shapeC 0 true false true 1 2 false true)) (shapes_results rfl hB) rfl ?_
  exact ⟨rfl, hb⟩
set_option maxHeartbeats 2000000 in
set_option maxRecDepth 100000 in
theorem shapes_soa (w : World) : Calls Tryz.prog 83 #[.int .i64 6] w fun e w' => e = .returned (.agg (shapeC 0 true true true 5 4 false false)) ∧ Below w.heap.size w w' := by
  have hb : Below w.heap.size w (w.alloc (.cells (shapeC 0 true true true 5 4 false false) 116)) := (Below.refl _ _).alloc (Nat.le_refl _) _
  have hB : Blk (w.alloc (.cells (shapeC 0 true true true 5 4 false false) 116)) w.heap.size (shapeC 0 true true true 5 4 false false) 116 := heap_alloc_new w _
  go_enter Tryz.func83, Tryz.ntmps83
  go_wp2
  refine bodyPost_ret (v := .agg (shapeC 0 true true true 5 4 false false)) (shapes_results rfl hB) rfl ?_
  exact ⟨rfl, hb⟩
set_option maxHeartbeats 2000000 in
set_option maxRecDepth 100000 in
theorem shapes_srv (w : World) : Calls Tryz.prog 83 #[.int .i64 33] w fun e w' => e = .returned (.agg (shapeC 0 true false false 3 2 false true)) ∧ Below w.heap.size w w' := by
  have hb : Below w.heap.size w (w.alloc (.cells (shapeC 0 true false false 3 2 false true) 116)) := (Below.refl _ _).alloc (Nat.le_refl _) _
  have hB : Blk (w.alloc (.cells (shapeC 0 true false false 3 2 false true) 116)) w.heap.size (shapeC 0 true false false 3 2 false true) 116 := heap_alloc_new w _
  go_enter Tryz.func83, Tryz.ntmps83
  go_wp2
  refine bodyPost_ret (v := .agg (shapeC 0 true false false 3 2 false true)) (shapes_results rfl hB) rfl ?_
  exact ⟨rfl, hb⟩
set_option maxHeartbeats 2000000 in
set_option maxRecDepth 100000 in
theorem shapes_txt (w : World) : Calls Tryz.prog 83 #[.int .i64 16] w fun e w' => e = .returned (.agg (shapeC 0 false false false 0 0 true false)) ∧ Below w.heap.size w w' := by
  have hb : Below w.heap.size w (w.alloc (.cells (shapeC 0 false false false 0 0 true false) 116)) := (Below.refl _ _).alloc (Nat.le_refl _) _
  have hB : Blk (w.alloc (.cells (shapeC 0 false false false 0 0 true false) 116)) w.heap.size (shapeC 0 false false false 0 0 true false) 116 := heap_alloc_new w _
  go_enter Tryz.func83, Tryz.ntmps83
  go_wp2
  refine bodyPost_ret (v := .agg (shapeC 0 false false false 0 0 true false)) (shapes_results rfl hB) rfl ?_
  exact ⟨rfl, hb⟩
set_option maxHeartbeats 2000000 in
set_option maxRecDepth 100000 in
theorem shapes_other (w : World) (k : Int) (hk : k ≠ 1 ∧ k ≠ 28 ∧ k ≠ 2 ∧ k ≠ 5 ∧ k ≠ 12 ∧ k ≠ 15 ∧ k ≠ 6 ∧ k ≠ 33 ∧ k ≠ 16) : Calls Tryz.prog 83 #[.int .i64 k] w fun e w' => e = .returned (.agg (shapeC (-1) false false false 0 0 false false)) ∧ Below w.heap.size w w' := by
  have hb : Below w.heap.size w (w.alloc (.cells (shapeC (-1) false false false 0 0 false false) 116)) := (Below.refl _ _).alloc (Nat.le_refl _) _
  have hB : Blk (w.alloc (.cells (shapeC (-1) false false false 0 0 false false) 116)) w.heap.size (shapeC (-1) false false false 0 0 false false) 116 := heap_alloc_new w _
  obtain ⟨a1, a2, a3, a4, a5, a6, a7, a8, a9⟩ := hk
  have g1 : (k == 1) = false := by rw [beq_eq_false_iff_ne]; exact a1
  have g2 : (k == 28) = false := by rw [beq_eq_false_iff_ne]; exact a2
  have g3 : (k == 2) = false := by rw [beq_eq_false_iff_ne]; exact a3
  have g4 : (k == 5) = false := by rw [beq_eq_false_iff_ne]; exact a4
  have g5 : (k == 12) = false := by rw [beq_eq_false_iff_ne]; exact a5
  have g6 : (k == 15) = false := by rw [beq_eq_false_iff_ne]; exact a6
  have g7 : (k == 6) = false := by rw [beq_eq_false_iff_ne]; exact a7
  have g8 : (k == 33) = false := by rw [beq_eq_false_iff_ne]; exact a8
  have g9 : (k == 16) = false := by rw [beq_eq_false_iff_ne]; exact a9
  clear a1 a2 a3 a4 a5 a6 a7 a8 a9
  go_enter Tryz.func83, Tryz.ntmps83
  go_wp2
  refine bodyPost_ret (v := .agg (shapeC (-1) false false false 0 0 false false)) (shapes_results rfl hB) rfl ?_
  exact ⟨rfl, hb⟩
end
section
open Go.ChangeShapes Go.WideShapes Go.ChangeAt Go.RowKit

theorem fits1_2 (w : World) (n : Int) (g : Nat) (hw : wfi n) (hc : w.cell? ⟨g, 5, none⟩ = some (.int .i64 2)) :
    Calls Tryz.prog 85 #[.int .i64 n, .pointer (some ⟨g, 0, none⟩)] w fun e w' => e = .returned (.bool (!fitsB n 2)) ∧ w = w' := by
  have H := Lib.hid (nfits2 w n hw)
  go_enter Tryz.func85, Tryz.ntmps85
  go_wp2_with (go_at_call 86; refine H.out.mono ?_; rintro e w' ⟨rfl, rfl⟩)
  go_ret
  exact ⟨rfl, rfl⟩
theorem fits1_4 (w : World) (n : Int) (g : Nat) (hw : wfi n) (hc : w.cell? ⟨g, 5, none⟩ = some (.int .i64 4)) :
    Calls Tryz.prog 85 #[.int .i64 n, .pointer (some ⟨g, 0, none⟩)] w fun e w' => e = .returned (.bool (!fitsB n 4)) ∧ w = w' := by
  have H := Lib.hid (nfits4 w n hw)
  go_enter Tryz.func85, Tryz.ntmps85
  go_wp2_with (go_at_call 86; refine H.out.mono ?_; rintro e w' ⟨rfl, rfl⟩)
  go_ret
  exact ⟨rfl, rfl⟩
/-- which number is the first that does not fit -/
theorem idxNums_any (w : World) (ao : Option Addr) (len cap : Nat) (l : List Int) (g : Nat) (p : Int → Bool) (hs : Nums w ao len cap l) (hf : ∀ n ∈ l, wfi n)
    (H1 : Hid (∀ n, wfi n → Calls Tryz.prog 85 #[.int .i64 n, .pointer (some ⟨g, 0, none⟩)] w fun e w' => e = .returned (.bool (p n)) ∧ w = w')) :
    Calls Tryz.prog 126 #[.slice ao len cap, .func (.func 85) #[] #[.pointer (some ⟨g, 0, none⟩)]] w fun e w' => e = .returned (.int .i64 (idxZ p l)) ∧ w = w' := by
  have hl : l.length = len := by simpa using hs.hlen
  have hcap := hs.hcap
  have hle := hs.hle
  have HL := Lib.hid hl
  have HF := Lib.hid hf
  clear hl hf
  go_enter Tryz.func126, Tryz.ntmps126
  go_wp2
  go_loop [8, 5] (fun i _ => ∃ k : Nat, k ≤ len ∧ i = .int .i64 k ∧ Hid (∀ j (hj : j < l.length), j < k → p l[j] = false)) (fun i _ => len - (intOf i).toNat)
  case atStart => exact ⟨0, Nat.zero_le _, rfl, fun j hj h => absurd h (by omega)⟩
  case round =>
    obtain ⟨k, hk, rfl, hno⟩ := hrel
    by_cases hlt : k < len
    · obtain ⟨b, off, rfl⟩ := hs.addr hlt
      have hc := hs.at hlt
      rw [List.getElem_map] at hc
      have hkl : k < l.length := by have := HL.out; omega
      have hw1 := HF.out _ (List.getElem_mem hkl)
      obtain ⟨z, hz⟩ : ∃ z, z = l[k] := ⟨_, rfl⟩
      rw [← hz] at hc hw1
      have HZ := Lib.hid hz
      have HC := Lib.hid (H1.out z hw1)
      clear hz hw1
      cases hb : p z
      all_goals
        rw [hb] at HC
        have HB := Lib.hid hb
        clear hb
        go_wp2_with (go_at_call 85; refine HC.out.mono ?_; rintro e w' ⟨rfl, rfl⟩)
      · go_round
        case rel =>
          refine ⟨k + 1, by omega, by go_num, fun j hj h => ?_⟩
          rcases Nat.lt_succ_iff_lt_or_eq.1 h with h | rfl
          · exact hno.out j hj h
          · rw [← HZ.out]; exact HB.out
        case measure => simp [intOf]; omega
      · go_ret
        exact ⟨ret_int (idxZ_found (by have := HL.out; omega) (fun j hj => hno.out j (by have := HL.out; omega) hj) (by rw [← HZ.out]; exact HB.out)).symm, rfl⟩
    · go_wp2
      go_ret
      exact ⟨ret_int (idxZ_none fun j hj => hno.out j hj (by have := HL.out; omega)).symm, rfl⟩
theorem containsNums_any (w : World) (ao : Option Addr) (len cap : Nat) (l : List Int) (g : Nat) (p : Int → Bool) (hs : Nums w ao len cap l) (hf : ∀ n ∈ l, wfi n)
    (H1 : Hid (∀ n, wfi n → Calls Tryz.prog 85 #[.int .i64 n, .pointer (some ⟨g, 0, none⟩)] w fun e w' => e = .returned (.bool (p n)) ∧ w = w')) :
    Calls Tryz.prog 84 #[.slice ao len cap, .func (.func 85) #[] #[.pointer (some ⟨g, 0, none⟩)]] w fun e w' => e = .returned (.bool (l.any p)) ∧ w = w' := by
  have HC := Lib.hid (idxNums_any w ao len cap l g p hs hf H1)
  go_enter Tryz.func84, Tryz.ntmps84
  go_wp2_with (go_at_call 126; refine HC.out.mono ?_; rintro e w' ⟨rfl, rfl⟩)
  go_ret
  exact ⟨ret_bool (idxZ_any p l), rfl⟩
theorem containsEmpty (w : World) (ao : Option Addr) (cap : Nat) (_ : cap ≤ 9223372036854775807) (f : Value) : Calls Tryz.prog 84 #[.slice ao 0 cap, f] w fun e w' => e = .returned (.bool false) ∧ w = w' := by
  have HI : Hid (Calls Tryz.prog 126 #[.slice ao 0 cap, f] w fun e w' => e = .returned (.int .i64 (-1)) ∧ w = w') := by
    rw [Hid]
    go_enter Tryz.func126, Tryz.ntmps126
    go_wp2
    go_loop [8, 5] (fun i _ => i = .int .i64 0) (fun _ _ => 0)
    case atStart => rfl
    case round =>
      subst hrel
      go_wp2
      go_ret
      exact ⟨rfl, rfl⟩
  go_enter Tryz.func84, Tryz.ntmps84
  go_wp2_with (go_at_call 126; refine HI.out.mono ?_; rintro e w' ⟨rfl, rfl⟩)
  go_ret
  exact ⟨rfl, rfl⟩
theorem long2_any (w : World) (s : ByteArray) (hs : s.size ≤ 9223372036854775807) :
    Calls Tryz.prog 88 #[.string s] w fun e w' => e = .returned (.bool (decide (255 < s.size))) ∧ w = w' := by
  go_enter Tryz.func88, Tryz.ntmps88
  go_wp2
  go_ret
  exact ⟨ret_bool (decide_eq_decide.2 (by omega)), rfl⟩
theorem idxLong_any (w : World) (ao : Option Addr) (len cap : Nat) (ss : List ByteArray) (hs : Strs w ao len cap ss) :
    Calls Tryz.prog 127 #[.slice ao len cap, .func (.func 88) #[] #[]] w fun e w' => e = .returned (.int .i64 (idxZ (fun s => decide (255 < s.size)) ss)) ∧ w = w' := by
  have hl := hs.len
  have hcap := hs.row.hcap
  have hle := hs.row.hle
  go_enter Tryz.func127, Tryz.ntmps127
  go_wp2
  go_loop [8, 5] (fun i _ => ∃ k : Nat, k ≤ len ∧ i = .int .i64 k ∧ Hid (∀ j (hj : j < ss.length), j < k → decide (255 < ss[j].size) = false)) (fun i _ => len - (intOf i).toNat)
  case atStart => exact ⟨0, Nat.zero_le _, rfl, fun j hj h => absurd h (by omega)⟩
  case round =>
    obtain ⟨k, hk, rfl, hno⟩ := hrel
    by_cases hlt : k < len
    · obtain ⟨b, off, rfl⟩ := hs.row.addr hlt
      have hc := hs.at hlt
      have h3 := hs.get_small (i := k) (by omega)
      obtain ⟨s, hsk⟩ : ∃ s, s = ss[k] := ⟨_, rfl⟩
      rw [← hsk] at hc h3
      have HK := Lib.hid hsk
      clear hsk
      have HC := Lib.hid (long2_any w s h3)
      cases hb : decide (255 < s.size)
      all_goals
        rw [hb] at HC
        have HB := Lib.hid hb
        clear hb
        go_wp2_with (go_at_call 88; refine HC.out.mono ?_; rintro e w' ⟨rfl, rfl⟩)
      · go_round
        case rel =>
          refine ⟨k + 1, by omega, by go_num, fun j hj h => ?_⟩
          rcases Nat.lt_succ_iff_lt_or_eq.1 h with h | rfl
          · exact hno.out j hj h
          · rw [← HK.out]; exact HB.out
        case measure => simp [intOf]; omega
      · go_ret
        exact ⟨ret_int (idxZ_found (by omega) (fun j hj => hno.out j (by omega) hj) (by rw [← HK.out]; exact HB.out)).symm, rfl⟩
    · go_wp2
      go_ret
      exact ⟨ret_int (idxZ_none fun j hj => hno.out j hj (by omega)).symm, rfl⟩
theorem containsLong_any (w : World) (ao : Option Addr) (len cap : Nat) (ss : List ByteArray) (hs : Strs w ao len cap ss) :
    Calls Tryz.prog 87 #[.slice ao len cap, .func (.func 88) #[] #[]] w fun e w' => e = .returned (.bool (ss.any (fun s => decide (255 < s.size)))) ∧ w = w' := by
  have HC := Lib.hid (idxLong_any w ao len cap ss hs)
  go_enter Tryz.func87, Tryz.ntmps87
  go_wp2_with (go_at_call 127; refine HC.out.mono ?_; rintro e w' ⟨rfl, rfl⟩)
  go_ret
  exact ⟨ret_bool (idxZ_any _ ss), rfl⟩
theorem fitB_any (l : List Int) (c s : Nat) : fitB l c s = (decide (l.length = c) && !(l.any fun n => !fitsB n s)) := by
  rw [fitB]
  congr 1
  rw [Bool.eq_iff_iff]
  simp
theorem long_all (l : List ByteArray) : l.all (fun s => decide (s.size ≤ 255)) = !(l.any fun s => decide (255 < s.size)) := by
  rw [Bool.eq_iff_iff]
  simp

set_option maxHeartbeats 8000000 in
set_option maxRecDepth 100000 in
theorem dsound_a (w : World) (h : DataH) (d : DataP) (hd : IsData w h d) :
    Calls Tryz.prog 47 #[.int .i64 1, .agg (dataC h)] w fun e w' => e = .returned (.bool (dataB 1 d)) ∧ Below w.heap.size w w' := by
  have hlen := hd.len
  have hB : Blk (w.alloc (.cells (dataC h) 33)) w.heap.size (dataC h) 33 := heap_alloc_new w _
  have hb1 : Below w.heap.size w (w.alloc (.cells (dataC h) 33)) := (Below.refl _ _).alloc (Nat.le_refl _) _
  obtain ⟨ba, bl, bc, ha, hl, hc, ma, ml, mc, na, nl, nc, ta, tl, tc⟩ := h
  obtain ⟨e0, e1, e2, e3, e4⟩ := hlen
  simp only [dataC] at *
  have HE : Hid (dataB 1 d = (decide (bl = 4) && (decide (hl = 0) && (decide (ml = 0) && (decide (nl = 0) && decide (tl = 0)))))) := by
    show dataB 1 d = _
    show (decide (d.bytes.length = 4) && emptyB d true false false false false) = _
    simp only [emptyB, e0, e1, e2, e3, e4, Bool.true_or, Bool.false_or, Bool.true_and]
  obtain ⟨E, hE⟩ : ∃ E, E = dataB 1 d := ⟨_, rfl⟩
  have HE2 := Lib.hid (hE.trans HE.out)
  rw [← hE]
  have HA := Lib.hid hB
  have HB1 := Lib.hid hb1
  have HD := Lib.hid hd
  have HSH := Lib.hid (fun w' => shapes_a w')
  simp only [shapeC] at HSH
  have hnc := hd.nums.hcap
  have HNC := Lib.hid hnc
  clear hnc
  clear hb1 hB e0 e1 e2 e3 e4 hE HE hd
  go_enter Tryz.func47, Tryz.ntmps47
  go_wp2_with fail
  refine (HSH.out _).mono ?_
  rintro e w2 ⟨rfl, hb2⟩
  have hb3 : Below w2.heap.size w2 (w2.alloc (.cells #[.int .i64 4, .bool false, .bool false, .bool false, .int .i64 0, .int .i64 0, .bool false, .bool false] 116)) := (Below.refl _ _).alloc (Nat.le_refl _) _
  have hSb : Blk (w2.alloc (.cells #[.int .i64 4, .bool false, .bool false, .bool false, .int .i64 0, .int .i64 0, .bool false, .bool false] 116)) w2.heap.size #[.int .i64 4, .bool false, .bool false, .bool false, .int .i64 0, .int .i64 0, .bool false, .bool false] 116 := heap_alloc_new w2 _
  have hA := (HA.out.on hb2).on hb3
  have a0' := hA.cell 0
  have a1 := hA.cell 1
  have a2 := hA.cell 2
  have a3 := hA.cell 3
  have a4 := hA.cell 4
  have s0 := hSb.cell 0
  have s1 := hSb.cell 1
  have s2 := hSb.cell 2
  have s3 := hSb.cell 3
  have s4 := hSb.cell 4
  have s5 := hSb.cell 5
  have s6 := hSb.cell 6
  have s7 := hSb.cell 7
  simp at a0' a1 a2 a3 a4 s0 s1 s2 s3 s4 s5 s6 s7
  have hb13 := below_on HB1.out (below_on hb2 hb3 (Nat.le_refl _)) (Nat.le_refl _)
  have HB3 := Lib.hid hb13
  have hD3 := HD.out.on hb13
  have HG := Lib.hid (fun w' => containsEmpty w' na nc HNC.out (.func (.func 85) #[] #[.pointer (some ⟨w2.heap.size, 0, none⟩)]))
  clear hb2 hb3 hSb hA hb13 hD3 HSH HA HB1 HD
  by_cases hn0 : nl = 0
  case neg =>
    have gn : ((nl : Int) != 0) = true := by rw [bne_iff_ne]; omega
    have gn2 : decide (nl = 0) = false := decide_eq_false hn0
    clear hn0
    go_wp2_with fail
    all_goals
      go_ret
      refine ⟨ret_bool ?_, HB3.out⟩
      have h2 := HE2.out
      clear HE2 HB3
      subst h2
      rw [gn2]
      simp
  subst hn0
  go_wp2_with (first | (go_at_call 84; refine (HG.out _).mono ?_; rintro e w' ⟨rfl, rfl⟩))
  all_goals
    go_ret
    refine ⟨ret_bool ?_, HB3.out⟩
    have h2 := HE2.out
    clear HE2 HB3 HG HNC
    subst h2
    simp_all
    all_goals first | (intros; omega) | (rw [Bool.eq_iff_iff]; simp <;> omega)
set_option maxHeartbeats 8000000 in
set_option maxRecDepth 100000 in
theorem dsound_aaaa (w : World) (h : DataH) (d : DataP) (hd : IsData w h d) :
    Calls Tryz.prog 47 #[.int .i64 28, .agg (dataC h)] w fun e w' => e = .returned (.bool (dataB 28 d)) ∧ Below w.heap.size w w' := by
  have hlen := hd.len
  have hB : Blk (w.alloc (.cells (dataC h) 33)) w.heap.size (dataC h) 33 := heap_alloc_new w _
  have hb1 : Below w.heap.size w (w.alloc (.cells (dataC h) 33)) := (Below.refl _ _).alloc (Nat.le_refl _) _
  obtain ⟨ba, bl, bc, ha, hl, hc, ma, ml, mc, na, nl, nc, ta, tl, tc⟩ := h
  obtain ⟨e0, e1, e2, e3, e4⟩ := hlen
  simp only [dataC] at *
  have HE : Hid (dataB 28 d = (decide (bl = 16) && (decide (hl = 0) && (decide (ml = 0) && (decide (nl = 0) && decide (tl = 0)))))) := by
    show dataB 28 d = _
    show (decide (d.bytes.length = 16) && emptyB d true false false false false) = _
    simp only [emptyB, e0, e1, e2, e3, e4, Bool.true_or, Bool.false_or, Bool.true_and]
  obtain ⟨E, hE⟩ : ∃ E, E = dataB 28 d := ⟨_, rfl⟩
  have HE2 := Lib.hid (hE.trans HE.out)
  rw [← hE]
  have HA := Lib.hid hB
  have HB1 := Lib.hid hb1
  have HD := Lib.hid hd
  have HSH := Lib.hid (fun w' => shapes_aaaa w')
  simp only [shapeC] at HSH
  have hnc := hd.nums.hcap
  have HNC := Lib.hid hnc
  clear hnc
  clear hb1 hB e0 e1 e2 e3 e4 hE HE hd
  go_enter Tryz.func47, Tryz.ntmps47
  go_wp2_with fail
  refine (HSH.out _).mono ?_
  rintro e w2 ⟨rfl, hb2⟩
  have hb3 : Below w2.heap.size w2 (w2.alloc (.cells #[.int .i64 16, .bool false, .bool false, .bool false, .int .i64 0, .int .i64 0, .bool false, .bool false] 116)) := (Below.refl _ _).alloc (Nat.le_refl _) _
  have hSb : Blk (w2.alloc (.cells #[.int .i64 16, .bool false, .bool false, .bool false, .int .i64 0, .int .i64 0, .bool false, .bool false] 116)) w2.heap.size #[.int .i64 16, .bool false, .bool false, .bool false, .int .i64 0, .int .i64 0, .bool false, .bool false] 116 := heap_alloc_new w2 _
  have hA := (HA.out.on hb2).on hb3
  have a0' := hA.cell 0
  have a1 := hA.cell 1
  have a2 := hA.cell 2
  have a3 := hA.cell 3
  have a4 := hA.cell 4
  have s0 := hSb.cell 0
  have s1 := hSb.cell 1
  have s2 := hSb.cell 2
  have s3 := hSb.cell 3
  have s4 := hSb.cell 4
  have s5 := hSb.cell 5
  have s6 := hSb.cell 6
  have s7 := hSb.cell 7
  simp at a0' a1 a2 a3 a4 s0 s1 s2 s3 s4 s5 s6 s7
  have hb13 := below_on HB1.out (below_on hb2 hb3 (Nat.le_refl _)) (Nat.le_refl _)
  have HB3 := Lib.hid hb13
  have hD3 := HD.out.on hb13
  have HG := Lib.hid (fun w' => containsEmpty w' na nc HNC.out (.func (.func 85) #[] #[.pointer (some ⟨w2.heap.size, 0, none⟩)]))
  clear hb2 hb3 hSb hA hb13 hD3 HSH HA HB1 HD
  by_cases hn0 : nl = 0
  case neg =>
    have gn : ((nl : Int) != 0) = true := by rw [bne_iff_ne]; omega
    have gn2 : decide (nl = 0) = false := decide_eq_false hn0
    clear hn0
    go_wp2_with fail
    all_goals
      go_ret
      refine ⟨ret_bool ?_, HB3.out⟩
      have h2 := HE2.out
      clear HE2 HB3
      subst h2
      rw [gn2]
      simp
  subst hn0
  go_wp2_with (first | (go_at_call 84; refine (HG.out _).mono ?_; rintro e w' ⟨rfl, rfl⟩))
  all_goals
    go_ret
    refine ⟨ret_bool ?_, HB3.out⟩
    have h2 := HE2.out
    clear HE2 HB3 HG HNC
    subst h2
    simp_all
    all_goals first | (intros; omega) | (rw [Bool.eq_iff_iff]; simp <;> omega)
set_option maxHeartbeats 8000000 in
set_option maxRecDepth 100000 in
theorem dsound_ns (w : World) (k : Int) (hk : k = 2 ∨ k = 5 ∨ k = 12) (h : DataH) (d : DataP) (hd : IsData w h d) :
    Calls Tryz.prog 47 #[.int .i64 k, .agg (dataC h)] w fun e w' => e = .returned (.bool (dataB k d)) ∧ Below w.heap.size w w' := by
  have hlen := hd.len
  have hB : Blk (w.alloc (.cells (dataC h) 33)) w.heap.size (dataC h) 33 := heap_alloc_new w _
  have hb1 : Below w.heap.size w (w.alloc (.cells (dataC h) 33)) := (Below.refl _ _).alloc (Nat.le_refl _) _
  obtain ⟨ba, bl, bc, ha, hl, hc, ma, ml, mc, na, nl, nc, ta, tl, tc⟩ := h
  obtain ⟨e0, e1, e2, e3, e4⟩ := hlen
  simp only [dataC] at *
  obtain ⟨S, hS⟩ : ∃ S, S = soundB d.host := ⟨_, rfl⟩
  have HE : Hid (dataB k d = (S && (decide (bl = 0) && (decide (ml = 0) && (decide (nl = 0) && decide (tl = 0)))))) := by
    show dataB k d = _
    have hx : dataB k d = (soundB d.host && emptyB d false true false false false) := by rcases hk with rfl | rfl | rfl <;> rfl
    rw [hx, ← hS]
    simp only [emptyB, e0, e1, e2, e3, e4, Bool.true_or, Bool.false_or, Bool.true_and]
  obtain ⟨E, hE⟩ : ∃ E, E = dataB k d := ⟨_, rfl⟩
  have HE2 := Lib.hid (hE.trans HE.out)
  rw [← hE]
  have HA := Lib.hid hB
  have HB1 := Lib.hid hb1
  have HD := Lib.hid hd
  have HSH := Lib.hid (fun w' => shapes_ns w' k hk)
  have d1 : decide (k < 1) = false := by rw [decide_eq_false_iff_not]; omega
  have d2 : decide ((65535 : Int) < k) = false := by rw [decide_eq_false_iff_not]; omega
  simp only [shapeC] at HSH
  have hnc := hd.nums.hcap
  have HNC := Lib.hid hnc
  clear hnc
  clear hb1 hB e0 e1 e2 e3 e4 hE HE hk hd
  go_enter Tryz.func47, Tryz.ntmps47
  go_wp2_with fail
  refine (HSH.out _).mono ?_
  rintro e w2 ⟨rfl, hb2⟩
  have hb3 : Below w2.heap.size w2 (w2.alloc (.cells #[.int .i64 0, .bool true, .bool false, .bool true, .int .i64 0, .int .i64 0, .bool false, .bool false] 116)) := (Below.refl _ _).alloc (Nat.le_refl _) _
  have hSb : Blk (w2.alloc (.cells #[.int .i64 0, .bool true, .bool false, .bool true, .int .i64 0, .int .i64 0, .bool false, .bool false] 116)) w2.heap.size #[.int .i64 0, .bool true, .bool false, .bool true, .int .i64 0, .int .i64 0, .bool false, .bool false] 116 := heap_alloc_new w2 _
  have hA := (HA.out.on hb2).on hb3
  have a0' := hA.cell 0
  have a1 := hA.cell 1
  have a2 := hA.cell 2
  have a3 := hA.cell 3
  have a4 := hA.cell 4
  have s0 := hSb.cell 0
  have s1 := hSb.cell 1
  have s2 := hSb.cell 2
  have s3 := hSb.cell 3
  have s4 := hSb.cell 4
  have s5 := hSb.cell 5
  have s6 := hSb.cell 6
  have s7 := hSb.cell 7
  simp at a0' a1 a2 a3 a4 s0 s1 s2 s3 s4 s5 s6 s7
  have hb13 := below_on HB1.out (below_on hb2 hb3 (Nat.le_refl _)) (Nat.le_refl _)
  have HB3 := Lib.hid hb13
  have hD3 := HD.out.on hb13
  have HS1 := Lib.hid (sound_any _ _ _ _ _ hD3.host)
  rw [← hS] at HS1
  have HG := Lib.hid (fun w' => containsEmpty w' na nc HNC.out (.func (.func 85) #[] #[.pointer (some ⟨w2.heap.size, 0, none⟩)]))
  clear hb2 hb3 hSb hA hb13 hD3 HSH HA HB1 HD hS
  by_cases hn0 : nl = 0
  case neg =>
    have gn : ((nl : Int) != 0) = true := by rw [bne_iff_ne]; omega
    have gn2 : decide (nl = 0) = false := decide_eq_false hn0
    clear hn0
    go_wp2_with fail
    all_goals
      go_ret
      refine ⟨ret_bool ?_, HB3.out⟩
      have h2 := HE2.out
      clear HE2 HB3
      subst h2
      rw [gn2]
      simp
  subst hn0
  go_wp2_with (first | (go_at_call 59; refine HS1.out.mono ?_; rintro e w' ⟨rfl, rfl⟩) | (go_at_call 84; refine (HG.out _).mono ?_; rintro e w' ⟨rfl, rfl⟩))
  all_goals
    go_ret
    refine ⟨ret_bool ?_, HB3.out⟩
    have h2 := HE2.out
    clear HE2 HB3 HG HNC HS1
    subst h2
    simp_all
    all_goals first | (intros; omega) | (rw [Bool.eq_iff_iff]; simp <;> omega)
set_option maxHeartbeats 8000000 in
set_option maxRecDepth 100000 in
theorem dsound_mx (w : World) (h : DataH) (d : DataP) (hd : IsData w h d) :
    Calls Tryz.prog 47 #[.int .i64 15, .agg (dataC h)] w fun e w' => e = .returned (.bool (dataB 15 d)) ∧ Below w.heap.size w w' := by
  have hlen := hd.len
  have hB : Blk (w.alloc (.cells (dataC h) 33)) w.heap.size (dataC h) 33 := heap_alloc_new w _
  have hb1 : Below w.heap.size w (w.alloc (.cells (dataC h) 33)) := (Below.refl _ _).alloc (Nat.le_refl _) _
  obtain ⟨ba, bl, bc, ha, hl, hc, ma, ml, mc, na, nl, nc, ta, tl, tc⟩ := h
  obtain ⟨e0, e1, e2, e3, e4⟩ := hlen
  simp only [dataC] at *
  obtain ⟨S, hS⟩ : ∃ S, S = soundB d.host := ⟨_, rfl⟩
  obtain ⟨G, hG⟩ : ∃ S, S = d.nums.any (fun n => !fitsB n 2) := ⟨_, rfl⟩
  have HE : Hid (dataB 15 d = ((S && (decide (nl = 1) && !G)) && (decide (bl = 0) && (decide (ml = 0) && decide (tl = 0))))) := by
    show dataB 15 d = _
    show ((soundB d.host && fitB d.nums 1 2) && emptyB d false true false true false) = _; rw [fitB_any, ← hS, ← hG]
    simp only [emptyB, e0, e1, e2, e3, e4, Bool.true_or, Bool.false_or, Bool.true_and]
  obtain ⟨E, hE⟩ : ∃ E, E = dataB 15 d := ⟨_, rfl⟩
  have HE2 := Lib.hid (hE.trans HE.out)
  rw [← hE]
  have HA := Lib.hid hB
  have HB1 := Lib.hid hb1
  have HD := Lib.hid hd
  have HSH := Lib.hid (fun w' => shapes_mx w')
  simp only [shapeC] at HSH
  have hnc := hd.nums.hcap
  have HNC := Lib.hid hnc
  clear hnc
  clear hb1 hB e0 e1 e2 e3 e4 hE HE hd
  go_enter Tryz.func47, Tryz.ntmps47
  go_wp2_with fail
  refine (HSH.out _).mono ?_
  rintro e w2 ⟨rfl, hb2⟩
  have hb3 : Below w2.heap.size w2 (w2.alloc (.cells #[.int .i64 0, .bool true, .bool false, .bool true, .int .i64 1, .int .i64 2, .bool false, .bool true] 116)) := (Below.refl _ _).alloc (Nat.le_refl _) _
  have hSb : Blk (w2.alloc (.cells #[.int .i64 0, .bool true, .bool false, .bool true, .int .i64 1, .int .i64 2, .bool false, .bool true] 116)) w2.heap.size #[.int .i64 0, .bool true, .bool false, .bool true, .int .i64 1, .int .i64 2, .bool false, .bool true] 116 := heap_alloc_new w2 _
  have hA := (HA.out.on hb2).on hb3
  have a0' := hA.cell 0
  have a1 := hA.cell 1
  have a2 := hA.cell 2
  have a3 := hA.cell 3
  have a4 := hA.cell 4
  have s0 := hSb.cell 0
  have s1 := hSb.cell 1
  have s2 := hSb.cell 2
  have s3 := hSb.cell 3
  have s4 := hSb.cell 4
  have s5 := hSb.cell 5
  have s6 := hSb.cell 6
  have s7 := hSb.cell 7
  simp at a0' a1 a2 a3 a4 s0 s1 s2 s3 s4 s5 s6 s7
  have hb13 := below_on HB1.out (below_on hb2 hb3 (Nat.le_refl _)) (Nat.le_refl _)
  have HB3 := Lib.hid hb13
  have hD3 := HD.out.on hb13
  have HS1 := Lib.hid (sound_any _ _ _ _ _ hD3.host)
  rw [← hS] at HS1
  have HG := Lib.hid (containsNums_any _ _ _ _ _ w2.heap.size (fun n => !fitsB n 2) hD3.nums hD3.fits (fun n hn => fits1_2 _ n _ hn (by rw [hSb.cell 5]; rfl)))
  rw [← hG] at HG
  clear hb2 hb3 hSb hA hb13 hD3 HSH HA HB1 HD hS hG
  by_cases hn0 : nl = 1
  case neg =>
    have gn : ((nl : Int) != 1) = true := by rw [bne_iff_ne]; omega
    have gn2 : decide (nl = 1) = false := decide_eq_false hn0
    clear hn0
    go_wp2_with fail
    all_goals
      go_ret
      refine ⟨ret_bool ?_, HB3.out⟩
      have h2 := HE2.out
      clear HE2 HB3
      subst h2
      rw [gn2]
      simp
  subst hn0
  go_wp2_with (first | (go_at_call 59; refine HS1.out.mono ?_; rintro e w' ⟨rfl, rfl⟩) | (go_at_call 84; refine HG.out.mono ?_; rintro e w' ⟨rfl, rfl⟩))
  all_goals
    go_ret
    refine ⟨ret_bool ?_, HB3.out⟩
    have h2 := HE2.out
    clear HE2 HB3 HG HNC HS1
    subst h2
    simp_all
    all_goals first | (intros; omega) | (rw [Bool.eq_iff_iff]; simp <;> omega)
set_option maxHeartbeats 8000000 in
set_option maxRecDepth 100000 in
theorem dsound_soa (w : World) (h : DataH) (d : DataP) (hd : IsData w h d) :
    Calls Tryz.prog 47 #[.int .i64 6, .agg (dataC h)] w fun e w' => e = .returned (.bool (dataB 6 d)) ∧ Below w.heap.size w w' := by
  have hlen := hd.len
  have hB : Blk (w.alloc (.cells (dataC h) 33)) w.heap.size (dataC h) 33 := heap_alloc_new w _
  have hb1 : Below w.heap.size w (w.alloc (.cells (dataC h) 33)) := (Below.refl _ _).alloc (Nat.le_refl _) _
  obtain ⟨ba, bl, bc, ha, hl, hc, ma, ml, mc, na, nl, nc, ta, tl, tc⟩ := h
  obtain ⟨e0, e1, e2, e3, e4⟩ := hlen
  simp only [dataC] at *
  obtain ⟨S, hS⟩ : ∃ S, S = soundB d.host := ⟨_, rfl⟩
  obtain ⟨S2, hS2⟩ : ∃ S, S = soundB d.mail := ⟨_, rfl⟩
  obtain ⟨G, hG⟩ : ∃ S, S = d.nums.any (fun n => !fitsB n 4) := ⟨_, rfl⟩
  have HE : Hid (dataB 6 d = (((S && S2) && (decide (nl = 5) && !G)) && (decide (bl = 0) && decide (tl = 0)))) := by
    show dataB 6 d = _
    show (((soundB d.host && soundB d.mail) && fitB d.nums 5 4) && emptyB d false true true true false) = _; rw [fitB_any, ← hS, ← hS2, ← hG]
    simp only [emptyB, e0, e1, e2, e3, e4, Bool.true_or, Bool.false_or, Bool.true_and]
  obtain ⟨E, hE⟩ : ∃ E, E = dataB 6 d := ⟨_, rfl⟩
  have HE2 := Lib.hid (hE.trans HE.out)
  rw [← hE]
  have HA := Lib.hid hB
  have HB1 := Lib.hid hb1
  have HD := Lib.hid hd
  have HSH := Lib.hid (fun w' => shapes_soa w')
  simp only [shapeC] at HSH
  have hnc := hd.nums.hcap
  have HNC := Lib.hid hnc
  clear hnc
  clear hb1 hB e0 e1 e2 e3 e4 hE HE hd
  go_enter Tryz.func47, Tryz.ntmps47
  go_wp2_with fail
  refine (HSH.out _).mono ?_
  rintro e w2 ⟨rfl, hb2⟩
  have hb3 : Below w2.heap.size w2 (w2.alloc (.cells #[.int .i64 0, .bool true, .bool true, .bool true, .int .i64 5, .int .i64 4, .bool false, .bool false] 116)) := (Below.refl _ _).alloc (Nat.le_refl _) _
  have hSb : Blk (w2.alloc (.cells #[.int .i64 0, .bool true, .bool true, .bool true, .int .i64 5, .int .i64 4, .bool false, .bool false] 116)) w2.heap.size #[.int .i64 0, .bool true, .bool true, .bool true, .int .i64 5, .int .i64 4, .bool false, .bool false] 116 := heap_alloc_new w2 _
  have hA := (HA.out.on hb2).on hb3
  have a0' := hA.cell 0
  have a1 := hA.cell 1
  have a2 := hA.cell 2
  have a3 := hA.cell 3
  have a4 := hA.cell 4
  have s0 := hSb.cell 0
  have s1 := hSb.cell 1
  have s2 := hSb.cell 2
  have s3 := hSb.cell 3
  have s4 := hSb.cell 4
  have s5 := hSb.cell 5
  have s6 := hSb.cell 6
  have s7 := hSb.cell 7
  simp at a0' a1 a2 a3 a4 s0 s1 s2 s3 s4 s5 s6 s7
  have hb13 := below_on HB1.out (below_on hb2 hb3 (Nat.le_refl _)) (Nat.le_refl _)
  have HB3 := Lib.hid hb13
  have hD3 := HD.out.on hb13
  have HS1 := Lib.hid (sound_any _ _ _ _ _ hD3.host)
  rw [← hS] at HS1
  have HS2 := Lib.hid (sound_any _ _ _ _ _ hD3.mail)
  rw [← hS2] at HS2
  have HG := Lib.hid (containsNums_any _ _ _ _ _ w2.heap.size (fun n => !fitsB n 4) hD3.nums hD3.fits (fun n hn => fits1_4 _ n _ hn (by rw [hSb.cell 5]; rfl)))
  rw [← hG] at HG
  clear hb2 hb3 hSb hA hb13 hD3 HSH HA HB1 HD hS hS2 hG
  by_cases hn0 : nl = 5
  case neg =>
    have gn : ((nl : Int) != 5) = true := by rw [bne_iff_ne]; omega
    have gn2 : decide (nl = 5) = false := decide_eq_false hn0
    clear hn0
    go_wp2_with fail
    all_goals
      go_ret
      refine ⟨ret_bool ?_, HB3.out⟩
      have h2 := HE2.out
      clear HE2 HB3
      subst h2
      rw [gn2]
      simp
  subst hn0
  by_cases hb0 : bl = 0
  case neg =>
    have gb : ((bl : Int) != 0) = true := by rw [bne_iff_ne]; omega
    have gb2 : decide (bl = 0) = false := decide_eq_false hb0
    clear hb0
    go_wp2_with fail
    all_goals
      go_ret
      refine ⟨ret_bool ?_, HB3.out⟩
      have h2 := HE2.out
      clear HE2 HB3
      subst h2
      rw [gb2]
      simp
  subst hb0
  go_wp2_with fail
  refine HS1.out.mono ?_
  rintro e w' ⟨rfl, rfl⟩
  cases S
  · go_wp2_with fail
    go_ret
    exact ⟨ret_bool (by rw [HE2.out]; rfl), HB3.out⟩
  go_wp2_with fail
  refine HS2.out.mono ?_
  rintro e w' ⟨rfl, rfl⟩
  cases S2
  · go_wp2_with fail
    go_ret
    exact ⟨ret_bool (by rw [HE2.out]; rfl), HB3.out⟩
  go_wp2_with fail
  refine HG.out.mono ?_
  rintro e w' ⟨rfl, rfl⟩
  cases G
  · go_wp2_with fail
    go_ret
    refine ⟨ret_bool ?_, HB3.out⟩
    rw [HE2.out]
    rw [Bool.eq_iff_iff]
    simp
  · go_wp2_with fail
    go_ret
    refine ⟨ret_bool ?_, HB3.out⟩
    rw [HE2.out]
    simp
set_option maxHeartbeats 8000000 in
set_option maxRecDepth 100000 in
theorem dsound_srv (w : World) (h : DataH) (d : DataP) (hd : IsData w h d) :
    Calls Tryz.prog 47 #[.int .i64 33, .agg (dataC h)] w fun e w' => e = .returned (.bool (dataB 33 d)) ∧ Below w.heap.size w w' := by
  have hlen := hd.len
  have hB : Blk (w.alloc (.cells (dataC h) 33)) w.heap.size (dataC h) 33 := heap_alloc_new w _
  have hb1 : Below w.heap.size w (w.alloc (.cells (dataC h) 33)) := (Below.refl _ _).alloc (Nat.le_refl _) _
  obtain ⟨ba, bl, bc, ha, hl, hc, ma, ml, mc, na, nl, nc, ta, tl, tc⟩ := h
  obtain ⟨e0, e1, e2, e3, e4⟩ := hlen
  simp only [dataC] at *
  obtain ⟨S, hS⟩ : ∃ S, S = soundB d.host := ⟨_, rfl⟩
  obtain ⟨G, hG⟩ : ∃ S, S = d.nums.any (fun n => !fitsB n 2) := ⟨_, rfl⟩
  have HE : Hid (dataB 33 d = ((S && (decide (nl = 3) && !G)) && (decide (bl = 0) && (decide (ml = 0) && decide (tl = 0))))) := by
    show dataB 33 d = _
    show ((soundB d.host && fitB d.nums 3 2) && emptyB d false true false true false) = _; rw [fitB_any, ← hS, ← hG]
    simp only [emptyB, e0, e1, e2, e3, e4, Bool.true_or, Bool.false_or, Bool.true_and]
  obtain ⟨E, hE⟩ : ∃ E, E = dataB 33 d := ⟨_, rfl⟩
  have HE2 := Lib.hid (hE.trans HE.out)
  rw [← hE]
  have HA := Lib.hid hB
  have HB1 := Lib.hid hb1
  have HD := Lib.hid hd
  have HSH := Lib.hid (fun w' => shapes_srv w')
  simp only [shapeC] at HSH
  have hnc := hd.nums.hcap
  have HNC := Lib.hid hnc
  clear hnc
  clear hb1 hB e0 e1 e2 e3 e4 hE HE hd
  go_enter Tryz.func47, Tryz.ntmps47
  go_wp2_with fail
  refine (HSH.out _).mono ?_
  rintro e w2 ⟨rfl, hb2⟩
  have hb3 : Below w2.heap.size w2 (w2.alloc (.cells #[.int .i64 0, .bool true, .bool false, .bool false, .int .i64 3, .int .i64 2, .bool false, .bool true] 116)) := (Below.refl _ _).alloc (Nat.le_refl _) _
  have hSb : Blk (w2.alloc (.cells #[.int .i64 0, .bool true, .bool false, .bool false, .int .i64 3, .int .i64 2, .bool false, .bool true] 116)) w2.heap.size #[.int .i64 0, .bool true, .bool false, .bool false, .int .i64 3, .int .i64 2, .bool false, .bool true] 116 := heap_alloc_new w2 _
  have hA := (HA.out.on hb2).on hb3
  have a0' := hA.cell 0
  have a1 := hA.cell 1
  have a2 := hA.cell 2
  have a3 := hA.cell 3
  have a4 := hA.cell 4
  have s0 := hSb.cell 0
  have s1 := hSb.cell 1
  have s2 := hSb.cell 2
  have s3 := hSb.cell 3
  have s4 := hSb.cell 4
  have s5 := hSb.cell 5
  have s6 := hSb.cell 6
  have s7 := hSb.cell 7
  simp at a0' a1 a2 a3 a4 s0 s1 s2 s3 s4 s5 s6 s7
  have hb13 := below_on HB1.out (below_on hb2 hb3 (Nat.le_refl _)) (Nat.le_refl _)
  have HB3 := Lib.hid hb13
  have hD3 := HD.out.on hb13
  have HS1 := Lib.hid (sound_any _ _ _ _ _ hD3.host)
  rw [← hS] at HS1
  have HG := Lib.hid (containsNums_any _ _ _ _ _ w2.heap.size (fun n => !fitsB n 2) hD3.nums hD3.fits (fun n hn => fits1_2 _ n _ hn (by rw [hSb.cell 5]; rfl)))
  rw [← hG] at HG
  clear hb2 hb3 hSb hA hb13 hD3 HSH HA HB1 HD hS hG
  by_cases hn0 : nl = 3
  case neg =>
    have gn : ((nl : Int) != 3) = true := by rw [bne_iff_ne]; omega
    have gn2 : decide (nl = 3) = false := decide_eq_false hn0
    clear hn0
    go_wp2_with fail
    all_goals
      go_ret
      refine ⟨ret_bool ?_, HB3.out⟩
      have h2 := HE2.out
      clear HE2 HB3
      subst h2
      rw [gn2]
      simp
  subst hn0
  go_wp2_with (first | (go_at_call 59; refine HS1.out.mono ?_; rintro e w' ⟨rfl, rfl⟩) | (go_at_call 84; refine HG.out.mono ?_; rintro e w' ⟨rfl, rfl⟩))
  all_goals
    go_ret
    refine ⟨ret_bool ?_, HB3.out⟩
    have h2 := HE2.out
    clear HE2 HB3 HG HNC HS1
    subst h2
    simp_all
    all_goals first | (intros; omega) | (rw [Bool.eq_iff_iff]; simp <;> omega)
set_option maxHeartbeats 8000000 in
set_option maxRecDepth 100000 in
theorem dsound_txt (w : World) (h : DataH) (d : DataP) (hd : IsData w h d) :
    Calls Tryz.prog 47 #[.int .i64 16, .agg (dataC h)] w fun e w' => e = .returned (.bool (dataB 16 d)) ∧ Below w.heap.size w w' := by
  have hlen := hd.len
  have hB : Blk (w.alloc (.cells (dataC h) 33)) w.heap.size (dataC h) 33 := heap_alloc_new w _
  have hb1 : Below w.heap.size w (w.alloc (.cells (dataC h) 33)) := (Below.refl _ _).alloc (Nat.le_refl _) _
  obtain ⟨ba, bl, bc, ha, hl, hc, ma, ml, mc, na, nl, nc, ta, tl, tc⟩ := h
  obtain ⟨e0, e1, e2, e3, e4⟩ := hlen
  simp only [dataC] at *
  obtain ⟨T, hT⟩ : ∃ S, S = d.texts.any (fun s => decide (255 < s.size)) := ⟨_, rfl⟩
  have HE : Hid (dataB 16 d = ((decide (1 ≤ tl) && (decide (tl ≤ 64) && (decide (bl = 0) && (decide (hl = 0) && (decide (ml = 0) && decide (nl = 0)))))) && !T)) := by
    show dataB 16 d = _
    show ((decide (1 ≤ d.texts.length) && (decide (d.texts.length ≤ 64) && emptyB d false false false false true)) && d.texts.all (fun s => decide (s.size ≤ 255))) = _; rw [long_all, ← hT]
    simp only [emptyB, e0, e1, e2, e3, e4, Bool.true_or, Bool.false_or, Bool.and_true]
  obtain ⟨E, hE⟩ : ∃ E, E = dataB 16 d := ⟨_, rfl⟩
  have HE2 := Lib.hid (hE.trans HE.out)
  rw [← hE]
  have HA := Lib.hid hB
  have HB1 := Lib.hid hb1
  have HD := Lib.hid hd
  have HSH := Lib.hid (fun w' => shapes_txt w')
  simp only [shapeC] at HSH
  have hnc := hd.nums.hcap
  have HNC := Lib.hid hnc
  clear hnc
  clear hb1 hB e0 e1 e2 e3 e4 hE HE hd
  go_enter Tryz.func47, Tryz.ntmps47
  go_wp2_with fail
  refine (HSH.out _).mono ?_
  rintro e w2 ⟨rfl, hb2⟩
  have hb3 : Below w2.heap.size w2 (w2.alloc (.cells #[.int .i64 0, .bool false, .bool false, .bool false, .int .i64 0, .int .i64 0, .bool true, .bool false] 116)) := (Below.refl _ _).alloc (Nat.le_refl _) _
  have hSb : Blk (w2.alloc (.cells #[.int .i64 0, .bool false, .bool false, .bool false, .int .i64 0, .int .i64 0, .bool true, .bool false] 116)) w2.heap.size #[.int .i64 0, .bool false, .bool false, .bool false, .int .i64 0, .int .i64 0, .bool true, .bool false] 116 := heap_alloc_new w2 _
  have hA := (HA.out.on hb2).on hb3
  have a0' := hA.cell 0
  have a1 := hA.cell 1
  have a2 := hA.cell 2
  have a3 := hA.cell 3
  have a4 := hA.cell 4
  have s0 := hSb.cell 0
  have s1 := hSb.cell 1
  have s2 := hSb.cell 2
  have s3 := hSb.cell 3
  have s4 := hSb.cell 4
  have s5 := hSb.cell 5
  have s6 := hSb.cell 6
  have s7 := hSb.cell 7
  simp at a0' a1 a2 a3 a4 s0 s1 s2 s3 s4 s5 s6 s7
  have hb13 := below_on HB1.out (below_on hb2 hb3 (Nat.le_refl _)) (Nat.le_refl _)
  have HB3 := Lib.hid hb13
  have hD3 := HD.out.on hb13
  have HG := Lib.hid (fun w' => containsEmpty w' na nc HNC.out (.func (.func 85) #[] #[.pointer (some ⟨w2.heap.size, 0, none⟩)]))
  have HT := Lib.hid (containsLong_any _ _ _ _ _ hD3.texts)
  rw [← hT] at HT
  clear hb2 hb3 hSb hA hb13 hD3 HSH HA HB1 HD hT
  by_cases hn0 : nl = 0
  case neg =>
    have gn : ((nl : Int) != 0) = true := by rw [bne_iff_ne]; omega
    have gn2 : decide (nl = 0) = false := decide_eq_false hn0
    clear hn0
    go_wp2_with fail
    all_goals
      go_ret
      refine ⟨ret_bool ?_, HB3.out⟩
      have h2 := HE2.out
      clear HE2 HB3
      subst h2
      rw [gn2]
      simp
  subst hn0
  go_wp2_with (first | (go_at_call 84; refine (HG.out _).mono ?_; rintro e w' ⟨rfl, rfl⟩) | (go_at_call 87; refine HT.out.mono ?_; rintro e w' ⟨rfl, rfl⟩))
  all_goals
    go_ret
    refine ⟨ret_bool ?_, HB3.out⟩
    have h2 := HE2.out
    clear HE2 HB3 HG HNC HT
    subst h2
    simp_all
    all_goals first | (intros; omega) | (rw [Bool.eq_iff_iff]; simp <;> omega)
set_option maxHeartbeats 8000000 in
set_option maxRecDepth 100000 in
theorem dsound_other (w : World) (k : Int) (k1 : 1 ≤ k) (k2 : k ≤ 65535) (hk : k ≠ 1 ∧ k ≠ 28 ∧ k ≠ 2 ∧ k ≠ 5 ∧ k ≠ 12 ∧ k ≠ 15 ∧ k ≠ 6 ∧ k ≠ 33 ∧ k ≠ 16) (h : DataH) (d : DataP) (hd : IsData w h d) :
    Calls Tryz.prog 47 #[.int .i64 k, .agg (dataC h)] w fun e w' => e = .returned (.bool (dataB k d)) ∧ Below w.heap.size w w' := by
  have hlen := hd.len
  have hB : Blk (w.alloc (.cells (dataC h) 33)) w.heap.size (dataC h) 33 := heap_alloc_new w _
  have hb1 : Below w.heap.size w (w.alloc (.cells (dataC h) 33)) := (Below.refl _ _).alloc (Nat.le_refl _) _
  obtain ⟨ba, bl, bc, ha, hl, hc, ma, ml, mc, na, nl, nc, ta, tl, tc⟩ := h
  obtain ⟨e0, e1, e2, e3, e4⟩ := hlen
  simp only [dataC] at *
  have HE : Hid (dataB k d = (decide (bl ≤ 65535) && (decide (hl = 0) && (decide (ml = 0) && (decide (nl = 0) && decide (tl = 0)))))) := by
    show dataB k d = _
    rw [dataB_other k1 k2 hk]
    simp only [emptyB, e0, e1, e2, e3, e4, Bool.true_or, Bool.false_or, Bool.true_and]
  obtain ⟨E, hE⟩ : ∃ E, E = dataB k d := ⟨_, rfl⟩
  have HE2 := Lib.hid (hE.trans HE.out)
  rw [← hE]
  have HA := Lib.hid hB
  have HB1 := Lib.hid hb1
  have HD := Lib.hid hd
  have HSH := Lib.hid (fun w' => shapes_other w' k hk)
  have d1 : decide (k < 1) = false := by rw [decide_eq_false_iff_not]; omega
  have d2 : decide ((65535 : Int) < k) = false := by rw [decide_eq_false_iff_not]; omega
  simp only [shapeC] at HSH
  have hnc := hd.nums.hcap
  have HNC := Lib.hid hnc
  clear hnc
  clear hb1 hB e0 e1 e2 e3 e4 hE HE k1 k2 hk hd
  go_enter Tryz.func47, Tryz.ntmps47
  go_wp2_with fail
  refine (HSH.out _).mono ?_
  rintro e w2 ⟨rfl, hb2⟩
  have hb3 : Below w2.heap.size w2 (w2.alloc (.cells #[.int .i64 (-1), .bool false, .bool false, .bool false, .int .i64 0, .int .i64 0, .bool false, .bool false] 116)) := (Below.refl _ _).alloc (Nat.le_refl _) _
  have hSb : Blk (w2.alloc (.cells #[.int .i64 (-1), .bool false, .bool false, .bool false, .int .i64 0, .int .i64 0, .bool false, .bool false] 116)) w2.heap.size #[.int .i64 (-1), .bool false, .bool false, .bool false, .int .i64 0, .int .i64 0, .bool false, .bool false] 116 := heap_alloc_new w2 _
  have hA := (HA.out.on hb2).on hb3
  have a0' := hA.cell 0
  have a1 := hA.cell 1
  have a2 := hA.cell 2
  have a3 := hA.cell 3
  have a4 := hA.cell 4
  have s0 := hSb.cell 0
  have s1 := hSb.cell 1
  have s2 := hSb.cell 2
  have s3 := hSb.cell 3
  have s4 := hSb.cell 4
  have s5 := hSb.cell 5
  have s6 := hSb.cell 6
  have s7 := hSb.cell 7
  simp at a0' a1 a2 a3 a4 s0 s1 s2 s3 s4 s5 s6 s7
  have hb13 := below_on HB1.out (below_on hb2 hb3 (Nat.le_refl _)) (Nat.le_refl _)
  have HB3 := Lib.hid hb13
  have hD3 := HD.out.on hb13
  have HG := Lib.hid (fun w' => containsEmpty w' na nc HNC.out (.func (.func 85) #[] #[.pointer (some ⟨w2.heap.size, 0, none⟩)]))
  clear hb2 hb3 hSb hA hb13 hD3 HSH HA HB1 HD
  by_cases hn0 : nl = 0
  case neg =>
    have gn : ((nl : Int) != 0) = true := by rw [bne_iff_ne]; omega
    have gn2 : decide (nl = 0) = false := decide_eq_false hn0
    clear hn0
    go_wp2_with fail
    all_goals
      go_ret
      refine ⟨ret_bool ?_, HB3.out⟩
      have h2 := HE2.out
      clear HE2 HB3
      subst h2
      rw [gn2]
      simp
  subst hn0
  go_wp2_with (first | (go_at_call 84; refine (HG.out _).mono ?_; rintro e w' ⟨rfl, rfl⟩))
  all_goals
    go_ret
    refine ⟨ret_bool ?_, HB3.out⟩
    have h2 := HE2.out
    clear HE2 HB3 HG HNC
    subst h2
    simp_all
    all_goals first | (intros; omega) | (rw [Bool.eq_iff_iff]; simp <;> omega)
theorem dsound_any (w : World) (k : Int) (h : DataH) (d : DataP) (hd : IsData w h d) :
    Calls Tryz.prog 47 #[.int .i64 k, .agg (dataC h)] w fun e w' => e = .returned (.bool (dataB k d)) ∧ Below w.heap.size w w' := by
  rcases kind_cases k with hk | rfl | rfl | hk | rfl | rfl | rfl | rfl | ⟨⟨k1, k2⟩, hk⟩
  · have HSH := Lib.hid (fun w' => shapes_other w' k (by omega))
    simp only [shapeC] at HSH
    rw [dataB_out hk]
    simp only [dataC]
    have hb1 : Below w.heap.size w (w.alloc (.cells #[.slice h.ba h.bl h.bc, .slice h.ha h.hl h.hc, .slice h.ma h.ml h.mc, .slice h.na h.nl h.nc, .slice h.ta h.tl h.tc] 33)) := (Below.refl _ _).alloc (Nat.le_refl _) _
    have HB1 := Lib.hid hb1
    clear hb1 hd
    rcases hk with hk | hk
    all_goals
      go_enter Tryz.func47, Tryz.ntmps47
      go_wp2_with fail
      refine (HSH.out _).mono ?_
      rintro e w2 ⟨rfl, hb2⟩
      have HB2 := Lib.hid (below_on (below_on HB1.out hb2 (Nat.le_refl _)) ((Below.refl w2.heap.size w2).alloc (Nat.le_refl _) (.cells #[.int .i64 (-1), .bool false, .bool false, .bool false, .int .i64 0, .int .i64 0, .bool false, .bool false] 116)) (Nat.le_refl _))
      clear hb2
      go_wp2_with fail
      go_ret
      exact ⟨rfl, HB2.out⟩
  · exact dsound_a w h d hd
  · exact dsound_aaaa w h d hd
  · exact dsound_ns w k hk h d hd
  · exact dsound_mx w h d hd
  · exact dsound_soa w h d hd
  · exact dsound_srv w h d hd
  · exact dsound_txt w h d hd
  · exact dsound_other w k k1 k2 hk h d hd
end
end Go.Proofs.YtipbakdodbmfjaaGreatDoor

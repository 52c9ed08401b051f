/- The contract of rdata.Sound: may a type say so? It answers as the reference's Data. -/
import Derived.Test.YtgfibbjifbghdaaGreatRdata
import Derived.Test.YtgfibbjifbghdaaGreatShapes
namespace Go.Proofs.YtgfibbjifbghdaaGreat
open Go.ChangeShapes Go.WideShapes Go.ChangeAt Go.RowKit

theorem fits1_2 (w : World) (n : Int) (g : Nat) (hw : wfi n) (hc : w.cell? ⟨g, 5, none⟩ = some (.int .i64 2)) :
    Calls Tryz.prog 159 #[.int .i64 n, .pointer (some ⟨g, 0, none⟩)] w fun e w' => e = .returned (.bool (!fitsB n 2)) ∧ w = w' := by
  have H := Lib.hid (nfits2 w n hw)
  go_enter Tryz.func159, Tryz.ntmps159
  go_wp2_with (go_at_call 94; refine H.out.mono ?_; rintro e w' ⟨rfl, rfl⟩)
  go_ret
  exact ⟨rfl, rfl⟩
theorem fits1_4 (w : World) (n : Int) (g : Nat) (hw : wfi n) (hc : w.cell? ⟨g, 5, none⟩ = some (.int .i64 4)) :
    Calls Tryz.prog 159 #[.int .i64 n, .pointer (some ⟨g, 0, none⟩)] w fun e w' => e = .returned (.bool (!fitsB n 4)) ∧ w = w' := by
  have H := Lib.hid (nfits4 w n hw)
  go_enter Tryz.func159, Tryz.ntmps159
  go_wp2_with (go_at_call 94; refine H.out.mono ?_; rintro e w' ⟨rfl, rfl⟩)
  go_ret
  exact ⟨rfl, rfl⟩
/-- which number is the first that does not fit -/
theorem idxNums_any (w : World) (ao : Option Addr) (len cap : Nat) (l : List Int) (g : Nat) (p : Int → Bool) (hs : Nums w ao len cap l) (hf : ∀ n ∈ l, wfi n)
    (H1 : Hid (∀ n, wfi n → Calls Tryz.prog 159 #[.int .i64 n, .pointer (some ⟨g, 0, none⟩)] w fun e w' => e = .returned (.bool (p n)) ∧ w = w')) :
    Calls Tryz.prog 183 #[.slice ao len cap, .func (.func 159) #[] #[.pointer (some ⟨g, 0, none⟩)]] w fun e w' => e = .returned (.int .i64 (idxZ p l)) ∧ w = w' := by
  have hl : l.length = len := by simpa using hs.hlen
  have hcap := hs.hcap
  have hle := hs.hle
  have HL := Lib.hid hl
  have HF := Lib.hid hf
  clear hl hf
  go_enter Tryz.func183, Tryz.ntmps183
  go_wp2
  go_loop [8, 5] (fun i _ => ∃ k : Nat, k ≤ len ∧ i = .int .i64 k ∧ Hid (∀ j (hj : j < l.length), j < k → p l[j] = false)) (fun i _ => len - (intOf i).toNat)
  case atStart => exact ⟨0, Nat.zero_le _, rfl, fun j hj h => absurd h (by omega)⟩
  case round =>
    obtain ⟨k, hk, rfl, hno⟩ := hrel
    by_cases hlt : k < len
    · obtain ⟨b, off, rfl⟩ := hs.addr hlt
      have hc := hs.at hlt
      rw [List.getElem_map] at hc
      have hkl : k < l.length := by have := HL.out; omega
      have hw1 := HF.out _ (List.getElem_mem hkl)
      obtain ⟨z, hz⟩ : ∃ z, z = l[k] := ⟨_, rfl⟩
      rw [← hz] at hc hw1
      have HZ := Lib.hid hz
      have HC := Lib.hid (H1.out z hw1)
      clear hz hw1
      cases hb : p z
      all_goals
        rw [hb] at HC
        have HB := Lib.hid hb
        clear hb
        go_wp2_with (go_at_call 159; refine HC.out.mono ?_; rintro e w' ⟨rfl, rfl⟩)
      · go_round
        case rel =>
          refine ⟨k + 1, by omega, by go_num, fun j hj h => ?_⟩
          rcases Nat.lt_succ_iff_lt_or_eq.1 h with h | rfl
          · exact hno.out j hj h
          · rw [← HZ.out]; exact HB.out
        case measure => simp [intOf]; omega
      · go_ret
        exact ⟨ret_int (idxZ_found (by have := HL.out; omega) (fun j hj => hno.out j (by have := HL.out; omega) hj) (by rw [← HZ.out]; exact HB.out)).symm, rfl⟩
    · go_wp2
      go_ret
      exact ⟨ret_int (idxZ_none fun j hj => hno.out j hj (by have := HL.out; omega)).symm, rfl⟩
theorem containsNums_any (w : World) (ao : Option Addr) (len cap : Nat) (l : List Int) (g : Nat) (p : Int → Bool) (hs : Nums w ao len cap l) (hf : ∀ n ∈ l, wfi n)
    (H1 : Hid (∀ n, wfi n → Calls Tryz.prog 159 #[.int .i64 n, .pointer (some ⟨g, 0, none⟩)] w fun e w' => e = .returned (.bool (p n)) ∧ w = w')) :
    Calls Tryz.prog 158 #[.slice ao len cap, .func (.func 159) #[] #[.pointer (some ⟨g, 0, none⟩)]] w fun e w' => e = .returned (.bool (l.any p)) ∧ w = w' := by
  have HC := Lib.hid (idxNums_any w ao len cap l g p hs hf H1)
  go_enter Tryz.func158, Tryz.ntmps158
  go_wp2_with (go_at_call 183; refine HC.out.mono ?_; rintro e w' ⟨rfl, rfl⟩)
  go_ret
  exact ⟨ret_bool (idxZ_any p l), rfl⟩
theorem containsEmpty (w : World) (ao : Option Addr) (cap : Nat) (_ : cap ≤ 9223372036854775807) (f : Value) : Calls Tryz.prog 158 #[.slice ao 0 cap, f] w fun e w' => e = .returned (.bool false) ∧ w = w' := by
  have HI : Hid (Calls Tryz.prog 183 #[.slice ao 0 cap, f] w fun e w' => e = .returned (.int .i64 (-1)) ∧ w = w') := by
    rw [Hid]
    go_enter Tryz.func183, Tryz.ntmps183
    go_wp2
    go_loop [8, 5] (fun i _ => i = .int .i64 0) (fun _ _ => 0)
    case atStart => rfl
    case round =>
      subst hrel
      go_wp2
      go_ret
      exact ⟨rfl, rfl⟩
  go_enter Tryz.func158, Tryz.ntmps158
  go_wp2_with (go_at_call 183; refine HI.out.mono ?_; rintro e w' ⟨rfl, rfl⟩)
  go_ret
  exact ⟨rfl, rfl⟩
theorem long2_any (w : World) (s : ByteArray) (hs : s.size ≤ 9223372036854775807) :
    Calls Tryz.prog 160 #[.string s] w fun e w' => e = .returned (.bool (decide (255 < s.size))) ∧ w = w' := by
  go_enter Tryz.func160, Tryz.ntmps160
  go_wp2
  go_ret
  exact ⟨ret_bool (decide_eq_decide.2 (by omega)), rfl⟩
theorem idxLong_any (w : World) (ao : Option Addr) (len cap : Nat) (ss : List ByteArray) (hs : Strs w ao len cap ss) :
    Calls Tryz.prog 73 #[.slice ao len cap, .func (.func 160) #[] #[]] w fun e w' => e = .returned (.int .i64 (idxZ (fun s => decide (255 < s.size)) ss)) ∧ w = w' := by
  have hl := hs.len
  have hcap := hs.row.hcap
  have hle := hs.row.hle
  go_enter Tryz.func73, Tryz.ntmps73
  go_wp2
  go_loop [8, 5] (fun i _ => ∃ k : Nat, k ≤ len ∧ i = .int .i64 k ∧ Hid (∀ j (hj : j < ss.length), j < k → decide (255 < ss[j].size) = false)) (fun i _ => len - (intOf i).toNat)
  case atStart => exact ⟨0, Nat.zero_le _, rfl, fun j hj h => absurd h (by omega)⟩
  case round =>
    obtain ⟨k, hk, rfl, hno⟩ := hrel
    by_cases hlt : k < len
    · obtain ⟨b, off, rfl⟩ := hs.row.addr hlt
      have hc := hs.at hlt
      have h3 := hs.get_small (i := k) (by omega)
      obtain ⟨s, hsk⟩ : ∃ s, s = ss[k] := ⟨_, rfl⟩
      rw [← hsk] at hc h3
      have HK := Lib.hid hsk
      clear hsk
      have HC := Lib.hid (long2_any w s h3)
      cases hb : decide (255 < s.size)
      all_goals
        rw [hb] at HC
        have HB := Lib.hid hb
        clear hb
        go_wp2_with (go_at_call 160; refine HC.out.mono ?_; rintro e w' ⟨rfl, rfl⟩)
      · go_round
        case rel =>
          refine ⟨k + 1, by omega, by go_num, fun j hj h => ?_⟩
          rcases Nat.lt_succ_iff_lt_or_eq.1 h with h | rfl
          · exact hno.out j hj h
          · rw [← HK.out]; exact HB.out
        case measure => simp [intOf]; omega
      · go_ret
        exact ⟨ret_int (idxZ_found (by omega) (fun j hj => hno.out j (by omega) hj) (by rw [← HK.out]; exact HB.out)).symm, rfl⟩
    · go_wp2
      go_ret
      exact ⟨ret_int (idxZ_none fun j hj => hno.out j hj (by omega)).symm, rfl⟩
theorem containsLong_any (w : World) (ao : Option Addr) (len cap : Nat) (ss : List ByteArray) (hs : Strs w ao len cap ss) :
    Calls Tryz.prog 42 #[.slice ao len cap, .func (.func 160) #[] #[]] w fun e w' => e = .returned (.bool (ss.any (fun s => decide (255 < s.size)))) ∧ w = w' := by
  have HC := Lib.hid (idxLong_any w ao len cap ss hs)
  go_enter Tryz.func42, Tryz.ntmps42
  go_wp2_with (go_at_call 73; refine HC.out.mono ?_; rintro e w' ⟨rfl, rfl⟩)
  go_ret
  exact ⟨ret_bool (idxZ_any _ ss), rfl⟩
theorem fitB_any (l : List Int) (c s : Nat) : fitB l c s = (decide (l.length = c) && !(l.any fun n => !fitsB n s)) := by
  rw [fitB]
  congr 1
  rw [Bool.eq_iff_iff]
  simp
theorem long_all (l : List ByteArray) : l.all (fun s => decide (s.size ≤ 255)) = !(l.any fun s => decide (255 < s.size)) := by
  rw [Bool.eq_iff_iff]
  simp

set_option maxHeartbeats 8000000 in
set_option maxRecDepth 100000 in
theorem dsound_a (w : World) (h : DataH) (d : DataP) (hd : IsData w h d) :
    Calls Tryz.prog 140 #[.int .i64 1, .agg (dataC h)] w fun e w' => e = .returned (.bool (dataB 1 d)) ∧ Below w.heap.size w w' := by
  have hlen := hd.len
  have hB : Blk (w.alloc (.cells (dataC h) 98)) w.heap.size (dataC h) 98 := heap_alloc_new w _
  have hb1 : Below w.heap.size w (w.alloc (.cells (dataC h) 98)) := (Below.refl _ _).alloc (Nat.le_refl _) _
  obtain ⟨ba, bl, bc, ha, hl, hc, ma, ml, mc, na, nl, nc, ta, tl, tc⟩ := h
  obtain ⟨e0, e1, e2, e3, e4⟩ := hlen
  simp only [dataC] at *
  have HE : Hid (dataB 1 d = (decide (bl = 4) && (decide (hl = 0) && (decide (ml = 0) && (decide (nl = 0) && decide (tl = 0)))))) := by
    show dataB 1 d = _
    show (decide (d.bytes.length = 4) && emptyB d true false false false false) = _
    simp only [emptyB, e0, e1, e2, e3, e4, Bool.true_or, Bool.false_or, Bool.true_and]
  obtain ⟨E, hE⟩ : ∃ E, E = dataB 1 d := ⟨_, rfl⟩
  have HE2 := Lib.hid (hE.trans HE.out)
  rw [← hE]
  have HA := Lib.hid hB
  have HB1 := Lib.hid hb1
  have HD := Lib.hid hd
  have HSH := Lib.hid (fun w' => shapes_a w')
  simp only [shapeC] at HSH
  have hnc := hd.nums.hcap
  have HNC := Lib.hid hnc
  clear hnc
  clear hb1 hB e0 e1 e2 e3 e4 hE HE hd
  go_enter Tryz.func140, Tryz.ntmps140
  go_wp2_with fail
  refine (HSH.out _).mono ?_
  rintro e w2 ⟨rfl, hb2⟩
  have hb3 : Below w2.heap.size w2 (w2.alloc (.cells #[.int .i64 4, .bool false, .bool false, .bool false, .int .i64 0, .int .i64 0, .bool false, .bool false] 262)) := (Below.refl _ _).alloc (Nat.le_refl _) _
  have hSb : Blk (w2.alloc (.cells #[.int .i64 4, .bool false, .bool false, .bool false, .int .i64 0, .int .i64 0, .bool false, .bool false] 262)) w2.heap.size #[.int .i64 4, .bool false, .bool false, .bool false, .int .i64 0, .int .i64 0, .bool false, .bool false] 262 := heap_alloc_new w2 _
  have hA := (HA.out.on hb2).on hb3
  have a0' := hA.cell 0
  have a1 := hA.cell 1
  have a2 := hA.cell 2
  have a3 := hA.cell 3
  have a4 := hA.cell 4
  have s0 := hSb.cell 0
  have s1 := hSb.cell 1
  have s2 := hSb.cell 2
  have s3 := hSb.cell 3
  have s4 := hSb.cell 4
  have s5 := hSb.cell 5
  have s6 := hSb.cell 6
  have s7 := hSb.cell 7
  simp at a0' a1 a2 a3 a4 s0 s1 s2 s3 s4 s5 s6 s7
  have hb13 := below_on HB1.out (below_on hb2 hb3 (Nat.le_refl _)) (Nat.le_refl _)
  have HB3 := Lib.hid hb13
  have hD3 := HD.out.on hb13
  have HG := Lib.hid (fun w' => containsEmpty w' na nc HNC.out (.func (.func 159) #[] #[.pointer (some ⟨w2.heap.size, 0, none⟩)]))
  clear hb2 hb3 hSb hA hb13 hD3 HSH HA HB1 HD
  by_cases hn0 : nl = 0
  case neg =>
    have gn : ((nl : Int) != 0) = true := by rw [bne_iff_ne]; omega
    have gn2 : decide (nl = 0) = false := decide_eq_false hn0
    clear hn0
    go_wp2_with fail
    all_goals
      go_ret
      refine ⟨ret_bool ?_, HB3.out⟩
      have h2 := HE2.out
      clear HE2 HB3
      subst h2
      rw [gn2]
      simp
  subst hn0
  go_wp2_with (first | (go_at_call 158; refine (HG.out _).mono ?_; rintro e w' ⟨rfl, rfl⟩))
  all_goals
    go_ret
    refine ⟨ret_bool ?_, HB3.out⟩
    have h2 := HE2.out
    clear HE2 HB3 HG HNC
    subst h2
    simp_all
    all_goals first | (intros; omega) | (rw [Bool.eq_iff_iff]; simp <;> omega)
set_option maxHeartbeats 8000000 in
set_option maxRecDepth 100000 in
theorem dsound_aaaa (w : World) (h : DataH) (d : DataP) (hd : IsData w h d) :
    Calls Tryz.prog 140 #[.int .i64 28, .agg (dataC h)] w fun e w' => e = .returned (.bool (dataB 28 d)) ∧ Below w.heap.size w w' := by
  have hlen := hd.len
  have hB : Blk (w.alloc (.cells (dataC h) 98)) w.heap.size (dataC h) 98 := heap_alloc_new w _
  have hb1 : Below w.heap.size w (w.alloc (.cells (dataC h) 98)) := (Below.refl _ _).alloc (Nat.le_refl _) _
  obtain ⟨ba, bl, bc, ha, hl, hc, ma, ml, mc, na, nl, nc, ta, tl, tc⟩ := h
  obtain ⟨e0, e1, e2, e3, e4⟩ := hlen
  simp only [dataC] at *
  have HE : Hid (dataB 28 d = (decide (bl = 16) && (decide (hl = 0) && (decide (ml = 0) && (decide (nl = 0) && decide (tl = 0)))))) := by
    show dataB 28 d = _
    show (decide (d.bytes.length = 16) && emptyB d true false false false false) = _
    simp only [emptyB, e0, e1, e2, e3, e4, Bool.true_or, Bool.false_or, Bool.true_and]
  obtain ⟨E, hE⟩ : ∃ E, E = dataB 28 d := ⟨_, rfl⟩
  have HE2 := Lib.hid (hE.trans HE.out)
  rw [← hE]
  have HA := Lib.hid hB
  have HB1 := Lib.hid hb1
  have HD := Lib.hid hd
  have HSH := Lib.hid (fun w' => shapes_aaaa w')
  simp only [shapeC] at HSH
  have hnc := hd.nums.hcap
  have HNC := Lib.hid hnc
  clear hnc
  clear hb1 hB e0 e1 e2 e3 e4 hE HE hd
  go_enter Tryz.func140, Tryz.ntmps140
  go_wp2_with fail
  refine (HSH.out _).mono ?_
  rintro e w2 ⟨rfl, hb2⟩
  have hb3 : Below w2.heap.size w2 (w2.alloc (.cells #[.int .i64 16, .bool false, .bool false, .bool false, .int .i64 0, .int .i64 0, .bool false, .bool false] 262)) := (Below.refl _ _).alloc (Nat.le_refl _) _
  have hSb : Blk (w2.alloc (.cells #[.int .i64 16, .bool false, .bool false, .bool false, .int .i64 0, .int .i64 0, .bool false, .bool false] 262)) w2.heap.size #[.int .i64 16, .bool false, .bool false, .bool false, .int .i64 0, .int .i64 0, .bool false, .bool false] 262 := heap_alloc_new w2 _
  have hA := (HA.out.on hb2).on hb3
  have a0' := hA.cell 0
  have a1 := hA.cell 1
  have a2 := hA.cell 2
  have a3 := hA.cell 3
  have a4 := hA.cell 4
  have s0 := hSb.cell 0
  have s1 := hSb.cell 1
  have s2 := hSb.cell 2
  have s3 := hSb.cell 3
  have s4 := hSb.cell 4
  have s5 := hSb.cell 5
  have s6 := hSb.cell 6
  have s7 := hSb.cell 7
  simp at a0' a1 a2 a3 a4 s0 s1 s2 s3 s4 s5 s6 s7
  have hb13 := below_on HB1.out (below_on hb2 hb3 (Nat.le_refl _)) (Nat.le_refl _)
  have HB3 := Lib.hid hb13
  have hD3 := HD.out.on hb13
  have HG := Lib.hid (fun w' => containsEmpty w' na nc HNC.out (.func (.func 159) #[] #[.pointer (some ⟨w2.heap.size, 0, none⟩)]))
  clear hb2 hb3 hSb hA hb13 hD3 HSH HA HB1 HD
  by_cases hn0 : nl = 0
  case neg =>
    have gn : ((nl : Int) != 0) = true := by rw [bne_iff_ne]; omega
    have gn2 : decide (nl = 0) = false := decide_eq_false hn0
    clear hn0
    go_wp2_with fail
    all_goals
      go_ret
      refine ⟨ret_bool ?_, HB3.out⟩
      have h2 := HE2.out
      clear HE2 HB3
      subst h2
      rw [gn2]
      simp
  subst hn0
  go_wp2_with (first | (go_at_call 158; refine (HG.out _).mono ?_; rintro e w' ⟨rfl, rfl⟩))
  all_goals
    go_ret
    refine ⟨ret_bool ?_, HB3.out⟩
    have h2 := HE2.out
    clear HE2 HB3 HG HNC
    subst h2
    simp_all
    all_goals first | (intros; omega) | (rw [Bool.eq_iff_iff]; simp <;> omega)
set_option maxHeartbeats 8000000 in
set_option maxRecDepth 100000 in
theorem dsound_ns (w : World) (k : Int) (hk : k = 2 ∨ k = 5 ∨ k = 12) (h : DataH) (d : DataP) (hd : IsData w h d) :
    Calls Tryz.prog 140 #[.int .i64 k, .agg (dataC h)] w fun e w' => e = .returned (.bool (dataB k d)) ∧ Below w.heap.size w w' := by
  have hlen := hd.len
  have hB : Blk (w.alloc (.cells (dataC h) 98)) w.heap.size (dataC h) 98 := heap_alloc_new w _
  have hb1 : Below w.heap.size w (w.alloc (.cells (dataC h) 98)) := (Below.refl _ _).alloc (Nat.le_refl _) _
  obtain ⟨ba, bl, bc, ha, hl, hc, ma, ml, mc, na, nl, nc, ta, tl, tc⟩ := h
  obtain ⟨e0, e1, e2, e3, e4⟩ := hlen
  simp only [dataC] at *
  obtain ⟨S, hS⟩ : ∃ S, S = soundB d.host := ⟨_, rfl⟩
  have HE : Hid (dataB k d = (S && (decide (bl = 0) && (decide (ml = 0) && (decide (nl = 0) && decide (tl = 0)))))) := by
    show dataB k d = _
    have hx : dataB k d = (soundB d.host && emptyB d false true false false false) := by rcases hk with rfl | rfl | rfl <;> rfl
    rw [hx, ← hS]
    simp only [emptyB, e0, e1, e2, e3, e4, Bool.true_or, Bool.false_or, Bool.true_and]
  obtain ⟨E, hE⟩ : ∃ E, E = dataB k d := ⟨_, rfl⟩
  have HE2 := Lib.hid (hE.trans HE.out)
  rw [← hE]
  have HA := Lib.hid hB
  have HB1 := Lib.hid hb1
  have HD := Lib.hid hd
  have HSH := Lib.hid (fun w' => shapes_ns w' k hk)
  have d1 : decide (k < 1) = false := by rw [decide_eq_false_iff_not]; omega
  have d2 : decide ((65535 : Int) < k) = false := by rw [decide_eq_false_iff_not]; omega
  simp only [shapeC] at HSH
  have hnc := hd.nums.hcap
  have HNC := Lib.hid hnc
  clear hnc
  clear hb1 hB e0 e1 e2 e3 e4 hE HE hk hd
  go_enter Tryz.func140, Tryz.ntmps140
  go_wp2_with fail
  refine (HSH.out _).mono ?_
  rintro e w2 ⟨rfl, hb2⟩
  have hb3 : Below w2.heap.size w2 (w2.alloc (.cells #[.int .i64 0, .bool true, .bool false, .bool true, .int .i64 0, .int .i64 0, .bool false, .bool false] 262)) := (Below.refl _ _).alloc (Nat.le_refl _) _
  have hSb : Blk (w2.alloc (.cells #[.int .i64 0, .bool true, .bool false, .bool true, .int .i64 0, .int .i64 0, .bool false, .bool false] 262)) w2.heap.size #[.int .i64 0, .bool true, .bool false, .bool true, .int .i64 0, .int .i64 0, .bool false, .bool false] 262 := heap_alloc_new w2 _
  have hA := (HA.out.on hb2).on hb3
  have a0' := hA.cell 0
  have a1 := hA.cell 1
  have a2 := hA.cell 2
  have a3 := hA.cell 3
  have a4 := hA.cell 4
  have s0 := hSb.cell 0
  have s1 := hSb.cell 1
  have s2 := hSb.cell 2
  have s3 := hSb.cell 3
  have s4 := hSb.cell 4
  have s5 := hSb.cell 5
  have s6 := hSb.cell 6
  have s7 := hSb.cell 7
  simp at a0' a1 a2 a3 a4 s0 s1 s2 s3 s4 s5 s6 s7
  have hb13 := below_on HB1.out (below_on hb2 hb3 (Nat.le_refl _)) (Nat.le_refl _)
  have HB3 := Lib.hid hb13
  have hD3 := HD.out.on hb13
  have HS1 := Lib.hid (sound_any _ _ _ _ _ hD3.host)
  rw [← hS] at HS1
  have HG := Lib.hid (fun w' => containsEmpty w' na nc HNC.out (.func (.func 159) #[] #[.pointer (some ⟨w2.heap.size, 0, none⟩)]))
  clear hb2 hb3 hSb hA hb13 hD3 HSH HA HB1 HD hS
  by_cases hn0 : nl = 0
  case neg =>
    have gn : ((nl : Int) != 0) = true := by rw [bne_iff_ne]; omega
    have gn2 : decide (nl = 0) = false := decide_eq_false hn0
    clear hn0
    go_wp2_with fail
    all_goals
      go_ret
      refine ⟨ret_bool ?_, HB3.out⟩
      have h2 := HE2.out
      clear HE2 HB3
      subst h2
      rw [gn2]
      simp
  subst hn0
  go_wp2_with (first | (go_at_call 23; refine HS1.out.mono ?_; rintro e w' ⟨rfl, rfl⟩) | (go_at_call 158; refine (HG.out _).mono ?_; rintro e w' ⟨rfl, rfl⟩))
  all_goals
    go_ret
    refine ⟨ret_bool ?_, HB3.out⟩
    have h2 := HE2.out
    clear HE2 HB3 HG HNC HS1
    subst h2
    simp_all
    all_goals first | (intros; omega) | (rw [Bool.eq_iff_iff]; simp <;> omega)
set_option maxHeartbeats 8000000 in
set_option maxRecDepth 100000 in
theorem dsound_mx (w : World) (h : DataH) (d : DataP) (hd : IsData w h d) :
    Calls Tryz.prog 140 #[.int .i64 15, .agg (dataC h)] w fun e w' => e = .returned (.bool (dataB 15 d)) ∧ Below w.heap.size w w' := by
  have hlen := hd.len
  have hB : Blk (w.alloc (.cells (dataC h) 98)) w.heap.size (dataC h) 98 := heap_alloc_new w _
  have hb1 : Below w.heap.size w (w.alloc (.cells (dataC h) 98)) := (Below.refl _ _).alloc (Nat.le_refl _) _
  obtain ⟨ba, bl, bc, ha, hl, hc, ma, ml, mc, na, nl, nc, ta, tl, tc⟩ := h
  obtain ⟨e0, e1, e2, e3, e4⟩ := hlen
  simp only [dataC] at *
  obtain ⟨S, hS⟩ : ∃ S, S = soundB d.host := ⟨_, rfl⟩
  obtain ⟨G, hG⟩ : ∃ S, S = d.nums.any (fun n => !fitsB n 2) := ⟨_, rfl⟩
  have HE : Hid (dataB 15 d = ((S && (decide (nl = 1) && !G)) && (decide (bl = 0) && (decide (ml = 0) && decide (tl = 0))))) := by
    show dataB 15 d = _
    show ((soundB d.host && fitB d.nums 1 2) && emptyB d false true false true false) = _; rw [fitB_any, ← hS, ← hG]
    simp only [emptyB, e0, e1, e2, e3, e4, Bool.true_or, Bool.false_or, Bool.true_and]
  obtain ⟨E, hE⟩ : ∃ E, E = dataB 15 d := ⟨_, rfl⟩
  have HE2 := Lib.hid (hE.trans HE.out)
  rw [← hE]
  have HA := Lib.hid hB
  have HB1 := Lib.hid hb1
  have HD := Lib.hid hd
  have HSH := Lib.hid (fun w' => shapes_mx w')
  simp only [shapeC] at HSH
  have hnc := hd.nums.hcap
  have HNC := Lib.hid hnc
  clear hnc
  clear hb1 hB e0 e1 e2 e3 e4 hE HE hd
  go_enter Tryz.func140, Tryz.ntmps140
  go_wp2_with fail
  refine (HSH.out _).mono ?_
  rintro e w2 ⟨rfl, hb2⟩
  have hb3 : Below w2.heap.size w2 (w2.alloc (.cells #[.int .i64 0, .bool true, .bool false, .bool true, .int .i64 1, .int .i64 2, .bool false, .bool true] 262)) := (Below.refl _ _).alloc (Nat.le_refl _) _
  have hSb : Blk (w2.alloc (.cells #[.int .i64 0, .bool true, .bool false, .bool true, .int .i64 1, .int .i64 2, .bool false, .bool true] 262)) w2.heap.size #[.int .i64 0, .bool true, .bool false, .bool true, .int .i64 1, .int .i64 2, .bool false, .bool true] 262 := heap_alloc_new w2 _
  have hA := (HA.out.on hb2).on hb3
  have a0' := hA.cell 0
  have a1 := hA.cell 1
  have a2 := hA.cell 2
  have a3 := hA.cell 3
  have a4 := hA.cell 4
  have s0 := hSb.cell 0
  have s1 := hSb.cell 1
  have s2 := hSb.cell 2
  have s3 := hSb.cell 3
  have s4 := hSb.cell 4
  have s5 := hSb.cell 5
  have s6 := hSb.cell 6
  have s7 := hSb.cell 7
  simp at a0' a1 a2 a3 a4 s0 s1 s2 s3 s4 s5 s6 s7
  have hb13 := below_on HB1.out (below_on hb2 hb3 (Nat.le_refl _)) (Nat.le_refl _)
  have HB3 := Lib.hid hb13
  have hD3 := HD.out.on hb13
  have HS1 := Lib.hid (sound_any _ _ _ _ _ hD3.host)
  rw [← hS] at HS1
  have HG := Lib.hid (containsNums_any _ _ _ _ _ w2.heap.size (fun n => !fitsB n 2) hD3.nums hD3.fits (fun n hn => fits1_2 _ n _ hn (by rw [hSb.cell 5]; rfl)))
  rw [← hG] at HG
  clear hb2 hb3 hSb hA hb13 hD3 HSH HA HB1 HD hS hG
  by_cases hn0 : nl = 1
  case neg =>
    have gn : ((nl : Int) != 1) = true := by rw [bne_iff_ne]; omega
    have gn2 : decide (nl = 1) = false := decide_eq_false hn0
    clear hn0
    go_wp2_with fail
    all_goals
      go_ret
      refine ⟨ret_bool ?_, HB3.out⟩
      have h2 := HE2.out
      clear HE2 HB3
      subst h2
      rw [gn2]
      simp
  subst hn0
  go_wp2_with (first | (go_at_call 23; refine HS1.out.mono ?_; rintro e w' ⟨rfl, rfl⟩) | (go_at_call 158; refine HG.out.mono ?_; rintro e w' ⟨rfl, rfl⟩))
  all_goals
    go_ret
    refine ⟨ret_bool ?_, HB3.out⟩
    have h2 := HE2.out
    clear HE2 HB3 HG HNC HS1
    subst h2
    simp_all
    all_goals first | (intros; omega) | (rw [Bool.eq_iff_iff]; simp <;> omega)
set_option maxHeartbeats 8000000 in
set_option maxRecDepth 100000 in
theorem dsound_soa (w : World) (h : DataH) (d : DataP) (hd : IsData w h d) :
    Calls Tryz.prog 140 #[.int .i64 6, .agg (dataC h)] w fun e w' => e = .returned (.bool (dataB 6 d)) ∧ Below w.heap.size w w' := by
  have hlen := hd.len
  have hB : Blk (w.alloc (.cells (dataC h) 98)) w.heap.size (dataC h) 98 := heap_alloc_new w _
  have hb1 : Below w.heap.size w (w.alloc (.cells (dataC h) 98)) := (Below.refl _ _).alloc (Nat.le_refl _) _
  obtain ⟨ba, bl, bc, ha, hl, hc, ma, ml, mc, na, nl, nc, ta, tl, tc⟩ := h
  obtain ⟨e0, e1, e2, e3, e4⟩ := hlen
  simp only [dataC] at *
  obtain ⟨S, hS⟩ : ∃ S, S = soundB d.host := ⟨_, rfl⟩
  obtain ⟨S2, hS2⟩ : ∃ S, S = soundB d.mail := ⟨_, rfl⟩
  obtain ⟨G, hG⟩ : ∃ S, S = d.nums.any (fun n => !fitsB n 4) := ⟨_, rfl⟩
  have HE : Hid (dataB 6 d = (((S && S2) && (decide (nl = 5) && !G)) && (decide (bl = 0) && decide (tl = 0)))) := by
    show dataB 6 d = _
    show (((soundB d.host && soundB d.mail) && fitB d.nums 5 4) && emptyB d false true true true false) = _; rw [fitB_any, ← hS, ← hS2, ← hG]
    simp only [emptyB, e0, e1, e2, e3, e4, Bool.true_or, Bool.false_or, Bool.true_and]
  obtain ⟨E, hE⟩ : ∃ E, E = dataB 6 d := ⟨_, rfl⟩
  have HE2 := Lib.hid (hE.trans HE.out)
  rw [← hE]
  have HA := Lib.hid hB
  have HB1 := Lib.hid hb1
  have HD := Lib.hid hd
  have HSH := Lib.hid (fun w' => shapes_soa w')
  simp only [shapeC] at HSH
  have hnc := hd.nums.hcap
  have HNC := Lib.hid hnc
  clear hnc
  clear hb1 hB e0 e1 e2 e3 e4 hE HE hd
  go_enter Tryz.func140, Tryz.ntmps140
  go_wp2_with fail
  refine (HSH.out _).mono ?_
  rintro e w2 ⟨rfl, hb2⟩
  have hb3 : Below w2.heap.size w2 (w2.alloc (.cells #[.int .i64 0, .bool true, .bool true, .bool true, .int .i64 5, .int .i64 4, .bool false, .bool false] 262)) := (Below.refl _ _).alloc (Nat.le_refl _) _
  have hSb : Blk (w2.alloc (.cells #[.int .i64 0, .bool true, .bool true, .bool true, .int .i64 5, .int .i64 4, .bool false, .bool false] 262)) w2.heap.size #[.int .i64 0, .bool true, .bool true, .bool true, .int .i64 5, .int .i64 4, .bool false, .bool false] 262 := heap_alloc_new w2 _
  have hA := (HA.out.on hb2).on hb3
  have a0' := hA.cell 0
  have a1 := hA.cell 1
  have a2 := hA.cell 2
  have a3 := hA.cell 3
  have a4 := hA.cell 4
  have s0 := hSb.cell 0
  have s1 := hSb.cell 1
  have s2 := hSb.cell 2
  have s3 := hSb.cell 3
  have s4 := hSb.cell 4
  have s5 := hSb.cell 5
  have s6 := hSb.cell 6
  have s7 := hSb.cell 7
  simp at a0' a1 a2 a3 a4 s0 s1 s2 s3 s4 s5 s6 s7
  have hb13 := below_on HB1.out (below_on hb2 hb3 (Nat.le_refl _)) (Nat.le_refl _)
  have HB3 := Lib.hid hb13
  have hD3 := HD.out.on hb13
  have HS1 := Lib.hid (sound_any _ _ _ _ _ hD3.host)
  rw [← hS] at HS1
  have HS2 := Lib.hid (sound_any _ _ _ _ _ hD3.mail)
  rw [← hS2] at HS2
  have HG := Lib.hid (containsNums_any _ _ _ _ _ w2.heap.size (fun n => !fitsB n 4) hD3.nums hD3.fits (fun n hn => fits1_4 _ n _ hn (by rw [hSb.cell 5]; rfl)))
  rw [← hG] at HG
  clear hb2 hb3 hSb hA hb13 hD3 HSH HA HB1 HD hS hS2 hG
  by_cases hn0 : nl = 5
  case neg =>
    have gn : ((nl : Int) != 5) = true := by rw [bne_iff_ne]; omega
    have gn2 : decide (nl = 5) = false := decide_eq_false hn0
    clear hn0
    go_wp2_with fail
    all_goals
      go_ret
      refine ⟨ret_bool ?_, HB3.out⟩
      have h2 := HE2.out
      clear HE2 HB3
      subst h2
      rw [gn2]
      simp
  subst hn0
  by_cases hb0 : bl = 0
  case neg =>
    have gb : ((bl : Int) != 0) = true := by rw [bne_iff_ne]; omega
    have gb2 : decide (bl = 0) = false := decide_eq_false hb0
    clear hb0
    go_wp2_with fail
    all_goals
      go_ret
      refine ⟨ret_bool ?_, HB3.out⟩
      have h2 := HE2.out
      clear HE2 HB3
      subst h2
      rw [gb2]
      simp
  subst hb0
  go_wp2_with fail
  refine HS1.out.mono ?_
  rintro e w' ⟨rfl, rfl⟩
  cases S
  · go_wp2_with fail
    go_ret
    exact ⟨ret_bool (by rw [HE2.out]; rfl), HB3.out⟩
  go_wp2_with fail
  refine HS2.out.mono ?_
  rintro e w' ⟨rfl, rfl⟩
  cases S2
  · go_wp2_with fail
    go_ret
    exact ⟨ret_bool (by rw [HE2.out]; rfl), HB3.out⟩
  go_wp2_with fail
  refine HG.out.mono ?_
  rintro e w' ⟨rfl, rfl⟩
  cases G
  · go_wp2_with fail
    go_ret
    refine ⟨ret_bool ?_, HB3.out⟩
    rw [HE2.out]
    rw [Bool.eq_iff_iff]
    simp
  · go_wp2_with fail
    go_ret
    refine ⟨ret_bool ?_, HB3.out⟩
    rw [HE2.out]
    simp
set_option maxHeartbeats 8000000 in
set_option maxRecDepth 100000 in
theorem dsound_srv (w : World) (h : DataH) (d : DataP) (hd : IsData w h d) :
    Calls Tryz.prog 140 #[.int .i64 33, .agg (dataC h)] w fun e w' => e = .returned (.bool (dataB 33 d)) ∧ Below w.heap.size w w' := by
  have hlen := hd.len
  have hB : Blk (w.alloc (.cells (dataC h) 98)) w.heap.size (dataC h) 98 := heap_alloc_new w _
  have hb1 : Below w.heap.size w (w.alloc (.cells (dataC h) 98)) := (Below.refl _ _).alloc (Nat.le_refl _) _
  obtain ⟨ba, bl, bc, ha, hl, hc, ma, ml, mc, na, nl, nc, ta, tl, tc⟩ := h
  obtain ⟨e0, e1, e2, e3, e4⟩ := hlen
  simp only [dataC] at *
  obtain ⟨S, hS⟩ : ∃ S, S = soundB d.host := ⟨_, rfl⟩
  obtain ⟨G, hG⟩ : ∃ S, S = d.nums.any (fun n => !fitsB n 2) := ⟨_, rfl⟩
  have HE : Hid (dataB 33 d = ((S && (decide (nl = 3) && !G)) && (decide (bl = 0) && (decide (ml = 0) && decide (tl = 0))))) := by
    show dataB 33 d = _
    show ((soundB d.host && fitB d.nums 3 2) && emptyB d false true false true false) = _; rw [fitB_any, ← hS, ← hG]
    simp only [emptyB, e0, e1, e2, e3, e4, Bool.true_or, Bool.false_or, Bool.true_and]
  obtain ⟨E, hE⟩ : ∃ E, E = dataB 33 d := ⟨_, rfl⟩
  have HE2 := Lib.hid (hE.trans HE.out)
  rw [← hE]
  have HA := Lib.hid hB
  have HB1 := Lib.hid hb1
  have HD := Lib.hid hd
  have HSH := Lib.hid (fun w' => shapes_srv w')
  simp only [shapeC] at HSH
  have hnc := hd.nums.hcap
  have HNC := Lib.hid hnc
  clear hnc
  clear hb1 hB e0 e1 e2 e3 e4 hE HE hd
  go_enter Tryz.func140, Tryz.ntmps140
  go_wp2_with fail
  refine (HSH.out _).mono ?_
  rintro e w2 ⟨rfl, hb2⟩
  have hb3 : Below w2.heap.size w2 (w2.alloc (.cells #[.int .i64 0, .bool true, .bool false, .bool false, .int .i64 3, .int .i64 2, .bool false, .bool true] 262)) := (Below.refl _ _).alloc (Nat.le_refl _) _
  have hSb : Blk (w2.alloc (.cells #[.int .i64 0, .bool true, .bool false, .bool false, .int .i64 3, .int .i64 2, .bool false, .bool true] 262)) w2.heap.size #[.int .i64 0, .bool true, .bool false, .bool false, .int .i64 3, .int .i64 2, .bool false, .bool true] 262 := heap_alloc_new w2 _
  have hA := (HA.out.on hb2).on hb3
  have a0' := hA.cell 0
  have a1 := hA.cell 1
  have a2 := hA.cell 2
  have a3 := hA.cell 3
  have a4 := hA.cell 4
  have s0 := hSb.cell 0
  have s1 := hSb.cell 1
  have s2 := hSb.cell 2
  have s3 := hSb.cell 3
  have s4 := hSb.cell 4
  have s5 := hSb.cell 5
  have s6 := hSb.cell 6
  have s7 := hSb.cell 7
  simp at a0' a1 a2 a3 a4 s0 s1 s2 s3 s4 s5 s6 s7
  have hb13 := below_on HB1.out (below_on hb2 hb3 (Nat.le_refl _)) (Nat.le_refl _)
  have HB3 := Lib.hid hb13
  have hD3 := HD.out.on hb13
  have HS1 := Lib.hid (sound_any _ _ _ _ _ hD3.host)
  rw [← hS] at HS1
  have HG := Lib.hid (containsNums_any _ _ _ _ _ w2.heap.size (fun n => !fitsB n 2) hD3.nums hD3.fits (fun n hn => fits1_2 _ n _ hn (by rw [hSb.cell 5]; rfl)))
  rw [← hG] at HG
  clear hb2 hb3 hSb hA hb13 hD3 HSH HA HB1 HD hS hG
  by_cases hn0 : nl = 3
  case neg =>
    have gn : ((nl : Int) != 3) = true := by rw [bne_iff_ne]; omega
    have gn2 : decide (nl = 3) = false := decide_eq_false hn0
    clear hn0
    go_wp2_with fail
    all_goals
      go_ret
      refine ⟨ret_bool ?_, HB3.out⟩
      have h2 := HE2.out
      clear HE2 HB3
      subst h2
      rw [gn2]
      simp
  subst hn0
  go_wp2_with (first | (go_at_call 23; refine HS1.out.mono ?_; rintro e w' ⟨rfl, rfl⟩) | (go_at_call 158; refine HG.out.mono ?_; rintro e w' ⟨rfl, rfl⟩))
  all_goals
    go_ret
    refine ⟨ret_bool ?_, HB3.out⟩
    have h2 := HE2.out
    clear HE2 HB3 HG HNC HS1
    subst h2
    simp_all
    all_goals first | (intros; omega) | (rw [Bool.eq_iff_iff]; simp <;> omega)
set_option maxHeartbeats 8000000 in
set_option maxRecDepth 100000 in
theorem dsound_txt (w : World) (h : DataH) (d : DataP) (hd : IsData w h d) :
    Calls Tryz.prog 140 #[.int .i64 16, .agg (dataC h)] w fun e w' => e = .returned (.bool (dataB 16 d)) ∧ Below w.heap.size w w' := by
  have hlen := hd.len
  have hB : Blk (w.alloc (.cells (dataC h) 98)) w.heap.size (dataC h) 98 := heap_alloc_new w _
  have hb1 : Below w.heap.size w (w.alloc (.cells (dataC h) 98)) := (Below.refl _ _).alloc (Nat.le_refl _) _
  obtain ⟨ba, bl, bc, ha, hl, hc, ma, ml, mc, na, nl, nc, ta, tl, tc⟩ := h
  obtain ⟨e0, e1, e2, e3, e4⟩ := hlen
  simp only [dataC] at *
  obtain ⟨T, hT⟩ : ∃ S, S = d.texts.any (fun s => decide (255 < s.size)) := ⟨_, rfl⟩
  have HE : Hid (dataB 16 d = ((decide (1 ≤ tl) && (decide (tl ≤ 64) && (decide (bl = 0) && (decide (hl = 0) && (decide (ml = 0) && decide (nl = 0)))))) && !T)) := by
    show dataB 16 d = _
    show ((decide (1 ≤ d.texts.length) && (decide (d.texts.length ≤ 64) && emptyB d false false false false true)) && d.texts.all (fun s => decide (s.size ≤ 255))) = _; rw [long_all, ← hT]
    simp only [emptyB, e0, e1, e2, e3, e4, Bool.true_or, Bool.false_or, Bool.and_true]
  obtain ⟨E, hE⟩ : ∃ E, E = dataB 16 d := ⟨_, rfl⟩
  have HE2 := Lib.hid (hE.trans HE.out)
  rw [← hE]
  have HA := Lib.hid hB
  have HB1 := Lib.hid hb1
  have HD := Lib.hid hd
  have HSH := Lib.hid (fun w' => shapes_txt w')
  simp only [shapeC] at HSH
  have hnc := hd.nums.hcap
  have HNC := Lib.hid hnc
  clear hnc
  clear hb1 hB e0 e1 e2 e3 e4 hE HE hd
  go_enter Tryz.func140, Tryz.ntmps140
  go_wp2_with fail
  refine (HSH.out _).mono ?_
  rintro e w2 ⟨rfl, hb2⟩
  have hb3 : Below w2.heap.size w2 (w2.alloc (.cells #[.int .i64 0, .bool false, .bool false, .bool false, .int .i64 0, .int .i64 0, .bool true, .bool false] 262)) := (Below.refl _ _).alloc (Nat.le_refl _) _
  have hSb : Blk (w2.alloc (.cells #[.int .i64 0, .bool false, .bool false, .bool false, .int .i64 0, .int .i64 0, .bool true, .bool false] 262)) w2.heap.size #[.int .i64 0, .bool false, .bool false, .bool false, .int .i64 0, .int .i64 0, .bool true, .bool false] 262 := heap_alloc_new w2 _
  have hA := (HA.out.on hb2).on hb3
  have a0' := hA.cell 0
  have a1 := hA.cell 1
  have a2 := hA.cell 2
  have a3 := hA.cell 3
  have a4 := hA.cell 4
  have s0 := hSb.cell 0
  have s1 := hSb.cell 1
  have s2 := hSb.cell 2
  have s3 := hSb.cell 3
  have s4 := hSb.cell 4
  have s5 := hSb.cell 5
  have s6 := hSb.cell 6
  have s7 := hSb.cell 7
  simp at a0' a1 a2 a3 a4 s0 s1 s2 s3 s4 s5 s6 s7
  have hb13 := below_on HB1.out (below_on hb2 hb3 (Nat.le_refl _)) (Nat.le_refl _)
  have HB3 := Lib.hid hb13
  have hD3 := HD.out.on hb13
  have HG := Lib.hid (fun w' => containsEmpty w' na nc HNC.out (.func (.func 159) #[] #[.pointer (some ⟨w2.heap.size, 0, none⟩)]))
  have HT := Lib.hid (containsLong_any _ _ _ _ _ hD3.texts)
  rw [← hT] at HT
  clear hb2 hb3 hSb hA hb13 hD3 HSH HA HB1 HD hT
  by_cases hn0 : nl = 0
  case neg =>
    have gn : ((nl : Int) != 0) = true := by rw [bne_iff_ne]; omega
    have gn2 : decide (nl = 0) = false := decide_eq_false hn0
    clear hn0
    go_wp2_with fail
    all_goals
      go_ret
      refine ⟨ret_bool ?_, HB3.out⟩
      have h2 := HE2.out
      clear HE2 HB3
      subst h2
      rw [gn2]
      simp
  subst hn0
  go_wp2_with (first | (go_at_call 158; refine (HG.out _).mono ?_; rintro e w' ⟨rfl, rfl⟩) | (go_at_call 42; refine HT.out.mono ?_; rintro e w' ⟨rfl, rfl⟩))
  all_goals
    go_ret
    refine ⟨ret_bool ?_, HB3.out⟩
    have h2 := HE2.out
    clear HE2 HB3 HG HNC HT
    subst h2
    simp_all
    all_goals first | (intros; omega) | (rw [Bool.eq_iff_iff]; simp <;> omega)
set_option maxHeartbeats 8000000 in
set_option maxRecDepth 100000 in
theorem dsound_other (w : World) (k : Int) (k1 : 1 ≤ k) (k2 : k ≤ 65535) (hk : k ≠ 1 ∧ k ≠ 28 ∧ k ≠ 2 ∧ k ≠ 5 ∧ k ≠ 12 ∧ k ≠ 15 ∧ k ≠ 6 ∧ k ≠ 33 ∧ k ≠ 16) (h : DataH) (d : DataP) (hd : IsData w h d) :
    Calls Tryz.prog 140 #[.int .i64 k, .agg (dataC h)] w fun e w' => e = .returned (.bool (dataB k d)) ∧ Below w.heap.size w w' := by
  have hlen := hd.len
  have hB : Blk (w.alloc (.cells (dataC h) 98)) w.heap.size (dataC h) 98 := heap_alloc_new w _
  have hb1 : Below w.heap.size w (w.alloc (.cells (dataC h) 98)) := (Below.refl _ _).alloc (Nat.le_refl _) _
  obtain ⟨ba, bl, bc, ha, hl, hc, ma, ml, mc, na, nl, nc, ta, tl, tc⟩ := h
  obtain ⟨e0, e1, e2, e3, e4⟩ := hlen
  simp only [dataC] at *
  have HE : Hid (dataB k d = (decide (bl ≤ 65535) && (decide (hl = 0) && (decide (ml = 0) && (decide (nl = 0) && decide (tl = 0)))))) := by
    show dataB k d = _
    rw [dataB_other k1 k2 hk]
    simp only [emptyB, e0, e1, e2, e3, e4, Bool.true_or, Bool.false_or, Bool.true_and]
  obtain ⟨E, hE⟩ : ∃ E, E = dataB k d := ⟨_, rfl⟩
  have HE2 := Lib.hid (hE.trans HE.out)
  rw [← hE]
  have HA := Lib.hid hB
  have HB1 := Lib.hid hb1
  have HD := Lib.hid hd
  have HSH := Lib.hid (fun w' => shapes_other w' k hk)
  have d1 : decide (k < 1) = false := by rw [decide_eq_false_iff_not]; omega
  have d2 : decide ((65535 : Int) < k) = false := by rw [decide_eq_false_iff_not]; omega
  simp only [shapeC] at HSH
  have hnc := hd.nums.hcap
  have HNC := Lib.hid hnc
  clear hnc
  clear hb1 hB e0 e1 e2 e3 e4 hE HE k1 k2 hk hd
  go_enter Tryz.func140, Tryz.ntmps140
  go_wp2_with fail
  refine (HSH.out _).mono ?_
  rintro e w2 ⟨rfl, hb2⟩
  have hb3 : Below w2.heap.size w2 (w2.alloc (.cells #[.int .i64 (-1), .bool false, .bool false, .bool false, .int .i64 0, .int .i64 0, .bool false, .bool false] 262)) := (Below.refl _ _).alloc (Nat.le_refl _) _
  have hSb : Blk (w2.alloc (.cells #[.int .i64 (-1), .bool false, .bool false, .bool false, .int .i64 0, .int .i64 0, .bool false, .bool false] 262)) w2.heap.size #[.int .i64 (-1), .bool false, .bool false, .bool false, .int .i64 0, .int .i64 0, .bool false, .bool false] 262 := heap_alloc_new w2 _
  have hA := (HA.out.on hb2).on hb3
  have a0' := hA.cell 0
  have a1 := hA.cell 1
  have a2 := hA.cell 2
  have a3 := hA.cell 3
  have a4 := hA.cell 4
  have s0 := hSb.cell 0
  have s1 := hSb.cell 1
  have s2 := hSb.cell 2
  have s3 := hSb.cell 3
  have s4 := hSb.cell 4
  have s5 := hSb.cell 5
  have s6 := hSb.cell 6
  have s7 := hSb.cell 7
  simp at a0' a1 a2 a3 a4 s0 s1 s2 s3 s4 s5 s6 s7
  have hb13 := below_on HB1.out (below_on hb2 hb3 (Nat.le_refl _)) (Nat.le_refl _)
  have HB3 := Lib.hid hb13
  have hD3 := HD.out.on hb13
  have HG := Lib.hid (fun w' => containsEmpty w' na nc HNC.out (.func (.func 159) #[] #[.pointer (some ⟨w2.heap.size, 0, none⟩)]))
  clear hb2 hb3 hSb hA hb13 hD3 HSH HA HB1 HD
  by_cases hn0 : nl = 0
  case neg =>
    have gn : ((nl : Int) != 0) = true := by rw [bne_iff_ne]; omega
    have gn2 : decide (nl = 0) = false := decide_eq_false hn0
    clear hn0
    go_wp2_with fail
    all_goals
      go_ret
      refine ⟨ret_bool ?_, HB3.out⟩
      have h2 := HE2.out
      clear HE2 HB3
      subst h2
      rw [gn2]
      simp
  subst hn0
  go_wp2_with (first | (go_at_call 158; refine (HG.out _).mono ?_; rintro e w' ⟨rfl, rfl⟩))
  all_goals
    go_ret
    refine ⟨ret_bool ?_, HB3.out⟩
    have h2 := HE2.out
    clear HE2 HB3 HG HNC
    subst h2
    simp_all
    all_goals first | (intros; omega) | (rw [Bool.eq_iff_iff]; simp <;> omega)
theorem dsound_any (w : World) (k : Int) (h : DataH) (d : DataP) (hd : IsData w h d) :
    Calls Tryz.prog 140 #[.int .i64 k, .agg (dataC h)] w fun e w' => e = .returned (.bool (dataB k d)) ∧ Below w.heap.size w w' := by
  rcases kind_cases k with hk | rfl | rfl | hk | rfl | rfl | rfl | rfl | ⟨⟨k1, k2⟩, hk⟩
  · have HSH := Lib.hid (fun w' => shapes_other w' k (by omega))
    simp only [shapeC] at HSH
    rw [dataB_out hk]
    simp only [dataC]
    have hb1 : Below w.heap.size w (w.alloc (.cells #[.slice h.ba h.bl h.bc, .slice h.ha h.hl h.hc, .slice h.ma h.ml h.mc, .slice h.na h.nl h.nc, .slice h.ta h.tl h.tc] 98)) := (Below.refl _ _).alloc (Nat.le_refl _) _
    have HB1 := Lib.hid hb1
    clear hb1 hd
    rcases hk with hk | hk
    all_goals
      go_enter Tryz.func140, Tryz.ntmps140
      go_wp2_with fail
      refine (HSH.out _).mono ?_
      rintro e w2 ⟨rfl, hb2⟩
      have HB2 := Lib.hid (below_on (below_on HB1.out hb2 (Nat.le_refl _)) ((Below.refl w2.heap.size w2).alloc (Nat.le_refl _) (.cells #[.int .i64 (-1), .bool false, .bool false, .bool false, .int .i64 0, .int .i64 0, .bool false, .bool false] 262)) (Nat.le_refl _))
      clear hb2
      go_wp2_with fail
      go_ret
      exact ⟨rfl, HB2.out⟩
  · exact dsound_a w h d hd
  · exact dsound_aaaa w h d hd
  · exact dsound_ns w k hk h d hd
  · exact dsound_mx w h d hd
  · exact dsound_soa w h d hd
  · exact dsound_srv w h d hd
  · exact dsound_txt w h d hd
  · exact dsound_other w k k1 k2 hk h d hd
end Go.Proofs.YtgfibbjifbghdaaGreat

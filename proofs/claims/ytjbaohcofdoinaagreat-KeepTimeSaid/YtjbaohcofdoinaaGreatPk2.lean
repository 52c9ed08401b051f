/- Packed: Dsound, Ttl, FactLaw, Fown, Kopen, Cache, Kdev, Kread, Konly, Kwrite, Ksync, Ksync2, Kcrash, Knew, Knums, Ksread, Kload, Ksave. -/
import Derived.Test.YtjbaohcofdoinaaGreatRows
import Derived.Laws.Tables
import Derived.Maps.OwnSet
import Derived.Maps.RangeWalk
import Derived.StringKeys
import Derived.Deep.RegionLaw
import Derived.Laws.BitsAllLaws
import Derived.Test.YtjbaohcofdoinaaGreatPk1
namespace Go.Proofs.YtjbaohcofdoinaaGreat
section
open Go.ChangeShapes Go.WideShapes Go.ChangeAt Go.RowKit
theorem fits1_2 (w : World) (n : Int) (g : Nat) (hw : wfi n) (hc : w.cell? ⟨g, 5, none⟩ = some (.int .i64 2)) :
    Calls Tryz.prog 120 #[.int .i64 n, .pointer (some ⟨g, 0, none⟩)] w fun e w' => e = .returned (.bool (!fitsB n 2)) ∧ w = w' := by
  have H := Lib.hid (nfits2 w n hw)
  go_enter Tryz.func120, Tryz.ntmps120
  go_wp2_with (go_at_call 56; refine H.out.mono ?_; rintro e w' ⟨rfl, rfl⟩)
  go_ret
  exact ⟨rfl, rfl⟩
theorem fits1_4 (w : World) (n : Int) (g : Nat) (hw : wfi n) (hc : w.cell? ⟨g, 5, none⟩ = some (.int .i64 4)) :
    Calls Tryz.prog 120 #[.int .i64 n, .pointer (some ⟨g, 0, none⟩)] w fun e w' => e = .returned (.bool (!fitsB n 4)) ∧ w = w' := by
  have H := Lib.hid (nfits4 w n hw)
  go_enter Tryz.func120, Tryz.ntmps120
  go_wp2_with (go_at_call 56; refine H.out.mono ?_; rintro e w' ⟨rfl, rfl⟩)
  go_ret
  exact ⟨rfl, rfl⟩
/-- which number is the first that does not fit -/
theorem idxNums_any (w : World) (ao : Option Addr) (len cap : Nat) (l : List Int) (g : Nat) (p : Int → Bool) (hs : Nums w ao len cap l) (hf : ∀ n ∈ l, wfi n)
    (H1 : Hid (∀ n, wfi n → Calls Tryz.prog 120 #[.int .i64 n, .pointer (some ⟨g, 0, none⟩)] w fun e w' => e = .returned (.bool (p n)) ∧ w = w')) :
    Calls Tryz.prog 139 #[.slice ao len cap, .func (.func 120) #[] #[.pointer (some ⟨g, 0, none⟩)]] w fun e w' => e = .returned (.int .i64 (idxZ p l)) ∧ w = w' := by
  have hl : l.length = len := by simpa using hs.hlen
  have hcap := hs.hcap
  have hle := hs.hle
  have HL := Lib.hid hl
  have HF := Lib.hid hf
  clear hl hf
  go_enter Tryz.func139, Tryz.ntmps139
  go_wp2
  go_loop [8, 5] (fun i _ => ∃ k : Nat, k ≤ len ∧ i = .int .i64 k ∧ Hid (∀ j (hj : j < l.length), j < k → p l[j] = false)) (fun i _ => len - (intOf i).toNat)
  case atStart => exact ⟨0, Nat.zero_le _, rfl, fun j hj h => absurd h (by omega)⟩
  case round =>
    obtain ⟨k, hk, rfl, hno⟩ := hrel
    by_cases hlt : k < len
    · obtain ⟨b, off, rfl⟩ := hs.addr hlt
      have hc := hs.at hlt
      rw [List.getElem_map] at hc
      have hkl : k < l.length := by have := HL.out; omega
      have hw1 := HF.out _ (List.getElem_mem hkl)
      obtain ⟨z, hz⟩ : ∃ z, z = l[k] := ⟨_, rfl⟩
      rw [← hz] at hc hw1
      have HZ := Lib.hid hz
      have HC := Lib.hid (H1.out z hw1)
      clear hz hw1
      cases hb : p z
      all_goals
        rw [hb] at HC
        have HB := Lib.hid hb
        clear hb
        go_wp2_with (go_at_call 120; refine HC.out.mono ?_; rintro e w' ⟨rfl, rfl⟩)
      · go_round
        case rel =>
          refine ⟨k + 1, by omega, by go_num, fun j hj h => ?_⟩
          rcases Nat.lt_succ_iff_lt_or_eq.1 h with h | rfl
          · exact hno.out j hj h
          · rw [← HZ.out]; exact HB.out
        case measure => simp [intOf]; omega
      · go_ret
        exact ⟨ret_int (idxZ_found (by have := HL.out; omega) (fun j hj => hno.out j (by have := HL.out; omega) hj) (by rw [← HZ.out]; exact HB.out)).symm, rfl⟩
    · go_wp2
      go_ret
      exact ⟨ret_int (idxZ_none fun j hj => hno.out j hj (by have := HL.out; omega)).symm, rfl⟩
theorem containsNums_any (w : World) (ao : Option Addr) (len cap : Nat) (l : List Int) (g : Nat) (p : Int → Bool) (hs : Nums w ao len cap l) (hf : ∀ n ∈ l, wfi n)
    (H1 : Hid (∀ n, wfi n → Calls Tryz.prog 120 #[.int .i64 n, .pointer (some ⟨g, 0, none⟩)] w fun e w' => e = .returned (.bool (p n)) ∧ w = w')) :
    Calls Tryz.prog 119 #[.slice ao len cap, .func (.func 120) #[] #[.pointer (some ⟨g, 0, none⟩)]] w fun e w' => e = .returned (.bool (l.any p)) ∧ w = w' := by
  have HC := Lib.hid (idxNums_any w ao len cap l g p hs hf H1)
  go_enter Tryz.func119, Tryz.ntmps119
  go_wp2_with (go_at_call 139; refine HC.out.mono ?_; rintro e w' ⟨rfl, rfl⟩)
  go_ret
  exact ⟨ret_bool (idxZ_any p l), rfl⟩
theorem containsEmpty (w : World) (ao : Option Addr) (cap : Nat) (_ : cap ≤ 9223372036854775807) (f : Value) : Calls Tryz.prog 119 #[.slice ao 0 cap, f] w fun e w' => e = .returned (.bool false) ∧ w = w' := by
  have HI : Hid (Calls Tryz.prog 139 #[.slice ao 0 cap, f] w fun e w' => e = .returned (.int .i64 (-1)) ∧ w = w') := by
    rw [Hid]
    go_enter Tryz.func139, Tryz.ntmps139
    go_wp2
    go_loop [8, 5] (fun i _ => i = .int .i64 0) (fun _ _ => 0)
    case atStart => rfl
    case round =>
      subst hrel
      go_wp2
      go_ret
      exact ⟨rfl, rfl⟩
  go_enter Tryz.func119, Tryz.ntmps119
  go_wp2_with (go_at_call 139; refine HI.out.mono ?_; rintro e w' ⟨rfl, rfl⟩)
  go_ret
  exact ⟨rfl, rfl⟩
theorem long2_any (w : World) (s : ByteArray) (hs : s.size ≤ 9223372036854775807) :
    Calls Tryz.prog 121 #[.string s] w fun e w' => e = .returned (.bool (decide (255 < s.size))) ∧ w = w' := by
  go_enter Tryz.func121, Tryz.ntmps121
  go_wp2
  go_ret
  exact ⟨ret_bool (decide_eq_decide.2 (by omega)), rfl⟩
theorem idxLong_any (w : World) (ao : Option Addr) (len cap : Nat) (ss : List ByteArray) (hs : Strs w ao len cap ss) :
    Calls Tryz.prog 122 #[.slice ao len cap, .func (.func 121) #[] #[]] w fun e w' => e = .returned (.int .i64 (idxZ (fun s => decide (255 < s.size)) ss)) ∧ w = w' := by
  have hl := hs.len
  have hcap := hs.row.hcap
  have hle := hs.row.hle
  go_enter Tryz.func122, Tryz.ntmps122
  go_wp2
  go_loop [8, 5] (fun i _ => ∃ k : Nat, k ≤ len ∧ i = .int .i64 k ∧ Hid (∀ j (hj : j < ss.length), j < k → decide (255 < ss[j].size) = false)) (fun i _ => len - (intOf i).toNat)
  case atStart => exact ⟨0, Nat.zero_le _, rfl, fun j hj h => absurd h (by omega)⟩
  case round =>
    obtain ⟨k, hk, rfl, hno⟩ := hrel
    by_cases hlt : k < len
    · obtain ⟨b, off, rfl⟩ := hs.row.addr hlt
      have hc := hs.at hlt
      have h3 := hs.get_small (i := k) (by omega)
      obtain ⟨s, hsk⟩ : ∃ s, s = ss[k] := ⟨_, rfl⟩
      rw [← hsk] at hc h3
      have HK := Lib.hid hsk
      clear hsk
      have HC := Lib.hid (long2_any w s h3)
      cases hb : decide (255 < s.size)
      all_goals
        rw [hb] at HC
        have HB := Lib.hid hb
        clear hb
        go_wp2_with (go_at_call 121; refine HC.out.mono ?_; rintro e w' ⟨rfl, rfl⟩)
      · go_round
        case rel =>
          refine ⟨k + 1, by omega, by go_num, fun j hj h => ?_⟩
          rcases Nat.lt_succ_iff_lt_or_eq.1 h with h | rfl
          · exact hno.out j hj h
          · rw [← HK.out]; exact HB.out
        case measure => simp [intOf]; omega
      · go_ret
        exact ⟨ret_int (idxZ_found (by omega) (fun j hj => hno.out j (by omega) hj) (by rw [← HK.out]; exact HB.out)).symm, rfl⟩
    · go_wp2
      go_ret
      exact ⟨ret_int (idxZ_none fun j hj => hno.out j hj (by omega)).symm, rfl⟩
theorem containsLong_any (w : World) (ao : Option Addr) (len cap : Nat) (ss : List ByteArray) (hs : Strs w ao len cap ss) :
    Calls Tryz.prog 95 #[.slice ao len cap, .func (.func 121) #[] #[]] w fun e w' => e = .returned (.bool (ss.any (fun s => decide (255 < s.size)))) ∧ w = w' := by
  have HC := Lib.hid (idxLong_any w ao len cap ss hs)
  go_enter Tryz.func95, Tryz.ntmps95
  go_wp2_with (go_at_call 122; refine HC.out.mono ?_; rintro e w' ⟨rfl, rfl⟩)
  go_ret
  exact ⟨ret_bool (idxZ_any _ ss), rfl⟩
theorem fitB_any (l : List Int) (c s : Nat) : fitB l c s = (decide (l.length = c) && !(l.any fun n => !fitsB n s)) := by
  rw [fitB]
  congr 1
  rw [Bool.eq_iff_iff]
  simp
theorem long_all (l : List ByteArray) : l.all (fun s => decide (s.size ≤ 255)) = !(l.any fun s => decide (255 < s.size)) := by
  rw [Bool.eq_iff_iff]
  simp

set_option maxHeartbeats 8000000 in
set_option maxRecDepth 100000 in
theorem dsound_a (w : World) (h : DataH) (d : DataP) (hd : IsData w h d) :
    Calls Tryz.prog 94 #[.int .i64 1, .agg (dataC h)] w fun e w' => e = .returned (.bool (dataB 1 d)) ∧ Below w.heap.size w w' := by
  have hlen := hd.len
  have hB : Blk (w.alloc (.cells (dataC h) 55)) w.heap.size (dataC h) 55 := heap_alloc_new w _
  have hb1 : Below w.heap.size w (w.alloc (.cells (dataC h) 55)) := (Below.refl _ _).alloc (Nat.le_refl _) _
  obtain ⟨ba, bl, bc, ha, hl, hc, ma, ml, mc, na, nl, nc, ta, tl, tc⟩ := h
  obtain ⟨e0, e1, e2, e3, e4⟩ := hlen
  simp only [dataC] at *
  have HE : Hid (dataB 1 d = (decide (bl = 4) && (decide (hl = 0) && (decide (ml = 0) && (decide (nl = 0) && decide (tl = 0)))))) := by
    show dataB 1 d = _
    show (decide (d.bytes.length = 4) && emptyB d true false false false false) = _
    simp only [emptyB, e0, e1, e2, e3, e4, Bool.true_or, Bool.false_or, Bool.true_and]
  obtain ⟨E, hE⟩ : ∃ E, E = dataB 1 d := ⟨_, rfl⟩
  have HE2 := Lib.hid (hE.trans HE.out)
  rw [← hE]
  have HA := Lib.hid hB
  have HB1 := Lib.hid hb1
  have HD := Lib.hid hd
  have HSH := Lib.hid (fun w' => shapes_a w')
  simp only [shapeC] at HSH
  have hnc := hd.nums.hcap
  have HNC := Lib.hid hnc
  clear hnc
  clear hb1 hB e0 e1 e2 e3 e4 hE HE hd
  go_enter Tryz.func94, Tryz.ntmps94
  go_wp2_with fail
  refine (HSH.out _).mono ?_
  rintro e w2 ⟨rfl, hb2⟩
  have hb3 : Below w2.heap.size w2 (w2.alloc (.cells #[.int .i64 4, .bool false, .bool false, .bool false, .int .i64 0, .int .i64 0, .bool false, .bool false] 187)) := (Below.refl _ _).alloc (Nat.le_refl _) _
  have hSb : Blk (w2.alloc (.cells #[.int .i64 4, .bool false, .bool false, .bool false, .int .i64 0, .int .i64 0, .bool false, .bool false] 187)) w2.heap.size #[.int .i64 4, .bool false, .bool false, .bool false, .int .i64 0, .int .i64 0, .bool false, .bool false] 187 := heap_alloc_new w2 _
  have hA := (HA.out.on hb2).on hb3
  have a0' := hA.cell 0
  have a1 := hA.cell 1
  have a2 := hA.cell 2
  have a3 := hA.cell 3
  have a4 := hA.cell 4
  have s0 := hSb.cell 0
  have s1 := hSb.cell 1
  have s2 := hSb.cell 2
  have s3 := hSb.cell 3
  have s4 := hSb.cell 4
  have s5 := hSb.cell 5
  have s6 := hSb.cell 6
  have s7 := hSb.cell 7
  simp at a0' a1 a2 a3 a4 s0 s1 s2 s3 s4 s5 s6 s7
  have hb13 := below_on HB1.out (below_on hb2 hb3 (Nat.le_refl _)) (Nat.le_refl _)
  have HB3 := Lib.hid hb13
  have hD3 := HD.out.on hb13
  have HG := Lib.hid (fun w' => containsEmpty w' na nc HNC.out (.func (.func 120) #[] #[.pointer (some ⟨w2.heap.size, 0, none⟩)]))
  clear hb2 hb3 hSb hA hb13 hD3 HSH HA HB1 HD
  by_cases hn0 : nl = 0
  case neg =>
    have gn : ((nl : Int) != 0) = true := by rw [bne_iff_ne]; omega
    have gn2 : decide (nl = 0) = false := decide_eq_false hn0
    clear hn0
    go_wp2_with fail
    all_goals
      go_ret
      refine ⟨ret_bool ?_, HB3.out⟩
      have h2 := HE2.out
      clear HE2 HB3
      subst h2
      rw [gn2]
      simp
  subst hn0
  go_wp2_with (first | (go_at_call 119; refine (HG.out _).mono ?_; rintro e w' ⟨rfl, rfl⟩))
  all_goals
    go_ret
    refine ⟨ret_bool ?_, HB3.out⟩
    have h2 := HE2.out
    clear HE2 HB3 HG HNC
    subst h2
    simp_all
    all_goals first | (intros; omega) | (rw [Bool.eq_iff_iff]; simp <;> omega)
set_option maxHeartbeats 8000000 in
set_option maxRecDepth 100000 in
theorem dsound_aaaa (w : World) (h : DataH) (d : DataP) (hd : IsData w h d) :
    Calls Tryz.prog 94 #[.int .i64 28, .agg (dataC h)] w fun e w' => e = .returned (.bool (dataB 28 d)) ∧ Below w.heap.size w w' := by
  have hlen := hd.len
  have hB : Blk (w.alloc (.cells (dataC h) 55)) w.heap.size (dataC h) 55 := heap_alloc_new w _
  have hb1 : Below w.heap.size w (w.alloc (.cells (dataC h) 55)) := (Below.refl _ _).alloc (Nat.le_refl _) _
  obtain ⟨ba, bl, bc, ha, hl, hc, ma, ml, mc, na, nl, nc, ta, tl, tc⟩ := h
  obtain ⟨e0, e1, e2, e3, e4⟩ := hlen
  simp only [dataC] at *
  have HE : Hid (dataB 28 d = (decide (bl = 16) && (decide (hl = 0) && (decide (ml = 0) && (decide (nl = 0) && decide (tl = 0)))))) := by
    show dataB 28 d = _
    show (decide (d.bytes.length = 16) && emptyB d true false false false false) = _
    simp only [emptyB, e0, e1, e2, e3, e4, Bool.true_or, Bool.false_or, Bool.true_and]
  obtain ⟨E, hE⟩ : ∃ E, E = dataB 28 d := ⟨_, rfl⟩
  have HE2 := Lib.hid (hE.trans HE.out)
  rw [← hE]
  have HA := Lib.hid hB
  have HB1 := Lib.hid hb1
  have HD := Lib.hid hd
  have HSH := Lib.hid (fun w' => shapes_aaaa w')
  simp only [shapeC] at HSH
  have hnc := hd.nums.hcap
  have HNC := Lib.hid hnc
  clear hnc
  clear hb1 hB e0 e1 e2 e3 e4 hE HE hd
  go_enter Tryz.func94, Tryz.ntmps94
  go_wp2_with fail
  refine (HSH.out _).mono ?_
  rintro e w2 ⟨rfl, hb2⟩
  have hb3 : Below w2.heap.size w2 (w2.alloc (.cells #[.int .i64 16, .bool false, .bool false, .bool false, .int .i64 0, .int .i64 0, .bool false, .bool false] 187)) := (Below.refl _ _).alloc (Nat.le_refl _) _
  have hSb : Blk (w2.alloc (.cells #[.int .i64 16, .bool false, .bool false, .bool false, .int .i64 0, .int .i64 0, .bool false, .bool false] 187)) w2.heap.size #[.int .i64 16, .bool false, .bool false, .bool false, .int .i64 0, .int .i64 0, .bool false, .bool false] 187 := heap_alloc_new w2 _
  have hA := (HA.out.on hb2).on hb3
  have a0' := hA.cell 0
  have a1 := hA.cell 1
  have a2 := hA.cell 2
  have a3 := hA.cell 3
  have a4 := hA.cell 4
  have s0 := hSb.cell 0
  have s1 := hSb.cell 1
  have s2 := hSb.cell 2
  have s3 := hSb.cell 3
  have s4 := hSb.cell 4
  have s5 := hSb.cell 5
  have s6 := hSb.cell 6
  have s7 := hSb.cell 7
  simp at a0' a1 a2 a3 a4 s0 s1 s2 s3 s4 s5 s6 s7
  have hb13 := below_on HB1.out (below_on hb2 hb3 (Nat.le_refl _)) (Nat.le_refl _)
  have HB3 := Lib.hid hb13
  have hD3 := HD.out.on hb13
  have HG := Lib.hid (fun w' => containsEmpty w' na nc HNC.out (.func (.func 120) #[] #[.pointer (some ⟨w2.heap.size, 0, none⟩)]))
  clear hb2 hb3 hSb hA hb13 hD3 HSH HA HB1 HD
  by_cases hn0 : nl = 0
  case neg =>
    have gn : ((nl : Int) != 0) = true := by rw [bne_iff_ne]; omega
    have gn2 : decide (nl = 0) = false := decide_eq_false hn0
    clear hn0
    go_wp2_with fail
    all_goals
      go_ret
      refine ⟨ret_bool ?_, HB3.out⟩
      have h2 := HE2.out
      clear HE2 HB3
      subst h2
      rw [gn2]
      simp
  subst hn0
  go_wp2_with (first | (go_at_call 119; refine (HG.out _).mono ?_; rintro e w' ⟨rfl, rfl⟩))
  all_goals
    go_ret
    refine ⟨ret_bool ?_, HB3.out⟩
    have h2 := HE2.out
    clear HE2 HB3 HG HNC
    subst h2
    simp_all
    all_goals first | (intros; omega) | (rw [Bool.eq_iff_iff]; simp <;> omega)
set_option maxHeartbeats 8000000 in
set_option maxRecDepth 100000 in
theorem dsound_ns (w : World) (k : Int) (hk : k = 2 ∨ k = 5 ∨ k = 12) (h : DataH) (d : DataP) (hd : IsData w h d) :
    Calls Tryz.prog 94 #[.int .i64 k, .agg (dataC h)] w fun e w' => e = .returned (.bool (dataB k d)) ∧ Below w.heap.size w w' := by
  have hlen := hd.len
  have hB : Blk (w.alloc (.cells (dataC h) 55)) w.heap.size (dataC h) 55 := heap_alloc_new w _
  have hb1 : Below w.heap.size w (w.alloc (.cells (dataC h) 55)) := (Below.refl _ _).alloc (Nat.le_refl _) _
  obtain ⟨ba, bl, bc, ha, hl, hc, ma, ml, mc, na, nl, nc, ta, tl, tc⟩ := h
  obtain ⟨e0, e1, e2, e3, e4⟩ := hlen
  simp only [dataC] at *
  obtain ⟨S, hS⟩ : ∃ S, S = soundB d.host := ⟨_, rfl⟩
  have HE : Hid (dataB k d = (S && (decide (bl = 0) && (decide (ml = 0) && (decide (nl = 0) && decide (tl = 0)))))) := by
    show dataB k d = _
    have hx : dataB k d = (soundB d.host && emptyB d false true false false false) := by rcases hk with rfl | rfl | rfl <;> rfl
    rw [hx, ← hS]
    simp only [emptyB, e0, e1, e2, e3, e4, Bool.true_or, Bool.false_or, Bool.true_and]
  obtain ⟨E, hE⟩ : ∃ E, E = dataB k d := ⟨_, rfl⟩
  have HE2 := Lib.hid (hE.trans HE.out)
  rw [← hE]
  have HA := Lib.hid hB
  have HB1 := Lib.hid hb1
  have HD := Lib.hid hd
  have HSH := Lib.hid (fun w' => shapes_ns w' k hk)
  have d1 : decide (k < 1) = false := by rw [decide_eq_false_iff_not]; omega
  have d2 : decide ((65535 : Int) < k) = false := by rw [decide_eq_false_iff_not]; omega
  simp only [shapeC] at HSH
  have hnc := hd.nums.hcap
  have HNC := Lib.hid hnc
  clear hnc
  clear hb1 hB e0 e1 e2 e3 e4 hE HE hk hd
  go_enter Tryz.func94, Tryz.ntmps94
  go_wp2_with fail
  refine (HSH.out _).mono ?_
  rintro e w2 ⟨rfl, hb2⟩
  have hb3 : Below w2.heap.size w2 (w2.alloc (.cells #[.int .i64 0, .bool true, .bool false, .bool true, .int .i64 0, .int .i64 0, .bool false, .bool false] 187)) := (Below.refl _ _).alloc (Nat.le_refl _) _
  have hSb : Blk (w2.alloc (.cells #[.int .i64 0, .bool true, .bool false, .bool true, .int .i64 0, .int .i64 0, .bool false, .bool false] 187)) w2.heap.size #[.int .i64 0, .bool true, .bool false, .bool true, .int .i64 0, .int .i64 0, .bool false, .bool false] 187 := heap_alloc_new w2 _
  have hA := (HA.out.on hb2).on hb3
  have a0' := hA.cell 0
  have a1 := hA.cell 1
  have a2 := hA.cell 2
  have a3 := hA.cell 3
  have a4 := hA.cell 4
  have s0 := hSb.cell 0
  have s1 := hSb.cell 1
  have s2 := hSb.cell 2
  have s3 := hSb.cell 3
  have s4 := hSb.cell 4
  have s5 := hSb.cell 5
  have s6 := hSb.cell 6
  have s7 := hSb.cell 7
  simp at a0' a1 a2 a3 a4 s0 s1 s2 s3 s4 s5 s6 s7
  have hb13 := below_on HB1.out (below_on hb2 hb3 (Nat.le_refl _)) (Nat.le_refl _)
  have HB3 := Lib.hid hb13
  have hD3 := HD.out.on hb13
  have HS1 := Lib.hid (sound_any _ _ _ _ _ hD3.host)
  rw [← hS] at HS1
  have HG := Lib.hid (fun w' => containsEmpty w' na nc HNC.out (.func (.func 120) #[] #[.pointer (some ⟨w2.heap.size, 0, none⟩)]))
  clear hb2 hb3 hSb hA hb13 hD3 HSH HA HB1 HD hS
  by_cases hn0 : nl = 0
  case neg =>
    have gn : ((nl : Int) != 0) = true := by rw [bne_iff_ne]; omega
    have gn2 : decide (nl = 0) = false := decide_eq_false hn0
    clear hn0
    go_wp2_with fail
    all_goals
      go_ret
      refine ⟨ret_bool ?_, HB3.out⟩
      have h2 := HE2.out
      clear HE2 HB3
      subst h2
      rw [gn2]
      simp
  subst hn0
  go_wp2_with (first | (go_at_call 67; refine HS1.out.mono ?_; rintro e w' ⟨rfl, rfl⟩) | (go_at_call 119; refine (HG.out _).mono ?_; rintro e w' ⟨rfl, rfl⟩))
  all_goals
    go_ret
    refine ⟨ret_bool ?_, HB3.out⟩
    have h2 := HE2.out
    clear HE2 HB3 HG HNC HS1
    subst h2
    simp_all
    all_goals first | (intros; omega) | (rw [Bool.eq_iff_iff]; simp <;> omega)
set_option maxHeartbeats 8000000 in
set_option maxRecDepth 100000 in
theorem dsound_mx (w : World) (h : DataH) (d : DataP) (hd : IsData w h d) :
    Calls Tryz.prog 94 #[.int .i64 15, .agg (dataC h)] w fun e w' => e = .returned (.bool (dataB 15 d)) ∧ Below w.heap.size w w' := by
  have hlen := hd.len
  have hB : Blk (w.alloc (.cells (dataC h) 55)) w.heap.size (dataC h) 55 := heap_alloc_new w _
  have hb1 : Below w.heap.size w (w.alloc (.cells (dataC h) 55)) := (Below.refl _ _).alloc (Nat.le_refl _) _
  obtain ⟨ba, bl, bc, ha, hl, hc, ma, ml, mc, na, nl, nc, ta, tl, tc⟩ := h
  obtain ⟨e0, e1, e2, e3, e4⟩ := hlen
  simp only [dataC] at *
  obtain ⟨S, hS⟩ : ∃ S, S = soundB d.host := ⟨_, rfl⟩
  obtain ⟨G, hG⟩ : ∃ S, S = d.nums.any (fun n => !fitsB n 2) := ⟨_, rfl⟩
  have HE : Hid (dataB 15 d = ((S && (decide (nl = 1) && !G)) && (decide (bl = 0) && (decide (ml = 0) && decide (tl = 0))))) := by
    show dataB 15 d = _
    show ((soundB d.host && fitB d.nums 1 2) && emptyB d false true false true false) = _; rw [fitB_any, ← hS, ← hG]
    simp only [emptyB, e0, e1, e2, e3, e4, Bool.true_or, Bool.false_or, Bool.true_and]
  obtain ⟨E, hE⟩ : ∃ E, E = dataB 15 d := ⟨_, rfl⟩
  have HE2 := Lib.hid (hE.trans HE.out)
  rw [← hE]
  have HA := Lib.hid hB
  have HB1 := Lib.hid hb1
  have HD := Lib.hid hd
  have HSH := Lib.hid (fun w' => shapes_mx w')
  simp only [shapeC] at HSH
  have hnc := hd.nums.hcap
  have HNC := Lib.hid hnc
  clear hnc
  clear hb1 hB e0 e1 e2 e3 e4 hE HE hd
  go_enter Tryz.func94, Tryz.ntmps94
  go_wp2_with fail
  refine (HSH.out _).mono ?_
  rintro e w2 ⟨rfl, hb2⟩
  have hb3 : Below w2.heap.size w2 (w2.alloc (.cells #[.int .i64 0, .bool true, .bool false, .bool true, .int .i64 1, .int .i64 2, .bool false, .bool true] 187)) := (Below.refl _ _).alloc (Nat.le_refl _) _
  have hSb : Blk (w2.alloc (.cells #[.int .i64 0, .bool true, .bool false, .bool true, .int .i64 1, .int .i64 2, .bool false, .bool true] 187)) w2.heap.size #[.int .i64 0, .bool true, .bool false, .bool true, .int .i64 1, .int .i64 2, .bool false, .bool true] 187 := heap_alloc_new w2 _
  have hA := (HA.out.on hb2).on hb3
  have a0' := hA.cell 0
  have a1 := hA.cell 1
  have a2 := hA.cell 2
  have a3 := hA.cell 3
  have a4 := hA.cell 4
  have s0 := hSb.cell 0
  have s1 := hSb.cell 1
  have s2 := hSb.cell 2
  have s3 := hSb.cell 3
  have s4 := hSb.cell 4
  have s5 := hSb.cell 5
  have s6 := hSb.cell 6
  have s7 := hSb.cell 7
  simp at a0' a1 a2 a3 a4 s0 s1 s2 s3 s4 s5 s6 s7
  have hb13 := below_on HB1.out (below_on hb2 hb3 (Nat.le_refl _)) (Nat.le_refl _)
  have HB3 := Lib.hid hb13
  have hD3 := HD.out.on hb13
  have HS1 := Lib.hid (sound_any _ _ _ _ _ hD3.host)
  rw [← hS] at HS1
  have HG := Lib.hid (containsNums_any _ _ _ _ _ w2.heap.size (fun n => !fitsB n 2) hD3.nums hD3.fits (fun n hn => fits1_2 _ n _ hn (by rw [hSb.cell 5]; rfl)))
  rw [← hG] at HG
  clear hb2 hb3 hSb hA hb13 hD3 HSH HA HB1 HD hS hG
  by_cases hn0 : nl = 1
  case neg =>
    have gn : ((nl : Int) != 1) = true := by rw [bne_iff_ne]; omega
    have gn2 : decide (nl = 1) = false := decide_eq_false hn0
    clear hn0
    go_wp2_with fail
    all_goals
      go_ret
      refine ⟨ret_bool ?_, HB3.out⟩
      have h2 := HE2.out
      clear HE2 HB3
      subst h2
      rw [gn2]
      simp
  subst hn0
  go_wp2_with (first | (go_at_call 67; refine HS1.out.mono ?_; rintro e w' ⟨rfl, rfl⟩) | (go_at_call 119; refine HG.out.mono ?_; rintro e w' ⟨rfl, rfl⟩))
  all_goals
    go_ret
    refine ⟨ret_bool ?_, HB3.out⟩
    have h2 := HE2.out
    clear HE2 HB3 HG HNC HS1
    subst h2
    simp_all
    all_goals first | (intros; omega) | (rw [Bool.eq_iff_iff]; simp <;> omega)
set_option maxHeartbeats 8000000 in
set_option maxRecDepth 100000 in
theorem dsound_soa (w : World) (h : DataH) (d : DataP) (hd : IsData w h d) :
    Calls Tryz.prog 94 #[.int .i64 6, .agg (dataC h)] w fun e w' => e = .returned (.bool (dataB 6 d)) ∧ Below w.heap.size w w' := by
  have hlen := hd.len
  have hB : Blk (w.alloc (.cells (dataC h) 55)) w.heap.size (dataC h) 55 := heap_alloc_new w _
  have hb1 : Below w.heap.size w (w.alloc (.cells (dataC h) 55)) := (Below.refl _ _).alloc (Nat.le_refl _) _
  obtain ⟨ba, bl, bc, ha, hl, hc, ma, ml, mc, na, nl, nc, ta, tl, tc⟩ := h
  obtain ⟨e0, e1, e2, e3, e4⟩ := hlen
  simp only [dataC] at *
  obtain ⟨S, hS⟩ : ∃ S, S = soundB d.host := ⟨_, rfl⟩
  obtain ⟨S2, hS2⟩ : ∃ S, S = soundB d.mail := ⟨_, rfl⟩
  obtain ⟨G, hG⟩ : ∃ S, S = d.nums.any (fun n => !fitsB n 4) := ⟨_, rfl⟩
  have HE : Hid (dataB 6 d = (((S && S2) && (decide (nl = 5) && !G)) && (decide (bl = 0) && decide (tl = 0)))) := by
    show dataB 6 d = _
    show (((soundB d.host && soundB d.mail) && fitB d.nums 5 4) && emptyB d false true true true false) = _; rw [fitB_any, ← hS, ← hS2, ← hG]
    simp only [emptyB, e0, e1, e2, e3, e4, Bool.true_or, Bool.false_or, Bool.true_and]
  obtain ⟨E, hE⟩ : ∃ E, E = dataB 6 d := ⟨_, rfl⟩
  have HE2 := Lib.hid (hE.trans HE.out)
  rw [← hE]
  have HA := Lib.hid hB
  have HB1 := Lib.hid hb1
  have HD := Lib.hid hd
  have HSH := Lib.hid (fun w' => shapes_soa w')
  simp only [shapeC] at HSH
  have hnc := hd.nums.hcap
  have HNC := Lib.hid hnc
  clear hnc
  clear hb1 hB e0 e1 e2 e3 e4 hE HE hd
  go_enter Tryz.func94, Tryz.ntmps94
  go_wp2_with fail
  refine (HSH.out _).mono ?_
  rintro e w2 ⟨rfl, hb2⟩
  have hb3 : Below w2.heap.size w2 (w2.alloc (.cells #[.int .i64 0, .bool true, .bool true, .bool true, .int .i64 5, .int .i64 4, .bool false, .bool false] 187)) := (Below.refl _ _).alloc (Nat.le_refl _) _
  have hSb : Blk (w2.alloc (.cells #[.int .i64 0, .bool true, .bool true, .bool true, .int .i64 5, .int .i64 4, .bool false, .bool false] 187)) w2.heap.size #[.int .i64 0, .bool true, .bool true, .bool true, .int .i64 5, .int .i64 4, .bool false, .bool false] 187 := heap_alloc_new w2 _
  have hA := (HA.out.on hb2).on hb3
  have a0' := hA.cell 0
  have a1 := hA.cell 1
  have a2 := hA.cell 2
  have a3 := hA.cell 3
  have a4 := hA.cell 4
  have s0 := hSb.cell 0
  have s1 := hSb.cell 1
  have s2 := hSb.cell 2
  have s3 := hSb.cell 3
  have s4 := hSb.cell 4
  have s5 := hSb.cell 5
  have s6 := hSb.cell 6
  have s7 := hSb.cell 7
  simp at a0' a1 a2 a3 a4 s0 s1 s2 s3 s4 s5 s6 s7
  have hb13 := below_on HB1.out (below_on hb2 hb3 (Nat.le_refl _)) (Nat.le_refl _)
  have HB3 := Lib.hid hb13
  have hD3 := HD.out.on hb13
  have HS1 := Lib.hid (sound_any _ _ _ _ _ hD3.host)
  rw [← hS] at HS1
  have HS2 := Lib.hid (sound_any _ _ _ _ _ hD3.mail)
  rw [← hS2] at HS2
  have HG := Lib.hid (containsNums_any _ _ _ _ _ w2.heap.size (fun n => !fitsB n 4) hD3.nums hD3.fits (fun n hn => fits1_4 _ n _ hn (by rw [hSb.cell 5]; rfl)))
  rw [← hG] at HG
  clear hb2 hb3 hSb hA hb13 hD3 HSH HA HB1 HD hS hS2 hG
  by_cases hn0 : nl = 5
  case neg =>
    have gn : ((nl : Int) != 5) = true := by rw [bne_iff_ne]; omega
    have gn2 : decide (nl = 5) = false := decide_eq_false hn0
    clear hn0
    go_wp2_with fail
    all_goals
      go_ret
      refine ⟨ret_bool ?_, HB3.out⟩
      have h2 := HE2.out
      clear HE2 HB3
      subst h2
      rw [gn2]
      simp
  subst hn0
  by_cases hb0 : bl = 0
  case neg =>
    have gb : ((bl : Int) != 0) = true := by rw [bne_iff_ne]; omega
    have gb2 : decide (bl = 0) = false := decide_eq_false hb0
    clear hb0
    go_wp2_with fail
    all_goals
      go_ret
      refine ⟨ret_bool ?_, HB3.out⟩
      have h2 := HE2.out
      clear HE2 HB3
      subst h2
      rw [gb2]
      simp
  subst hb0
  go_wp2_with fail
  refine HS1.out.mono ?_
  rintro e w' ⟨rfl, rfl⟩
  cases S
  · go_wp2_with fail
    go_ret
    exact ⟨ret_bool (by rw [HE2.out]; rfl), HB3.out⟩
  go_wp2_with fail
  refine HS2.out.mono ?_
  rintro e w' ⟨rfl, rfl⟩
  cases S2
  · go_wp2_with fail
    go_ret
    exact ⟨ret_bool (by rw [HE2.out]; rfl), HB3.out⟩
  go_wp2_with fail
  refine HG.out.mono ?_
  rintro e w' ⟨rfl, rfl⟩
  cases G
  · go_wp2_with fail
    go_ret
    refine ⟨ret_bool ?_, HB3.out⟩
    rw [HE2.out]
    rw [Bool.eq_iff_iff]
    simp
  · go_wp2_with fail
    go_ret
    refine ⟨ret_bool ?_, HB3.out⟩
    rw [HE2.out]
    simp
set_option maxHeartbeats 8000000 in
set_option maxRecDepth 100000 in
theorem dsound_srv (w : World) (h : DataH) (d : DataP) (hd : IsData w h d) :
    Calls Tryz.prog 94 #[.int .i64 33, .agg (dataC h)] w fun e w' => e = .returned (.bool (dataB 33 d)) ∧ Below w.heap.size w w' := by
  have hlen := hd.len
  have hB : Blk (w.alloc (.cells (dataC h) 55)) w.heap.size (dataC h) 55 := heap_alloc_new w _
  have hb1 : Below w.heap.size w (w.alloc (.cells (dataC h) 55)) := (Below.refl _ _).alloc (Nat.le_refl _) _
  obtain ⟨ba, bl, bc, ha, hl, hc, ma, ml, mc, na, nl, nc, ta, tl, tc⟩ := h
  obtain ⟨e0, e1, e2, e3, e4⟩ := hlen
  simp only [dataC] at *
  obtain ⟨S, hS⟩ : ∃ S, S = soundB d.host := ⟨_, rfl⟩
  obtain ⟨G, hG⟩ : ∃ S, S = d.nums.any (fun n => !fitsB n 2) := ⟨_, rfl⟩
  have HE : Hid (dataB 33 d = ((S && (decide (nl = 3) && !G)) && (decide (bl = 0) && (decide (ml = 0) && decide (tl = 0))))) := by
    show dataB 33 d = _
    show ((soundB d.host && fitB d.nums 3 2) && emptyB d false true false true false) = _; rw [fitB_any, ← hS, ← hG]
    simp only [emptyB, e0, e1, e2, e3, e4, Bool.true_or, Bool.false_or, Bool.true_and]
  obtain ⟨E, hE⟩ : ∃ E, E = dataB 33 d := ⟨_, rfl⟩
  have HE2 := Lib.hid (hE.trans HE.out)
  rw [← hE]
  have HA := Lib.hid hB
  have HB1 := Lib.hid hb1
  have HD := Lib.hid hd
  have HSH := Lib.hid (fun w' => shapes_srv w')
  simp only [shapeC] at HSH
  have hnc := hd.nums.hcap
  have HNC := Lib.hid hnc
  clear hnc
  clear hb1 hB e0 e1 e2 e3 e4 hE HE hd
  go_enter Tryz.func94, Tryz.ntmps94
  go_wp2_with fail
  refine (HSH.out _).mono ?_
  rintro e w2 ⟨rfl, hb2⟩
  have hb3 : Below w2.heap.size w2 (w2.alloc (.cells #[.int .i64 0, .bool true, .bool false, .bool false, .int .i64 3, .int .i64 2, .bool false, .bool true] 187)) := (Below.refl _ _).alloc (Nat.le_refl _) _
  have hSb : Blk (w2.alloc (.cells #[.int .i64 0, .bool true, .bool false, .bool false, .int .i64 3, .int .i64 2, .bool false, .bool true] 187)) w2.heap.size #[.int .i64 0, .bool true, .bool false, .bool false, .int .i64 3, .int .i64 2, .bool false, .bool true] 187 := heap_alloc_new w2 _
  have hA := (HA.out.on hb2).on hb3
  have a0' := hA.cell 0
  have a1 := hA.cell 1
  have a2 := hA.cell 2
  have a3 := hA.cell 3
  have a4 := hA.cell 4
  have s0 := hSb.cell 0
  have s1 := hSb.cell 1
  have s2 := hSb.cell 2
  have s3 := hSb.cell 3
  have s4 := hSb.cell 4
  have s5 := hSb.cell 5
  have s6 := hSb.cell 6
  have s7 := hSb.cell 7
  simp at a0' a1 a2 a3 a4 s0 s1 s2 s3 s4 s5 s6 s7
  have hb13 := below_on HB1.out (below_on hb2 hb3 (Nat.le_refl _)) (Nat.le_refl _)
  have HB3 := Lib.hid hb13
  have hD3 := HD.out.on hb13
  have HS1 := Lib.hid (sound_any _ _ _ _ _ hD3.host)
  rw [← hS] at HS1
  have HG := Lib.hid (containsNums_any _ _ _ _ _ w2.heap.size (fun n => !fitsB n 2) hD3.nums hD3.fits (fun n hn => fits1_2 _ n _ hn (by rw [hSb.cell 5]; rfl)))
  rw [← hG] at HG
  clear hb2 hb3 hSb hA hb13 hD3 HSH HA HB1 HD hS hG
  by_cases hn0 : nl = 3
  case neg =>
    have gn : ((nl : Int) != 3) = true := by rw [bne_iff_ne]; omega
    have gn2 : decide (nl = 3) = false := decide_eq_false hn0
    clear hn0
    go_wp2_with fail
    all_goals
      go_ret
      refine ⟨ret_bool ?_, HB3.out⟩
      have h2 := HE2.out
      clear HE2 HB3
      subst h2
      rw [gn2]
      simp
  subst hn0
  go_wp2_with (first | (go_at_call 67; refine HS1.out.mono ?_; rintro e w' ⟨rfl, rfl⟩) | (go_at_call 119; refine HG.out.mono ?_; rintro e w' ⟨rfl, rfl⟩))
  all_goals
    go_ret
    refine ⟨ret_bool ?_, HB3.out⟩
    have h2 := HE2.out
    clear HE2 HB3 HG HNC HS1
    subst h2
    simp_all
    all_goals first | (intros; omega) | (rw [Bool.eq_iff_iff]; simp <;> omega)
set_option maxHeartbeats 8000000 in
set_option maxRecDepth 100000 in
theorem dsound_txt (w : World) (h : DataH) (d : DataP) (hd : IsData w h d) :
    Calls Tryz.prog 94 #[.int .i64 16, .agg (dataC h)] w fun e w' => e = .returned (.bool (dataB 16 d)) ∧ Below w.heap.size w w' := by
  have hlen := hd.len
  have hB : Blk (w.alloc (.cells (dataC h) 55)) w.heap.size (dataC h) 55 := heap_alloc_new w _
  have hb1 : Below w.heap.size w (w.alloc (.cells (dataC h) 55)) := (Below.refl _ _).alloc (Nat.le_refl _) _
  obtain ⟨ba, bl, bc, ha, hl, hc, ma, ml, mc, na, nl, nc, ta, tl, tc⟩ := h
  obtain ⟨e0, e1, e2, e3, e4⟩ := hlen
  simp only [dataC] at *
  obtain ⟨T, hT⟩ : ∃ S, S = d.texts.any (fun s => decide (255 < s.size)) := ⟨_, rfl⟩
  have HE : Hid (dataB 16 d = ((decide (1 ≤ tl) && (decide (tl ≤ 64) && (decide (bl = 0) && (decide (hl = 0) && (decide (ml = 0) && decide (nl = 0)))))) && !T)) := by
    show dataB 16 d = _
    show ((decide (1 ≤ d.texts.length) && (decide (d.texts.length ≤ 64) && emptyB d false false false false true)) && d.texts.all (fun s => decide (s.size ≤ 255))) = _; rw [long_all, ← hT]
    simp only [emptyB, e0, e1, e2, e3, e4, Bool.true_or, Bool.false_or, Bool.and_true]
  obtain ⟨E, hE⟩ : ∃ E, E = dataB 16 d := ⟨_, rfl⟩
  have HE2 := Lib.hid (hE.trans HE.out)
  rw [← hE]
  have HA := Lib.hid hB
  have HB1 := Lib.hid hb1
  have HD := Lib.hid hd
  have HSH := Lib.hid (fun w' => shapes_txt w')
  simp only [shapeC] at HSH
  have hnc := hd.nums.hcap
  have HNC := Lib.hid hnc
  clear hnc
  clear hb1 hB e0 e1 e2 e3 e4 hE HE hd
  go_enter Tryz.func94, Tryz.ntmps94
  go_wp2_with fail
  refine (HSH.out _).mono ?_
  rintro e w2 ⟨rfl, hb2⟩
  have hb3 : Below w2.heap.size w2 (w2.alloc (.cells #[.int .i64 0, .bool false, .bool false, .bool false, .int .i64 0, .int .i64 0, .bool true, .bool false] 187)) := (Below.refl _ _).alloc (Nat.le_refl _) _
  have hSb : Blk (w2.alloc (.cells #[.int .i64 0, .bool false, .bool false, .bool false, .int .i64 0, .int .i64 0, .bool true, .bool false] 187)) w2.heap.size #[.int .i64 0, .bool false, .bool false, .bool false, .int .i64 0, .int .i64 0, .bool true, .bool false] 187 := heap_alloc_new w2 _
  have hA := (HA.out.on hb2).on hb3
  have a0' := hA.cell 0
  have a1 := hA.cell 1
  have a2 := hA.cell 2
  have a3 := hA.cell 3
  have a4 := hA.cell 4
  have s0 := hSb.cell 0
  have s1 := hSb.cell 1
  have s2 := hSb.cell 2
  have s3 := hSb.cell 3
  have s4 := hSb.cell 4
  have s5 := hSb.cell 5
  have s6 := hSb.cell 6
  have s7 := hSb.cell 7
  simp at a0' a1 a2 a3 a4 s0 s1 s2 s3 s4 s5 s6 s7
  have hb13 := below_on HB1.out (below_on hb2 hb3 (Nat.le_refl _)) (Nat.le_refl _)
  have HB3 := Lib.hid hb13
  have hD3 := HD.out.on hb13
  have HG := Lib.hid (fun w' => containsEmpty w' na nc HNC.out (.func (.func 120) #[] #[.pointer (some ⟨w2.heap.size, 0, none⟩)]))
  have HT := Lib.hid (containsLong_any _ _ _ _ _ hD3.texts)
  rw [← hT] at HT
  clear hb2 hb3 hSb hA hb13 hD3 HSH HA HB1 HD hT
  by_cases hn0 : nl = 0
  case neg =>
    have gn : ((nl : Int) != 0) = true := by rw [bne_iff_ne]; omega
    have gn2 : decide (nl = 0) = false := decide_eq_false hn0
    clear hn0
    go_wp2_with fail
    all_goals
      go_ret
      refine ⟨ret_bool ?_, HB3.out⟩
      have h2 := HE2.out
      clear HE2 HB3
      subst h2
      rw [gn2]
      simp
  subst hn0
  go_wp2_with (first | (go_at_call 119; refine (HG.out _).mono ?_; rintro e w' ⟨rfl, rfl⟩) | (go_at_call 95; refine HT.out.mono ?_; rintro e w' ⟨rfl, rfl⟩))
  all_goals
    go_ret
    refine ⟨ret_bool ?_, HB3.out⟩
    have h2 := HE2.out
    clear HE2 HB3 HG HNC HT
    subst h2
    simp_all
    all_goals first | (intros; omega) | (rw [Bool.eq_iff_iff]; simp <;> omega)
set_option maxHeartbeats 8000000 in
set_option maxRecDepth 100000 in
theorem dsound_other (w : World) (k : Int) (k1 : 1 ≤ k) (k2 : k ≤ 65535) (hk : k ≠ 1 ∧ k ≠ 28 ∧ k ≠ 2 ∧ k ≠ 5 ∧ k ≠ 12 ∧ k ≠ 15 ∧ k ≠ 6 ∧ k ≠ 33 ∧ k ≠ 16) (h : DataH) (d : DataP) (hd : IsData w h d) :
    Calls Tryz.prog 94 #[.int .i64 k, .agg (dataC h)] w fun e w' => e = .returned (.bool (dataB k d)) ∧ Below w.heap.size w w' := by
  have hlen := hd.len
  have hB : Blk (w.alloc (.cells (dataC h) 55)) w.heap.size (dataC h) 55 := heap_alloc_new w _
  have hb1 : Below w.heap.size w (w.alloc (.cells (dataC h) 55)) := (Below.refl _ _).alloc (Nat.le_refl _) _
  obtain ⟨ba, bl, bc, ha, hl, hc, ma, ml, mc, na, nl, nc, ta, tl, tc⟩ := h
  obtain ⟨e0, e1, e2, e3, e4⟩ := hlen
  simp only [dataC] at *
  have HE : Hid (dataB k d = (decide (bl ≤ 65535) && (decide (hl = 0) && (decide (ml = 0) && (decide (nl = 0) && decide (tl = 0)))))) := by
    show dataB k d = _
    rw [dataB_other k1 k2 hk]
    simp only [emptyB, e0, e1, e2, e3, e4, Bool.true_or, Bool.false_or, Bool.true_and]
  obtain ⟨E, hE⟩ : ∃ E, E = dataB k d := ⟨_, rfl⟩
  have HE2 := Lib.hid (hE.trans HE.out)
  rw [← hE]
  have HA := Lib.hid hB
  have HB1 := Lib.hid hb1
  have HD := Lib.hid hd
  have HSH := Lib.hid (fun w' => shapes_other w' k hk)
  have d1 : decide (k < 1) = false := by rw [decide_eq_false_iff_not]; omega
  have d2 : decide ((65535 : Int) < k) = false := by rw [decide_eq_false_iff_not]; omega
  simp only [shapeC] at HSH
  have hnc := hd.nums.hcap
  have HNC := Lib.hid hnc
  clear hnc
  clear hb1 hB e0 e1 e2 e3 e4 hE HE k1 k2 hk hd
  go_enter Tryz.func94, Tryz.ntmps94
  go_wp2_with fail
  refine (HSH.out _).mono ?_
  rintro e w2 ⟨rfl, hb2⟩
  have hb3 : Below w2.heap.size w2 (w2.alloc (.cells #[.int .i64 (-1), .bool false, .bool false, .bool false, .int .i64 0, .int .i64 0, .bool false, .bool false] 187)) := (Below.refl _ _).alloc (Nat.le_refl _) _
  have hSb : Blk (w2.alloc (.cells #[.int .i64 (-1), .bool false, .bool false, .bool false, .int .i64 0, .int .i64 0, .bool false, .bool false] 187)) w2.heap.size #[.int .i64 (-1), .bool false, .bool false, .bool false, .int .i64 0, .int .i64 0, .bool false, .bool false] 187 := heap_alloc_new w2 _
  have hA := (HA.out.on hb2).on hb3
  have a0' := hA.cell 0
  have a1 := hA.cell 1
  have a2 := hA.cell 2
  have a3 := hA.cell 3
  have a4 := hA.cell 4
  have s0 := hSb.cell 0
  have s1 := hSb.cell 1
  have s2 := hSb.cell 2
  have s3 := hSb.cell 3
  have s4 := hSb.cell 4
  have s5 := hSb.cell 5
  have s6 := hSb.cell 6
  have s7 := hSb.cell 7
  simp at a0' a1 a2 a3 a4 s0 s1 s2 s3 s4 s5 s6 s7
  have hb13 := below_on HB1.out (below_on hb2 hb3 (Nat.le_refl _)) (Nat.le_refl _)
  have HB3 := Lib.hid hb13
  have hD3 := HD.out.on hb13
  have HG := Lib.hid (fun w' => containsEmpty w' na nc HNC.out (.func (.func 120) #[] #[.pointer (some ⟨w2.heap.size, 0, none⟩)]))
  clear hb2 hb3 hSb hA hb13 hD3 HSH HA HB1 HD
  by_cases hn0 : nl = 0
  case neg =>
    have gn : ((nl : Int) != 0) = true := by rw [bne_iff_ne]; omega
    have gn2 : decide (nl = 0) = false := decide_eq_false hn0
    clear hn0
    go_wp2_with fail
    all_goals
      go_ret
      refine ⟨ret_bool ?_, HB3.out⟩
      have h2 := HE2.out
      clear HE2 HB3
      subst h2
      rw [gn2]
      simp
  subst hn0
  go_wp2_with (first | (go_at_call 119; refine (HG.out _).mono ?_; rintro e w' ⟨rfl, rfl⟩))
  all_goals
    go_ret
    refine ⟨ret_bool ?_, HB3.out⟩
    have h2 := HE2.out
    clear HE2 HB3 HG HNC
    subst h2
    simp_all
    all_goals first | (intros; omega) | (rw [Bool.eq_iff_iff]; simp <;> omega)
theorem dsound_any (w : World) (k : Int) (h : DataH) (d : DataP) (hd : IsData w h d) :
    Calls Tryz.prog 94 #[.int .i64 k, .agg (dataC h)] w fun e w' => e = .returned (.bool (dataB k d)) ∧ Below w.heap.size w w' := by
  rcases kind_cases k with hk | rfl | rfl | hk | rfl | rfl | rfl | rfl | ⟨⟨k1, k2⟩, hk⟩
  · have HSH := Lib.hid (fun w' => shapes_other w' k (by omega))
    simp only [shapeC] at HSH
    rw [dataB_out hk]
    simp only [dataC]
    have hb1 : Below w.heap.size w (w.alloc (.cells #[.slice h.ba h.bl h.bc, .slice h.ha h.hl h.hc, .slice h.ma h.ml h.mc, .slice h.na h.nl h.nc, .slice h.ta h.tl h.tc] 55)) := (Below.refl _ _).alloc (Nat.le_refl _) _
    have HB1 := Lib.hid hb1
    clear hb1 hd
    rcases hk with hk | hk
    all_goals
      go_enter Tryz.func94, Tryz.ntmps94
      go_wp2_with fail
      refine (HSH.out _).mono ?_
      rintro e w2 ⟨rfl, hb2⟩
      have HB2 := Lib.hid (below_on (below_on HB1.out hb2 (Nat.le_refl _)) ((Below.refl w2.heap.size w2).alloc (Nat.le_refl _) (.cells #[.int .i64 (-1), .bool false, .bool false, .bool false, .int .i64 0, .int .i64 0, .bool false, .bool false] 187)) (Nat.le_refl _))
      clear hb2
      go_wp2_with fail
      go_ret
      exact ⟨rfl, HB2.out⟩
  · exact dsound_a w h d hd
  · exact dsound_aaaa w h d hd
  · exact dsound_ns w k hk h d hd
  · exact dsound_mx w h d hd
  · exact dsound_soa w h d hd
  · exact dsound_srv w h d hd
  · exact dsound_txt w h d hd
  · exact dsound_other w k k1 k2 hk h d hd
end
section
open Go.ChangeShapes Go.WideShapes Go.ChangeAt Go.RowKit
def timeB (t : Int) : Bool := decide (0 ≤ t ∧ t ≤ 36028797018963968)
theorem timeB_out {t : Int} (h : timeB t = true) : 0 ≤ t ∧ t ≤ 36028797018963968 := by simpa [timeB] using h

theorem time_any (t : Int) (w : World) :
    Calls Tryz.prog 28 #[.int .i64 t] w fun e w' => e = .returned (.bool (timeB t)) ∧ w = w' := by
  go_enter Tryz.func28, Tryz.ntmps28
  go_wp2
  all_goals
    go_ret
    exact ⟨ret_bool (by simp [timeB]; omega), rfl⟩
theorem rtime_any (t : Int) (w : World) :
    Calls Tryz.prog 8 #[.int .i64 t] w fun e w' => e = .returned (.bool (timeB t)) ∧ w = w' := by
  go_enter Tryz.func8, Tryz.ntmps8
  go_wp2
  all_goals
    go_ret
    exact ⟨ret_bool (by simp [timeB]; omega), rfl⟩
def leftZ (got ttl now : Int) : Int := if timeB got && (timeB ttl && timeB now) then max (ttl - max (now - got) 0) 0 else 0
theorem leftZ_yes {got ttl now : Int} (h0 : timeB got = true) (h1 : timeB ttl = true) (h2 : timeB now = true) : leftZ got ttl now = max (ttl - max (now - got) 0) 0 := by simp [leftZ, h0, h1, h2]
theorem left_any (got ttl now : Int) (w : World) :
    Calls Tryz.prog 129 #[.int .i64 got, .int .i64 ttl, .int .i64 now] w fun e w' => e = .returned (.int .i64 (leftZ got ttl now)) ∧ w = w' := by
  cases hg : timeB got
  · go_enter Tryz.func129, Tryz.ntmps129
    go_wp2_with (go_at_call 28; refine (time_any _ _).mono ?_; rintro e w' ⟨rfl, rfl⟩)
    go_ret
    exact ⟨ret_int (by simp [leftZ, hg]), rfl⟩
  cases ht : timeB ttl
  · go_enter Tryz.func129, Tryz.ntmps129
    go_wp2_with (go_at_call 28; refine (time_any _ _).mono ?_; rintro e w' ⟨rfl, rfl⟩)
    go_ret
    exact ⟨ret_int (by simp [leftZ, ht]), rfl⟩
  cases hn : timeB now
  · go_enter Tryz.func129, Tryz.ntmps129
    go_wp2_with (go_at_call 28; refine (time_any _ _).mono ?_; rintro e w' ⟨rfl, rfl⟩)
    go_ret
    exact ⟨ret_int (by simp [leftZ, hn]), rfl⟩
  have ⟨g0, g1⟩ := timeB_out hg
  have ⟨t0, t1⟩ := timeB_out ht
  have ⟨n0, n1⟩ := timeB_out hn
  go_enter Tryz.func129, Tryz.ntmps129
  go_wp2_with (go_at_call 28; refine (time_any _ _).mono ?_; rintro e w' ⟨rfl, rfl⟩)
  all_goals
    go_ret
    exact ⟨ret_int (by rw [leftZ_yes hg ht hn] <;> omega), rfl⟩

theorem fresh_any (got ttl now : Int) (w : World) :
    Calls Tryz.prog 108 #[.int .i64 got, .int .i64 ttl, .int .i64 now] w fun e w' => e = .returned (.bool (decide (0 < leftZ got ttl now))) ∧ w = w' := by
  go_enter Tryz.func108, Tryz.ntmps108
  go_wp2_with (go_at_call 129; refine (left_any _ _ _ _).mono ?_; rintro e w' ⟨rfl, rfl⟩)
  go_ret
  exact ⟨ret_bool rfl, rfl⟩
end
section
open Go.RowKit
def typedB (k : Int) : Bool := decide (1 ≤ k) && (decide (k ≤ 65534) && (decide (k ≠ 41) && decide (k ≠ 255)))
theorem typedB_iff {k : Int} : typedB k = true ↔ (1 ≤ k ∧ k ≤ 65534 ∧ k ≠ 41 ∧ k ≠ 255) := by simp [typedB]
def noneB (d : DataP) : Bool := decide (d.bytes.length + d.host.length + d.mail.length + d.nums.length + d.texts.length = 0)
def sameAny (l : List DataP) (d : DataP) : Bool := l.any fun x => sameD x d
/-- all sound, no two the same -/
def distinctB (k : Int) : List DataP → List DataP → Bool
  | _, [] => true
  | seen, d :: r => dataB k d && (!sameAny seen d && distinctB k (seen ++ [d]) r)
theorem distinct_at {k : Int} {ds : List DataP} {i : Nat} (h : i < ds.length) :
    distinctB k (ds.take i) (ds.drop i) = (dataB k ds[i] && (!sameAny (ds.take i) ds[i] && distinctB k (ds.take (i + 1)) (ds.drop (i + 1)))) := by
  rw [List.drop_eq_getElem_cons h, distinctB, List.take_succ_eq_append_getElem h]
/-- a fact's name, rank and times -/
def headB (f : FactP) : Bool := soundB f.name && (decide (1 ≤ f.rank) && (decide (f.rank ≤ 4) && (timeB f.got && (decide (0 ≤ f.ttl) && decide (f.ttl ≤ 604800)))))
/-- .. where there are records -/
def hasB (f : FactP) : Bool := typedB f.typ && (decide (1 ≤ f.set.length) && (decide (f.set.length ≤ 64) && (distinctB f.typ [] f.set && (decide (f.zone.length = 0) && noneB f.soa))))
/-- .. where there are none -/
def negB (f : FactP) : Bool := decide (f.ttl ≤ 10800) && (decide (f.set.length = 0) && (soundB f.zone && (underB f.name f.zone && dataB 6 f.soa)))
def factB (f : FactP) : Bool := headB f && (if f.kind = 1 then hasB f else negB f && ((decide (f.kind = 2) && typedB f.typ) || (decide (f.kind = 3) && decide (f.typ = 0))))
/-- a byte of a number -/
def byteZ (n : Int) : UInt8 := UInt8.ofNat (n % 256).toNat
/-- the key of a name and a type -/
def labelK (s : ByteArray) : List UInt8 := UInt8.ofNat (s.size % 256) :: (small s).data.toList
def nameK (n : List ByteArray) : List UInt8 := n.flatMap labelK
def keyP (n : List ByteArray) (t : Int) : List UInt8 := nameK n ++ [0, byteZ (t / 256), byteZ t]
def keyF (f : FactP) : List UInt8 := keyP f.name f.typ
theorem keyP_len (n : List ByteArray) (t : Int) : 3 ≤ (keyP n t).length := by simp [keyP]
end
section
open Go.ChangeShapes Go.WideShapes Go.ChangeAt Go.RowKit
def fT : List TypeId := [5, 9, 3, 55]
structure DLen (d : DataP) : Prop where
  host : d.host.length ≤ 1048576
  mail : d.mail.length ≤ 1048576
  nums : d.nums.length ≤ 1048576
  texts : d.texts.length ≤ 8796093022208
theorem DLen.fit {w : World} {k : DataH} {d : DataP} (h : DLen d) (hd : IsData w k d) : FitD k := by
  have hl := hd.len
  exact ⟨by rw [← hl.host]; exact h.host, by rw [← hl.mail]; exact h.mail, by rw [← hl.nums]; exact h.nums, by rw [← hl.texts]; exact h.texts⟩
structure FLen (f : FactP) : Prop where
  name : f.name.length ≤ 1048576
  zone : f.zone.length ≤ 1048576
  set : f.set.length ≤ 1000000
  soa : DLen f.soa
  all : ∀ d ∈ f.set, DLen d
/-- a fact in memory of its own, from block B on -/
abbrev OwnF (B : Nat) (w : World) (k : FactH) (f : FactP) : Prop := IsFact (fun b => tagged fT w b ∧ B ≤ b) w k f
theorem OwnF.step {B : Nat} {w w' : World} {k : FactH} {f : FactP} (h : OwnF B w k f) (hs : Same (fun b => tagged fT w b ∧ B ≤ b) w w') : OwnF B w' k f := by
  have i2 : IsFact (fun b => (tagged fT w b ∧ B ≤ b) ∧ b < w.heap.size) w k f := h.mono (fun b hb ht => ⟨ht, hb⟩)
  exact (i2.keep (hs.mono (fun b _ ht => ht.1))).mono (fun b _ ht => ⟨tagged_keep ht.1.1 (hs b ht.2 ht.1), ht.1.2⟩)
theorem OwnF.on {B : Nat} {w w' : World} {k : FactH} {f : FactP} (h : OwnF B w k f) (hb : Below w.heap.size w w') : OwnF B w' k f := h.step (Same.below hb _)
def noF : Array Value := #[.slice none 0 0, .int .i64 0, .int .i64 0, .int .i64 0, .int .i64 0, .int .i64 0, .slice none 0 0, .slice none 0 0, .slice none 0 0, .slice none 0 0, .slice none 0 0, .slice none 0 0, .slice none 0 0]
theorem fown_results {tmps : Array Value} {w : World} {R : Nat} {k : FactH} {f : FactP} (h2 : tmps[2]? = some (.pointer (some ⟨R, 0, none⟩))) (hB : Blk w R (factC k f) 57) :
    (results Tryz.f77 tmps).run Tryz.prog w = .ok (.agg (factC k f)) w := by
  have c0 := hB.cell 0
  have c1 := hB.cell 1
  have c2 := hB.cell 2
  have c3 := hB.cell 3
  have c4 := hB.cell 4
  have c5 := hB.cell 5
  have c6 := hB.cell 6
  have c7 := hB.cell 7
  have c8 := hB.cell 8
  have c9 := hB.cell 9
  have c10 := hB.cell 10
  have c11 := hB.cell 11
  have c12 := hB.cell 12
  simp [factC] at c0 c1 c2 c3 c4 c5 c6 c7 c8 c9 c10 c11 c12
  simp [results, go_sem, h2, c0, c1, c2, c3, c4, c5, c6, c7, c8, c9, c10, c11, c12, factC]
def set5 (cur : Array Value) (j : Nat) (k : DataH) : Array Value := (((((cur.setIfInBounds (j * 5) (.slice k.ba k.bl k.bc)).setIfInBounds (j * 5 + 1) (.slice k.ha k.hl k.hc)).setIfInBounds (j * 5 + 2) (.slice k.ma k.ml k.mc)).setIfInBounds (j * 5 + 3) (.slice k.na k.nl k.nc)).setIfInBounds (j * 5 + 4) (.slice k.ta k.tl k.tc))
theorem set5_here {cur : Array Value} {j : Nat} {k : DataH} (h : j * 5 + 4 < cur.size) (q : Nat) (hq : q < 5) : (set5 cur j k)[j * 5 + q]? = (dataC k)[q]? := by
  have : q = 0 ∨ q = 1 ∨ q = 2 ∨ q = 3 ∨ q = 4 := by omega
  rcases this with rfl | rfl | rfl | rfl | rfl <;> simp [set5, dataC, Array.getElem?_setIfInBounds] <;> omega
theorem set5_other {cur : Array Value} {i j : Nat} {k : DataH} (h : i ≠ j) (q : Nat) (hq : q < 5) : (set5 cur j k)[i * 5 + q]? = cur[i * 5 + q]? := by
  simp only [set5, Array.getElem?_setIfInBounds]
  rw [if_neg (by omega), if_neg (by omega), if_neg (by omega), if_neg (by omega), if_neg (by omega)]
/-- on the way: the first j of a row's data are the call's own -/
structure OwnSt (w wr : World) (g : Nat) (ds : List DataP) (j : Nat) (cur : Array Value) : Prop where
  blk : Blk wr g cur 55
  els : ∀ i (hi : i < ds.length), ∃ k, (∀ q, q < 5 → cur[i * 5 + q]? = (dataC k)[q]?) ∧ (if i < j then OwnD (w.heap.size + 2) wr k ds[i] else IsData wr k ds[i] ∧ DataIn (fun b => b < w.heap.size) k)
theorem OwnSt.on {w wr w' : World} {g : Nat} {ds : List DataP} {j : Nat} {cur : Array Value} (h : OwnSt w wr g ds j cur) (hb : Below wr.heap.size wr w') : OwnSt w w' g ds j cur :=
  ⟨h.blk.on hb, fun i hi => by
    obtain ⟨k, h1, h2⟩ := h.els i hi
    refine ⟨k, h1, ?_⟩
    split
    · rename_i hij; rw [if_pos hij] at h2; exact h2.on hb
    · rename_i hij; rw [if_neg hij] at h2; exact ⟨h2.1.on hb, h2.2⟩⟩
theorem OwnSt.big {w wr : World} {g : Nat} {ds : List DataP} {j i : Nat} {cur : Array Value} (h : OwnSt w wr g ds j cur) (hi : i < ds.length) : i * 5 + 4 < cur.size := by
  obtain ⟨k, h1, _⟩ := h.els i hi
  have h4 := h1 4 (by decide)
  rcases Nat.lt_or_ge (i * 5 + 4) cur.size with h | h
  · exact h
  · rw [Array.getElem?_eq_none h] at h4
    simp [dataC] at h4
def put5 (W : World) (g j : Nat) (k : DataH) : World := ((((W.setCell ⟨g, j * 5, none⟩ (.slice k.ba k.bl k.bc)).setCell ⟨g, j * 5 + 1, none⟩ (.slice k.ha k.hl k.hc)).setCell ⟨g, j * 5 + 2, none⟩ (.slice k.ma k.ml k.mc)).setCell ⟨g, j * 5 + 3, none⟩ (.slice k.na k.nl k.nc)).setCell ⟨g, j * 5 + 4, none⟩ (.slice k.ta k.tl k.tc)
theorem put5_but (W : World) (g j : Nat) (k : DataH) : W.grownBy (put5 W g j k) (some g) := but_trans (but_trans (but_trans (but_trans (but_set _ _ _ _) (but_set _ _ _ _)) (but_set _ _ _ _)) (but_set _ _ _ _)) (but_set _ _ _ _)
theorem OwnSt.put {w wr W : World} {g : Nat} {ds : List DataP} {j : Nat} {cur : Array Value} (h : OwnSt w wr g ds j cur) (hb : Below wr.heap.size wr W) (hg : w.heap.size ≤ g) (hj : j < ds.length) {k : DataH} (hk : OwnD (w.heap.size + 2) W k (ds[j]'hj)) :
    OwnSt w (put5 W g j k) g ds (j + 1) (set5 cur j k) := by
  have h1 := h.on hb
  have hbut := put5_but W g j k
  have hD : 55 ∉ dT := by decide
  have keep : ∀ {q : DataH} {d : DataP}, OwnD (w.heap.size + 2) W q d → OwnD (w.heap.size + 2) (put5 W g j k) q d := fun hq => hq.step ((Same.but hbut h1.blk hD).mono (fun b _ ht => ht.1))
  refine ⟨((((h1.blk.set (j * 5) _).set (j * 5 + 1) _).set (j * 5 + 2) _).set (j * 5 + 3) _).set (j * 5 + 4) _, fun i hi => ?_⟩
  by_cases hij : i = j
  · subst hij
    exact ⟨k, set5_here (h1.big hi), by rw [if_pos (by omega)]; exact keep hk⟩
  · obtain ⟨q, q1, q2⟩ := h1.els i hi
    refine ⟨q, fun r hr => by rw [set5_other hij r hr]; exact q1 r hr, ?_⟩
    by_cases hlt : i < j
    · rw [if_pos (by omega)]
      rw [if_pos hlt] at q2
      exact keep q2
    · rw [if_neg (by omega)]
      rw [if_neg hlt] at q2
      exact ⟨q2.1.keep q2.2 (Same.grown hbut (fun b hb e => by have := Option.some.inj e; omega)), q2.2⟩
theorem factSize : (Tryz.prog.info? 57).map (·.size) = some 13 := by kernel_rfl
theorem factC_all (k : FactH) (f : FactP) : (factC k f).all (·.oneCell') = true := Array.all_eq_true_iff_forall_mem.2 (fun v hv => factK.one k f v (by simpa [factK] using hv))
theorem blk_setRow {w : World} {g : Nat} {cs : Array Value} {T : TypeId} (h : Blk w g cs T) (cs' : Array Value) : Blk (w.setRow g cs') g cs' T := setRow_heap w g cs cs' T _ h
theorem but_setRow (w : World) (g : Nat) (cs : Array Value) : w.grownBy (w.setRow g cs) (some g) :=
  ⟨rfl, rfl, rfl, by simp [World.setRow], fun k _ hne => by
    simp only [World.setRow, Array.getElem?_modify]
    rw [if_neg (fun e => hne (by rw [e]))]⟩
/-- what the loop over the data keeps -/
structure FoSt (w wr : World) (kk : DataH) (f : FactP) (a0 : Option Addr) (nl c0 : Nat) (a1 : Option Addr) (zl c1 : Nat) (vo : Option Addr) (sl vc : Nat) (A : Array Value) (j : Nat) : Prop where
  bel : Below w.heap.size w wr
  blkA : Blk wr w.heap.size A 57
  blkR : Blk wr (w.heap.size + 1) noF 57
  name : Own1 [9] (w.heap.size + 2) wr a0 nl c0 (f.name.map .string)
  zone : Own1 [9] (w.heap.size + 2) wr a1 zl c1 (f.zone.map .string)
  soa : OwnD (w.heap.size + 2) wr kk f.soa
  set : 0 < sl → ∃ g cur, vo = some ⟨g, 0, none⟩ ∧ w.heap.size + 2 ≤ g ∧ OwnSt w wr g f.set j cur
theorem FoSt.on {w wr w' : World} {kk : DataH} {f : FactP} {a0 : Option Addr} {nl c0 : Nat} {a1 : Option Addr} {zl c1 : Nat} {vo : Option Addr} {sl vc : Nat} {A : Array Value} {j : Nat} (h : FoSt w wr kk f a0 nl c0 a1 zl c1 vo sl vc A j) (hb : Below wr.heap.size wr w') : FoSt w w' kk f a0 nl c0 a1 zl c1 vo sl vc A j :=
  ⟨below_on h.bel hb (Nat.le_refl _), h.blkA.on hb, h.blkR.on hb, h.name.on hb, h.zone.on hb, h.soa.on hb, fun h0 => by
    obtain ⟨g, cur, e, hg, hs⟩ := h.set h0
    exact ⟨g, cur, e, hg, hs.on hb⟩⟩
theorem FoSt.put {w wr W : World} {kk : DataH} {f : FactP} {a0 : Option Addr} {nl c0 : Nat} {a1 : Option Addr} {zl c1 : Nat} {g sl vc : Nat} {A : Array Value} {j : Nat} (h : FoSt w wr kk f a0 nl c0 a1 zl c1 (some ⟨g, 0, none⟩) sl vc A j) (hb : Below wr.heap.size wr W) (h0 : 0 < sl) (hj : j < f.set.length)
    {k : DataH} (hk : OwnD (w.heap.size + 2) W k (f.set[j]'hj)) : FoSt w (put5 W g j k) kk f a0 nl c0 a1 zl c1 (some ⟨g, 0, none⟩) sl vc A (j + 1) := by
  have h1 := h.on hb
  obtain ⟨g', cur, e, hg, hs⟩ := h.set h0
  cases e
  have hbut := put5_but W g j k
  have hw := h1.blkR.lt
  have hB := (hs.on hb).blk
  have hst : ∀ {T : List TypeId}, 55 ∉ T → Same (fun b => tagged T W b ∧ w.heap.size + 2 ≤ b) W (put5 W g j k) := fun hT => (Same.but hbut hB hT).mono (fun b _ ht => ht.1)
  exact ⟨h1.bel.trans (below_of_but hbut (by omega) (by omega)), h1.blkA.but hbut (by omega), h1.blkR.but hbut (by omega), h1.name.step (hst (by decide)), h1.zone.step (hst (by decide)), h1.soa.step (hst (by decide)), fun _ => ⟨g, _, rfl, hg, hs.put hb (by omega) hj hk⟩⟩
theorem FoSt.fact {w wr : World} {kk : DataH} {f : FactP} {a0 : Option Addr} {nl c0 : Nat} {a1 : Option Addr} {zl c1 : Nat} {vo : Option Addr} {sl vc : Nat} {A : Array Value} (h : FoSt w wr kk f a0 nl c0 a1 zl c1 vo sl vc A sl) (hl : f.set.length = sl) (hle : sl ≤ vc) (hmx : vc ≤ 9223372036854775807) (hnil : vo = none → vc = 0)
    (hsn : ∀ s ∈ f.name, s.size ≤ 9223372036854775807) (hsz : ∀ s ∈ f.zone, s.size ≤ 9223372036854775807) (hi : wfi f.typ ∧ wfi f.kind ∧ wfi f.rank ∧ wfi f.got ∧ wfi f.ttl) {W : World} (hb : wr.grownBy W (some (w.heap.size + 1))) :
    OwnF w.heap.size W ⟨a0, nl, c0, vo, sl, vc, a1, zl, c1, kk⟩ f := by
  have key : IsFact (fun b => tagged fT wr b ∧ w.heap.size + 2 ≤ b) wr ⟨a0, nl, c0, vo, sl, vc, a1, zl, c1, kk⟩ f := by
    refine ⟨⟨h.name.row, hsn⟩, own1_in h.name (by decide), hi.1, hi.2.1, hi.2.2.1, hi.2.2.2.1, hi.2.2.2.2, ⟨hl, hle, hmx, hnil, fun h0 => ?_⟩, ⟨h.zone.row, hsz⟩, own1_in h.zone (by decide), h.soa.is, h.soa.mem.mono h.soa.is (fun b _ ht => ⟨tagged_mono ht.1 (by decide), ht.2⟩)⟩
    obtain ⟨g, cur, e, hg, hs⟩ := h.set h0
    refine ⟨g, 0, e, ⟨⟨_, _, hs.blk, by decide⟩, hg⟩, fun i hi => ?_⟩
    obtain ⟨k, k1, k2⟩ := hs.els i hi
    rw [if_pos (by omega)] at k2
    refine ⟨k, fun q hq => ?_, k2.is, ?_⟩
    · rw [Nat.zero_add, hs.blk.cell]; exact k1 q hq
    · exact k2.mem.mono k2.is (fun b _ ht => ⟨tagged_mono ht.1 (by decide), ht.2⟩)
  exact ((OwnF.step (B := w.heap.size + 2) key (Same.grown hb (fun b ht e => by have := Option.some.inj e; omega))).mono (fun b _ ht => ⟨ht.1, by omega⟩))
set_option maxHeartbeats 16000000 in
set_option maxRecDepth 100000 in
theorem fown_any (w : World) (S : Nat → Prop) (h : FactH) (f : FactP) (hf : IsFact S w h f) (hl : FLen f) :
    Calls Tryz.prog 77 #[.agg (factC h f)] w fun e w' => (∃ k, e = .returned (.agg (factC k f)) ∧ OwnF w.heap.size w' k f) ∧ Below w.heap.size w w' := by
  have hA0 : Blk (w.alloc (.cells (factC h f) 57)) w.heap.size (factC h f) 57 := heap_alloc_new w _
  have hA : Blk ((w.alloc (.cells (factC h f) 57)).alloc (.cells noF 57)) w.heap.size (factC h f) 57 := hA0.on ((Below.refl _ _).alloc (Nat.le_refl _) _)
  have hN : Blk ((w.alloc (.cells (factC h f) 57)).alloc (.cells noF 57)) (w.heap.size + 1) noF 57 := by
    have := heap_alloc_new (w.alloc (.cells (factC h f) 57)) (.cells noF 57)
    simpa [Blk] using this
  have hsz : ((w.alloc (.cells (factC h f) 57)).alloc (.cells noF 57)).heap.size = w.heap.size + 2 := by simp
  have hb2 : Below w.heap.size w ((w.alloc (.cells (factC h f) 57)).alloc (.cells noF 57)) := ((Below.refl _ _).alloc (Nat.le_refl _) _).alloc (by simp) _
  have HB := Lib.hid hb2
  have HF := Lib.hid ((hf.mono (S' := fun b => b < w.heap.size) (fun b hb _ => hb)).on hb2)
  have HN := Lib.hid hN
  have HA := Lib.hid hA
  have HSZ := Lib.hid hsz
  have HLE := Lib.hid hl
  have hsl := hf.set.hlen
  have hsle := hf.set.hle
  have hsmx := hf.set.hmax
  have hnl := hf.name.len
  have hzl := hf.zone.len
  have h1 := hl.set
  have h2 := hl.name
  have h3 := hl.zone
  have HLN := Lib.hid (show h.nl * 16 ≤ 140737488355328 by omega)
  have HLZ := Lib.hid (show h.zl * 16 ≤ 140737488355328 by omega)
  have HLS := Lib.hid (And.intro hsl (show h.sl ≤ 1048576 by omega))
  have HSD := Lib.hid (hl.soa.fit hf.soa)
  have HSN := Lib.hid (And.intro hf.name.small hf.zone.small)
  have HI5 := Lib.hid (And.intro hf.typ (And.intro hf.kind (And.intro hf.rank (And.intro hf.got hf.ttl))))
  clear hA0 hA hN hsz hb2 hf hl hsl hnl hzl h1 h2 h3
  obtain ⟨na, nl, nc, sa, sl, sc, za, zl, zc, ⟨ba, bl, bc, ha, hl, hc, ma, ml, mc, xa, xl, xc, ta, tl, tc⟩⟩ := h
  simp only [factC] at HB HF HN HA HSZ
  simp only at hsle hsmx HLN HLZ HLS HSD
  have HC0 := Lib.hid (show ((w.alloc (.cells #[.slice na nl nc, .int .i64 f.typ, .int .i64 f.kind, .int .i64 f.rank, .int .i64 f.got, .int .i64 f.ttl, .slice sa sl sc, .slice za zl zc, .slice ba bl bc, .slice ha hl hc, .slice ma ml mc, .slice xa xl xc, .slice ta tl tc] 57)).alloc (.cells noF 57)).drew.cell? ⟨w.heap.size, 0, none⟩ = some (.slice na nl nc) from HA.out.cell 0)
  have HC1 := Lib.hid (show ((w.alloc (.cells #[.slice na nl nc, .int .i64 f.typ, .int .i64 f.kind, .int .i64 f.rank, .int .i64 f.got, .int .i64 f.ttl, .slice sa sl sc, .slice za zl zc, .slice ba bl bc, .slice ha hl hc, .slice ma ml mc, .slice xa xl xc, .slice ta tl tc] 57)).alloc (.cells noF 57)).drew.cell? ⟨w.heap.size, 1, none⟩ = some (.int .i64 f.typ) from HA.out.cell 1)
  have HC2 := Lib.hid (show ((w.alloc (.cells #[.slice na nl nc, .int .i64 f.typ, .int .i64 f.kind, .int .i64 f.rank, .int .i64 f.got, .int .i64 f.ttl, .slice sa sl sc, .slice za zl zc, .slice ba bl bc, .slice ha hl hc, .slice ma ml mc, .slice xa xl xc, .slice ta tl tc] 57)).alloc (.cells noF 57)).drew.cell? ⟨w.heap.size, 2, none⟩ = some (.int .i64 f.kind) from HA.out.cell 2)
  have HC3 := Lib.hid (show ((w.alloc (.cells #[.slice na nl nc, .int .i64 f.typ, .int .i64 f.kind, .int .i64 f.rank, .int .i64 f.got, .int .i64 f.ttl, .slice sa sl sc, .slice za zl zc, .slice ba bl bc, .slice ha hl hc, .slice ma ml mc, .slice xa xl xc, .slice ta tl tc] 57)).alloc (.cells noF 57)).drew.cell? ⟨w.heap.size, 3, none⟩ = some (.int .i64 f.rank) from HA.out.cell 3)
  have HC4 := Lib.hid (show ((w.alloc (.cells #[.slice na nl nc, .int .i64 f.typ, .int .i64 f.kind, .int .i64 f.rank, .int .i64 f.got, .int .i64 f.ttl, .slice sa sl sc, .slice za zl zc, .slice ba bl bc, .slice ha hl hc, .slice ma ml mc, .slice xa xl xc, .slice ta tl tc] 57)).alloc (.cells noF 57)).drew.cell? ⟨w.heap.size, 4, none⟩ = some (.int .i64 f.got) from HA.out.cell 4)
  have HC5 := Lib.hid (show ((w.alloc (.cells #[.slice na nl nc, .int .i64 f.typ, .int .i64 f.kind, .int .i64 f.rank, .int .i64 f.got, .int .i64 f.ttl, .slice sa sl sc, .slice za zl zc, .slice ba bl bc, .slice ha hl hc, .slice ma ml mc, .slice xa xl xc, .slice ta tl tc] 57)).alloc (.cells noF 57)).drew.cell? ⟨w.heap.size, 5, none⟩ = some (.int .i64 f.ttl) from HA.out.cell 5)
  have HC6 := Lib.hid (show ((w.alloc (.cells #[.slice na nl nc, .int .i64 f.typ, .int .i64 f.kind, .int .i64 f.rank, .int .i64 f.got, .int .i64 f.ttl, .slice sa sl sc, .slice za zl zc, .slice ba bl bc, .slice ha hl hc, .slice ma ml mc, .slice xa xl xc, .slice ta tl tc] 57)).alloc (.cells noF 57)).drew.cell? ⟨w.heap.size, 6, none⟩ = some (.slice sa sl sc) from HA.out.cell 6)
  have HC7 := Lib.hid (show ((w.alloc (.cells #[.slice na nl nc, .int .i64 f.typ, .int .i64 f.kind, .int .i64 f.rank, .int .i64 f.got, .int .i64 f.ttl, .slice sa sl sc, .slice za zl zc, .slice ba bl bc, .slice ha hl hc, .slice ma ml mc, .slice xa xl xc, .slice ta tl tc] 57)).alloc (.cells noF 57)).drew.cell? ⟨w.heap.size, 7, none⟩ = some (.slice za zl zc) from HA.out.cell 7)
  have HC8 := Lib.hid (show ((w.alloc (.cells #[.slice na nl nc, .int .i64 f.typ, .int .i64 f.kind, .int .i64 f.rank, .int .i64 f.got, .int .i64 f.ttl, .slice sa sl sc, .slice za zl zc, .slice ba bl bc, .slice ha hl hc, .slice ma ml mc, .slice xa xl xc, .slice ta tl tc] 57)).alloc (.cells noF 57)).drew.cell? ⟨w.heap.size, 8, none⟩ = some (.slice ba bl bc) from HA.out.cell 8)
  have HC9 := Lib.hid (show ((w.alloc (.cells #[.slice na nl nc, .int .i64 f.typ, .int .i64 f.kind, .int .i64 f.rank, .int .i64 f.got, .int .i64 f.ttl, .slice sa sl sc, .slice za zl zc, .slice ba bl bc, .slice ha hl hc, .slice ma ml mc, .slice xa xl xc, .slice ta tl tc] 57)).alloc (.cells noF 57)).drew.cell? ⟨w.heap.size, 9, none⟩ = some (.slice ha hl hc) from HA.out.cell 9)
  have HC10 := Lib.hid (show ((w.alloc (.cells #[.slice na nl nc, .int .i64 f.typ, .int .i64 f.kind, .int .i64 f.rank, .int .i64 f.got, .int .i64 f.ttl, .slice sa sl sc, .slice za zl zc, .slice ba bl bc, .slice ha hl hc, .slice ma ml mc, .slice xa xl xc, .slice ta tl tc] 57)).alloc (.cells noF 57)).drew.cell? ⟨w.heap.size, 10, none⟩ = some (.slice ma ml mc) from HA.out.cell 10)
  have HC11 := Lib.hid (show ((w.alloc (.cells #[.slice na nl nc, .int .i64 f.typ, .int .i64 f.kind, .int .i64 f.rank, .int .i64 f.got, .int .i64 f.ttl, .slice sa sl sc, .slice za zl zc, .slice ba bl bc, .slice ha hl hc, .slice ma ml mc, .slice xa xl xc, .slice ta tl tc] 57)).alloc (.cells noF 57)).drew.cell? ⟨w.heap.size, 11, none⟩ = some (.slice xa xl xc) from HA.out.cell 11)
  have HC12 := Lib.hid (show ((w.alloc (.cells #[.slice na nl nc, .int .i64 f.typ, .int .i64 f.kind, .int .i64 f.rank, .int .i64 f.got, .int .i64 f.ttl, .slice sa sl sc, .slice za zl zc, .slice ba bl bc, .slice ha hl hc, .slice ma ml mc, .slice xa xl xc, .slice ta tl tc] 57)).alloc (.cells noF 57)).drew.cell? ⟨w.heap.size, 12, none⟩ = some (.slice ta tl tc) from HA.out.cell 12)
  go_enter Tryz.func77, Tryz.ntmps77
  go_wp2_with fail
  (try change Code.wp _ (Code.region _ _ _) _ _ ((w.alloc (.cells #[.slice na nl nc, .int .i64 f.typ, .int .i64 f.kind, .int .i64 f.rank, .int .i64 f.got, .int .i64 f.ttl, .slice sa sl sc, .slice za zl zc, .slice ba bl bc, .slice ha hl hc, .slice ma ml mc, .slice xa xl xc, .slice ta tl tc] 57)).alloc (.cells noF 57)))
  rename_i K0 hK0
  have HK0 := Lib.hid hK0
  clear hK0
  refine wp_soup_tail (m := 38) 10 (by kernel_rfl) (fun x y => Below x.heap.size x y) (fun i v xw => match i with | 0 => v = .pointer (some ⟨w.heap.size, 0, none⟩) | 1 => v = .slice na nl nc | 2 => ∃ a c, v = .slice a nl c ∧ Own1 [9] (w.heap.size + 2) xw a nl c (f.name.map .string) | 3 => v = .pointer (some ⟨w.heap.size, 7, none⟩) | 4 => v = .slice za zl zc | 5 => ∃ a c, v = .slice a zl c ∧ Own1 [9] (w.heap.size + 2) xw a zl c (f.zone.map .string) | 6 => v = .pointer (some ⟨w.heap.size, 8, none⟩) | 7 => v = .agg #[.slice ba bl bc, .slice ha hl hc, .slice ma ml mc, .slice xa xl xc, .slice ta tl tc] | 8 => ∃ k, v = .agg (dataC k) ∧ OwnD (w.heap.size + 2) xw k f.soa | 9 => v = .pointer (some ⟨w.heap.size, 0, none⟩) | _ => True) rfl (by kernel_rfl) (by kernel_rfl) (fun _ _ _ h1 h2 => below_on h1 h2 (Nat.le_refl _)) (Below.refl _ _) (by intro i v x y h hxy; match i, h with | 0, h => exact h | 1, h => exact h | 2, ⟨a, c, e, hr⟩ => exact ⟨a, c, e, hr.on hxy⟩ | 3, h => exact h | 4, h => exact h | 5, ⟨a, c, e, hr⟩ => exact ⟨a, c, e, hr.on hxy⟩ | 6, h => exact h | 7, h => exact h | 8, ⟨k, e, hr⟩ => exact ⟨k, e, hr.on hxy⟩ | 9, h => exact h | _ + 10, _ => trivial) (dst_head (by kernel_rfl)) ?_ ?_
  rotate_left
  · intro a W hR hS hdep
    have e1 : a.tmps.getD 1 undef = .pointer (some ⟨w.heap.size, 0, none⟩) := hS.keep 1 (by kernel_rfl)
    have e2 : a.tmps.getD 2 undef = .pointer (some ⟨(w.heap.size + 1), 0, none⟩) := hS.keep 2 (by kernel_rfl)
    obtain ⟨a0, c0, q, r0⟩ := hdep 2 (by decide +kernel)
    have e6 : a.tmps.getD 6 undef = .slice a0 nl c0 := q
    clear q
    obtain ⟨a1, c1, q, r1⟩ := hdep 5 (by decide +kernel)
    have e9 : a.tmps.getD 9 undef = .slice a1 zl c1 := q
    clear q
    obtain ⟨kk, q, hk⟩ := hdep 8 (by decide +kernel)
    have e12 : a.tmps.getD 12 undef = .agg (dataC kk) := q
    clear q
    have e13 : a.tmps.getD 13 undef = .pointer (some ⟨w.heap.size, 0, none⟩) := hdep 9 (by decide +kernel)
    obtain ⟨T, df⟩ := a
    obtain rfl : df = [] := hS.defers
    have hT : T = #[T.getD 0 undef, T.getD 1 undef, T.getD 2 undef, T.getD 3 undef, T.getD 4 undef, T.getD 5 undef, T.getD 6 undef, T.getD 7 undef, T.getD 8 undef, T.getD 9 undef, T.getD 10 undef, T.getD 11 undef, T.getD 12 undef, T.getD 13 undef, T.getD 14 undef, T.getD 15 undef, T.getD 16 undef, T.getD 17 undef, T.getD 18 undef, T.getD 19 undef, T.getD 20 undef, T.getD 21 undef, T.getD 22 undef, T.getD 23 undef, T.getD 24 undef, T.getD 25 undef, T.getD 26 undef, T.getD 27 undef, T.getD 28 undef, T.getD 29 undef, T.getD 30 undef, T.getD 31 undef, T.getD 32 undef, T.getD 33 undef, T.getD 34 undef, T.getD 35 undef, T.getD 36 undef, T.getD 37 undef] := arr_eta T 38 hS.size
    have k1 : T.getD 1 undef = .pointer (some ⟨w.heap.size, 0, none⟩) := e1
    have k2 : T.getD 2 undef = .pointer (some ⟨(w.heap.size + 1), 0, none⟩) := e2
    have k6 : T.getD 6 undef = .slice a0 nl c0 := e6
    have k9 : T.getD 9 undef = .slice a1 zl c1 := e9
    have k12 : T.getD 12 undef = .agg (dataC kk) := e12
    have k13 : T.getD 13 undef = .pointer (some ⟨w.heap.size, 0, none⟩) := e13
    clear hS hdep
    rw [hT]
    rw [k1]
    clear k1 e1
    rw [k2]
    clear k2 e2
    rw [k6]
    clear k6 e6
    rw [k9]
    clear k9 e9
    rw [k12]
    clear k12 e12
    rw [k13]
    clear k13 e13
    clear hT
    generalize T.getD 0 undef = u0
    generalize T.getD 3 undef = u3
    generalize T.getD 4 undef = u4
    generalize T.getD 5 undef = u5
    generalize T.getD 7 undef = u7
    generalize T.getD 8 undef = u8
    generalize T.getD 10 undef = u10
    generalize T.getD 11 undef = u11
    generalize T.getD 14 undef = u14
    generalize T.getD 15 undef = u15
    generalize T.getD 16 undef = u16
    generalize T.getD 17 undef = u17
    generalize T.getD 18 undef = u18
    generalize T.getD 19 undef = u19
    generalize T.getD 20 undef = u20
    generalize T.getD 21 undef = u21
    generalize T.getD 22 undef = u22
    generalize T.getD 23 undef = u23
    generalize T.getD 24 undef = u24
    generalize T.getD 25 undef = u25
    generalize T.getD 26 undef = u26
    generalize T.getD 27 undef = u27
    generalize T.getD 28 undef = u28
    generalize T.getD 29 undef = u29
    generalize T.getD 30 undef = u30
    generalize T.getD 31 undef = u31
    generalize T.getD 32 undef = u32
    generalize T.getD 33 undef = u33
    generalize T.getD 34 undef = u34
    generalize T.getD 35 undef = u35
    generalize T.getD 36 undef = u36
    generalize T.getD 37 undef = u37
    simp only [List.drop_succ_cons, List.drop_zero]
    have hbx := below_on (B := ((w.alloc (.cells #[.slice na nl nc, .int .i64 f.typ, .int .i64 f.kind, .int .i64 f.rank, .int .i64 f.got, .int .i64 f.ttl, .slice sa sl sc, .slice za zl zc, .slice ba bl bc, .slice ha hl hc, .slice ma ml mc, .slice xa xl xc, .slice ta tl tc] 57)).alloc (.cells noF 57)).heap.size) (Below.drew (Below.refl _ _)) hR (Nat.le_refl _)
    have hAW := HA.out.on hbx
    have n0 := hAW.cell 0
    have n7 := hAW.cell 7
    have n8 := hAW.cell 8
    have n9 := hAW.cell 9
    have n10 := hAW.cell 10
    have n11 := hAW.cell 11
    have n12 := hAW.cell 12
    simp at n0 n7 n8 n9 n10 n11 n12
    have f0 := hAW.free 0
    have f7 := hAW.free 7
    have f8 := hAW.free 8
    have f9 := hAW.free 9
    have f10 := hAW.free 10
    have f11 := hAW.free 11
    have f12 := hAW.free 12
    simp only [dataC]
    go_wp2_with fail
    refine HK0.out _ _ ?_
    have hA7 : Blk (((((((W.setCell ⟨w.heap.size, 0, none⟩ (.slice a0 nl c0)).setCell ⟨w.heap.size, 7, none⟩ (.slice a1 zl c1)).setCell ⟨w.heap.size, 8, none⟩ (.slice kk.ba kk.bl kk.bc)).setCell ⟨w.heap.size, 9, none⟩ (.slice kk.ha kk.hl kk.hc)).setCell ⟨w.heap.size, 10, none⟩ (.slice kk.ma kk.ml kk.mc)).setCell ⟨w.heap.size, 11, none⟩ (.slice kk.na kk.nl kk.nc)).setCell ⟨w.heap.size, 12, none⟩ (.slice kk.ta kk.tl kk.tc)) w.heap.size #[.slice a0 nl c0, .int .i64 f.typ, .int .i64 f.kind, .int .i64 f.rank, .int .i64 f.got, .int .i64 f.ttl, .slice sa sl sc, .slice a1 zl c1, .slice kk.ba kk.bl kk.bc, .slice kk.ha kk.hl kk.hc, .slice kk.ma kk.ml kk.mc, .slice kk.na kk.nl kk.nc, .slice kk.ta kk.tl kk.tc] 57 := ((((((hAW.set 0 _).set 7 _).set 8 _).set 9 _).set 10 _).set 11 _).set 12 _
    have hG7 : W.grownBy (((((((W.setCell ⟨w.heap.size, 0, none⟩ (.slice a0 nl c0)).setCell ⟨w.heap.size, 7, none⟩ (.slice a1 zl c1)).setCell ⟨w.heap.size, 8, none⟩ (.slice kk.ba kk.bl kk.bc)).setCell ⟨w.heap.size, 9, none⟩ (.slice kk.ha kk.hl kk.hc)).setCell ⟨w.heap.size, 10, none⟩ (.slice kk.ma kk.ml kk.mc)).setCell ⟨w.heap.size, 11, none⟩ (.slice kk.na kk.nl kk.nc)).setCell ⟨w.heap.size, 12, none⟩ (.slice kk.ta kk.tl kk.tc)) (some w.heap.size) := but_trans (but_trans (but_trans (but_trans (but_trans (but_trans (but_set _ _ _ _) (but_set _ _ _ _)) (but_set _ _ _ _)) (but_set _ _ _ _)) (but_set _ _ _ _)) (but_set _ _ _ _)) (but_set _ _ _ _)
    generalize (((((((W.setCell ⟨w.heap.size, 0, none⟩ (.slice a0 nl c0)).setCell ⟨w.heap.size, 7, none⟩ (.slice a1 zl c1)).setCell ⟨w.heap.size, 8, none⟩ (.slice kk.ba kk.bl kk.bc)).setCell ⟨w.heap.size, 9, none⟩ (.slice kk.ha kk.hl kk.hc)).setCell ⟨w.heap.size, 10, none⟩ (.slice kk.ma kk.ml kk.mc)).setCell ⟨w.heap.size, 11, none⟩ (.slice kk.na kk.nl kk.nc)).setCell ⟨w.heap.size, 12, none⟩ (.slice kk.ta kk.tl kk.tc)) = X at hA7 hG7 ⊢
    have hsx : w.heap.size + 2 ≤ W.heap.size := Nat.le_trans (Nat.le_of_eq HSZ.out.symm) hbx.size
    have hbe : Below w.heap.size w X := (below_on HB.out hbx (Nat.le_refl _)).trans (below_of_but hG7 (B := w.heap.size) (by omega) (by omega))
    have hs7 : W.heap.size ≤ X.heap.size := hG7.size
    have HR0 := Lib.hid (r0.step (Same.grown hG7 (fun b hb e => by have := Option.some.inj e; omega)))
    have HR1 := Lib.hid (r1.step (Same.grown hG7 (fun b hb e => by have := Option.some.inj e; omega)))
    have HKK := Lib.hid (hk.but hG7 (by omega))
    have HNR := Lib.hid ((HN.out.on hbx).but hG7 (by omega))
    have HST := Lib.hid ((HF.out.set.on hbx).keep (Same.grown hG7 (fun b hb e => by have := Option.some.inj e; omega)))
    have HBE := Lib.hid hbe
    have HA7 := Lib.hid hA7
    have HS7 := Lib.hid (show w.heap.size + 2 ≤ X.heap.size by omega)
    clear hAW hA7 hG7 hsx hbe hs7 hbx r0 r1 hk hR n0 n7 n8 n9 n10 n11 n12 f0 f7 f8 f9 f10 f11 f12 HC0 HC1 HC2 HC3 HC4 HC5 HC6 HC7 HC8 HC9 HC10 HC11 HC12
    have n6 := HA7.out.cell 6
    simp at n6
    go_wp2_with fail
    refine (clone_datas X (fun b => b < w.heap.size) sa sl sc f.set HST.out HLS.out.2).mono ?_
    rintro e X2 ⟨⟨v, ks, rfl, hown, hkl, hks⟩, hb⟩
    obtain ⟨vo, vc, rfl, hvle, hvmx, hvnil, hvg⟩ : ∃ vo vc, v = .slice vo sl vc ∧ sl ≤ vc ∧ vc ≤ 9223372036854775807 ∧ (vo = none → vc = 0) ∧ (0 < sl → ∃ g cur, vo = some ⟨g, 0, none⟩ ∧ w.heap.size + 2 ≤ g ∧ OwnSt w X2 g f.set 0 cur) := by
      rcases hown.2 with ⟨hv, hn⟩ | ⟨g, cap, cur, hv, hg, hh, hn, hm, hs, ht⟩
      · subst hn
        exact ⟨none, 0, hv, Nat.le_refl _, by omega, fun _ => rfl, fun h => absurd h (by omega)⟩
      · refine ⟨_, cap, hv, hn, by unfold maxLen at hm; exact hm, fun e => (by cases e), fun h0 => ⟨g, cur, rfl, by have := HS7.out; omega, hh, fun i hi => ?_⟩⟩
        have hik : i < ks.length := by have := HLS.out.1; omega
        refine ⟨ks[i], fun q hq => ?_, ?_⟩
        · have h5 := dataCells_at ks i q hik hq
          rw [← h5, ← ht, List.getElem?_take, if_pos (by omega)]
          simp
        · rw [if_neg (by omega)]
          have h6 := hks i hik hi
          exact ⟨h6.1, h6.2.mono h6.1 (fun b _ ht => ht.1)⟩
    have HV := Lib.hid (And.intro hvle (And.intro hvmx hvnil))
    have hA8 := HA7.out.on hb
    have n6' := hA8.cell 6
    have f6 := hA8.free 6
    simp at n6'
    have HFO := Lib.hid (show FoSt w (X2.setCell ⟨w.heap.size, 6, none⟩ (.slice vo sl vc)) kk f a0 nl c0 a1 zl c1 vo sl vc #[.slice a0 nl c0, .int .i64 f.typ, .int .i64 f.kind, .int .i64 f.rank, .int .i64 f.got, .int .i64 f.ttl, .slice vo sl vc, .slice a1 zl c1, .slice kk.ba kk.bl kk.bc, .slice kk.ha kk.hl kk.hc, .slice kk.ma kk.ml kk.mc, .slice kk.na kk.nl kk.nc, .slice kk.ta kk.tl kk.tc] 0 by
      have hG : X2.grownBy (X2.setCell ⟨w.heap.size, 6, none⟩ (.slice vo sl vc)) (some w.heap.size) := but_set _ _ _ _
      have hz := HS7.out
      have hz2 := hb.size
      have hB2 := below_on HBE.out hb (Nat.le_refl _)
      refine ⟨hB2.trans (below_of_but hG (Nat.le_refl _) (by omega)), hA8.set 6 _, (HNR.out.on hb).but hG (by omega), (HR0.out.on hb).step (Same.grown hG (fun b ht e => by have := Option.some.inj e; omega)), (HR1.out.on hb).step (Same.grown hG (fun b ht e => by have := Option.some.inj e; omega)), (HKK.out.on hb).but hG (by omega), fun h0 => ?_⟩
      obtain ⟨g, cur, e, hg, hs⟩ := hvg h0
      refine ⟨g, cur, e, hg, hs.blk.but hG (by omega), fun i hi => ?_⟩
      obtain ⟨k, k1, k2⟩ := hs.els i hi
      rw [if_neg (by omega)] at k2
      exact ⟨k, k1, by rw [if_neg (by omega)]; exact ⟨k2.1.keep k2.2 (Same.grown hG (fun b hb e => by have := Option.some.inj e; omega)), k2.2⟩⟩)
    clear n6 hown hkl hks hb hvg hA8 HST HNR HR0 HR1 HKK HBE HA7
    go_wp2_with fail
    clear n6' f6
    go_loopw [23, 3] (fun i _ wr => ∃ j : Nat, j ≤ sl ∧ i = .int .i64 j ∧ Hid (FoSt w wr kk f a0 nl c0 a1 zl c1 vo sl vc #[.slice a0 nl c0, .int .i64 f.typ, .int .i64 f.kind, .int .i64 f.rank, .int .i64 f.got, .int .i64 f.ttl, .slice vo sl vc, .slice a1 zl c1, .slice kk.ba kk.bl kk.bc, .slice kk.ha kk.hl kk.hc, .slice kk.ma kk.ml kk.mc, .slice kk.na kk.nl kk.nc, .slice kk.ta kk.tl kk.tc] j)) (fun i _ _ => sl - (intOf i).toNat)
    case atStart => exact ⟨0, Nat.zero_le _, rfl, HFO.out⟩
    case round =>
      obtain ⟨j, hj, rfl, hinv⟩ := hrel
      clear HFO
      by_cases hlt : j < sl
      · have hjs : j < f.set.length := by have := HLS.out.1; omega
        obtain ⟨g, cur, rfl, hg, hst⟩ := hinv.out.set (by omega)
        obtain ⟨k, k1, k2⟩ := hst.els j hjs
        rw [if_neg (by omega)] at k2
        have hfk := (HLE.out.all _ (List.getElem_mem hjs)).fit k2.1
        have HBG := Lib.hid hst.blk
        have HRO := Lib.hid (fun w' (p : IsData w' k f.set[j]) => rrown_any w' k _ p hfk)
        have HK2 := Lib.hid k2.1
        have HGG := Lib.hid hg
        have HM6 := Lib.hid (show wr.drew.cell? ⟨w.heap.size, 6, none⟩ = some (.slice (some ⟨g, 0, none⟩) sl vc) from hinv.out.blkA.cell 6)
        obtain ⟨ba', bl', bc', ha', hl', hc', ma', ml', mc', xa', xl', xc', ta', tl', tc'⟩ := k
        have HN0 := Lib.hid (show wr.drew.cell? ⟨g, j * 5, none⟩ = some (.slice ba' bl' bc') from (HBG.out.cell _).trans (k1 0 (by omega)))
        have HN1 := Lib.hid (show wr.drew.cell? ⟨g, j * 5 + 1, none⟩ = some (.slice ha' hl' hc') from (HBG.out.cell _).trans (k1 1 (by omega)))
        have HN2 := Lib.hid (show wr.drew.cell? ⟨g, j * 5 + 2, none⟩ = some (.slice ma' ml' mc') from (HBG.out.cell _).trans (k1 2 (by omega)))
        have HN3 := Lib.hid (show wr.drew.cell? ⟨g, j * 5 + 3, none⟩ = some (.slice xa' xl' xc') from (HBG.out.cell _).trans (k1 3 (by omega)))
        have HN4 := Lib.hid (show wr.drew.cell? ⟨g, j * 5 + 4, none⟩ = some (.slice ta' tl' tc') from (HBG.out.cell _).trans (k1 4 (by omega)))
        simp only [dataC] at HRO
        have hjv : j < vc := by have := HV.out.1; omega
        have hsx : sl ≤ 1048576 := HLS.out.2
        clear hst k1 k2 hfk hg
        go_wp2_with fail
        rename_i K1 hK1
        have HK1 := Lib.hid hK1
        clear hK1
        refine wp_soup_tail (m := 38) 10 (by kernel_rfl) (fun x y => Below x.heap.size x y) (fun i v xw => match i with | 0 => v = .pointer (some ⟨w.heap.size, 6, none⟩) | 1 => v = .slice ((some ⟨g, 0, none⟩)) sl vc | 2 => v = .int .i64 ((j : Int)) | 3 => v = .pointer (some ⟨w.heap.size, 6, none⟩) | 4 => v = .slice ((some ⟨g, 0, none⟩)) sl vc | 5 => v = .int .i64 ((j : Int)) | 6 => v = .pointer (some ⟨g, j * 5, none⟩) | 7 => v = .agg #[.slice ba' bl' bc', .slice ha' hl' hc', .slice ma' ml' mc', .slice xa' xl' xc', .slice ta' tl' tc'] | 8 => ∃ k, v = .agg (dataC k) ∧ OwnD (w.heap.size + 2) xw k (f.set[j]'hjs) | 9 => v = .pointer (some ⟨g, j * 5, none⟩) | _ => True) rfl (by kernel_rfl) (by kernel_rfl) (fun _ _ _ h1 h2 => below_on h1 h2 (Nat.le_refl _)) (Below.refl _ _) (by intro i v x y h hxy; match i, h with | 0, h => exact h | 1, h => exact h | 2, h => exact h | 3, h => exact h | 4, h => exact h | 5, h => exact h | 6, h => exact h | 7, h => exact h | 8, ⟨k, e, hr⟩ => exact ⟨k, e, hr.on hxy⟩ | 9, h => exact h | _ + 10, _ => trivial) (dst_head (by kernel_rfl)) ?_ ?_
        rotate_left
        · intro a W hR hS hdep
          obtain ⟨kn, q, hkn⟩ := hdep 8 (by decide +kernel)
          have e34 : a.tmps.getD 34 undef = .agg (dataC kn) := q
          clear q
          have e35 : a.tmps.getD 35 undef = .pointer (some ⟨g, j * 5, none⟩) := hdep 9 (by decide +kernel)
          obtain ⟨T, df⟩ := a
          obtain rfl : df = [] := hS.defers
          have hT := tmps_same hS 38 rfl [26, 27, 28, 29, 30, 31, 32, 33, 34, 35] (by kernel_rfl)
          simp only [List.foldl_cons, List.foldl_nil, List.setIfInBounds_toArray, List.set_cons_succ, List.set_cons_zero] at hT
          have k34 : T.getD 34 undef = .agg (dataC kn) := e34
          have k35 : T.getD 35 undef = .pointer (some ⟨g, j * 5, none⟩) := e35
          clear hS hdep
          rw [hT]
          rw [k34]
          clear k34 e34
          rw [k35]
          clear k35 e35
          clear hT
          generalize T.getD 26 undef = u26
          generalize T.getD 27 undef = u27
          generalize T.getD 28 undef = u28
          generalize T.getD 29 undef = u29
          generalize T.getD 30 undef = u30
          generalize T.getD 31 undef = u31
          generalize T.getD 32 undef = u32
          generalize T.getD 33 undef = u33
          simp only [List.drop_succ_cons, List.drop_zero]
          have hbx := below_on (B := wr.heap.size) (Below.drew (Below.refl _ _)) hR (Nat.le_refl _)
          have hBW := HBG.out.on hbx
          obtain ⟨_, hcur, hgst⟩ : ∃ cur2, cur2 = cur ∧ True := ⟨_, rfl, trivial⟩
          have n0 := cell_keep hbx HN0.out
          have f0 := hBW.free (j * 5)
          have n1 := cell_keep hbx HN1.out
          have f1 := hBW.free (j * 5 + 1)
          have n2 := cell_keep hbx HN2.out
          have f2 := hBW.free (j * 5 + 2)
          have n3 := cell_keep hbx HN3.out
          have f3 := hBW.free (j * 5 + 3)
          have n4 := cell_keep hbx HN4.out
          have f4 := hBW.free (j * 5 + 4)
          have hput := Lib.hid (hinv.out.put hbx (by omega) hjs hkn)
          clear hcur hgst hBW
          simp only [dataC]
          go_wp2_with fail
          refine HK1.out _ _ ?_
          clear n0 n1 n2 n3 n4 f0 f1 f2 f3 f4 hR hkn HM6 HN0 HN1 HN2 HN3 HN4
          have hput2 := hput.out
          unfold put5 at hput2
          have HP := Lib.hid hput2
          clear hput2 hput
          go_wp2_with fail
          go_roundw
          case rel => exact ⟨j + 1, by omega, by go_num, HP.out⟩
          case measure => simp [intOf]; omega
        refine soup_cons rfl rfl (fun a W hR hS hdep K hK => ?_) ?_
        · have e1 : a.tmps[1]?.getD undef = .pointer (some ⟨w.heap.size, 0, none⟩) := slot_of (hS.keep 1 (by kernel_rfl))
          go_simp
          exact hK _ _ (Below.refl _ _) (by first | rfl | simp)
        refine soup_cons rfl rfl (fun a W hR hS hdep K hK => ?_) ?_
        · have e26 : a.tmps[26]?.getD undef = .pointer (some ⟨w.heap.size, 6, none⟩) := slot_of (hdep 0 (by decide +kernel))
          have m0 := cell_keep hR HM6.out
          go_simp
          exact hK _ _ (Below.refl _ _) (by first | rfl | simp)
        refine soup_cons rfl rfl (fun a W hR hS hdep K hK => ?_) ?_
        · have e3 : a.tmps[3]?.getD undef = .int .i64 ((j : Int)) := slot_of (hS.keep 3 (by kernel_rfl))
          go_simp
          exact hK _ _ (Below.refl _ _) (by first | rfl | simp)
        refine soup_cons rfl rfl (fun a W hR hS hdep K hK => ?_) ?_
        · have e1 : a.tmps[1]?.getD undef = .pointer (some ⟨w.heap.size, 0, none⟩) := slot_of (hS.keep 1 (by kernel_rfl))
          go_simp
          exact hK _ _ (Below.refl _ _) (by first | rfl | simp)
        refine soup_cons rfl rfl (fun a W hR hS hdep K hK => ?_) ?_
        · have e29 : a.tmps[29]?.getD undef = .pointer (some ⟨w.heap.size, 6, none⟩) := slot_of (hdep 3 (by decide +kernel))
          have m0 := cell_keep hR HM6.out
          go_simp
          exact hK _ _ (Below.refl _ _) (by first | rfl | simp)
        refine soup_cons rfl rfl (fun a W hR hS hdep K hK => ?_) ?_
        · have e3 : a.tmps[3]?.getD undef = .int .i64 ((j : Int)) := slot_of (hS.keep 3 (by kernel_rfl))
          go_simp
          exact hK _ _ (Below.refl _ _) (by first | rfl | simp)
        refine soup_cons rfl rfl (fun a W hR hS hdep K hK => ?_) ?_
        · have e30 : a.tmps[30]?.getD undef = .slice ((some ⟨g, 0, none⟩)) sl vc := slot_of (hdep 4 (by decide +kernel))
          have e31 : a.tmps[31]?.getD undef = .int .i64 ((j : Int)) := slot_of (hdep 5 (by decide +kernel))
          go_simp
          exact hK _ _ (Below.refl _ _) (by first | rfl | simp)
        refine soup_cons rfl rfl (fun a W hR hS hdep K hK => ?_) ?_
        · have e32 : a.tmps[32]?.getD undef = .pointer (some ⟨g, j * 5, none⟩) := slot_of (hdep 6 (by decide +kernel))
          have m0 := cell_keep hR HN0.out
          have m1 := cell_keep hR HN1.out
          have m2 := cell_keep hR HN2.out
          have m3 := cell_keep hR HN3.out
          have m4 := cell_keep hR HN4.out
          go_simp
          exact hK _ _ (Below.refl _ _) (by first | rfl | simp)
        refine soup_cons rfl rfl (fun a W hR hS hdep K hK => ?_) ?_
        · have e33 : a.tmps[33]?.getD undef = .agg #[.slice ba' bl' bc', .slice ha' hl' hc', .slice ma' ml' mc', .slice xa' xl' xc', .slice ta' tl' tc'] := slot_of (hdep 7 (by decide +kernel))
          go_simp
          have hbx := below_on (B := wr.heap.size) (Below.drew (Below.refl _ _)) hR (Nat.le_refl _)
          refine (HRO.out _ (HK2.out.on hbx)).mono ?_
          rintro e W' ⟨⟨k, rfl, hk, _⟩, hb⟩
          exact hK _ _ hb ⟨k, rfl, hk.mono (by have := hbx.size; have := hinv.out.blkR.lt; omega)⟩
        refine soup_cons rfl rfl (fun a W hR hS hdep K hK => ?_) ?_
        · have e27 : a.tmps[27]?.getD undef = .slice ((some ⟨g, 0, none⟩)) sl vc := slot_of (hdep 1 (by decide +kernel))
          have e28 : a.tmps[28]?.getD undef = .int .i64 ((j : Int)) := slot_of (hdep 2 (by decide +kernel))
          go_simp
          exact hK _ _ (Below.refl _ _) (by first | rfl | simp)
        exact fun j h1 h2 => absurd h1 (by omega)
      · obtain rfl : j = sl := by omega
        have hAe := hinv.out.blkA
        have hRe := hinv.out.blkR
        have n0 := hAe.cell 0
        have n1 := hAe.cell 1
        have n2 := hAe.cell 2
        have n3 := hAe.cell 3
        have n4 := hAe.cell 4
        have n5 := hAe.cell 5
        have n6 := hAe.cell 6
        have n7 := hAe.cell 7
        have n8 := hAe.cell 8
        have n9 := hAe.cell 9
        have n10 := hAe.cell 10
        have n11 := hAe.cell 11
        have n12 := hAe.cell 12
        simp at n0 n1 n2 n3 n4 n5 n6 n7 n8 n9 n10 n11 n12
        have HRE := Lib.hid hRe
        have hR13 : Blk (wr.setRow (w.heap.size + 1) (factC ⟨a0, nl, c0, vo, j, vc, a1, zl, c1, kk⟩ f)) (w.heap.size + 1) (factC ⟨a0, nl, c0, vo, j, vc, a1, zl, c1, kk⟩ f) 57 := blk_setRow hRe _
        have hG13 : wr.grownBy (wr.setRow (w.heap.size + 1) (factC ⟨a0, nl, c0, vo, j, vc, a1, zl, c1, kk⟩ f)) (some (w.heap.size + 1)) := but_setRow _ _ _
        have HR13 := Lib.hid hR13
        have HG13 := Lib.hid hG13
        clear hR13 hG13 hRe hAe
        go_wp2_with (refine wpList_store_row rfl 57 _ _ rfl (w.heap.size + 1) (factC ⟨a0, nl, c0, vo, j, vc, a1, zl, c1, kk⟩ f) rfl rfl 57 noF HRE.out factSize rfl (factC_all _ _) ?_)
        have hR13 := HR13.out
        have hG13 := HG13.out
        have hi := HI5.out
        have hout := hinv.out.fact HLS.out.1 HV.out.1 HV.out.2.1 HV.out.2.2 HSN.out.1 HSN.out.2 hi hG13
        have hbo := hinv.out.bel.trans (below_of_but hG13 (B := w.heap.size) (by omega) (by have := hinv.out.blkR.lt; omega))
        clear HR13 HG13 HRE
        generalize wr.setRow (w.heap.size + 1) (factC ⟨a0, nl, c0, vo, j, vc, a1, zl, c1, kk⟩ f) = Y at hR13 hG13 hout hbo ⊢
        have HH := Lib.hid (And.intro hR13 (And.intro hout hbo))
        clear hR13 hG13 hout hbo n0 n1 n2 n3 n4 n5 n6 n7 n8 n9 n10 n11 n12
        go_wp2_with fail
        refine bodyPost_ret (v := .agg (factC ⟨a0, nl, c0, vo, j, vc, a1, zl, c1, kk⟩ f)) (fown_results rfl HH.out.1) rfl ?_
        exact ⟨⟨_, rfl, HH.out.2.1⟩, HH.out.2.2⟩
  refine soup_cons rfl rfl (fun a W hR hS hdep K hK => ?_) ?_
  · have e1 : a.tmps[1]?.getD undef = .pointer (some ⟨w.heap.size, 0, none⟩) := slot_of (hS.keep 1 (by kernel_rfl))
    go_simp
    exact hK _ _ (Below.refl _ _) (by first | rfl | simp)
  refine soup_cons rfl rfl (fun a W hR hS hdep K hK => ?_) ?_
  · have e4 : a.tmps[4]?.getD undef = .pointer (some ⟨w.heap.size, 0, none⟩) := slot_of (hdep 0 (by decide +kernel))
    have m0 := cell_keep hR HC0.out
    go_simp
    exact hK _ _ (Below.refl _ _) (by first | rfl | simp)
  refine soup_cons rfl rfl (fun a W hR hS hdep K hK => ?_) ?_
  · have e5 : a.tmps[5]?.getD undef = .slice na nl nc := slot_of (hdep 1 (by decide +kernel))
    go_simp
    have hbx := below_on (B := ((w.alloc (.cells #[.slice na nl nc, .int .i64 f.typ, .int .i64 f.kind, .int .i64 f.rank, .int .i64 f.got, .int .i64 f.ttl, .slice sa sl sc, .slice za zl zc, .slice ba bl bc, .slice ha hl hc, .slice ma ml mc, .slice xa xl xc, .slice ta tl tc] 57)).alloc (.cells noF 57)).heap.size) (Below.drew (Below.refl _ _)) hR (Nat.le_refl _)
    have hsx : w.heap.size + 2 ≤ W.heap.size := Nat.le_trans (Nat.le_of_eq HSZ.out.symm) hbx.size
    refine (clone_strs _ na nl nc _ (HF.out.name.row.below hbx (Nat.le_refl _)) (map_oneCell _ (fun _ => rfl) _) HLN.out).mono ?_
    rintro e W' ⟨⟨a', c', rfl, hr⟩, hb⟩
    exact hK _ _ hb ⟨a', c', rfl, hr.mono hsx⟩
  refine soup_cons rfl rfl (fun a W hR hS hdep K hK => ?_) ?_
  · have e1 : a.tmps[1]?.getD undef = .pointer (some ⟨w.heap.size, 0, none⟩) := slot_of (hS.keep 1 (by kernel_rfl))
    go_simp
    exact hK _ _ (Below.refl _ _) (by first | rfl | simp)
  refine soup_cons rfl rfl (fun a W hR hS hdep K hK => ?_) ?_
  · have e7 : a.tmps[7]?.getD undef = .pointer (some ⟨w.heap.size, 7, none⟩) := slot_of (hdep 3 (by decide +kernel))
    have m0 := cell_keep hR HC7.out
    go_simp
    exact hK _ _ (Below.refl _ _) (by first | rfl | simp)
  refine soup_cons rfl rfl (fun a W hR hS hdep K hK => ?_) ?_
  · have e8 : a.tmps[8]?.getD undef = .slice za zl zc := slot_of (hdep 4 (by decide +kernel))
    go_simp
    have hbx := below_on (B := ((w.alloc (.cells #[.slice na nl nc, .int .i64 f.typ, .int .i64 f.kind, .int .i64 f.rank, .int .i64 f.got, .int .i64 f.ttl, .slice sa sl sc, .slice za zl zc, .slice ba bl bc, .slice ha hl hc, .slice ma ml mc, .slice xa xl xc, .slice ta tl tc] 57)).alloc (.cells noF 57)).heap.size) (Below.drew (Below.refl _ _)) hR (Nat.le_refl _)
    have hsx : w.heap.size + 2 ≤ W.heap.size := Nat.le_trans (Nat.le_of_eq HSZ.out.symm) hbx.size
    refine (clone_strs _ za zl zc _ (HF.out.zone.row.below hbx (Nat.le_refl _)) (map_oneCell _ (fun _ => rfl) _) HLZ.out).mono ?_
    rintro e W' ⟨⟨a', c', rfl, hr⟩, hb⟩
    exact hK _ _ hb ⟨a', c', rfl, hr.mono hsx⟩
  refine soup_cons rfl rfl (fun a W hR hS hdep K hK => ?_) ?_
  · have e1 : a.tmps[1]?.getD undef = .pointer (some ⟨w.heap.size, 0, none⟩) := slot_of (hS.keep 1 (by kernel_rfl))
    go_simp
    exact hK _ _ (Below.refl _ _) (by first | rfl | simp)
  refine soup_cons rfl rfl (fun a W hR hS hdep K hK => ?_) ?_
  · have e10 : a.tmps[10]?.getD undef = .pointer (some ⟨w.heap.size, 8, none⟩) := slot_of (hdep 6 (by decide +kernel))
    have m0 := cell_keep hR HC8.out
    have m1 := cell_keep hR HC9.out
    have m2 := cell_keep hR HC10.out
    have m3 := cell_keep hR HC11.out
    have m4 := cell_keep hR HC12.out
    go_simp
    exact hK _ _ (Below.refl _ _) (by first | rfl | simp)
  refine soup_cons rfl rfl (fun a W hR hS hdep K hK => ?_) ?_
  · have e11 : a.tmps[11]?.getD undef = .agg #[.slice ba bl bc, .slice ha hl hc, .slice ma ml mc, .slice xa xl xc, .slice ta tl tc] := slot_of (hdep 7 (by decide +kernel))
    go_simp
    have hbx := below_on (B := ((w.alloc (.cells #[.slice na nl nc, .int .i64 f.typ, .int .i64 f.kind, .int .i64 f.rank, .int .i64 f.got, .int .i64 f.ttl, .slice sa sl sc, .slice za zl zc, .slice ba bl bc, .slice ha hl hc, .slice ma ml mc, .slice xa xl xc, .slice ta tl tc] 57)).alloc (.cells noF 57)).heap.size) (Below.drew (Below.refl _ _)) hR (Nat.le_refl _)
    have hsx : w.heap.size + 2 ≤ W.heap.size := Nat.le_trans (Nat.le_of_eq HSZ.out.symm) hbx.size
    refine (rrown_any _ _ f.soa (HF.out.soa.on hbx) HSD.out).mono ?_
    rintro e W' ⟨⟨k, rfl, hk, _⟩, hb⟩
    exact hK _ _ hb ⟨k, rfl, hk.mono hsx⟩
  refine soup_cons rfl rfl (fun a W hR hS hdep K hK => ?_) ?_
  · have e1 : a.tmps[1]?.getD undef = .pointer (some ⟨w.heap.size, 0, none⟩) := slot_of (hS.keep 1 (by kernel_rfl))
    go_simp
    exact hK _ _ (Below.refl _ _) (by first | rfl | simp)
  exact fun j h1 h2 => absurd h1 (by omega)
end
section
open Go.ChangeShapes Go.WideShapes Go.ChangeAt Go.RowKit
def offAt : Nat → Nat
  | 0 => 0
  | 1 => 1
  | 2 => 5
  | 3 => 12
  | 4 => 13
  | 5 => 14
  | _ => 16
theorem offAt_step {t : Nat} (h : t < 6) : offAt (t + 1) = offAt t + sizeAt t ∧ offAt t + sizeAt t ≤ 16 := by
  match t, h with
  | 0, _ | 1, _ | 2, _ | 3, _ | 4, _ | 5, _ => decide
/-- the numbers of a sector's head -/
def numOf (b : List UInt8) (t : Nat) : Int := (beN ((b.drop (offAt t)).take (sizeAt t)) : Int)
def openH (b : List UInt8) : HeadP := ⟨numOf b 0, numOf b 1, numOf b 2, numOf b 3, numOf b 4⟩
def openD (b : List UInt8) : List UInt8 := (b.drop 16).take (numOf b 5).toNat
/-- the error of Open -/
def openE (b : List UInt8) : Int := if b.length ≠ 512 then 3 else if 496 < numOf b 5 then 14 else if sealE (openH b) (openD b) ≠ 0 ∨ sealB (openH b) (openD b) ≠ b then 14 else 0
def zeroH : HeadP := ⟨0, 0, 0, 0, 0⟩
def arrAt (b : List UInt8) (t : Nat) : Array Value := #[.int .i64 (if 0 < t then numOf b 0 else 0), .int .i64 (if 1 < t then numOf b 1 else 0), .int .i64 (if 2 < t then numOf b 2 else 0), .int .i64 (if 3 < t then numOf b 3 else 0), .int .i64 (if 4 < t then numOf b 4 else 0), .int .i64 (if 5 < t then numOf b 5 else 0)]
theorem arr_set (b : List UInt8) {t : Nat} (h : t < 6) : (arrAt b t).setIfInBounds t (.int .i64 (numOf b t)) = arrAt b (t + 1) := by
  match t, h with
  | 0, _ | 1, _ | 2, _ | 3, _ | 4, _ | 5, _ => simp [arrAt]
theorem arr_get (b : List UInt8) {t : Nat} (h : t < 6) : (arrAt b t)[t]? = some (.int .i64 0) := by
  match t, h with
  | 0, _ | 1, _ | 2, _ | 3, _ | 4, _ | 5, _ => simp [arrAt]
structure OpenRes (w : World) (b : List UInt8) (e : Ending) (w' : World) : Prop where
  ok : openE b = 0 → ∃ ao c, e = .returned (.tuple #[.agg (headC (openH b)), .slice ao (openD b).length c, .int .i64 0]) ∧ Own1 [5] w.heap.size w' ao (openD b).length c ((openD b).map u8V)
  bad : openE b ≠ 0 → e = .returned (.tuple #[.agg (headC zeroH), .slice none 0 0, .int .i64 (openE b)])
  bel : Below w.heap.size w w'
theorem open_fail {w w' : World} {b : List UInt8} {k : Int} {e : Ending} (hE : openE b = k) (hk : k ≠ 0) (he : e = .returned (.tuple #[.agg (headC zeroH), .slice none 0 0, .int .i64 k])) (hb : Below w.heap.size w w') : OpenRes w b e w' :=
  ⟨fun e0 => absurd (hE.symm.trans e0) hk, fun _ => by rw [hE]; exact he, hb⟩
theorem headSize : (Tryz.prog.info? 90).map (·.size) = some 5 := by kernel_rfl
theorem headC_all (h : HeadP) : (headC h).all (·.oneCell') = true := by simp [headC, Value.oneCell']
theorem open_out {w W : World} {h : HeadP} (hB : Blk W w.heap.size (headC h) 90) (hb : Below w.heap.size w W) (H : HeadP) : Blk (W.setRow w.heap.size (headC H)) w.heap.size (headC H) 90 ∧ Below w.heap.size w (W.setRow w.heap.size (headC H)) :=
  ⟨blk_setRow hB (headC H), hb.trans (below_of_but (but_setRow W w.heap.size (headC H)) (Nat.le_refl _) hb.size)⟩
/-- a part of a row -/
theorem Row.part {w : World} {b off len cap : Nat} {vs : List Value} (h : Row w (some ⟨b, off, none⟩) len cap vs) {lo m : Nat} (hm : lo + m ≤ len) : Row w (some ⟨b, off + lo, none⟩) m (cap - lo) ((vs.drop lo).take m) := by
  have hl := h.hlen
  have hle := h.hle
  refine ⟨by simp; omega, by omega, by have := h.hcap; omega, by have := h.hmax; omega, fun e => (by cases e), fun h0 => ⟨b, off + lo, rfl, fun i hi => ?_⟩⟩
  have hi' : i < m := by simp at hi; omega
  have := h.at (i := lo + i) (by omega)
  rw [show off + lo + i = off + (lo + i) from by omega, this]
  simp
theorem sopen_results {tmps : Array Value} {w : World} {R : Nat} {h : HeadP} {v : Value} {k : Int} (h2 : tmps[2]? = some (.pointer (some ⟨R, 0, none⟩))) (h3 : tmps[3]? = some v) (h4 : tmps[4]? = some (.int .i64 k)) (hB : Blk w R (headC h) 90) :
    (results Tryz.f61 tmps).run Tryz.prog w = .ok (.tuple #[.agg (headC h), v, .int .i64 k]) w := by
  have c0 := hB.cell 0
  have c1 := hB.cell 1
  have c2 := hB.cell 2
  have c3 := hB.cell 3
  have c4 := hB.cell 4
  simp [headC] at c0 c1 c2 c3 c4
  simp [results, go_sem, h2, h3, h4, c0, c1, c2, c3, c4, headC]
set_option maxHeartbeats 16000000 in
set_option maxRecDepth 100000 in
theorem sopen_any (w : World) (bo : Option Addr) (bl bc : Nat) (b : List UInt8) (hb : Byts w bo bl bc b) :
    Calls Tryz.prog 61 #[.slice bo bl bc] w fun e w' => OpenRes w b e w' := by
  have hlen := hb.hlen
  rw [List.length_map] at hlen
  have hle := hb.hle
  have hcap := hb.hcap
  have HL := Lib.hid (And.intro hb hlen)
  have hz : Blk (w.alloc (.cells (headC zeroH) 90)) w.heap.size (headC zeroH) 90 := heap_alloc_new w _
  by_cases h512 : bl = 512
  · subst h512
    have HB := Lib.hid hlen
    clear hlen hb
    have hz2 : Blk ((w.alloc (.cells (headC zeroH) 90)).alloc (.cells (arrAt b 0) 147)) w.heap.size (headC zeroH) 90 := hz.on ((Below.refl _ _).alloc (Nat.le_refl _) _)
    have hA : Blk ((w.alloc (.cells (headC zeroH) 90)).alloc (.cells (arrAt b 0) 147)) (w.heap.size + 1) (arrAt b 0) 147 := by
      have := heap_alloc_new (w.alloc (.cells (headC zeroH) 90)) (.cells (arrAt b 0) 147)
      simpa [Blk] using this
    have hb2 : Below w.heap.size w ((w.alloc (.cells (headC zeroH) 90)).alloc (.cells (arrAt b 0) 147)) := ((Below.refl _ _).alloc (Nat.le_refl _) _).alloc (by simp) _
    have HST := Lib.hid (And.intro hb2 (And.intro hz2 hA))
    clear hz hz2 hA hb2
    go_enter Tryz.func61, Tryz.ntmps61
    go_wp2_with fail
    (try change Calls _ _ _ ((w.alloc (.cells (headC zeroH) 90)).alloc (.cells (arrAt b 0) 147)) _)
    refine (sizes_any _).mono ?_
    rintro e W0 ⟨⟨g, rfl, hg, hgB⟩, hb0⟩
    have HG := Lib.hid (And.intro hg hgB)
    have HS0 := Lib.hid (And.intro (below_on HST.out.1 hb0 (Nat.le_refl _)) (And.intro (HST.out.2.1.on hb0) (HST.out.2.2.on hb0)))
    have HB0 := Lib.hid hb0
    have hgn : w.heap.size + 2 ≤ g := by have := hgB; simp at this; omega
    clear hg hgB hb0
    go_wp2_with fail
    go_loopw [6, 16] (fun pos i wr => ∃ t : Nat, t ≤ 6 ∧ i = .int .i64 t ∧ pos = .int .i64 (offAt t : Int) ∧ Hid (Below w.heap.size w wr ∧ Blk wr w.heap.size (headC zeroH) 90 ∧ Blk wr (w.heap.size + 1) (arrAt b t) 147 ∧ ∀ s, s < 6 → wr.cell? ⟨g, s, none⟩ = some (.int .i64 (sizeAt s : Int)))) (fun _ i _ => 6 - (intOf i).toNat)
    case atStart => exact ⟨0, Nat.zero_le _, rfl, rfl, Lib.hid ⟨HS0.out.1, HS0.out.2.1, HS0.out.2.2, HG.out.1⟩⟩
    case round =>
      obtain ⟨t, ht, rfl, rfl, hinv⟩ := hrel
      by_cases hlt : t < 6
      · obtain ⟨zt, hzt⟩ : ∃ zt, zt = sizeAt t := ⟨_, rfl⟩
        obtain ⟨po, hpo⟩ : ∃ po, po = offAt t := ⟨_, rfl⟩
        obtain ⟨nt, hnt⟩ : ∃ nt, nt = numOf b t := ⟨_, rfl⟩
        have hz := sizeAt_ok t
        have hst := offAt_step hlt
        rw [← hzt] at hz hst
        rw [← hpo] at hst ⊢
        have c0 : wr.cell? ⟨g, t, none⟩ = some (.int .i64 (zt : Int)) := by rw [hzt]; exact hinv.out.2.2.2 t hlt
        have a0 : wr.cell? ⟨w.heap.size + 1, t, none⟩ = some (.int .i64 0) := by rw [hinv.out.2.2.1.cell t]; exact arr_get b hlt
        have f0 := hinv.out.2.2.1.free t
        have hg0 := getk_any wr bo 512 bc b (HL.out.1.below hinv.out.1 (Nat.le_refl _)) po zt (by omega) hz.1 hz.2
        have hgp : getP b po zt = (nt, 0) := by
          rw [getP, if_pos (by have := HB.out; omega), hnt, numOf, ← hpo, ← hzt]
        rw [hgp] at hg0
        have HGT := Lib.hid hg0
        have HI := Lib.hid hinv.out
        have HQ := Lib.hid (And.intro hzt (And.intro hpo (And.intro hnt hst)))
        have hpo16 : po + zt ≤ 16 := hst.2
        clear hinv hzt hpo hnt hz hst hg0 hgp
        go_wp2_with (go_at_call 83; refine HGT.out.mono ?_; rintro e W ⟨rfl, rfl⟩)
        go_roundw
        case rel =>
          have hgr : W.grownBy (W.setCell ⟨w.heap.size + 1, t, none⟩ (.int .i64 nt)) (some (w.heap.size + 1)) := but_set _ _ _ _
          have hset := HI.out.2.2.1.set t (.int .i64 nt)
          rw [HQ.out.2.2.1, arr_set b hlt, ← HQ.out.2.2.1] at hset
          refine ⟨t + 1, by omega, by go_num, congrArg (Value.int .i64) (by rw [HQ.out.2.2.2.1]; push_cast; rfl), Lib.hid ⟨HI.out.1.trans (below_of_but hgr (by omega) (by have := HI.out.1.size; omega)), HI.out.2.1.but hgr (by omega), hset, fun s hs => ?_⟩⟩
          rw [← HI.out.2.2.2 s hs]
          simp only [World.cell?]
          rw [hgr.block g ?_ (by intro e; have := Option.some.inj e; omega)]
          have := World.block_lt_of_cell? W _ (HI.out.2.2.2 s hs)
          simpa using this
        case measure => simp [intOf]; omega
      · obtain rfl : t = 6 := by omega
        have HI := Lib.hid hinv.out
        obtain ⟨m, hm⟩ : ∃ m : Nat, numOf b 5 = (m : Int) := ⟨_, rfl⟩
        have a5 : wr.cell? ⟨w.heap.size + 1, 5, none⟩ = some (.int .i64 (m : Int)) := by rw [hinv.out.2.2.1.cell 5, ← hm]; simp [arrAt]
        have HM := Lib.hid hm
        clear hm hinv
        by_cases hbig : 496 < m
        · have HE := Lib.hid (show openE b = 14 by rw [openE, if_neg (by have := HB.out; omega), if_pos (by have := HM.out; omega)])
          have hz := HI.out.2.1
          have HZ := Lib.hid hz
          have HZ2 := Lib.hid (And.intro (blk_setRow hz (headC zeroH)) (HI.out.1.trans (below_of_but (but_setRow wr w.heap.size (headC zeroH)) (Nat.le_refl _) HI.out.1.size)))
          clear hz
          go_wp2_with (refine wpList_store_row rfl 90 _ _ rfl w.heap.size (headC zeroH) rfl rfl 90 (headC zeroH) HZ.out headSize rfl (headC_all _) ?_)
          exact bodyPost_ret (v := .tuple #[.agg (headC zeroH), .slice none 0 0, .int .i64 14]) (sopen_results rfl rfl rfl HZ2.out.1) rfl (open_fail HE.out (by decide) rfl HZ2.out.2)
        · obtain ⟨bb, off, rfl⟩ := HL.out.1.addr (k := 0) (by omega)
          have a0 : wr.cell? ⟨w.heap.size + 1, 0, none⟩ = some (.int .i64 (openH b).kind) := by rw [HI.out.2.2.1.cell 0]; simp [arrAt, openH]
          have a1 : wr.cell? ⟨w.heap.size + 1, 1, none⟩ = some (.int .i64 (openH b).epoch) := by rw [HI.out.2.2.1.cell 1]; simp [arrAt, openH]
          have a2 : wr.cell? ⟨w.heap.size + 1, 2, none⟩ = some (.int .i64 (openH b).seq) := by rw [HI.out.2.2.1.cell 2]; simp [arrAt, openH]
          have a3 : wr.cell? ⟨w.heap.size + 1, 3, none⟩ = some (.int .i64 (openH b).part) := by rw [HI.out.2.2.1.cell 3]; simp [arrAt, openH]
          have a4 : wr.cell? ⟨w.heap.size + 1, 4, none⟩ = some (.int .i64 (openH b).parts) := by rw [HI.out.2.2.1.cell 4]; simp [arrAt, openH]
          obtain ⟨H, hH⟩ : ∃ H, H = openH b := ⟨_, rfl⟩
          rw [← hH] at a0 a1 a2 a3 a4
          have HH := Lib.hid hH
          clear hH
          have hz := HI.out.2.1
          have HZ := Lib.hid hz
          have hgr := but_setRow wr w.heap.size (headC H)
          have hnew : Blk (wr.setRow w.heap.size (headC H)) w.heap.size (headC H) 90 := blk_setRow hz (headC H)
          have hbn : Below w.heap.size w (wr.setRow w.heap.size (headC H)) := HI.out.1.trans (below_of_but hgr (Nat.le_refl _) HI.out.1.size)
          have ha5 : (wr.setRow w.heap.size (headC H)).cell? ⟨w.heap.size + 1, 5, none⟩ = some (.int .i64 (m : Int)) := by
            rw [(HI.out.2.2.1.but hgr (by omega)).cell 5, ← HM.out]; simp [arrAt]
          have hpart := (HL.out.1.below hbn (Nat.le_refl _)).part (lo := 16) (m := m) (by omega)
          have hvs : ((b.map fun c => Value.int .u8 (c.toNat : Int)).drop 16).take m = (openD b).map u8V := by
            rw [openD, HM.out, Int.toNat_natCast, List.map_take, List.map_drop]; rfl
          rw [hvs] at hpart
          have HCL := Lib.hid (bclone_any (wr.setRow w.heap.size (headC H)) _ m (bc - 16) _ hpart (u8_one _) (by omega))
          have HNW := Lib.hid (And.intro hnew hbn)
          have HDL := Lib.hid (show (openD b).length = m by rw [openD, HM.out, Int.toNat_natCast, List.length_take, List.length_drop, HB.out]; omega)
          have hcp : ¬ bc = 16 := by omega
          clear hz hgr hnew hbn hpart hvs
          go_wp2_with (refine wpList_store_row rfl 90 _ _ rfl w.heap.size (headC H) rfl rfl 90 (headC zeroH) HZ.out headSize rfl (headC_all _) ?_)
          clear a0 a1 a2 a3 a4 a5 ha5
          refine HCL.out.mono ?_
          rintro e W1 ⟨⟨da, dc, rfl, hd⟩, hb1⟩
          have hB1 := HNW.out.1.on hb1
          have hbw1 := below_on HNW.out.2 hb1 (Nat.le_refl _)
          have c0 := hB1.cell 0
          have c1 := hB1.cell 1
          have c2 := hB1.cell 2
          have c3 := hB1.cell 3
          have c4 := hB1.cell 4
          simp only [headC] at c0 c1 c2 c3 c4
          have HD := Lib.hid (And.intro hd (And.intro hB1 hbw1))
          have hsl := seal_any W1 H da m dc (openD b) hd.row (by omega)
          simp only [headC] at hsl
          have HSL := Lib.hid hsl
          clear hd hb1 hB1 hbw1 hsl HCL
          go_wp2_with fail
          refine HSL.out.mono ?_
          rintro e W2 hres
          have hB2 := HD.out.2.1.on hres.bel
          have hw2 := below_on HD.out.2.2 hres.bel (Nat.le_refl _)
          have hd2 := HD.out.1.on hres.bel
          have hlt2 : w.heap.size < (wr.setRow w.heap.size (headC H)).heap.size := HNW.out.1.lt
          have HW2 := Lib.hid (And.intro hB2 (And.intro hw2 (And.intro hd2 hlt2)))
          have q0 := hB2.cell 0
          have q1 := hB2.cell 1
          have q2 := hB2.cell 2
          have q3 := hB2.cell 3
          have q4 := hB2.cell 4
          simp only [headC] at q0 q1 q2 q3 q4
          have hEt := HH.out
          have h512 : openE b = if sealE H (openD b) ≠ 0 ∨ sealB H (openD b) ≠ b then 14 else 0 := by
            rw [openE, if_neg (by have := HB.out; omega), if_neg (by have := HM.out; omega), ← hEt]
          have H512 := Lib.hid h512
          have HRS := Lib.hid hres
          clear hB2 hw2 hd2 hlt2 hEt h512 hres c0 c1 c2 c3 c4 HSL
          have HOUT := Lib.hid (open_out HW2.out.1 HW2.out.2.1)
          by_cases hse : sealE H (openD b) = 0
          · obtain ⟨v, he, hown⟩ := HRS.out.ok hse
            obtain ⟨sa, sc, hv, hrow⟩ := row_of_owns hown (by omega)
            subst hv
            subst he
            have HEQ := Lib.hid (bequal_any W2 sa 512 sc (sealB H (openD b)) hrow (some ⟨bb, off, none⟩) 512 bc b (HL.out.1.below HW2.out.2.1 (Nat.le_refl _)))
            clear hown hrow
            by_cases hsame : sealB H (openD b) = b
            · have HE := Lib.hid (show openE b = 0 by rw [H512.out, if_neg (by rw [hse, hsame]; simp)])
              have hdec : decide (sealB H (openD b) = b) = true := by simpa using hsame
              rw [hdec] at HEQ
              clear hse hsame hdec
              go_wp2_with (first | (go_at_call 40; refine HEQ.out.mono ?_; rintro e W3 ⟨rfl, rfl⟩) | (refine wpList_store_row rfl 90 _ _ rfl w.heap.size (headC H) rfl rfl 90 (headC H) HW2.out.1 headSize rfl (headC_all _) ?_))
              have HO := HOUT.out H
              refine bodyPost_ret (v := .tuple #[.agg (headC H), .slice da m dc, .int .i64 0]) (sopen_results rfl rfl rfl HO.1) rfl ⟨fun _ => ?_, fun e => absurd HE.out e, HO.2⟩
              refine ⟨da, dc, by rw [HH.out, HDL.out], ?_⟩
              rw [HDL.out]
              exact (HW2.out.2.2.1.step (Same.grown (but_setRow W3 _ _) (fun k hk e => by have := Option.some.inj e; have := hk.2; have := HW2.out.2.2.2; omega))).mono (by have := HW2.out.2.2.2; omega)
            · have HE := Lib.hid (show openE b = 14 by rw [H512.out, if_pos (.inr hsame)])
              have hdec : decide (sealB H (openD b) = b) = false := by simpa using hsame
              rw [hdec] at HEQ
              clear hse hsame hdec
              go_wp2_with (first | (go_at_call 40; refine HEQ.out.mono ?_; rintro e W3 ⟨rfl, rfl⟩) | (refine wpList_store_row rfl 90 _ _ rfl w.heap.size (headC zeroH) rfl rfl 90 (headC H) HW2.out.1 headSize rfl (headC_all _) ?_))
              have HO := HOUT.out zeroH
              exact bodyPost_ret (v := .tuple #[.agg (headC zeroH), .slice none 0 0, .int .i64 14]) (sopen_results rfl rfl rfl HO.1) rfl (open_fail HE.out (by decide) rfl HO.2)
          · have HE := Lib.hid (show openE b = 14 by rw [H512.out, if_pos (.inl hse)])
            have he := HRS.out.bad hse
            obtain ⟨k, hk⟩ : ∃ k, k = sealE H (openD b) := ⟨_, rfl⟩
            rw [← hk] at he hse
            have hkb : (k != 0) = true := by simpa using hse
            subst he
            clear hk hse
            go_wp2_with (refine wpList_store_row rfl 90 _ _ rfl w.heap.size (headC zeroH) rfl rfl 90 (headC H) HW2.out.1 headSize rfl (headC_all _) ?_)
            have HO := HOUT.out zeroH
            exact bodyPost_ret (v := .tuple #[.agg (headC zeroH), .slice none 0 0, .int .i64 14]) (sopen_results rfl rfl rfl HO.1) rfl (open_fail HE.out (by decide) rfl HO.2)
  · have HE := Lib.hid (show openE b = 3 by rw [openE, if_pos (by omega)])
    have hne : ((bl : Int) != 512) = true := by simp; omega
    have HZ := Lib.hid hz
    clear hb hlen hz
    go_enter Tryz.func61, Tryz.ntmps61
    go_wp2_with fail
    exact bodyPost_ret (v := .tuple #[.agg (headC zeroH), .slice none 0 0, .int .i64 3]) (sopen_results rfl rfl rfl HZ.out) rfl (open_fail HE.out (by decide) rfl ((Below.refl _ _).alloc (Nat.le_refl _) _))
end
section
open Go.ChangeShapes Go.WideShapes Go.ChangeAt Go.RowKit
open Go.ChangeMaps Go.MapKept
open Go.Maps (Keyed)
/-- how an item's pointer reads: as the number of its block -/
def ptrR (v : Value) : Option (DataW Unit × List MemPlace) :=
  match v with
  | .pointer (some ⟨b, 0, none⟩) => some (.lit (.int .i64 b), [])
  | .pointer none => some (.nil, [])
  | _ => none
theorem ptrR_inv {v : Value} {b : Nat} {ps : List MemPlace} (h : ptrR v = some (.lit (.int .i64 b), ps)) : v = .pointer (some ⟨b, 0, none⟩) := by
  unfold ptrR at h
  split at h
  · rename_i b'
    simp at h
    obtain rfl : b' = b := by have := h.1; omega
    rfl
  · simp at h
  · cases h
theorem ptrR_nil {v : Value} {ps : List MemPlace} (h : ptrR v = some (.nil, ps)) : v = .pointer none := by
  unfold ptrR at h
  split at h
  · simp at h
  · rfl
  · cases h
structure Slot where
  b : Nat
  h : FactH
  f : FactP
  used : Nat
def itemC (s : Slot) : Array Value := #[.slice s.h.na s.h.nl s.h.nc, .int .i64 s.f.typ, .int .i64 s.f.kind, .int .i64 s.f.rank, .int .i64 s.f.got, .int .i64 s.f.ttl, .slice s.h.sa s.h.sl s.h.sc, .slice s.h.za s.h.zl s.h.zc,
  .slice s.h.d.ba s.h.d.bl s.h.d.bc, .slice s.h.d.ha s.h.d.hl s.h.d.hc, .slice s.h.d.ma s.h.d.ml s.h.d.mc, .slice s.h.d.na s.h.d.nl s.h.d.nc, .slice s.h.d.ta s.h.d.tl s.h.d.tc, .int .i64 s.used]
def atL (L : List Slot) (key : List UInt8) : Option Slot := L.find? fun s => decide (keyF s.f = key)
abbrev lawK : Keyed Tryz.prog 9 := Maps.string_keyed Tryz.underlying9
/-- the map in block M reads as the list -/
def MapL (w : World) (M : Nat) (L : List Slot) : Prop :=
  ∃ n D, w.ownsMap Tryz.prog 9 ptrR M n D ∧ n ≤ 1000000 ∧ Maps.size D = L.length ∧ ∀ key z, D.atKey (.string key) z = (match atL L key with | some s => .lit (.int .i64 s.b) | none => z)
/-- blocks that a cache leaves alone, by their types -/
def gT : List TypeId := [5, 9, 3, 55, 57, 40, 108, 71, 80, 88, 48, 49, 52, 4, 159, 59, 95, 24, 77, 35, 2, 53, 180]
structure IsCache (B : Nat) (w : World) (C : Nat) (most stale : Int) (clock : Nat) (L : List Slot) : Prop where
  ex : ∃ M, Blk w C #[.int .i64 most, .int .i64 stale, .map (some M), .int .i64 clock] 75 ∧ B ≤ M ∧ MapL w M L
  base : B ≤ C
  slot : ∀ s ∈ L, B ≤ s.b ∧ Blk w s.b (itemC s) 134 ∧ IsFact (tagged fT w) w s.h s.f ∧ factB s.f = true ∧ FLen s.f
  apart : L.Pairwise fun a b => a.b ≠ b.b
  keys : L.Pairwise fun a b => keyF a.f ≠ keyF b.f
  used : ∀ s ∈ L, s.used ≤ clock
  order : L.Pairwise fun a b => a.used < b.used
theorem MapL.on {w w' : World} {M : Nat} {L : List Slot} (h : MapL w M L) (hb : w'.heap[M]? = w.heap[M]?) : MapL w' M L := by
  obtain ⟨n, D, ⟨es, clock, h1, h2⟩, r⟩ := h
  exact ⟨n, D, ⟨es, clock, hb.trans h1, h2⟩, r⟩
theorem MapL.lt {w : World} {M : Nat} {L : List Slot} (h : MapL w M L) : M < w.heap.size := by
  obtain ⟨n, D, h1, _⟩ := h
  exact h1.lt
theorem IsCache.on {B : Nat} {w w' : World} {C : Nat} {most stale : Int} {clock : Nat} {L : List Slot} (h : IsCache B w C most stale clock L) (hb : Below w.heap.size w w') : IsCache B w' C most stale clock L := by
  obtain ⟨M, h1, h2, h3⟩ := h.ex
  exact ⟨⟨M, h1.on hb, h2, h3.on (hb.block M h3.lt)⟩, h.base, fun s hs => by
    obtain ⟨a, b, c, d⟩ := h.slot s hs
    exact ⟨a, b.on hb, c.step (Same.below hb _), d⟩, h.apart, h.keys, h.used, h.order⟩
theorem zeroPtr (w : World) : (zeroValue 131).run Tryz.prog w = .ok (.pointer none) w := by kernel_rfl
theorem keyStr {key : List UInt8} (h : key.length ≤ 4611686018427387904) : keyOf Tryz.prog 9 (.string ⟨key.toArray⟩) = some (.string key) := by
  have := Go.WideMaps.keyOf_string_mk (P := Tryz.prog) Tryz.underlying9 (s := ⟨key.toArray⟩) (by unfold maxLen; show key.toArray.size ≤ _; simp; omega)
  simpa using this
/-- 'm[k]' -/
theorem MapL.look {w : World} {M : Nat} {L : List Slot} (h : MapL w M L) {key : List UInt8} (hk : key.length ≤ 4611686018427387904) :
    (Instr.lookup 73 (.map (some M)) (.string ⟨key.toArray⟩) false).run Tryz.prog w = .ok (match atL L key with | some s => .pointer (some ⟨s.b, 0, none⟩) | none => .pointer none) w := by
  obtain ⟨n, D, h1, _, _, h4⟩ := h
  obtain ⟨v, ps, hrun, hv⟩ := h1.lookup lawK Tryz.underlying73 (zeroPtr w) (zd := .nil) (zp := []) rfl (keyStr hk)
  rw [hrun]
  rw [h4] at hv
  cases hat : atL L key with
  | none => rw [hat] at hv; rw [ptrR_nil hv]
  | some s => rw [hat] at hv; rw [ptrR_inv hv]
/-- 'v, ok := m[k]' -/
theorem MapL.look_ok {w : World} {M : Nat} {L : List Slot} (h : MapL w M L) {key : List UInt8} (hk : key.length ≤ 4611686018427387904) :
    (Instr.lookup 73 (.map (some M)) (.string ⟨key.toArray⟩) true).run Tryz.prog w = .ok (match atL L key with | some s => .tuple #[.pointer (some ⟨s.b, 0, none⟩), .bool true] | none => .tuple #[.pointer none, .bool false]) w := by
  obtain ⟨n, D, h1, _, _, h4⟩ := h
  obtain ⟨v, ps, hrun, hv⟩ := h1.look_ok lawK Tryz.underlying73 (zeroPtr w) (zd := .nil) (zp := []) rfl (keyStr hk)
  rw [hrun]
  have h5 := h4 key
  rw [h4] at hv
  cases hat : atL L key with
  | none =>
    rw [hat] at hv h5
    rw [ptrR_nil hv, Maps.has_false_of_atKey h5]
  | some s =>
    rw [hat] at hv h5
    rw [ptrR_inv hv, Maps.has_true_of_atKey h5]
/-- 'len(m)' -/
theorem MapL.len {w : World} {M : Nat} {L : List Slot} (h : MapL w M L) (ty : TypeId) : (Builtin.len_ #[73] ty #[.map (some M)]).run Tryz.prog w = .ok (.int .i64 L.length) w := by
  obtain ⟨n, D, h1, _, h3, _⟩ := h
  rw [h1.len Tryz.underlying73 ty, h3]
theorem atL_mem {L : List Slot} {key : List UInt8} {s : Slot} (h : atL L key = some s) : s ∈ L ∧ keyF s.f = key := by
  refine ⟨List.mem_of_find?_eq_some h, ?_⟩
  have := List.find?_some h
  simpa using this
theorem atL_none {L : List Slot} {key : List UInt8} (h : atL L key = none) : ∀ s ∈ L, keyF s.f ≠ key := fun s hs e => by
  have := List.find?_eq_none.1 h s hs
  simp [e] at this
/-- all but the one at a key -/
def offL (L : List Slot) (key : List UInt8) : List Slot := L.filter fun s => decide (keyF s.f ≠ key)
theorem atL_off (L : List Slot) (key k : List UInt8) : atL (offL L key) k = if k = key then none else atL L k := by
  induction L with
  | nil => simp [offL, atL]
  | cons s L ih =>
    simp only [offL, atL] at ih ⊢
    by_cases h1 : keyF s.f = key
    · rw [List.filter_cons_of_neg (by simp [h1])]
      by_cases h2 : k = key
      · rw [ih, if_pos h2, if_pos h2]
      · rw [ih, if_neg h2, if_neg h2, List.find?_cons_of_neg (by simp [h1]; exact fun e => h2 e.symm)]
    · rw [List.filter_cons_of_pos (by simp [h1])]
      by_cases h3 : keyF s.f = k
      · rw [List.find?_cons_of_pos (by simp [h3]), List.find?_cons_of_pos (by simp [h3]), if_neg (by rw [← h3]; exact h1)]
      · rw [List.find?_cons_of_neg (by simp [h3]), List.find?_cons_of_neg (by simp [h3]), ih]
theorem atL_snoc (L : List Slot) (s : Slot) (k : List UInt8) : atL (L ++ [s]) k = (match atL L k with | some x => some x | none => if keyF s.f = k then some s else none) := by
  simp only [atL, List.find?_append]
  cases h : List.find? (fun s => decide (keyF s.f = k)) L with
  | some x => simp
  | none =>
    by_cases h2 : keyF s.f = k <;> simp [h2]
theorem off_none {L : List Slot} {key : List UInt8} (h : atL L key = none) : offL L key = L := by
  rw [offL, List.filter_eq_self]
  intro s hs
  simp [atL_none h s hs]
theorem off_len {L : List Slot} {key : List UInt8} {s : Slot} (hk : L.Pairwise fun a b => keyF a.f ≠ keyF b.f) (h : atL L key = some s) : (offL L key).length + 1 = L.length := by
  induction L with
  | nil => cases h
  | cons x L ih =>
    obtain ⟨h1, h2⟩ := List.pairwise_cons.1 hk
    by_cases hx : keyF x.f = key
    · have hn : atL L key = none := List.find?_eq_none.2 fun y hy => by simp; exact fun e => h1 y hy (hx.trans e.symm)
      have := off_none hn
      simp only [offL] at this ⊢
      rw [List.filter_cons_of_neg (by simp [hx]), this, List.length_cons]
    · have h3 : atL L key = some s := by
        simp only [atL] at h ⊢
        rwa [List.find?_cons_of_neg (by simp [hx])] at h
      have := ih h2 h3
      simp only [offL] at this ⊢
      rw [List.filter_cons_of_pos (by simp [hx]), List.length_cons, List.length_cons, this]
/-- 'm[k] = p' -/
theorem MapL.store {w : World} {M : Nat} {L : List Slot} (h : MapL w M L) (hk : L.Pairwise fun a b => keyF a.f ≠ keyF b.f) (hL : L.length < 100000) (s : Slot) (hs : (keyF s.f).length ≤ 4611686018427387904) :
    ∃ w', (Instr.mapUpdate 73 (.map (some M)) (.string ⟨(keyF s.f).toArray⟩) (.pointer (some ⟨s.b, 0, none⟩))).run Tryz.prog w = .ok () w' ∧ MapL w' M (offL L (keyF s.f) ++ [s]) ∧ w.grownBy w' (some M) ∧ w'.heap.size = w.heap.size := by
  obtain ⟨n, D, h1, h2, h3, h4⟩ := h
  have hsz : w.ownsMap Tryz.prog 9 ptrR M L.length D := by
    obtain ⟨es, clock, hb, F, _, hD⟩ := h1
    refine ⟨es, clock, hb, F, ?_, hD⟩
    rw [hD] at h3
    simp [Maps.size, length_sorted] at h3
    omega
  obtain ⟨w', hrun, hown, hturn⟩ := hsz.store lawK Tryz.underlying73 (by unfold maxLen; omega) (keyStr hs) (val := .pointer (some ⟨s.b, 0, none⟩)) (d := .lit (.int .i64 s.b)) (ps := []) rfl
  have hg := hturn.grown
  have hat : ∀ key z, (D.put (.string (keyF s.f)) (.lit (.int .i64 s.b))).atKey (.string key) z = (match atL (offL L (keyF s.f) ++ [s]) key with | some s => .lit (.int .i64 s.b) | none => z) := by
    intro key z
    rw [atL_snoc, atL_off]
    by_cases hkk : key = keyF s.f
    · subst hkk
      rw [if_pos rfl, Maps.atKey_put_same h1.isMap (lawK.key (keyStr hs))]
      simp
    · rw [if_neg hkk, Maps.atKey_put_other (by intro e; cases e; exact hkk rfl), h4]
      cases atL L key with
      | some x => rfl
      | none => rw [if_neg (fun e => hkk e.symm)]
  refine ⟨w', hrun, ⟨_, _, hown, by omega, ?_, hat⟩, hg, ?_⟩
  · rw [Maps.size_put (h1.tidy lawK), h3, List.length_append, List.length_singleton]
    have h5 := h4 (keyF s.f)
    cases hh : atL L (keyF s.f) with
    | none => rw [hh] at h5; rw [Maps.has_false_of_atKey h5, off_none hh]; simp
    | some x =>
      rw [hh] at h5
      rw [Maps.has_true_of_atKey h5, if_pos rfl]
      exact (off_len hk hh).symm
  · obtain ⟨es, clock, es', clock', hb, rfl⟩ := hturn
    simp [Go.ChangeMaps.setBlock]
end
section
open Go.ChangeShapes Go.WideShapes Go.ChangeAt Go.RowKit
/-- a device: its sectors, each with its bytes and whether it is torn; the writes that are not sure -/
structure DevP where
  sure : List (List UInt8 × Bool)
  unsure : List (Nat × List UInt8)
  limit : Nat
  down : Bool
def secL (s : List UInt8 × Bool) : List Value := s.1.map u8V ++ [.bool s.2]
def sectL (l : List (List UInt8 × Bool)) : List Value := l.flatMap secL
theorem secL_len {s : List UInt8 × Bool} (h : s.1.length = 512) : (secL s).length = 513 := by simp [secL, h]
theorem sect_len : ∀ {l : List (List UInt8 × Bool)}, (∀ s ∈ l, s.1.length = 512) → (sectL l).length = l.length * 513
  | [], _ => rfl
  | s :: l, h => by
    have ih := sect_len (l := l) (fun x hx => h x (List.mem_cons_of_mem _ hx))
    have hs := secL_len (h s List.mem_cons_self)
    simp only [sectL, List.flatMap_cons, List.length_append, List.length_cons] at ih ⊢
    omega
theorem sect_get : ∀ {l : List (List UInt8 × Bool)}, (∀ s ∈ l, s.1.length = 512) → ∀ (k : Nat) (hk : k < l.length) (j : Nat), j < 513 → (sectL l)[k * 513 + j]? = (secL l[k])[j]?
  | [], _, k, hk, _, _ => absurd hk (by simp)
  | s :: l, h, 0, _, j, hj => by
    have hs := secL_len (h s List.mem_cons_self)
    simp only [sectL, List.flatMap_cons, Nat.zero_mul, Nat.zero_add, List.getElem_cons_zero]
    rw [List.getElem?_append_left (by omega)]
  | s :: l, h, k + 1, hk, j, hj => by
    have hs := secL_len (h s List.mem_cons_self)
    have ih := sect_get (l := l) (fun x hx => h x (List.mem_cons_of_mem _ hx)) k (by simpa using hk) j hj
    simp only [sectL, List.flatMap_cons, List.getElem_cons_succ] at ih ⊢
    rw [List.getElem?_append_right (by omega), hs, show (k + 1) * 513 + j - 513 = k * 513 + j from by omega, ih]
/-- one sector is another -/
theorem sect_set : ∀ {l : List (List UInt8 × Bool)}, (∀ s ∈ l, s.1.length = 512) → ∀ (k : Nat), k < l.length → ∀ (x : List UInt8 × Bool), sectL (l.set k x) = (sectL l).take (k * 513) ++ (secL x ++ (sectL l).drop (k * 513 + 513))
  | [], _, k, hk, _ => absurd hk (by simp)
  | s :: l, h, 0, _, x => by
    have hs := secL_len (h s List.mem_cons_self)
    simp only [sectL, List.set_cons_zero, List.flatMap_cons, Nat.zero_mul, List.take_zero, List.nil_append, Nat.zero_add]
    rw [List.drop_append, hs, Nat.sub_self, List.drop_zero, List.drop_of_length_le (by omega), List.nil_append]
  | s :: l, h, k + 1, hk, x => by
    have hs := secL_len (h s List.mem_cons_self)
    have ih := sect_set (l := l) (fun x hx => h x (List.mem_cons_of_mem _ hx)) k (by simpa using hk) x
    simp only [sectL, List.set_cons_succ, List.flatMap_cons] at ih ⊢
    rw [ih, List.take_append, List.drop_append, hs, List.take_of_length_le (l := secL s) (by omega), List.drop_of_length_le (l := secL s) (by omega), show (k + 1) * 513 - 513 = k * 513 from by omega, show (k + 1) * 513 + 513 - 513 = k * 513 + 513 from by omega, List.nil_append, List.append_assoc]
/-- writes -/
def writeK : Kind (Nat × List UInt8) where
  H := Option Addr × Nat
  size := 2
  cells := fun h x => #[.int .i64 (x.1 : Int), .slice h.1 512 h.2]
  is := fun S w h x => Byts w h.1 512 h.2 x.2 ∧ rowIn S h.1 512
  hsize := fun _ _ => rfl
  pos := by decide
  one := fun h x u hu => by
    simp at hu
    rcases hu with rfl | rfl <;> rfl
  mono := fun h hS => ⟨h.1, h.2.mono h.1 hS⟩
  keep := fun h hs => ⟨h.1.keep h.2 hs, h.2⟩
structure IsDev (B : Nat) (w : World) (D : Nat) (d : DevP) : Prop where
  ex : ∃ SU v, Blk w D #[.slice (some ⟨SU, 0, none⟩) d.sure.length d.sure.length, v, .int .i64 (d.limit : Int), .bool d.down] 40 ∧ Blk w SU (sectL d.sure).toArray 108 ∧ B ≤ SU ∧ Gath writeK [5] 71 B w v d.unsure
  base : B ≤ D
  pos : 0 < d.sure.length
  le : d.sure.length ≤ 4096
  lens : ∀ s ∈ d.sure, s.1.length = 512
  ulens : ∀ u ∈ d.unsure, u.2.length = 512 ∧ u.1 < d.sure.length
  lim : d.limit ≤ 1000000000
  cnt : d.unsure.length ≤ 900000
theorem IsDev.on {B : Nat} {w w' : World} {D : Nat} {d : DevP} (h : IsDev B w D d) (hb : Below w.heap.size w w') : IsDev B w' D d := by
  obtain ⟨SU, v, h1, h2, h3, h4⟩ := h.ex
  exact ⟨⟨SU, v, h1.on hb, h2.on hb, h3, h4.on hb⟩, h.base, h.pos, h.le, h.lens, h.ulens, h.lim, h.cnt⟩
end
section
open Go.ChangeShapes Go.WideShapes Go.ChangeAt Go.RowKit
/-- the write that counts -/
def lastW (u : List (Nat × List UInt8)) (pos : Nat) : Option (List UInt8) := (u.reverse.find? fun x => x.1 == pos).map (·.2)
theorem lastW_step {u : List (Nat × List UInt8)} {pos r : Nat} (h : r < u.length) : lastW (u.take (r + 1)) pos = if (u[r]).1 = pos then some u[r].2 else lastW (u.take r) pos := by
  unfold lastW
  rw [List.take_succ_eq_append_getElem h, List.reverse_append, List.reverse_singleton, List.singleton_append]
  by_cases he : (u[r]).1 = pos
  · rw [if_pos he, List.find?_cons_of_pos (by simpa using he)]; rfl
  · rw [if_neg he, List.find?_cons_of_neg (by simpa using he)]
/-- what Read answers of a sector that is there, while the power is -/
def readP (d : DevP) (pos : Nat) : Option (List UInt8) := match lastW d.unsure pos with
  | some b => some b
  | none => match d.sure[pos]? with
    | some s => if s.2 = true then none else some s.1
    | none => none
set_option maxHeartbeats 4000000 in
set_option maxRecDepth 100000 in
theorem dlen_any (w : World) (B D : Nat) (d : DevP) (hd : IsDev B w D d) : Calls Tryz.prog 13 #[.pointer (some ⟨D, 0, none⟩)] w fun e w' => e = .returned (.int .i64 (d.sure.length : Int)) ∧ w' = w := by
  obtain ⟨SU, v, h1, _⟩ := hd.ex
  have c0 : w.cell? ⟨D, 0, none⟩ = some (.slice (some ⟨SU, 0, none⟩) d.sure.length d.sure.length) := h1.cell 0
  clear h1 hd
  go_enter Tryz.func13, Tryz.ntmps13
  go_wp2_with fail
  go_ret
  exact ⟨rfl, rfl⟩
set_option maxHeartbeats 4000000 in
set_option maxRecDepth 100000 in
theorem ddown_any (w : World) (B D : Nat) (d : DevP) (hd : IsDev B w D d) : Calls Tryz.prog 29 #[.pointer (some ⟨D, 0, none⟩)] w fun e w' => e = .returned (.bool d.down) ∧ w' = w := by
  obtain ⟨SU, v, h1, _⟩ := hd.ex
  have c3 : w.cell? ⟨D, 3, none⟩ = some (.bool d.down) := h1.cell 3
  clear h1 hd
  go_enter Tryz.func29, Tryz.ntmps29
  go_wp2_with fail
  go_ret
  exact ⟨rfl, rfl⟩
def checkE (d : DevP) (pos : Nat) : Int := if d.down = true then 8 else if d.sure.length ≤ pos then 1 else 0
set_option maxHeartbeats 4000000 in
set_option maxRecDepth 100000 in
theorem dcheck_any (w : World) (B D : Nat) (d : DevP) (hd : IsDev B w D d) (pos : Nat) : Calls Tryz.prog 84 #[.pointer (some ⟨D, 0, none⟩), .int .i64 (pos : Int)] w fun e w' => e = .returned (.int .i64 (checkE d pos)) ∧ w' = w := by
  obtain ⟨SU, v, h1, _⟩ := hd.ex
  have c0 : w.cell? ⟨D, 0, none⟩ = some (.slice (some ⟨SU, 0, none⟩) d.sure.length d.sure.length) := h1.cell 0
  have c3 : w.cell? ⟨D, 3, none⟩ = some (.bool d.down) := h1.cell 3
  clear h1 hd
  cases hdn : d.down with
  | true =>
    have HE := Lib.hid (show checkE d pos = 8 by simp [checkE, hdn])
    rw [hdn] at c3
    clear hdn
    go_enter Tryz.func84, Tryz.ntmps84
    go_wp2_with fail
    go_ret
    exact ⟨ret_int HE.out.symm, rfl⟩
  | false =>
    rw [hdn] at c3
    obtain ⟨n, hn⟩ : ∃ n, n = d.sure.length := ⟨_, rfl⟩
    rw [← hn] at c0
    by_cases hp : n ≤ pos
    · have HE := Lib.hid (show checkE d pos = 1 by simp [checkE, hdn, ← hn, hp])
      clear hdn hn
      have hp2 : decide ((n : Int) ≤ (pos : Int)) = true := by simp; omega
      go_enter Tryz.func84, Tryz.ntmps84
      go_wp2_with fail
      go_ret
      exact ⟨ret_int HE.out.symm, rfl⟩
    · have HE := Lib.hid (show checkE d pos = 0 by simp [checkE, hdn, ← hn, hp])
      clear hdn hn
      have hp2 : decide ((n : Int) ≤ (pos : Int)) = false := by simp; omega
      go_enter Tryz.func84, Tryz.ntmps84
      go_wp2_with fail
      go_ret
      exact ⟨ret_int HE.out.symm, rfl⟩
structure ReadRes (w : World) (d : DevP) (pos : Nat) (e : Ending) (w' : World) : Prop where
  down : d.down = true → e = .returned (.tuple #[.slice none 0 0, .int .i64 8])
  ok : d.down = false → ∀ b, readP d pos = some b → ∃ ao c, e = .returned (.tuple #[.slice ao 512 c, .int .i64 0]) ∧ Own1 [5] w.heap.size w' ao 512 c (b.map u8V) ∧ b.length = 512
  torn : d.down = false → readP d pos = none → e = .returned (.tuple #[.slice none 0 0, .int .i64 9])
  bel : Below w.heap.size w w'
set_option maxHeartbeats 16000000 in
set_option maxRecDepth 100000 in
theorem dread_any (w : World) (B D : Nat) (d : DevP) (hd : IsDev B w D d) (pos : Nat) (hp : pos < d.sure.length) : Calls Tryz.prog 53 #[.pointer (some ⟨D, 0, none⟩), .int .i64 (pos : Int)] w fun e w' => ReadRes w d pos e w' := by
  have hck := dcheck_any w B D d hd pos
  obtain ⟨SU, v, h1, h2, h3, h4⟩ := hd.ex
  obtain ⟨ao, c, hv, hsq, hab⟩ := h4.seq
  subst hv
  have c0 : w.cell? ⟨D, 0, none⟩ = some (.slice (some ⟨SU, 0, none⟩) d.sure.length d.sure.length) := h1.cell 0
  have c1 : w.cell? ⟨D, 1, none⟩ = some (.slice ao d.unsure.length c) := h1.cell 1
  have hle := hsq.hle
  have hcnt := hd.cnt
  have hle2 := hd.le
  cases hdn : d.down with
  | true =>
    have HE := Lib.hid (show checkE d pos = 8 by simp [checkE, hdn])
    rw [HE.out] at hck
    have HCK := Lib.hid hck
    have HDN := Lib.hid hdn
    clear hck hdn h1 h2 h4 hsq hab hd
    go_enter Tryz.func53, Tryz.ntmps53
    go_wp2_with (go_at_call 84; refine HCK.out.mono ?_; rintro e W ⟨rfl, rfl⟩)
    go_ret2
    exact ⟨fun _ => rfl, fun e => absurd (HDN.out.symm.trans e) (by decide), fun e => absurd (HDN.out.symm.trans e) (by decide), Below.refl _ _⟩
  | false =>
    have HE := Lib.hid (show checkE d pos = 0 by simp [checkE, hdn]; omega)
    rw [HE.out] at hck
    have HCK := Lib.hid hck
    have HDN := Lib.hid hdn
    have HD := Lib.hid hd
    have HSQ := Lib.hid hsq
    have HSU := Lib.hid h2
    have HPP := Lib.hid hp
    clear hck hdn h1 h2 h4 hsq hab hd hp
    obtain ⟨n, hn⟩ : ∃ n, n = d.unsure.length := ⟨_, rfl⟩
    obtain ⟨ns, hns⟩ : ∃ ns, ns = d.sure.length := ⟨_, rfl⟩
    rw [← hn] at c1 hle hcnt
    rw [← hns] at c0 hle2
    have HN := Lib.hid (And.intro hn hns)
    clear hn hns
    go_enter Tryz.func53, Tryz.ntmps53
    go_wp2_with (go_at_call 84; refine HCK.out.mono ?_; rintro e W ⟨rfl, rfl⟩)
    go_loopw [7] (fun i wr => ∃ t : Nat, t ≤ n ∧ i = .int .i64 ((t : Int) - 1) ∧ wr = W ∧ Hid (lastW d.unsure pos = lastW (d.unsure.take t) pos)) (fun i _ => (intOf i + 1).toNat)
    case atStart => exact ⟨n, Nat.le_refl _, rfl, rfl, Lib.hid (by rw [HN.out.1, List.take_length])⟩
    case round =>
      obtain ⟨t, ht, rfl, rfl, hinv⟩ := hrel
      by_cases h0 : t = 0
      · subst h0
        have hlast : lastW d.unsure pos = none := by rw [hinv.out]; rfl
        have HLS := Lib.hid hlast
        clear hinv hlast
        have hm1 : ((0 : Nat) : Int) - 1 = -1 := by decide
        rw [hm1]
        clear hm1
        have hps : pos < d.sure.length := HPP.out
        obtain ⟨s, hs⟩ : ∃ s, s = d.sure[pos] := ⟨_, rfl⟩
        have hsl := HD.out.lens s (by rw [hs]; exact List.getElem_mem _)
        have hcell : ∀ j, j < 513 → wr.cell? ⟨SU, pos * 513 + j, none⟩ = (secL s)[j]? := fun j hj => by
          rw [HSU.out.cell (pos * 513 + j), hs, ← sect_get HD.out.lens pos hps j hj, List.getElem?_toArray]
        have q1 : wr.cell? ⟨SU, pos * 513 + 512, none⟩ = some (.bool s.2) := by
          rw [hcell 512 (by omega), secL, List.getElem?_append_right (by simp [hsl])]
          simp [hsl]
        have hrow : Row wr (some ⟨SU, pos * 513, none⟩) 512 512 (s.1.map u8V) := by
          refine ⟨by simp [hsl], Nat.le_refl _, by omega, by omega, fun e => (by cases e), fun _ => ⟨SU, pos * 513, rfl, fun i hi => ?_⟩⟩
          have hi' : i < 512 := by simpa [hsl] using hi
          rw [hcell i (by omega), secL, List.getElem?_append_left (by simp [hsl]; exact hi'), List.getElem?_eq_getElem]
        have HRP := Lib.hid (show readP d pos = if s.2 = true then none else some s.1 by rw [readP, HLS.out, List.getElem?_eq_getElem hps, ← hs])
        have HCL := Lib.hid (clone_byts wr _ 512 512 _ hrow (u8_one s.1) (by omega))
        have HSL := Lib.hid hsl
        have hpn : pos < ns := by rw [HN.out.2]; exact hps
        have hp4 : pos * 513 ≤ 2101248 := by omega
        clear hs hsl hcell hrow hps
        cases htn : s.2 with
        | true =>
          rw [htn] at q1
          have HTN := Lib.hid htn
          clear htn
          go_wp2_with fail
          go_ret2
          exact ⟨fun e => absurd (HDN.out.symm.trans e) (by decide), fun _ b hb => (by rw [HRP.out, if_pos HTN.out] at hb; cases hb), fun _ _ => rfl, Below.refl _ _⟩
        | false =>
          rw [htn] at q1
          have HTN := Lib.hid htn
          clear htn
          go_wp2_with (go_at_call 85; refine HCL.out.mono ?_; rintro e W2 ⟨⟨ao', c', rfl, ho⟩, hb⟩; have HO := Lib.hid (And.intro ho hb); clear ho hb)
          go_ret2
          exact ⟨fun e => absurd (HDN.out.symm.trans e) (by decide), fun _ b hb => by
            rw [HRP.out, if_neg (by rw [HTN.out]; decide)] at hb
            cases hb
            exact ⟨_, _, rfl, HO.out.1, HSL.out⟩, fun _ hn => (by rw [HRP.out, if_neg (by rw [HTN.out]; decide)] at hn; cases hn), HO.out.2⟩
      · obtain ⟨r, rfl⟩ : ∃ r, t = r + 1 := ⟨t - 1, by omega⟩
        have hr1 : ((r + 1 : Nat) : Int) - 1 = (r : Int) := by omega
        rw [hr1]
        clear hr1 h0
        have hrn : r < n := by omega
        have hru : r < d.unsure.length := by rw [← HN.out.1]; exact hrn
        obtain ⟨b0, off, rfl⟩ := HSQ.out.addr hru
        obtain ⟨k, hk1, hk2, hk3⟩ := HSQ.out.at hru
        have e0 := hk1 0 (by decide)
        have e1 := hk1 1 (by decide)
        simp [writeK] at e0 e1
        obtain ⟨u, hu⟩ : ∃ u, u = d.unsure[r] := ⟨_, rfl⟩
        have hst := lastW_step (pos := pos) hru
        rw [← hu] at e0 hk2 hst
        have hul := HD.out.ulens u (by rw [hu]; exact List.getElem_mem _)
        rw [← hinv.out] at hst
        have HK2 := Lib.hid hk2
        have HUL := Lib.hid hul.1
        by_cases hat : u.1 = pos
        · rw [if_pos hat] at hst
          have hatb : ((u.1 : Int) == (pos : Int)) = true := by simp; omega
          have HRP := Lib.hid (show readP d pos = some u.2 by rw [readP, hst])
          have HCL := Lib.hid (clone_byts wr k.1 512 k.2 _ hk2 (u8_one u.2) (by omega))
          clear hk1 hk2 hk3 hu hst hul hat hinv hru
          go_wp2_with (go_at_call 85; refine HCL.out.mono ?_; rintro e W2 ⟨⟨ao', c', rfl, ho⟩, hb⟩; have HO := Lib.hid (And.intro ho hb); clear ho hb)
          go_ret2
          exact ⟨fun e => absurd (HDN.out.symm.trans e) (by decide), fun _ b hb => by
            rw [HRP.out] at hb
            cases hb
            exact ⟨_, _, rfl, HO.out.1, HUL.out⟩, fun _ hn => (by rw [HRP.out] at hn; cases hn), HO.out.2⟩
        · rw [if_neg hat] at hst
          have hatb : ((u.1 : Int) == (pos : Int)) = false := by simp; omega
          have HST := Lib.hid hst
          clear hk1 hk2 hk3 hu hst hul hat hinv hru
          go_wp2_with fail
          go_roundw
          case rel => exact ⟨r, by omega, rfl, trivial, HST⟩
          case measure => simp [intOf]
end
section
open Go.ChangeShapes Go.WideShapes Go.ChangeAt Go.RowKit
/-- of what is there from block B on only blocks of the types S turn -/
structure Only (S : List TypeId) (B : Nat) (w w' : World) : Prop where
  bel : Below B w w'
  keep : ∀ b, b < w.heap.size → ¬ tagged S w b → w'.heap[b]? = w.heap[b]?
theorem Only.refl (S : List TypeId) (B : Nat) (w : World) : Only S B w w := ⟨Below.refl _ _, fun _ _ _ => rfl⟩
theorem Only.below {S : List TypeId} {B : Nat} {w w' : World} (h : Below w.heap.size w w') (hB : B ≤ w.heap.size) : Only S B w w' := ⟨h.mono hB, fun b hb _ => h.block b hb⟩
theorem Only.trans {S : List TypeId} {B : Nat} {a b c : World} (h : Only S B a b) (k : Only S B b c) : Only S B a c :=
  ⟨h.bel.trans k.bel, fun x hx hn => by
    have e := h.keep x hx hn
    have hl : x < b.heap.size := by have := h.bel.size; omega
    rw [k.keep x hl (fun ht => hn (by obtain ⟨cs, t, h1, h2⟩ := ht; exact ⟨cs, t, e ▸ h1, h2⟩)), e]⟩
theorem Only.mono {S S' : List TypeId} {B : Nat} {w w' : World} (h : Only S B w w') (hs : ∀ t ∈ S, t ∈ S') : Only S' B w w' := ⟨h.bel, fun b hb hn => h.keep b hb (fun ht => hn (tagged_mono ht hs))⟩
theorem Only.blk {S : List TypeId} {B : Nat} {w w' : World} {g : Nat} {cs : Array Value} {T : TypeId} (h : Only S B w w') (hb : Blk w g cs T) (hT : T ∉ S) : Blk w' g cs T := by
  unfold Blk at hb ⊢
  rw [h.keep g (Array.getElem?_eq_some_iff.1 hb).1 (fun ⟨cs', t, h1, h2⟩ => by rw [hb] at h1; cases h1; exact hT h2), hb]
theorem Only.same {S T : List TypeId} {B : Nat} {w w' : World} (h : Only S B w w') (hd : ∀ t ∈ T, t ∉ S) : Same (tagged T w) w w' := fun b hb ht => h.keep b hb (fun hs => by
  obtain ⟨c1, t1, h1, k1⟩ := ht
  obtain ⟨c2, t2, h2, k2⟩ := hs
  rw [h1] at h2
  cases h2
  exact hd _ k1 k2)
theorem Only.but {S : List TypeId} {B : Nat} {w w' : World} {g : Nat} {cs : Array Value} {T : TypeId} (hg : w.grownBy w' (some g)) (hb : Blk w g cs T) (hT : T ∈ S) (hB : B ≤ g) : Only S B w w' := by
  have hl := (Array.getElem?_eq_some_iff.1 (show w.heap[g]? = _ from hb)).1
  exact ⟨below_of_but hg hB (by omega), fun b hb' hn => hg.block b hb' (fun e => hn (by cases e; exact ⟨cs, T, hb, hT⟩))⟩
end
section
open Go.ChangeShapes Go.WideShapes Go.ChangeAt Go.RowKit
def dvT : List TypeId := [40, 108, 71]
/-- a device's own cells turn -/
theorem dev_turn {B : Nat} {w w' : World} {D SU l' : Nat} {d : DevP} {v : Value} {dn' : Bool} (hd : IsDev B w D d) (h2 : Blk w SU (sectL d.sure).toArray 108) (h3 : B ≤ SU) (h1 : Blk w D #[.slice (some ⟨SU, 0, none⟩) d.sure.length d.sure.length, v, .int .i64 (d.limit : Int), .bool d.down] 40) (hg : w.grownBy w' (some D))
    (h4 : Gath writeK [5] 71 B w v d.unsure) (hB : Blk w' D #[.slice (some ⟨SU, 0, none⟩) d.sure.length d.sure.length, v, .int .i64 (l' : Int), .bool dn'] 40) (hl : l' ≤ 1000000000) : IsDev B w' D { d with limit := l', down := dn' } := by
  have hne : SU ≠ D := tagged_ne (T := [108]) h1 (by decide) ⟨_, _, h2, List.mem_cons_self⟩
  exact ⟨⟨SU, v, hB, h2.but hg hne, h3, h4.step (Same.grown hg (fun b ht e => by
    have e := Option.some.inj e
    subst e
    exact tagged_ne h1 (by decide) ht rfl))⟩, hd.base, hd.pos, hd.le, hd.lens, hd.ulens, hl, hd.cnt⟩
def spendP (d : DevP) : DevP := if d.limit = 0 then d else { d with limit := d.limit - 1, down := decide (d.limit = 1) }
def spendOk (d : DevP) : Bool := decide (d.limit ≠ 1)
set_option maxHeartbeats 4000000 in
set_option maxRecDepth 100000 in
theorem dspend_any (w : World) (B D : Nat) (d : DevP) (hd : IsDev B w D d) : Calls Tryz.prog 82 #[.pointer (some ⟨D, 0, none⟩)] w fun e w' => e = .returned (.bool (spendOk d)) ∧ IsDev B w' D (spendP d) ∧ Only dvT B w w' := by
  obtain ⟨SU, v, h1, h2, h3, h4⟩ := hd.ex
  have c2 : w.cell? ⟨D, 2, none⟩ = some (.int .i64 (d.limit : Int)) := h1.cell 2
  have hlim := hd.lim
  have hbase := hd.base
  by_cases h0 : d.limit = 0
  · have HP := Lib.hid (show spendP d = d ∧ spendOk d = true by simp [spendP, spendOk, h0])
    rw [h0] at c2
    have HD := Lib.hid hd
    clear h1 h2 h4 hd h0 hlim
    go_enter Tryz.func82, Tryz.ntmps82
    go_wp2_with fail
    go_ret
    exact ⟨ret_bool HP.out.2.symm, by rw [HP.out.1]; exact HD.out, Only.refl _ _ _⟩
  · obtain ⟨m, hm⟩ : ∃ m, d.limit = m + 1 := ⟨d.limit - 1, by omega⟩
    have c0 := h1.cell 0
    have HP := Lib.hid (show spendP d = { d with limit := m, down := decide (m = 0) } ∧ spendOk d = !decide (m = 0) by
      constructor
      · rw [spendP, if_neg h0, hm]; simp
      · rw [spendOk, hm]; simp)
    have hg1 := but_set w D 2 (.int .i64 (m : Int))
    have hB1 := h1.set 2 (.int .i64 (m : Int))
    have hg2 := but_set (w.setCell ⟨D, 2, none⟩ (.int .i64 (m : Int))) D 3 (.bool (decide (m = 0)))
    have hB2 := hB1.set 3 (.bool (decide (m = 0)))
    have hgg := but_trans hg1 hg2
    have hfin := dev_turn (l' := m) (dn' := decide (m = 0)) hd h2 h3 h1 hgg h4 (by simpa using hB2) (by omega)
    have hon : Only dvT B w ((w.setCell ⟨D, 2, none⟩ (.int .i64 (m : Int))).setCell ⟨D, 3, none⟩ (.bool (decide (m = 0)))) := Only.but hgg h1 (by decide) hbase
    have HF := Lib.hid (And.intro hfin hon)
    have f2 := h1.free 2
    have k2 := hB1.cell 2
    have k3 := hB1.cell 3
    have f3 := hB1.free 3
    have j3 := hB2.cell 3
    simp at k2 k3 j3
    rw [hm] at c2
    have hmb : m ≤ 1000000000 := by omega
    have hcast : ((m + 1 : Nat) : Int) - 1 = (m : Int) := by omega
    have hdec : ((m : Int) == 0) = decide (m = 0) := by rw [Bool.eq_iff_iff]; simp
    clear h1 h2 h4 hd hm h0 hg1 hB1 hg2 hB2 hgg hfin hon hlim c0
    go_enter Tryz.func82, Tryz.ntmps82
    go_wp2_with fail
    go_ret
    exact ⟨ret_bool HP.out.2.symm, by rw [HP.out.1]; exact HF.out.1, HF.out.2⟩
theorem grown_blk {w w' : World} {row : Option Nat} {B g : Nat} {cs : Array Value} {T T' : TypeId} (hg : w.grownBy w' row) (hr : ∀ b, row = some b → ∃ cs, Blk w b cs T ∧ B ≤ b) (hb : Blk w g cs T') (hT : T' ≠ T) : Blk w' g cs T' := by
  have hl := hb.lt
  unfold Blk
  rw [hg.block g hl (fun e => by
    obtain ⟨cs2, h2, _⟩ := hr g e.symm
    unfold Blk at hb h2
    rw [hb] at h2
    simp at h2
    exact hT h2.2)]
  exact hb
theorem grown_only {S : List TypeId} {w w' : World} {row : Option Nat} {B : Nat} {T : TypeId} (hg : w.grownBy w' row) (hr : ∀ b, row = some b → ∃ cs, Blk w b cs T ∧ B ≤ b) (hT : T ∈ S) (hB : B ≤ w.heap.size) : Only S B w w' :=
  ⟨(Below.refl B w).grown hg hB (fun b e => (hr b e).elim fun _ h => h.2), fun b hb hn => hg.block b hb (fun e => hn (by
    obtain ⟨cs2, h2, _⟩ := hr b e.symm
    exact ⟨cs2, T, h2, hT⟩))⟩
theorem writeParts : ∃ (i0 : TypeInfo) (z : Value), Tryz.prog.info? 71 = some i0 ∧ i0.zero = some z ∧ i0.size = 2 ∧ z.cells.size = 2 ∧ i0.bytes ≤ 1000 := by
  have h : (Tryz.prog.info? 71).map (fun i => (i.zero.map (·.cells.size), i.size, decide (i.bytes ≤ 1000))) = some (some 2, 2, true) := by kernel_rfl
  obtain ⟨i0, hi, hii⟩ := Option.map_eq_some_iff.1 h
  simp only [Prod.mk.injEq, decide_eq_true_eq] at hii
  obtain ⟨z, hz, hzs⟩ := Option.map_eq_some_iff.1 hii.1
  exact ⟨i0, z, hi, hz, hii.2.1, hzs, hii.2.2⟩
structure CopyPrep (W : World) (zz : Array Value) (bo : Option Addr) (b : List UInt8) : Prop where
  blk : (W.alloc (.cells zz 5)).heap[W.heap.size]? = some (.cells (List.replicate 512 (Value.int .u8 0)).toArray 5 (0, 0))
  src : 0 < (b.map u8V).length → (some (⟨W.heap.size, 0, none⟩ : Addr) = some ⟨W.heap.size, 0, none⟩) ∧ ∃ ad, bo = some ad ∧ ∀ j v, (b.map u8V)[j]? = some v → (W.alloc (.cells zz 5)).cell? (ad.add j) = some v
  bel : Below W.heap.size W (W.alloc (.cells zz 5))
  len : (b.map u8V).length = Nat.min 512 512
  fit : 0 + (b.map u8V).length ≤ (List.replicate 512 (Value.int .u8 0)).length
theorem copy_prep (W : World) {zz : Array Value} (hz : zz = (List.replicate 512 (Value.int .u8 0)).toArray) {bo : Option Addr} {bc : Nat} {b : List UInt8} (hb : Byts W bo 512 bc b) (hl : b.length = 512) : Hid (CopyPrep W zz bo b) := Lib.hid (by
  have hal : Below W.heap.size W (W.alloc (.cells zz 5)) := (Below.refl _ _).alloc (Nat.le_refl _) _
  exact ⟨by rw [← hz]; exact heap_alloc_new W _, byts_src (hb.below hal (Nat.le_refl _)) W.heap.size, hal, by rw [List.length_map, hl]; rfl, by rw [List.length_map, hl, List.length_replicate]; omega⟩)
/-- what the append of a write needs -/
structure WPrep (B : Nat) (W : World) (g pos : Nat) (b : List UInt8) (v : Value) (u : List (Nat × List UInt8)) (v' : Value) (W' : World) : Prop where
  run : (Builtin.append_ #[38, 38] 38 #[v, .slice (some ⟨W.heap.size, 0, none⟩) 1 1]).run Tryz.prog (W.alloc (.cells #[.int .i64 (pos : Int), .slice (some ⟨g, 0, none⟩) 512 512] 71)) = .ok v' W'
  gath : Gath writeK [5] 71 B W' v' (u ++ [(pos, b)])
  grown : (W.alloc (.cells #[.int .i64 (pos : Int), .slice (some ⟨g, 0, none⟩) 512 512] 71)).grownBy W' v.ownBlock
  row : ∀ k, v.ownBlock = some k → ∃ cs, Blk (W.alloc (.cells #[.int .i64 (pos : Int), .slice (some ⟨g, 0, none⟩) 512 512] 71)) k cs 71 ∧ B ≤ k
theorem wprep {B : Nat} {W : World} {g : Nat} {b : List UInt8} {v : Value} {u : List (Nat × List UInt8)} (hB : B ≤ W.heap.size) (hu : u.length ≤ 900000) (hW : Hid (W.heap[g]? = some (.cells (splice (List.replicate 512 (Value.int .u8 0)) 0 (b.map u8V)).toArray 5 (0, 0)))) (hG : Gath writeK [5] 71 B W v u) (hl : b.length = 512) (pos : Nat) : ∃ v' W', WPrep B W g pos b v u v' W' := by
  have hsp : splice (List.replicate 512 (Value.int .u8 0)) 0 (b.map u8V) = b.map u8V := by
    rw [splice, List.take_zero, List.nil_append, List.length_map, hl, List.drop_replicate]
    simp
  have hblk : Blk W g (b.map u8V).toArray 5 := by have := hW.out; rw [hsp] at this; exact this
  have hal : Below W.heap.size W (W.alloc (.cells #[.int .i64 (pos : Int), .slice (some ⟨g, 0, none⟩) 512 512] 71)) := (Below.refl _ _).alloc (Nat.le_refl _) _
  have hb2 := hblk.on hal
  have hrow : Byts (W.alloc (.cells #[.int .i64 (pos : Int), .slice (some ⟨g, 0, none⟩) 512 512] 71)) (some ⟨g, 0, none⟩) 512 512 b := by
    refine ⟨by simp [hl], Nat.le_refl _, by omega, by omega, fun e => (by cases e), fun _ => ⟨g, 0, rfl, fun i hi => ?_⟩⟩
    rw [Nat.zero_add, hb2.cell i, List.getElem?_toArray, List.getElem?_eq_getElem (by simpa using hi)]
    rfl
  obtain ⟨i0, z, hi, hz, hs0, hzs, hby⟩ := writeParts
  obtain ⟨v', W', hrun, hgath, hgr, hr, _⟩ := (hG.on hal).push (ts := 38) (by decide) i0 z Tryz.underlying38 hi hz hs0 hzs hby (by omega) (by have := hal.size; omega) (some ⟨g, 0, none⟩, 512) (pos, b) ⟨hrow, fun _ a ha => by cases ha; exact ⟨_, _, hb2, List.mem_cons_self⟩⟩ ⟨W.heap.size, 0, none⟩ 1 (fun j _ => by rw [addr_add, Nat.zero_add]; exact World.cell?_alloc_new W _ _ j) 38
  exact ⟨v', W', hrun, hgath, hgr, hr⟩
theorem dblk {B : Nat} {W2 W W' : World} {g pos D : Nat} {b : List UInt8} {v v' : Value} {u : List (Nat × List UInt8)} {cs : Array Value} (h : Blk W2 D cs 40) (hb : Below W2.heap.size W2 W) (hp : WPrep B W g pos b v u v' W') : Blk W' D cs 40 :=
  grown_blk hp.grown hp.row ((h.on hb).on ((Below.refl _ _).alloc (Nat.le_refl _) _)) (by decide)
theorem dcell1 {B : Nat} {W2 W W' : World} {g pos D : Nat} {b : List UInt8} {v v' a0 a2 a3 : Value} {u : List (Nat × List UInt8)} (h : Blk W2 D #[a0, v, a2, a3] 40) (hb : Below W2.heap.size W2 W) (hp : WPrep B W g pos b v u v' W') : W'.cell? ⟨D, 1, none⟩ = some v := (dblk h hb hp).cell 1
theorem dfree1 {B : Nat} {W2 W W' : World} {g pos D : Nat} {b : List UInt8} {v v' a0 a2 a3 : Value} {u : List (Nat × List UInt8)} (h : Blk W2 D #[a0, v, a2, a3] 40) (hb : Below W2.heap.size W2 W) (hp : WPrep B W g pos b v u v' W') : W'.frozen? ⟨D, 1, none⟩ = false := (dblk h hb hp).free 1
/-- what a write makes of a device -/
def writeP (d : DevP) (pos : Nat) (b : List UInt8) : DevP := if d.down = true then d else if spendOk d = true then { spendP d with unsure := d.unsure ++ [(pos, b)] } else spendP d
def writeE (d : DevP) : Int := if d.down = true then 8 else if spendOk d = true then 0 else 8
theorem spend_same (d : DevP) : (spendP d).sure = d.sure ∧ (spendP d).unsure = d.unsure := by
  unfold spendP; split <;> exact ⟨rfl, rfl⟩
/-- a device with one write more -/
theorem dwrite_law {B : Nat} {W2 W3 W4 : World} {D SU g pos : Nat} {d : DevP} {b : List UInt8} {v v' : Value} (hd : IsDev B W2 D d) (h1 : Blk W2 D #[.slice (some ⟨SU, 0, none⟩) d.sure.length d.sure.length, v, .int .i64 (d.limit : Int), .bool d.down] 40) (h2 : Blk W2 SU (sectL d.sure).toArray 108) (h3 : B ≤ SU)
    (hb : Below W2.heap.size W2 W3) (hp : WPrep B W3 g pos b v d.unsure v' W4) (hl : b.length = 512) (hpos : pos < d.sure.length) (hcnt : d.unsure.length < 900000) : IsDev B (W4.setCell ⟨D, 1, none⟩ v') D { d with unsure := d.unsure ++ [(pos, b)] } ∧ Only dvT B W2 (W4.setCell ⟨D, 1, none⟩ v') := by
  have hD4 := dblk h1 hb hp
  have hal : Below W3.heap.size W3 (W3.alloc (.cells #[.int .i64 (pos : Int), .slice (some ⟨g, 0, none⟩) 512 512] 71)) := (Below.refl _ _).alloc (Nat.le_refl _) _
  have hS4 : Blk W4 SU (sectL d.sure).toArray 108 := grown_blk hp.grown hp.row ((h2.on hb).on hal) (by decide)
  have hg := but_set W4 D 1 v'
  have hne : SU ≠ D := tagged_ne (T := [108]) h1 (by decide) ⟨_, _, h2, List.mem_cons_self⟩
  have hBW : B ≤ W2.heap.size := by have := hd.base; have := h1.lt; omega
  refine ⟨⟨⟨SU, v', by simpa using hD4.set 1 v', hS4.but hg hne, h3, hp.gath.step (Same.grown hg (fun x ht e => by
    have e := Option.some.inj e
    subst e
    exact tagged_ne hD4 (by decide) ht rfl))⟩, hd.base, hd.pos, hd.le, hd.lens, fun u hu => ?_, hd.lim, by rw [List.length_append, List.length_singleton]; exact hcnt⟩, ?_⟩
  · rcases List.mem_append.1 hu with h | h
    · exact hd.ulens u h
    · rw [List.mem_singleton.1 h]; exact ⟨hl, hpos⟩
  · have o1 : Only dvT B W2 (W3.alloc (.cells #[.int .i64 (pos : Int), .slice (some ⟨g, 0, none⟩) 512 512] 71)) := Only.below (below_on hb hal (Nat.le_refl _)) hBW
    have o2 : Only dvT B (W3.alloc (.cells #[.int .i64 (pos : Int), .slice (some ⟨g, 0, none⟩) 512 512] 71)) W4 := grown_only hp.grown hp.row (by decide) (by have := hb.size; have := hal.size; omega)
    exact (o1.trans o2).trans (Only.but hg hD4 (by decide) hd.base)
set_option maxHeartbeats 16000000 in
set_option maxRecDepth 100000 in
theorem dwrite_any (w : World) (B D : Nat) (d : DevP) (hd : IsDev B w D d) (pos : Nat) (hp : pos < d.sure.length) (bo : Option Addr) (bc : Nat) (b : List UInt8) (hb : Byts w bo 512 bc b) (hbB : rowIn (tagged [5] w) bo 512) (hcnt : d.unsure.length < 900000) :
    Calls Tryz.prog 59 #[.pointer (some ⟨D, 0, none⟩), .int .i64 (pos : Int), .slice bo 512 bc] w fun e w' => e = .returned (.int .i64 (writeE d)) ∧ IsDev B w' D (writeP d pos b) ∧ Only dvT B w w' := by
  have hck := dcheck_any w B D d hd pos
  cases hdn : d.down with
  | true =>
    have HE := Lib.hid (show checkE d pos = 8 ∧ writeE d = 8 ∧ writeP d pos b = d by simp [checkE, writeE, writeP, hdn])
    rw [HE.out.1] at hck
    have HCK := Lib.hid hck
    have HD := Lib.hid hd
    clear hck hdn hd hb
    go_enter Tryz.func59, Tryz.ntmps59
    go_wp2_with (go_at_call 84; refine HCK.out.mono ?_; rintro e W ⟨rfl, rfl⟩)
    go_ret
    exact ⟨ret_int HE.out.2.1.symm, by rw [HE.out.2.2]; exact HD.out, Only.refl _ _ _⟩
  | false =>
    have HE0 := Lib.hid (show checkE d pos = 0 by simp [checkE, hdn]; omega)
    rw [HE0.out] at hck
    have HCK := Lib.hid hck
    have HSP := Lib.hid (dspend_any w B D d hd)
    have hlen := hb.hlen
    rw [List.length_map] at hlen
    have HB := Lib.hid (And.intro hb (And.intro hlen hbB))
    have HPP := Lib.hid (And.intro hp hcnt)
    clear hck hd hb hlen hp hcnt hbB
    cases hok : spendOk d with
    | false =>
      have HE := Lib.hid (show writeE d = 8 ∧ writeP d pos b = spendP d by simp [writeE, writeP, hdn, hok])
      rw [hok] at HSP
      clear hdn hok
      go_enter Tryz.func59, Tryz.ntmps59
      go_wp2_with (first | (go_at_call 84; refine HCK.out.mono ?_; rintro e W ⟨rfl, rfl⟩) | (go_at_call 82; refine HSP.out.mono ?_; rintro e W2 ⟨rfl, hd2, ho2⟩; have HD2 := Lib.hid (And.intro hd2 ho2); clear hd2 ho2))
      go_ret
      exact ⟨ret_int HE.out.1.symm, by rw [HE.out.2]; exact HD2.out.1, HD2.out.2⟩
    | true =>
      have HE := Lib.hid (show writeE d = 0 ∧ writeP d pos b = { spendP d with unsure := d.unsure ++ [(pos, b)] } by simp [writeE, writeP, hdn, hok])
      rw [hok] at HSP
      clear hdn hok
      obtain ⟨zz, hzz⟩ : ∃ zz, zz = (List.replicate 512 (Value.int .u8 0)).toArray := ⟨_, rfl⟩
      have hmk : ∀ w : World, (Instr.makeSlice 49 (.int .i64 512) (.int .i64 512)).run Tryz.prog w = .ok (.slice (some ⟨w.heap.size, 0, none⟩) 512 512) (w.alloc (.cells zz 5)) := fun w => by
        obtain ⟨i0, hi, hz0, hz1, hz2⟩ := info_parts u8Info
        have := run_make (P := Tryz.prog) w 49 5 i0 _ Tryz.underlying49 hi hz0 .i64 .i64 512 512 (by omega) (by omega) (by rw [hz2]; omega) (by omega)
        rw [this, hz1, hzz]
        show Result.ok _ (w.alloc (.cells (madeCells #[Value.int .u8 0] 512) _)) = _
        rw [made_one]; rfl
      have HZZ := Lib.hid hzz
      clear hzz
      go_enter Tryz.func59, Tryz.ntmps59
      go_wp2_with (first | (go_at_call 84; refine HCK.out.mono ?_; rintro e W ⟨rfl, rfl⟩) | (go_at_call 82; refine HSP.out.mono ?_; rintro e W2 ⟨rfl, hd2, ho2⟩; have HCP := copy_prep W2 HZZ.out (HB.out.1.keep HB.out.2.2 (ho2.same (by decide))) HB.out.2.1; have HD2 := Lib.hid (And.intro hd2 ho2); obtain ⟨SU, v, h1, h2, h3, h4⟩ := hd2.ex; have HEX := Lib.hid (And.intro h1 (And.intro h2 (And.intro h3 h4))); clear hd2 ho2 h1 h2 h3 h4) | (refine wpList_copy_splice rfl _ _ 49 49 rfl 5 Tryz.underlying49 (by kernel_rfl) (some ⟨W2.heap.size, 0, none⟩) bo 512 512 512 bc rfl rfl W2.heap.size 0 (List.replicate 512 (Value.int .u8 0)) 5 HCP.out.blk (b.map u8V) HCP.out.len HCP.out.src HCP.out.fit (u8_one b) W2.heap.size W2 HCP.out.bel (Nat.le_refl _) ?_; intro W3 hW3 hbW3; have HW3 := Lib.hid hbW3; have d1 : W3.cell? ⟨D, 1, none⟩ = some v := (HEX.out.1.on hbW3).cell 1; obtain ⟨v', W4, hwp⟩ := wprep (B := B) (by have := HEX.out.1.lt; have := HD2.out.1.base; have := hbW3.size; omega) (by rw [(spend_same d).2]; have := HPP.out.2; omega) hW3 (HEX.out.2.2.2.on hbW3) HB.out.2.1 pos; obtain ⟨ao', c', hv', -, -⟩ := hwp.gath.seq; subst hv'; have HWP := Lib.hid hwp; clear hbW3 hW3 hmk hwp) | (at_builtin; refine wpList_append_run rfl _ _ _ rfl _ _ rfl rfl HWP.out.run ?_; have d1' := dcell1 HEX.out.1 HW3.out HWP.out; have f1' := dfree1 HEX.out.1 HW3.out HWP.out; clear d1))
      go_ret
      obtain ⟨g1, g2⟩ := dwrite_law HD2.out.1 HEX.out.1 HEX.out.2.1 HEX.out.2.2.1 HW3.out HWP.out HB.out.2.1 (by rw [(spend_same d).1]; exact HPP.out.1) (by rw [(spend_same d).2]; exact HPP.out.2)
      rw [List.length_append, List.length_singleton] at g1 g2
      have g3 := HD2.out.2.trans g2
      refine ⟨ret_int HE.out.1.symm, ?_, g3⟩
      rw [HE.out.2, ← (spend_same d).2]
      exact g1
end
section
open Go.ChangeShapes Go.WideShapes Go.ChangeAt Go.RowKit
theorem settle_list {l : List (List UInt8 × Bool)} (hl : ∀ s ∈ l, s.1.length = 512) {k : Nat} (hk : k < l.length) (b : List UInt8) (hb : b.length = 512) (torn : Bool) :
    splice ((sectL l).set (k * 513 + 512) (.bool torn)) (k * 513) (b.map u8V) = sectL (l.set k (b, torn)) := by
  have hlen := sect_len hl
  rw [sect_set hl k hk, splice, List.length_map, hb, List.take_set_of_le (by omega), List.drop_eq_getElem_cons (by rw [List.length_set]; omega), List.getElem_set_self, List.drop_set_of_lt (by omega)]
  simp [secL, List.append_assoc]
/-- a copy as one step of a region that draws its order; the world is told just so -/
theorem step_copy_row {P : Program} {ops : Array Oper} {o : Oper} {a : Act} {w : World} {K : Act → World → Prop} {Q : Exit → Act → World → Prop} {E : Prop} (hgd : o.guard = none) (d s : Operand) (dT sT : TypeId)
    (ho : o.op = .call { callee := .builtin .copy, args := #[d, s], argTypes := #[dT, sT] }) (elem : TypeId) (hu : P.underlying dT = some (.slice elem)) (hsz : (P.info? elem).map (·.size) = some 1)
    (ad : Addr) (dLen dCap sLen sCap g off : Nat) (hd : a.eval d = .slice (some ⟨g, off, none⟩) dLen dCap) (hs : a.eval s = .slice (some ad) sLen sCap)
    (cur : List Value) (t : TypeId) (hg : w.heap[g]? = some (.cells cur.toArray t (0, 0))) (cs : List Value) (hn : cs.length = Nat.min sLen dLen)
    (hsrc : ∀ j v, cs[j]? = some v → w.cell? (ad.add j) = some v) (hfit : off + cs.length ≤ cur.length) (h1 : ∀ v ∈ cs, v.oneCell' = true)
    (h : K (a.put o.dst (goInt cs.length)) (w.setRow g (splice cur off cs).toArray)) :
    if Region.wanted o (yielded ops a.tmps) = true then Oper.wp P o a w K Q else E := by
  have hw : Region.wanted o (yielded ops a.tmps) = true := by simp [Region.wanted, hgd]
  rw [if_pos hw]
  have hrun := run_copy_row (P := P) w dT sT o.type elem g off dLen dCap ad sLen sCap cur.toArray t cs hu hsz hg hn hsrc (by simpa using hfit) h1
  unfold Oper.wp
  simp [execOp, ho, resolve, invoke, builtin, hd, hs, hrun, Result.andThen]
  exact h
theorem settle_law {B D : Nat} {w w1 w2 : World} {d : DevP} (hd : IsDev B w D d) {SU : Nat} {v : Value} {cs : List Value} (hB : B ≤ SU)
    (h1 : Blk w1 D #[.slice (some ⟨SU, 0, none⟩) d.sure.length d.sure.length, v, .int .i64 (d.limit : Int), .bool d.down] 40) (h2 : Blk w1 SU cs.toArray 108) (h4 : Gath writeK [5] 71 B w1 v d.unsure)
    (g : w1.grownBy w2 (some SU)) {pos : Nat} {b : List UInt8} {torn : Bool} (h2' : Blk w2 SU (sectL (d.sure.set pos (b, torn))).toArray 108) (hb : b.length = 512) :
    IsDev B w2 D { d with sure := d.sure.set pos (b, torn) } ∧ Only [108] B w1 w2 := by
  have hD := h1.but g (tagged_ne (T := [40]) h2 (by decide) ⟨_, _, h1, List.mem_cons_self⟩)
  have hG := h4.step (Same.grown g (fun x ht e => by
    have e := Option.some.inj e
    subst e
    exact tagged_ne h2 (by decide) ht rfl))
  refine ⟨⟨⟨SU, v, ?_, h2', hB, hG⟩, hd.base, ?_, ?_, ?_, ?_, hd.lim, hd.cnt⟩, Only.but g h2 (by decide) hB⟩
  · rw [List.length_set]; exact hD
  · rw [List.length_set]; exact hd.pos
  · rw [List.length_set]; exact hd.le
  · intro s hs
    rcases List.mem_or_eq_of_mem_set hs with h | h
    · exact hd.lens s h
    · rw [h]; exact hb
  · intro u hu
    rw [List.length_set]
    exact hd.ulens u hu
set_option maxHeartbeats 16000000 in
set_option maxRecDepth 100000 in
theorem dsettle_any (w : World) (B D : Nat) (d : DevP) (hd : IsDev B w D d) (pos : Nat) (hp : pos < d.sure.length) (ao : Option Addr) (c : Nat) (b : List UInt8) (hb : Byts w ao 512 c b) (hbS : rowIn (tagged [71, 5] w) ao 512) (torn : Bool) :
    Calls Tryz.prog 27 #[.pointer (some ⟨D, 0, none⟩), .agg #[.int .i64 (pos : Int), .slice ao 512 c], .bool torn] w fun e w' => e = .returned (.tuple #[]) ∧ IsDev B w' D { d with sure := d.sure.set pos (b, torn) } ∧ Only [108] B w w' := by
  obtain ⟨SU, v, h1, h2, h3, h4⟩ := hd.ex
  have hal : Below w.heap.size w (w.alloc (.cells #[.int .i64 (pos : Int), .slice ao 512 c] 71)) := (Below.refl _ _).alloc (Nat.le_refl _) _
  have hA : Blk (w.alloc (.cells #[.int .i64 (pos : Int), .slice ao 512 c] 71)) w.heap.size #[.int .i64 (pos : Int), .slice ao 512 c] 71 := heap_alloc_new w _
  obtain ⟨n, hn⟩ : ∃ n, n = d.sure.length := ⟨_, rfl⟩
  have HD := Lib.hid (And.intro hd (And.intro h1 (And.intro h2 (And.intro h3 h4))))
  have c0 : (w.alloc (.cells #[.int .i64 (pos : Int), .slice ao 512 c] 71)).drew.cell? ⟨D, 0, none⟩ = some (.slice (some ⟨SU, 0, none⟩) n n) := by rw [hn]; exact (h1.on hal).cell 0
  have a0 : (w.alloc (.cells #[.int .i64 (pos : Int), .slice ao 512 c] 71)).drew.cell? ⟨w.heap.size, 0, none⟩ = some (.int .i64 (pos : Int)) := hA.cell 0
  have hsl := hd.lens _ (List.getElem_mem hp)
  have b1 : (w.alloc (.cells #[.int .i64 (pos : Int), .slice ao 512 c] 71)).drew.cell? ⟨SU, pos * 513 + 512, none⟩ = some (.bool (d.sure[pos]).2) := by
    show (w.alloc (.cells #[.int .i64 (pos : Int), .slice ao 512 c] 71)).cell? _ = _
    rw [(h2.on hal).cell, List.getElem?_toArray, sect_get hd.lens pos hp 512 (by omega), secL, List.getElem?_append_right (by simp [hsl])]
    simp [hsl]
  have b2 : (w.alloc (.cells #[.int .i64 (pos : Int), .slice ao 512 c] 71)).drew.frozen? ⟨SU, pos * 513 + 512, none⟩ = false := (h2.on hal).free _
  obtain ⟨t0, ht0⟩ : ∃ t0, t0 = (d.sure[pos]).2 := ⟨_, rfl⟩
  rw [← ht0] at b1
  have hpn : pos < n := by omega
  have hn4 : n ≤ 4096 := by have := hd.le; omega
  have HN := Lib.hid hn
  have HB := Lib.hid (And.intro hb hbS)
  clear hd h1 h2 h4 hb hbS hp hn hsl ht0
  obtain ⟨ad, rfl⟩ : ∃ ad, ao = some ad := by
    obtain ⟨b0, off, e⟩ := HB.out.1.addr (k := 0) (by omega)
    exact ⟨_, e⟩
  have hg1 := but_set (w.alloc (.cells #[.int .i64 (pos : Int), .slice (some ad) 512 c] 71)) SU (pos * 513 + 512) (.bool torn)
  have h2a := HD.out.2.2.1.on hal
  have hdr : ∀ Z : World, Below Z.heap.size Z Z.drew := fun Z => Below.drew (Below.refl _ _)
  have hS0 := h2a.set (pos * 513 + 512) (.bool torn)
  have hS := hS0.on (hdr _)
  rw [List.setIfInBounds_toArray] at hS
  have hDev := ((HD.out.2.1.on hal).but hg1 (tagged_ne (T := [40]) h2a (by decide) ⟨_, _, HD.out.2.1.on hal, List.mem_cons_self⟩)).on (hdr _)
  have hBox := (hA.but hg1 (tagged_ne (T := [71]) h2a (by decide) ⟨_, _, hA, List.mem_cons_self⟩)).on (hdr _)
  have hBW : B ≤ w.heap.size := by have := HD.out.1.base; have := HD.out.2.1.lt; omega
  have hOn : Only [108] B w ((w.alloc (.cells #[.int .i64 (pos : Int), .slice (some ad) 512 c] 71)).setCell ⟨SU, pos * 513 + 512, none⟩ (.bool torn)).drew := ((Only.below hal hBW).trans (Only.but hg1 h2a (by decide) h3)).trans (Only.below (Below.drew (Below.refl _ _)) (by have := hal.size; have := hg1.size; omega))
  have hGa : Gath writeK [5] 71 B ((w.alloc (.cells #[.int .i64 (pos : Int), .slice (some ad) 512 c] 71)).setCell ⟨SU, pos * 513 + 512, none⟩ (.bool torn)).drew v d.unsure := ((HD.out.2.2.2.2.on hal).step (Same.grown hg1 (fun x ht e => by
    have e := Option.some.inj e
    subst e
    exact tagged_ne h2a (by decide) ht rfl))).on (Below.drew (Below.refl _ _))
  have hBy : Byts ((w.alloc (.cells #[.int .i64 (pos : Int), .slice (some ad) 512 c] 71)).setCell ⟨SU, pos * 513 + 512, none⟩ (.bool torn)).drew (some ad) 512 c b := HB.out.1.keep HB.out.2 (hOn.same (by decide))
  have HZ := Lib.hid (And.intro hS (And.intro hDev (And.intro hBox (And.intro hOn (And.intro hGa hBy)))))
  clear hg1 h2a hS hDev hBox hBW hOn hGa hBy hal hA
  go_enter Tryz.func27, Tryz.ntmps27
  go_wp2_with fail
  go_region
  go_wp2_with fail
  clear c0 a0 b1 b2
  generalize ((w.alloc (.cells #[.int .i64 (pos : Int), .slice (some ad) 512 c] 71)).setCell ⟨SU, pos * 513 + 512, none⟩ (.bool torn)).drew = Z at HZ ⊢
  have z1 : Z.drew.cell? ⟨w.heap.size, 1, none⟩ = some (.slice (some ad) 512 c) := HZ.out.2.2.1.cell 1
  have hlen := HZ.out.2.2.2.2.2.hlen
  rw [List.length_map] at hlen
  have hsl := sect_len HD.out.1.lens
  have hc1 : (b.map u8V).length = Nat.min 512 512 := by rw [List.length_map, hlen]; rfl
  have hc2 : ∀ j v, (b.map u8V)[j]? = some v → Z.drew.cell? (ad.add j) = some v := fun j v hj => by
    obtain ⟨_, ad', e, h⟩ := byts_src HZ.out.2.2.2.2.2 0 (by rw [List.length_map, hlen]; omega)
    cases e
    exact h j v hj
  have hc3 : pos * 513 + (b.map u8V).length ≤ ((sectL d.sure).set (pos * 513 + 512) (Value.bool torn)).length := by rw [List.length_map, hlen, List.length_set, hsl, ← HN.out]; omega
  have HC := Lib.hid (And.intro hc1 (And.intro hc2 (And.intro hc3 hlen)))
  clear hlen hsl hc1 hc2 hc3
  go_region_law (refine step_copy_row rfl (.tmp 21) (.tmp 23) 49 49 rfl 5 Tryz.underlying49 (by kernel_rfl) ad 512 512 512 c SU (pos * 513) rfl rfl ((sectL d.sure).set (pos * 513 + 512) (Value.bool torn)) 108 HZ.out.1 (b.map u8V) HC.out.1 HC.out.2.1 HC.out.2.2.1 (u8_one b) ?_)
  have HL := Lib.hid (settle_list HD.out.1.lens (show pos < d.sure.length by have := HN.out; omega) b HC.out.2.2.2 torn)
  have hZ : Below Z.heap.size Z Z.drew := hdr Z
  generalize hZZ : Z.drew = Y at hZ ⊢
  have s1 := HZ.out.1.on hZ
  rw [HL.out]
  have g := but_setRow Y SU (sectL (d.sure.set pos (b, torn))).toArray
  have HF := Lib.hid (settle_law HD.out.1 h3 (HZ.out.2.1.on hZ) s1 (HZ.out.2.2.2.2.1.on hZ) g (blk_setRow s1 _) HC.out.2.2.2)
  go_wp2_with fail
  go_end0
  refine ⟨rfl, HF.out.1, (HZ.out.2.2.2.1.trans (Only.below hZ ?_)).trans HF.out.2⟩
  have := HZ.out.2.2.2.1.bel.size
  have := HD.out.1.base
  have := HD.out.2.1.lt
  omega
end
section
open Go.ChangeShapes Go.WideShapes Go.ChangeAt Go.RowKit
/-- the first t writes, each as f says -/
def setN (f : Nat → Option Bool) (us : List (Nat × List UInt8)) (s : List (List UInt8 × Bool)) : Nat → List (List UInt8 × Bool)
  | 0 => s
  | t + 1 => match us[t]?, f t with
    | some u, some b => (setN f us s t).set u.1 (u.2, b)
    | _, _ => setN f us s t
theorem setN_len (f : Nat → Option Bool) (us : List (Nat × List UInt8)) (s : List (List UInt8 × Bool)) (t : Nat) : (setN f us s t).length = s.length := by
  induction t with
  | zero => rfl
  | succ t ih =>
    rw [setN]
    split
    · rw [List.length_set, ih]
    · exact ih
def syncP (d : DevP) : DevP := if d.down = true then d else if spendOk d = true then { spendP d with sure := setN (fun _ => some false) d.unsure d.sure d.unsure.length, unsure := [] } else spendP d
def syncE (d : DevP) : Int := if d.down = true then 8 else if spendOk d = true then 0 else 8
/-- what is not sure is no more -/
theorem clear_law {B : Nat} {w w' : World} {D SU l' : Nat} {d : DevP} {dn' : Bool} (hd : IsDev B w D d) (h2 : Blk w SU (sectL d.sure).toArray 108) (h3 : B ≤ SU) {cs : Array Value} (h1 : Blk w D cs 40)
    (hg : w.grownBy w' (some D)) (hB : Blk w' D #[.slice (some ⟨SU, 0, none⟩) d.sure.length d.sure.length, .slice none 0 0, .int .i64 (l' : Int), .bool dn'] 40) (hl : l' ≤ 1000000000) : IsDev B w' D { d with unsure := [], limit := l', down := dn' } ∧ Only dvT B w w' := by
  have hne : SU ≠ D := tagged_ne (T := [108]) h1 (by decide) ⟨_, _, h2, List.mem_cons_self⟩
  exact ⟨⟨⟨SU, _, hB, h2.but hg hne, h3, Gath.nil _ _ _ _ _⟩, hd.base, hd.pos, hd.le, hd.lens, fun u hu => absurd hu List.not_mem_nil, hl, Nat.zero_le _⟩, Only.but hg h1 (by decide) hd.base⟩
set_option maxHeartbeats 16000000 in
set_option maxRecDepth 100000 in
theorem dsync_any (w : World) (B D : Nat) (d : DevP) (hd : IsDev B w D d) :
    Calls Tryz.prog 51 #[.pointer (some ⟨D, 0, none⟩)] w fun e w' => e = .returned (.int .i64 (syncE d)) ∧ IsDev B w' D (syncP d) ∧ Only dvT B w w' := by
  have c3 : w.cell? ⟨D, 3, none⟩ = some (.bool d.down) := by obtain ⟨SU, v, h1, _⟩ := hd.ex; exact h1.cell 3
  cases hdn : d.down with
  | true =>
    have HE := Lib.hid (show syncE d = 8 ∧ syncP d = d by simp [syncE, syncP, hdn])
    rw [hdn] at c3
    have HD := Lib.hid hd
    clear hd hdn
    go_enter Tryz.func51, Tryz.ntmps51
    go_wp2_with fail
    go_ret
    exact ⟨ret_int HE.out.1.symm, by rw [HE.out.2]; exact HD.out, Only.refl _ _ _⟩
  | false =>
    rw [hdn] at c3
    have HSP := Lib.hid (dspend_any w B D d hd)
    cases hok : spendOk d with
    | false =>
      have HE := Lib.hid (show syncE d = 8 ∧ syncP d = spendP d by simp [syncE, syncP, hdn, hok])
      rw [hok] at HSP
      clear hd hdn hok
      go_enter Tryz.func51, Tryz.ntmps51
      go_wp2_with (go_at_call 82; refine HSP.out.mono ?_; rintro e W2 ⟨rfl, hd2, ho2⟩; have HD2 := Lib.hid (And.intro hd2 ho2); clear hd2 ho2)
      go_ret
      exact ⟨ret_int HE.out.1.symm, by rw [HE.out.2]; exact HD2.out.1, HD2.out.2⟩
    | true =>
      have HE := Lib.hid (show syncE d = 0 ∧ syncP d = { spendP d with sure := setN (fun _ => some false) (spendP d).unsure (spendP d).sure (spendP d).unsure.length, unsure := [] } by simp [syncE, syncP, hdn, hok, (spend_same d).1, (spend_same d).2])
      rw [hok] at HSP
      clear hd hdn hok
      go_enter Tryz.func51, Tryz.ntmps51
      go_wp2_with (go_at_call 82; refine HSP.out.mono ?_; rintro e W2 ⟨rfl, hd2, ho2⟩; generalize spendP d = q at hd2 HE; obtain ⟨SU, v, h1, h2, h3, h4⟩ := hd2.ex; obtain ⟨ao, c, hv, hsq, hab⟩ := h4.seq; subst hv; have c1 : W2.cell? ⟨D, 1, none⟩ = some (.slice ao q.unsure.length c) := h1.cell 1; have hle := hsq.hle; have hcnt := hd2.cnt; obtain ⟨n, hn⟩ : ∃ n, n = q.unsure.length := ⟨_, rfl⟩; rw [← hn] at c1 hle hcnt; have HN := Lib.hid hn; have HD2 := Lib.hid (And.intro hd2 (And.intro ho2 (And.intro h1 hsq))); clear hd2 ho2 h1 h2 h3 h4 hsq hab hn)
      go_loopw [23] (fun i wr => ∃ t : Nat, t ≤ n ∧ i = .int .i64 (t : Int) ∧ Hid (IsDev B wr D { q with sure := setN (fun _ => some false) q.unsure q.sure t } ∧ Only [108] B W2 wr)) (fun i _ => (n - intOf i).toNat)
      case atStart => exact ⟨0, Nat.zero_le _, rfl, Lib.hid ⟨HD2.out.1, Only.refl _ _ _⟩⟩
      case round =>
        obtain ⟨t, ht, rfl, hinv⟩ := hrel
        by_cases h0 : t = n
        · obtain ⟨SU2, v2, k1, k2, k3, k4⟩ := hinv.out.1.ex
          have f1 := k1.free 1
          have m1 := k1.cell 1
          simp at m1
          have HF := Lib.hid (clear_law hinv.out.1 k2 k3 k1 (but_set wr D 1 (.slice none 0 0)) (by simpa using k1.set 1 (.slice none 0 0)) hinv.out.1.lim)
          have HT := Lib.hid h0
          subst h0
          clear k1 k2 k4
          go_wp2_with fail
          go_ret
          refine ⟨ret_int HE.out.1.symm, ?_, ?_⟩
          · rw [HE.out.2, ← HN.out]
            exact HF.out.1
          · have h1 := HD2.out.2.1.bel.size
            exact (HD2.out.2.1.trans (hinv.out.2.mono (by decide))).trans HF.out.2
        · have hlt : t < n := by omega
          have hru : t < q.unsure.length := by rw [← HN.out]; exact hlt
          have hsq := HD2.out.2.2.2.step (hinv.out.2.same (by decide))
          obtain ⟨b0, off, rfl⟩ := hsq.addr hru
          obtain ⟨k, hk1, hk2, hk3⟩ := hsq.at hru
          have e0 := hk1 0 (by decide)
          have e1 := hk1 1 (by decide)
          simp [writeK] at e0 e1
          obtain ⟨u, hu⟩ : ∃ u, u = q.unsure[t] := ⟨_, rfl⟩
          rw [← hu] at e0 hk2
          have hul := HD2.out.1.ulens u (by rw [hu]; exact List.getElem_mem _)
          have hu2 : q.unsure[t]? = some u := by rw [hu]; exact List.getElem?_eq_getElem hru
          have HU := Lib.hid (And.intro hu2 (And.intro hul (And.intro hk2 hk3)))
          clear hk1 hk2 hk3 hu hu2 hul hru hsq h0
          have hset := fun (Z : World) (hZ : Below wr.heap.size wr Z) => dsettle_any Z B D _ (hinv.out.1.on hZ) u.1 (by show u.1 < (setN _ _ _ _).length; rw [setN_len]; exact HU.out.2.1.2) k.1 k.2 u.2 (HU.out.2.2.1.below hZ (Nat.le_refl _)) (rowIn.mono HU.out.2.2.2 HU.out.2.2.1 (fun b hb ht => tagged_keep ht (hZ.block b hb))) false
          have HSET := Lib.hid hset
          clear hset
          go_wp2_with (go_at_call 27; refine (HSET.out _ ((Below.refl _ _).alloc (Nat.le_refl _) _)).mono ?_; rintro e W3 ⟨rfl, hd3, ho3⟩; have H3 := Lib.hid (And.intro hd3 ho3); clear hd3 ho3)
          have hnx : Hid (IsDev B W3 D { q with sure := setN (fun _ => some false) q.unsure q.sure (t + 1) } ∧ Only [108] B W2 W3) := Lib.hid (by
            have hs : setN (fun _ => some false) q.unsure q.sure (t + 1) = (setN (fun _ => some false) q.unsure q.sure t).set u.1 (u.2, false) := by rw [setN, HU.out.1]
            rw [hs]
            have h1 := hinv.out.1.base
            obtain ⟨_, _, h2, _⟩ := hinv.out.1.ex
            have h3 := h2.lt
            exact ⟨H3.out.1, (hinv.out.2.trans (Only.below ((Below.refl _ _).alloc (Nat.le_refl _) _) (by omega))).trans H3.out.2⟩)
          have hcast : (t : Int) + 1 = ((t + 1 : Nat) : Int) := by omega
          go_roundw
          case rel => exact ⟨t + 1, hlt, by simp, hnx⟩
          case measure => simp [intOf]; omega
end
section
open Go.ChangeShapes Go.WideShapes Go.ChangeAt Go.RowKit
def bitP (m t : Nat) : Bool := decide (m / 2 ^ (t % 64) % 2 = 1)
/-- which writes are done: torn, or whole -/
def crashF (m tn t : Nat) : Option Bool := if bitP tn t = true then some true else if bitP m t = true then some false else none
def crashP (d : DevP) (m tn : Nat) : DevP := { sure := setN (crashF m tn) d.unsure d.sure d.unsure.length, unsure := [], limit := 0, down := false }
theorem u64bit {m : Nat} (hm : m < 18446744073709551616) (t : Nat) : (bits BinOp.and IntKind.u64 ((m : Int) / 2 ^ (t % 64)) 1 == 1) = bitP m t := by
  have h1 : (m : Int) / 2 ^ (t % 64) = ((m / 2 ^ (t % 64) : Nat) : Int) := by push_cast; rfl
  have h2 : m / 2 ^ (t % 64) < 18446744073709551616 := Nat.lt_of_le_of_lt (Nat.div_le_self _ _) hm
  rw [h1, show (1 : Int) = ((1 : Nat) : Int) from rfl, u64_and_nat _ 1 h2 (by omega), Nat.and_one_is_mod, bitP, Bool.eq_iff_iff]
  simp
  omega
set_option maxHeartbeats 16000000 in
set_option maxRecDepth 100000 in
theorem dcrash_any (w : World) (B D : Nat) (q : DevP) (hd2 : IsDev B w D q) (m tn : Nat) (hm : m < 18446744073709551616) (htn : tn < 18446744073709551616) :
    Calls Tryz.prog 10 #[.pointer (some ⟨D, 0, none⟩), .int .u64 (m : Int), .int .u64 (tn : Int)] w fun e w' => e = .returned (.int .i64 0) ∧ IsDev B w' D (crashP q m tn) ∧ Only dvT B w w' := by
  obtain ⟨SU, v, h1, h2, h3, h4⟩ := hd2.ex
  obtain ⟨ao, c, hv, hsq, hab⟩ := h4.seq
  subst hv
  have c1 : w.cell? ⟨D, 1, none⟩ = some (.slice ao q.unsure.length c) := h1.cell 1
  have hle := hsq.hle
  have hcnt := hd2.cnt
  obtain ⟨n, hn⟩ : ∃ n, n = q.unsure.length := ⟨_, rfl⟩
  rw [← hn] at c1 hle hcnt
  have HN := Lib.hid hn
  have HD2 := Lib.hid (And.intro hd2 (And.intro h1 hsq))
  clear hd2 h1 h2 h3 h4 hsq hab hn
  go_enter Tryz.func10, Tryz.ntmps10
  go_wp2_with fail
  go_loopw [17] (fun i wr => ∃ t : Nat, t ≤ n ∧ i = .int .i64 (t : Int) ∧ Hid (IsDev B wr D { q with sure := setN (crashF m tn) q.unsure q.sure t } ∧ Only [108] B w wr)) (fun i _ => (n - intOf i).toNat)
  case atStart => exact ⟨0, Nat.zero_le _, rfl, Lib.hid ⟨HD2.out.1, Only.refl _ _ _⟩⟩
  case round =>
    obtain ⟨t, ht, rfl, hinv⟩ := hrel
    by_cases h0 : t = n
    · obtain ⟨SU2, v2, k1, k2, k3, k4⟩ := hinv.out.1.ex
      have f1 := k1.free 1
      have f2 := k1.free 2
      have f3 := k1.free 3
      have m1 := k1.cell 1
      have m2 := k1.cell 2
      have m3 := k1.cell 3
      simp at m1 m2 m3
      have s1 := k1.set 1 (.slice none 0 0)
      have s2 := s1.set 2 (.int .i64 0)
      have s3 := s2.set 3 (.bool false)
      have HF := Lib.hid (clear_law (l' := 0) (dn' := false) hinv.out.1 k2 k3 k1 (but_trans (but_set wr D 1 (.slice none 0 0)) (but_trans (but_set (wr.setCell ⟨D, 1, none⟩ (.slice none 0 0)) D 2 (.int .i64 0)) (but_set ((wr.setCell ⟨D, 1, none⟩ (.slice none 0 0)).setCell ⟨D, 2, none⟩ (.int .i64 0)) D 3 (.bool false)))) (by simpa using s3) (by omega))
      subst h0
      clear k1 k2 k4 s1 s2 s3
      go_wp2_with fail
      go_ret
      refine ⟨rfl, ?_, (hinv.out.2.mono (by decide)).trans HF.out.2⟩
      rw [crashP, ← HN.out]
      exact HF.out.1
    · have hlt : t < n := by omega
      have hru : t < q.unsure.length := by rw [← HN.out]; exact hlt
      have hsq := HD2.out.2.2.step (hinv.out.2.same (by decide))
      obtain ⟨b0, off, rfl⟩ := hsq.addr hru
      obtain ⟨k, hk1, hk2, hk3⟩ := hsq.at hru
      have e0 := hk1 0 (by decide)
      have e1 := hk1 1 (by decide)
      simp [writeK] at e0 e1
      obtain ⟨u, hu⟩ : ∃ u, u = q.unsure[t] := ⟨_, rfl⟩
      rw [← hu] at e0 hk2
      have hul := HD2.out.1.ulens u (by rw [hu]; exact List.getElem_mem _)
      have hu2 : q.unsure[t]? = some u := by rw [hu]; exact List.getElem?_eq_getElem hru
      have HU := Lib.hid (And.intro hu2 (And.intro hul (And.intro hk2 hk3)))
      clear hk1 hk2 hk3 hu hu2 hul hru hsq h0
      have hset := fun (Z : World) (hZ : Below wr.heap.size wr Z) => dsettle_any Z B D _ (hinv.out.1.on hZ) u.1 (by show u.1 < (setN _ _ _ _).length; rw [setN_len]; exact HU.out.2.1.2) k.1 k.2 u.2 (HU.out.2.2.1.below hZ (Nat.le_refl _)) (rowIn.mono HU.out.2.2.2 HU.out.2.2.1 (fun b hb ht => tagged_keep ht (hZ.block b hb)))
      have HSET := Lib.hid hset
      have hal : Below wr.heap.size wr (wr.alloc (.cells #[.int .i64 (u.1 : Int), .slice k.1 512 k.2] 71)) := (Below.refl _ _).alloc (Nat.le_refl _) _
      have HAL := Lib.hid hal
      clear hset hal
      have hBW : Hid (B ≤ wr.heap.size) := Lib.hid (by
        have h1 := hinv.out.1.base
        obtain ⟨_, _, h2, _⟩ := hinv.out.1.ex
        have h3 := h2.lt
        omega)
      have hbt := u64bit htn t
      have hbm := u64bit hm t
      cases htb : bitP tn t with
      | true =>
        rw [htb] at hbt
        have HS := Lib.hid (show setN (crashF m tn) q.unsure q.sure (t + 1) = (setN (crashF m tn) q.unsure q.sure t).set u.1 (u.2, true) by rw [setN, HU.out.1, crashF, if_pos htb])
        clear htb
        go_wp2_with (go_at_call 27; refine (HSET.out _ HAL.out true).mono ?_; rintro e W3 ⟨rfl, hd3, ho3⟩; have hnx : Hid (IsDev B W3 D { q with sure := setN (crashF m tn) q.unsure q.sure (t + 1) } ∧ Only [108] B w W3) := Lib.hid (by rw [HS.out]; exact ⟨hd3, (hinv.out.2.trans (Only.below HAL.out hBW.out)).trans ho3⟩); clear hd3 ho3 hbt hbm)
        go_roundw
        case rel => exact ⟨t + 1, hlt, by simp, hnx⟩
        case measure => simp [intOf]; omega
      | false =>
        rw [htb] at hbt
        cases hmb : bitP m t with
        | true =>
          rw [hmb] at hbm
          have HS := Lib.hid (show setN (crashF m tn) q.unsure q.sure (t + 1) = (setN (crashF m tn) q.unsure q.sure t).set u.1 (u.2, false) by rw [setN, HU.out.1, crashF, if_neg (by rw [htb]; decide), if_pos hmb])
          clear htb hmb
          go_wp2_with (go_at_call 27; refine (HSET.out _ HAL.out false).mono ?_; rintro e W3 ⟨rfl, hd3, ho3⟩; have hnx : Hid (IsDev B W3 D { q with sure := setN (crashF m tn) q.unsure q.sure (t + 1) } ∧ Only [108] B w W3) := Lib.hid (by rw [HS.out]; exact ⟨hd3, (hinv.out.2.trans (Only.below HAL.out hBW.out)).trans ho3⟩); clear hd3 ho3 hbt hbm)
          go_roundw
          case rel => exact ⟨t + 1, hlt, by simp, hnx⟩
          case measure => simp [intOf]; omega
        | false =>
          rw [hmb] at hbm
          have hnx : Hid (IsDev B (wr.alloc (.cells #[.int .i64 (u.1 : Int), .slice k.1 512 k.2] 71)) D { q with sure := setN (crashF m tn) q.unsure q.sure (t + 1) } ∧ Only [108] B w (wr.alloc (.cells #[.int .i64 (u.1 : Int), .slice k.1 512 k.2] 71))) := Lib.hid (by
            rw [show setN (crashF m tn) q.unsure q.sure (t + 1) = setN (crashF m tn) q.unsure q.sure t by rw [setN, HU.out.1, crashF, if_neg (by rw [htb]; decide), if_neg (by rw [hmb]; decide)]]
            exact ⟨hinv.out.1.on HAL.out, hinv.out.2.trans (Only.below HAL.out hBW.out)⟩)
          clear htb hmb
          go_wp2_with fail
          go_roundw
          case rel => exact ⟨t + 1, hlt, by simp, hnx⟩
          case measure => simp [intOf]; omega
end
section
open Go.ChangeShapes Go.WideShapes Go.ChangeAt Go.RowKit
def zeroS : List UInt8 × Bool := (List.replicate 512 0, false)
def newD (n : Nat) : DevP := { sure := List.replicate n zeroS, unsure := [], limit := 0, down := false }
theorem secInfo : ∃ (i0 : TypeInfo), Tryz.prog.info? 108 = some i0 ∧ i0.size = 513 ∧ i0.bytes ≤ 1000 ∧ i0.zero.map (·.cells.toList) = some ((List.replicate 512 (Value.int .u8 0)) ++ [.bool false]) := by
  have h : (Tryz.prog.info? 108).map (fun i => (i.size, decide (i.bytes ≤ 1000), i.zero.map (·.cells.toList))) = some (513, true, some ((List.replicate 512 (Value.int .u8 0)) ++ [.bool false])) := by kernel_rfl
  obtain ⟨i0, h1, h2⟩ := Option.map_eq_some_iff.1 h
  simp only [Prod.mk.injEq, decide_eq_true_eq] at h2
  exact ⟨i0, h1, h2.1, h2.2.1, h2.2.2⟩
theorem zero_lens (n : Nat) : ∀ s ∈ List.replicate n zeroS, s.1.length = 512 := fun s hs => by rw [List.eq_of_mem_replicate hs]; exact List.length_replicate
theorem made_sect {z : Array Value} (hz : z.toList = (List.replicate 512 (Value.int .u8 0)) ++ [.bool false]) (n : Nat) : madeCells z (n * 513) = (sectL (List.replicate n zeroS)).toArray := by
  have hzz : z.toList = secL zeroS := by
    have h0 : u8V 0 = .int .u8 0 := rfl
    rw [hz, secL, zeroS, List.map_replicate, h0]
  have hzs : z.size = 513 := by rw [← Array.length_toList, hz, List.length_append, List.length_replicate]; rfl
  have hl := sect_len (zero_lens n)
  rw [List.length_replicate] at hl
  apply Array.ext
  · simp [madeCells, hl]
  · intro i h1 h2
    have hi : i < n * 513 := by simpa [madeCells] using h1
    have hk : i / 513 < n := by omega
    have hj : i % 513 < 513 := Nat.mod_lt _ (by omega)
    have h3 := sect_get (zero_lens n) (i / 513) (by simpa using hk) (i % 513) hj
    rw [show i / 513 * 513 + i % 513 = i from by omega, List.getElem_replicate, ← hzz] at h3
    have h4 : (madeCells z (n * 513))[i]? = z.toList[i % 513]? := by
      rw [madeCells, Array.getElem?_map]
      simp [hi, hzs, hj, getElem!_pos]
    apply Option.some.inj
    rw [← Array.getElem?_eq_getElem h1, ← Array.getElem?_eq_getElem h2, h4, List.getElem?_toArray, h3]
set_option maxHeartbeats 16000000 in
set_option maxRecDepth 100000 in
theorem dnew_any (w : World) (n : Nat) (hn : 1 ≤ n) (hn4 : n ≤ 4096) :
    Calls Tryz.prog 4 #[.int .i64 (n : Int)] w fun e w' => (∃ D, e = .returned (.tuple #[.pointer (some ⟨D, 0, none⟩), .int .i64 0]) ∧ IsDev w.heap.size w' D (newD n)) ∧ Below w.heap.size w w' := by
  obtain ⟨i0, hi, hz0, hz1, hz2⟩ := secInfo
  obtain ⟨z, hz, hzc⟩ := Option.map_eq_some_iff.1 hz2
  have hmk := run_make (P := Tryz.prog) w 37 108 i0 z Tryz.underlying37 hi hz .i64 .i64 (n : Int) (n : Int) (by omega) (by omega) (by have h := Nat.mul_le_mul hz1 hn4; have h2 : ((i0.bytes * n : Nat) : Int) = (i0.bytes : Int) * (n : Int) := Int.natCast_mul _ _; omega) (by omega)
  rw [hz0, Int.toNat_natCast, made_sect hzc n] at hmk
  obtain ⟨zz, hzz⟩ : ∃ zz, zz = (sectL (List.replicate n zeroS)).toArray := ⟨_, rfl⟩
  rw [← hzz] at hmk
  have HZ := Lib.hid hzz
  clear hz2 hz hzc hi hz0 hz1 hzz
  go_enter Tryz.func4, Tryz.ntmps4
  go_wp2_with fail
  go_ret2
  have hZ := HZ.out
  subst hZ
  have ha1 : Below w.heap.size w (w.alloc (.cells (sectL (List.replicate n zeroS)).toArray 108)) := (Below.refl _ _).alloc (Nat.le_refl _) _
  have hb1 : Blk (w.alloc (.cells (sectL (List.replicate n zeroS)).toArray 108)) w.heap.size (sectL (List.replicate n zeroS)).toArray 108 := heap_alloc_new w _
  have hs1 : (w.alloc (.cells (sectL (List.replicate n zeroS)).toArray 108)).heap.size = w.heap.size + 1 := Array.size_push _
  generalize w.alloc (.cells (sectL (List.replicate n zeroS)).toArray 108) = W1 at ha1 hb1 hs1 ⊢
  rw [← hs1]
  have ha2 : Below W1.heap.size W1 (W1.alloc (.cells #[.slice (some ⟨w.heap.size, 0, none⟩) n n, .slice none 0 0, .int .i64 0, .bool false] 40)) := (Below.refl _ _).alloc (Nat.le_refl _) _
  have hb2 : Blk (W1.alloc (.cells #[.slice (some ⟨w.heap.size, 0, none⟩) n n, .slice none 0 0, .int .i64 0, .bool false] 40)) W1.heap.size #[.slice (some ⟨w.heap.size, 0, none⟩) n n, .slice none 0 0, .int .i64 0, .bool false] 40 := heap_alloc_new W1 _
  refine ⟨⟨_, rfl, ⟨⟨w.heap.size, _, ?_, hb1.on ha2, Nat.le_refl _, Gath.nil _ _ _ _ _⟩, by omega, ?_, ?_, zero_lens n, fun u hu => absurd hu List.not_mem_nil, Nat.zero_le _, Nat.zero_le _⟩⟩, ha1.trans (ha2.mono (by omega))⟩
  · rw [show (newD n).sure.length = n from List.length_replicate]; exact hb2
  · rw [show (newD n).sure.length = n from List.length_replicate]; omega
  · rw [show (newD n).sure.length = n from List.length_replicate]; omega
end
section
open Go.ChangeShapes Go.WideShapes Go.ChangeAt Go.RowKit
/-- the block of a log's beginning -/
structure SupP where
  gen : Int
  epoch : Int
  first : Int
  from' : Int
  count : Int
def supC (s : SupP) : Array Value := #[.int .i64 s.gen, .int .i64 s.epoch, .int .i64 s.first, .int .i64 s.from', .int .i64 s.count]
def numsC (b : Nat) : Array Value := #[.pointer (some ⟨b, 0, none⟩), .pointer (some ⟨b, 1, none⟩), .pointer (some ⟨b, 2, none⟩), .pointer (some ⟨b, 3, none⟩), .pointer (some ⟨b, 4, none⟩)]
theorem nums_results {tmps : Array Value} {w : World} {R b : Nat} (h2 : tmps[2]? = some (.pointer (some ⟨R, 0, none⟩))) (hB : Blk w R (numsC b) 114) :
    (results Tryz.f55 tmps).run Tryz.prog w = .ok (.agg (numsC b)) w := by
  have c0 := hB.cell 0
  have c1 := hB.cell 1
  have c2 := hB.cell 2
  have c3 := hB.cell 3
  have c4 := hB.cell 4
  simp [numsC] at c0 c1 c2 c3 c4
  have hlen : R < w.heap.size := hB.lt
  simp [results, go_sem, h2, c0, c1, c2, c3, c4, numsC]
set_option maxHeartbeats 16000000 in
set_option maxRecDepth 100000 in
theorem numbers_any (w : World) (b : Nat) :
    Calls Tryz.prog 55 #[.pointer (some ⟨b, 0, none⟩)] w fun e w' => e = .returned (.agg (numsC b)) ∧ Below w.heap.size w w' := by
  go_enter Tryz.func55, Tryz.ntmps55
  have hA : Blk (w.alloc (.cells #[.pointer none, .pointer none, .pointer none, .pointer none, .pointer none] 114)) w.heap.size #[.pointer none, .pointer none, .pointer none, .pointer none, .pointer none] 114 := heap_alloc_new w _
  have hal : Below w.heap.size w (w.alloc (.cells #[.pointer none, .pointer none, .pointer none, .pointer none, .pointer none] 114)) := (Below.refl _ _).alloc (Nat.le_refl _) _
  have HA := Lib.hid (And.intro hA hal)
  clear hA hal
  go_wp2_with fail
  generalize (w.alloc (.cells #[.pointer none, .pointer none, .pointer none, .pointer none, .pointer none] 114)) = Z at HA ⊢
  have c0 := HA.out.1.cell 0
  have c1 := HA.out.1.cell 1
  have c2 := HA.out.1.cell 2
  have c3 := HA.out.1.cell 3
  have c4 := HA.out.1.cell 4
  simp at c0 c1 c2 c3 c4
  have f0 := HA.out.1.free 0
  have f1 := HA.out.1.free 1
  have f2 := HA.out.1.free 2
  have f3 := HA.out.1.free 3
  have f4 := HA.out.1.free 4
  go_region
  clear c0 c1 c2 c3 c4 f0 f1 f2 f3 f4
  go_wp2_with fail
  have s1 := HA.out.1.set 0 (.pointer (some ⟨b, 0, none⟩))
  have s2 := s1.set 1 (.pointer (some ⟨b, 1, none⟩))
  have s3 := s2.set 2 (.pointer (some ⟨b, 2, none⟩))
  have s4 := s3.set 3 (.pointer (some ⟨b, 3, none⟩))
  have s5 := s4.set 4 (.pointer (some ⟨b, 4, none⟩))
  have g1 := but_set Z w.heap.size 0 (.pointer (some ⟨b, 0, none⟩))
  have g2 := but_trans g1 (but_set _ w.heap.size 1 (.pointer (some ⟨b, 1, none⟩)))
  have g3 := but_trans g2 (but_set _ w.heap.size 2 (.pointer (some ⟨b, 2, none⟩)))
  have g4 := but_trans g3 (but_set _ w.heap.size 3 (.pointer (some ⟨b, 3, none⟩)))
  have g5 := but_trans g4 (but_set _ w.heap.size 4 (.pointer (some ⟨b, 4, none⟩)))
  have hb := HA.out.2.trans (below_of_but g5 (Nat.le_refl _) HA.out.2.size)
  refine bodyPost_ret (v := .agg (numsC b)) (nums_results rfl (Blk.on (by simpa [numsC] using s5) (Below.drew (Below.refl _ _)))) rfl ⟨rfl, hb.trans (Below.drew (Below.refl _ _))⟩
end
section
open Go.ChangeShapes Go.WideShapes Go.ChangeAt Go.RowKit
def supAt (l : List UInt8) (t : Nat) : Int := (beN ((l.drop (t * 7)).take 7) : Int)
def supOf (l : List UInt8) : SupP := ⟨supAt l 0, supAt l 1, supAt l 2, supAt l 3, supAt l 4⟩
def zeroSup : SupP := ⟨0, 0, 0, 0, 0⟩
def supHead (h : HeadP) : Bool := h.kind == 1 && h.epoch == 0 && h.seq == 0 && h.part == 0 && h.parts == 1
def supOk (raw : List UInt8) : Bool := decide (openE raw = 0) && supHead (openH raw) && decide ((openD raw).length = 35)
/-- what read answers -/
def supRead (d : DevP) (pos : Nat) : SupP × Bool × Int := if d.down = true then (zeroSup, false, 8) else match readP d pos with
  | none => (zeroSup, false, 0)
  | some raw => if supOk raw = true then (supOf (openD raw), decide ((supOf (openD raw)).gen % 2 = (pos : Int)), 0) else (zeroSup, false, 0)
theorem supSize : (Tryz.prog.info? 77).map (·.size) = some 5 := by kernel_rfl
theorem supC_all (s : SupP) : (supC s).all (·.oneCell') = true := by simp [supC, Value.oneCell']
theorem supread_results {tmps : Array Value} {w : World} {R : Nat} {s : SupP} {b : Bool} {k : Int} (h4 : tmps[4]? = some (.pointer (some ⟨R, 0, none⟩))) (h5 : tmps[5]? = some (.bool b)) (h6 : tmps[6]? = some (.int .i64 k)) (hB : Blk w R (supC s) 77) :
    (results Tryz.f52 tmps).run Tryz.prog w = .ok (.tuple #[.agg (supC s), .bool b, .int .i64 k]) w := by
  have c0 := hB.cell 0
  have c1 := hB.cell 1
  have c2 := hB.cell 2
  have c3 := hB.cell 3
  have c4 := hB.cell 4
  simp [supC] at c0 c1 c2 c3 c4
  simp [results, go_sem, h4, h5, h6, c0, c1, c2, c3, c4, supC]
def supUp (l : List UInt8) (t : Nat) : Array Value := #[.int .i64 (if 0 < t then supAt l 0 else 0), .int .i64 (if 1 < t then supAt l 1 else 0), .int .i64 (if 2 < t then supAt l 2 else 0), .int .i64 (if 3 < t then supAt l 3 else 0), .int .i64 (if 4 < t then supAt l 4 else 0)]
theorem supUp_set (l : List UInt8) {t : Nat} (h : t < 5) : (supUp l t).setIfInBounds t (.int .i64 (supAt l t)) = supUp l (t + 1) := by
  match t, h with
  | 0, _ | 1, _ | 2, _ | 3, _ | 4, _ => simp [supUp]
theorem supUp_get (l : List UInt8) {t : Nat} (h : t < 5) : (supUp l t)[t]? = some (.int .i64 0) := by
  match t, h with
  | 0, _ | 1, _ | 2, _ | 3, _ | 4, _ => simp [supUp]
theorem nums_run (w : World) (b : Nat) {t : Nat} (h : t < 5) : (Instr.index 114 (.agg (numsC b)) (.int .i64 (t : Int))).run Tryz.prog w = .ok (.pointer (some ⟨b, t, none⟩)) w := by
  match t, h with
  | 0, _ | 1, _ | 2, _ | 3, _ | 4, _ => simp [Instr.index, run_underlying Tryz.underlying114, asIntOf, go_sem, numsC]
/-- a head's own block -/
theorem head_new (W : World) (h : HeadP) : Blk ((W.alloc (.cells (headC zeroH) 90)).setRow W.heap.size (headC h)) W.heap.size (headC h) 90 ∧ Below W.heap.size W ((W.alloc (.cells (headC zeroH) 90)).setRow W.heap.size (headC h)) := by
  have hal : Below W.heap.size W (W.alloc (.cells (headC zeroH) 90)) := (Below.refl _ _).alloc (Nat.le_refl _) _
  have hA : Blk (W.alloc (.cells (headC zeroH) 90)) W.heap.size (headC zeroH) 90 := heap_alloc_new W _
  exact ⟨blk_setRow hA _, hal.trans (below_of_but (but_setRow _ W.heap.size (headC h)) (Nat.le_refl _) hal.size)⟩
theorem sup_out {w W : World} {s : SupP} (hB : Blk W w.heap.size (supC s) 77) (hb : Below w.heap.size w W) (H : SupP) : Blk (W.setRow w.heap.size (supC H)) w.heap.size (supC H) 77 ∧ Below w.heap.size w (W.setRow w.heap.size (supC H)) :=
  ⟨blk_setRow hB (supC H), hb.trans (below_of_but (but_setRow W w.heap.size (supC H)) (Nat.le_refl _) hb.size)⟩
set_option maxHeartbeats 16000000 in
set_option maxRecDepth 100000 in
theorem supread_any (w : World) (B D : Nat) (d : DevP) (hd : IsDev B w D d) (pos : Nat) (hp : pos < d.sure.length) :
    Calls Tryz.prog 52 #[.pointer (some ⟨D, 0, none⟩), .int .i64 (pos : Int)] w fun e w' => e = .returned (.tuple #[.agg (supC (supRead d pos).1), .bool (supRead d pos).2.1, .int .i64 (supRead d pos).2.2]) ∧ Below w.heap.size w w' := by
  have hal : Below w.heap.size w (w.alloc (.cells (supC zeroSup) 77)) := (Below.refl _ _).alloc (Nat.le_refl _) _
  have hA : Blk (w.alloc (.cells (supC zeroSup) 77)) w.heap.size (supC zeroSup) 77 := heap_alloc_new w _
  have hRD := dread_any (w.alloc (.cells (supC zeroSup) 77)) B D d (hd.on hal) pos hp
  have HR := Lib.hid hRD
  have HA := Lib.hid (And.intro hA hal)
  clear hRD hA hal hd
  cases hdn : d.down with
  | true =>
    have HE := Lib.hid (show supRead d pos = (zeroSup, false, 8) by rw [supRead, if_pos hdn])
    have HDN := Lib.hid hdn
    clear hdn
    go_enter Tryz.func52, Tryz.ntmps52
    go_wp2_with (first | (go_at_call 53; refine HR.out.mono ?_; rintro e W hR; obtain rfl := hR.down HDN.out; have HB := Lib.hid (HA.out.2.trans (hR.bel.mono HA.out.2.size)); have HBK := Lib.hid (HA.out.1.on hR.bel); clear hR) | (refine wpList_store_row rfl 77 _ _ rfl w.heap.size (supC zeroSup) rfl rfl 77 (supC zeroSup) HBK.out supSize rfl (supC_all _) ?_))
    have HF := Lib.hid (sup_out HBK.out HB.out zeroSup)
    exact bodyPost_ret (supread_results rfl rfl rfl HF.out.1) rfl ⟨by rw [HE.out], HF.out.2⟩
  | false =>
    have HDN := Lib.hid hdn
    cases hrp : readP d pos with
    | none =>
      have HE := Lib.hid (show supRead d pos = (zeroSup, false, 0) by rw [supRead, if_neg (by rw [hdn]; decide), hrp])
      have HRP := Lib.hid hrp
      clear hdn hrp
      go_enter Tryz.func52, Tryz.ntmps52
      go_wp2_with (first | (go_at_call 53; refine HR.out.mono ?_; rintro e W hR; obtain rfl := hR.torn HDN.out HRP.out; have HB := Lib.hid (HA.out.2.trans (hR.bel.mono HA.out.2.size)); have HBK := Lib.hid (HA.out.1.on hR.bel); clear hR) | (refine wpList_store_row rfl 77 _ _ rfl w.heap.size (supC zeroSup) rfl rfl 77 (supC zeroSup) HBK.out supSize rfl (supC_all _) ?_))
      have HF := Lib.hid (sup_out HBK.out HB.out zeroSup)
      exact bodyPost_ret (supread_results rfl rfl rfl HF.out.1) rfl ⟨by rw [HE.out], HF.out.2⟩
    | some raw =>
      have hsr : supRead d pos = if supOk raw = true then (supOf (openD raw), decide ((supOf (openD raw)).gen % 2 = (pos : Int)), 0) else (zeroSup, false, 0) := by rw [supRead, if_neg (by rw [hdn]; decide), hrp]
      have HRP := Lib.hid hrp
      clear hdn hrp
      by_cases hoe : openE raw = 0
      · obtain ⟨hh0, hh⟩ : ∃ h, h = openH raw := ⟨_, rfl⟩
        obtain ⟨n, hn⟩ : ∃ n, n = (openD raw).length := ⟨_, rfl⟩
        by_cases hgd : supHead hh0 = true ∧ n = 35
        · have hh1 : hh0 = ⟨1, 0, 0, 0, 1⟩ := by
            obtain ⟨a, b, c, d, e⟩ := hh0
            have h1 := hgd.1
            simp [supHead] at h1
            obtain ⟨⟨⟨⟨rfl, rfl⟩, rfl⟩, rfl⟩, rfl⟩ := h1
            rfl
          have hn1 := hgd.2
          subst hh1
          subst hn1
          obtain ⟨l, hl⟩ : ∃ l, l = openD raw := ⟨_, rfl⟩
          have HE := Lib.hid (show supRead d pos = (supOf l, decide (supAt l 0 % 2 = (pos : Int)), 0) by
            rw [hsr, if_pos (by simp only [supOk, Bool.and_eq_true, decide_eq_true_eq]; exact ⟨⟨hoe, by rw [← hh]; decide⟩, hn.symm⟩), ← hl]; rfl)
          have HX := Lib.hid (And.intro hsr (And.intro hoe (And.intro hh (And.intro hn hl))))
          clear hsr hoe hh hn hgd hl
          go_enter Tryz.func52, Tryz.ntmps52
          go_wp2_with (first | (go_at_call 53; refine HR.out.mono ?_; rintro e W hR; obtain ⟨ao, c, rfl, ho, h512⟩ := hR.ok HDN.out raw HRP.out; have HB := Lib.hid (HA.out.2.trans (hR.bel.mono HA.out.2.size)); have HBK := Lib.hid (HA.out.1.on hR.bel); have HOP := Lib.hid (sopen_any W ao 512 c raw ho.row); clear hR ho h512) | (go_at_call 61; refine HOP.out.mono ?_; rintro e W2 hO; obtain ⟨ao2, c2, rfl, ho2⟩ := hO.ok HX.out.2.1; rw [← HX.out.2.2.1, ← HX.out.2.2.2.1]; have HO := Lib.hid (And.intro (below_on HB.out hO.bel (Nat.le_refl _)) (And.intro (HBK.out.on hO.bel) (And.intro ho2 HBK.out.lt))); clear hO ho2) | (refine wpList_store_row rfl 90 _ _ rfl W2.heap.size (headC ⟨1, 0, 0, 0, 1⟩) rfl rfl 90 (headC zeroH) (heap_alloc_new W2 _) headSize rfl (headC_all _) ?_; have hq := head_new W2 ⟨1, 0, 0, 0, 1⟩; (try change wpList _ _ _ _ _ ((W2.alloc (.cells (headC zeroH) 90)).setRow W2.heap.size (headC ⟨1, 0, 0, 0, 1⟩))); generalize (W2.alloc (.cells (headC zeroH) 90)).setRow W2.heap.size (headC ⟨1, 0, 0, 0, 1⟩) = W3 at hq ⊢; have q0 := hq.1.cell 0; have q1 := hq.1.cell 1; have q2 := hq.1.cell 2; have q3 := hq.1.cell 3; have q4 := hq.1.cell 4; simp [headC] at q0 q1 q2 q3 q4; have HQ := Lib.hid (And.intro (below_on HO.out.1 hq.2 (Nat.le_refl _)) (And.intro (HO.out.2.1.on hq.2) (And.intro (HO.out.2.2.1.on hq.2) HO.out.2.2.2))); clear hq) | (go_at_call 55; refine (numbers_any W3 w.heap.size).mono ?_; rintro e W4 ⟨rfl, hb4⟩; have HS := Lib.hid (And.intro (below_on HQ.out.1 hb4 (Nat.le_refl _)) (And.intro (HQ.out.2.1.on hb4) (And.intro (HQ.out.2.2.1.on hb4) HQ.out.2.2.2))); clear hb4 q0 q1 q2 q3 q4))
          have hs0 := HS.out.2.2.1
          rw [← HX.out.2.2.2.2, show l.length = 35 by rw [HX.out.2.2.2.2]; exact HX.out.2.2.2.1.symm] at hs0
          have hu0 : supUp l 0 = supC zeroSup := by simp [supUp, supC, zeroSup]
          have HL := Lib.hid (And.intro (And.intro HS.out.1 (And.intro (hu0 ▸ HS.out.2.1) hs0)) HS.out.2.2.2)
          have HLL := Lib.hid (show l.length = 35 by rw [HX.out.2.2.2.2]; exact HX.out.2.2.2.1.symm)
          clear hs0 hu0
          go_loopw [47] (fun i wr => ∃ t : Nat, t ≤ 5 ∧ i = .int .i64 (t : Int) ∧ Hid (Below w.heap.size w wr ∧ Blk wr w.heap.size (supUp l t) 77 ∧ Own1 [5] W.heap.size wr ao2 35 c2 (l.map u8V))) (fun i _ => (5 - intOf i).toNat)
          case atStart => exact ⟨0, Nat.zero_le _, rfl, Lib.hid HL.out.1⟩
          case round =>
            obtain ⟨t, ht, rfl, hinv⟩ := hrel
            by_cases hlt : t < 5
            · have hg := getk_any wr ao2 35 c2 l hinv.out.2.2.row (t * 7) 7 (by omega) (by omega) (by omega)
              have hgp : getP l (t * 7) 7 = (supAt l t, 0) := by rw [getP, if_pos (by rw [HLL.out]; omega)]; rfl
              rw [hgp, show ((t * 7 : Nat) : Int) = (t : Int) * 7 from Int.natCast_mul _ _] at hg
              have HG := Lib.hid hg
              have hix := nums_run wr w.heap.size hlt
              have c0 : wr.cell? ⟨w.heap.size, t, none⟩ = some (.int .i64 0) := by rw [hinv.out.2.1.cell t]; exact supUp_get l hlt
              have f0 := hinv.out.2.1.free t
              clear hg hgp
              go_wp2_with (go_at_call 83; refine HG.out.mono ?_; rintro e W5 ⟨rfl, rfl⟩)
              have hbs := but_set W5 w.heap.size t (.int .i64 (supAt l t))
              have hnb := hinv.out.2.1.set t (.int .i64 (supAt l t))
              rw [supUp_set l hlt] at hnb
              have hbw := HL.out.2
              exact ⟨⟨t + 1, hlt, by simp, Lib.hid ⟨hinv.out.1.trans (below_of_but hbs (Nat.le_refl _) hinv.out.1.size), hnb, hinv.out.2.2.step (Same.grown hbs (fun b ht e => by
                have e := Option.some.inj e
                have := ht.2
                omega))⟩⟩, by simp [intOf]; omega⟩
            · obtain rfl : t = 5 := by omega
              have hB : Blk wr w.heap.size (supC (supOf l)) 77 := hinv.out.2.1
              have c0 := hB.cell 0
              have c1 := hB.cell 1
              have c2' := hB.cell 2
              have c3 := hB.cell 3
              have c4 := hB.cell 4
              simp [supC, supOf] at c0 c1 c2' c3 c4
              obtain ⟨g, hg⟩ : ∃ g : Nat, supAt l 0 = (g : Int) := ⟨_, rfl⟩
              rw [hg] at c0
              have hs : supC (supOf l) = #[.int .i64 (g : Int), .int .i64 (supAt l 1), .int .i64 (supAt l 2), .int .i64 (supAt l 3), .int .i64 (supAt l 4)] := by rw [supC, supOf, ← hg]
              have HSC := Lib.hid hs
              have HBK2 := Lib.hid hB
              have HF := Lib.hid (sup_out hB hinv.out.1 (supOf l))
              have HGG := Lib.hid hg
              have hm2 : (g : Int).tmod 2 = ((g % 2 : Nat) : Int) := rfl
              clear hB hg hs
              go_wp2_with (refine wpList_store_row rfl 77 _ _ rfl w.heap.size (supC (supOf l)) rfl (by rw [HSC.out]; rfl) 77 (supC (supOf l)) HBK2.out supSize rfl (supC_all _) ?_)
              refine bodyPost_ret (supread_results rfl rfl rfl HF.out.1) rfl ⟨?_, HF.out.2⟩
              rw [HE.out, HGG.out, show ((g : Int) % 2 == (pos : Int)) = decide ((g : Int) % 2 = (pos : Int)) by rw [Bool.eq_iff_iff]; simp]
        · have HE := Lib.hid (show supRead d pos = (zeroSup, false, 0) by
            rw [hsr, if_neg]
            intro hk
            simp only [supOk, Bool.and_eq_true, decide_eq_true_eq] at hk
            rw [← hh, ← hn] at hk
            exact hgd ⟨hk.1.2, hk.2⟩)
          have hng : ¬ (hh0.kind = 1 ∧ hh0.epoch = 0 ∧ hh0.seq = 0 ∧ hh0.part = 0 ∧ hh0.parts = 1 ∧ n = 35) := fun hk => hgd ⟨by simp [supHead, hk.1, hk.2.1, hk.2.2.1, hk.2.2.2.1, hk.2.2.2.2.1], hk.2.2.2.2.2⟩
          have HX := Lib.hid (And.intro hsr (And.intro hoe (And.intro hh hn)))
          have HNG := Lib.hid hng
          clear hsr hoe hh hn hgd hng
          go_enter Tryz.func52, Tryz.ntmps52
          go_wp2_with (first | (go_at_call 53; refine HR.out.mono ?_; rintro e W hR; obtain ⟨ao, c, rfl, ho, h512⟩ := hR.ok HDN.out raw HRP.out; have HB := Lib.hid (HA.out.2.trans (hR.bel.mono HA.out.2.size)); have HBK := Lib.hid (HA.out.1.on hR.bel); have HOP := Lib.hid (sopen_any W ao 512 c raw ho.row); clear hR ho h512) | (go_at_call 61; refine HOP.out.mono ?_; rintro e W2 hO; obtain ⟨ao2, c2, rfl, ho2⟩ := hO.ok HX.out.2.1; rw [← HX.out.2.2.1, ← HX.out.2.2.2]; have HO := Lib.hid (And.intro ho2 (And.intro (below_on HB.out hO.bel (Nat.le_refl _)) (HBK.out.on hO.bel))); clear hO ho2) | (refine wpList_store_row rfl 90 _ _ rfl W2.heap.size (headC hh0) rfl rfl 90 (headC zeroH) (heap_alloc_new W2 _) headSize rfl (headC_all _) ?_; have hq := head_new W2 hh0; (try change wpList _ _ _ _ _ ((W2.alloc (.cells (headC zeroH) 90)).setRow W2.heap.size (headC hh0))); generalize (W2.alloc (.cells (headC zeroH) 90)).setRow W2.heap.size (headC hh0) = W3 at hq ⊢; have q0 := hq.1.cell 0; have q1 := hq.1.cell 1; have q2 := hq.1.cell 2; have q3 := hq.1.cell 3; have q4 := hq.1.cell 4; simp [headC] at q0 q1 q2 q3 q4; have HQ := Lib.hid (And.intro (below_on HO.out.2.1 hq.2 (Nat.le_refl _)) (HO.out.2.2.on hq.2)); clear hq) | (refine wpList_store_row rfl 77 _ _ rfl w.heap.size (supC zeroSup) rfl rfl 77 (supC zeroSup) HQ.out.2 supSize rfl (supC_all _) ?_))
          all_goals first
            | (have HF := sup_out HQ.out.2 HQ.out.1 zeroSup
               exact bodyPost_ret (supread_results rfl rfl rfl HF.1) rfl ⟨by rw [HE.out], HF.2⟩)
            | (exfalso
               have hN := HNG.out
               have h35 := ‹((n : Int) != 35) = false›
               simp at h35
               omega)
      · have HE := Lib.hid (show supRead d pos = (zeroSup, false, 0) by
          rw [hsr, if_neg]
          intro hk
          simp only [supOk, Bool.and_eq_true, decide_eq_true_eq] at hk
          exact hoe hk.1.1)
        obtain ⟨k, hk⟩ : ∃ k, k = openE raw := ⟨_, rfl⟩
        rw [← hk] at hoe
        have hk0 : (k == 0) = false := by simp [hoe]
        have HK := Lib.hid (And.intro hk hoe)
        clear hsr hk
        go_enter Tryz.func52, Tryz.ntmps52
        go_wp2_with (first | (go_at_call 53; refine HR.out.mono ?_; rintro e W hR; obtain ⟨ao, c, rfl, ho, h512⟩ := hR.ok HDN.out raw HRP.out; have HB := Lib.hid (HA.out.2.trans (hR.bel.mono HA.out.2.size)); have HBK := Lib.hid (HA.out.1.on hR.bel); have HOP := Lib.hid (sopen_any W ao 512 c raw ho.row); clear hR ho h512) | (go_at_call 61; refine HOP.out.mono ?_; rintro e W2 hO; obtain rfl := hO.bad (by rw [← HK.out.1]; exact HK.out.2); rw [← HK.out.1]; have HO := Lib.hid (And.intro (below_on HB.out hO.bel (Nat.le_refl _)) (HBK.out.on hO.bel)); clear hO) | (refine wpList_store_row rfl 90 _ _ rfl W2.heap.size (headC zeroH) rfl rfl 90 (headC zeroH) (heap_alloc_new W2 _) headSize rfl (headC_all _) ?_; have hq := head_new W2 zeroH; (try change wpList _ _ _ _ _ ((W2.alloc (.cells (headC zeroH) 90)).setRow W2.heap.size (headC zeroH))); generalize (W2.alloc (.cells (headC zeroH) 90)).setRow W2.heap.size (headC zeroH) = W3 at hq ⊢; have HQ := Lib.hid (And.intro (below_on HO.out.1 hq.2 (Nat.le_refl _)) (HO.out.2.on hq.2)); clear hq) | (refine wpList_store_row rfl 77 _ _ rfl w.heap.size (supC zeroSup) rfl rfl 77 (supC zeroSup) HQ.out.2 supSize rfl (supC_all _) ?_))
        have HF := sup_out HQ.out.2 HQ.out.1 zeroSup
        exact bodyPost_ret (supread_results rfl rfl rfl HF.1) rfl ⟨by rw [HE.out], HF.2⟩
end
section
open Go.ChangeShapes Go.WideShapes Go.ChangeAt Go.RowKit
/-- the best of the first t places -/
def loadN (d : DevP) : Nat → Option SupP
  | 0 => none
  | t + 1 => if (supRead d t).2.1 = true ∧ ∀ b, loadN d t = some b → b.gen < (supRead d t).1.gen then some (supRead d t).1 else loadN d t
def loadE (d : DevP) : Int := if d.down = true then 8 else if (loadN d 2).isSome = true then 0 else 11
def loadP (d : DevP) : SupP := if d.down = true then zeroSup else (loadN d 2).getD zeroSup
theorem supRead_e {d : DevP} (h : d.down = false) (t : Nat) : (supRead d t).2.2 = 0 := by
  rw [supRead, if_neg (by rw [h]; decide)]
  split
  · rfl
  · split <;> rfl
theorem load_results {tmps : Array Value} {w : World} {R : Nat} {s : SupP} {k : Int} (h2 : tmps[2]? = some (.pointer (some ⟨R, 0, none⟩))) (h3 : tmps[3]? = some (.int .i64 k)) (hB : Blk w R (supC s) 77) :
    (results Tryz.f30 tmps).run Tryz.prog w = .ok (.tuple #[.agg (supC s), .int .i64 k]) w := by
  have c0 := hB.cell 0
  have c1 := hB.cell 1
  have c2 := hB.cell 2
  have c3 := hB.cell 3
  have c4 := hB.cell 4
  simp [supC] at c0 c1 c2 c3 c4
  simp [results, go_sem, h2, h3, c0, c1, c2, c3, c4, supC]
/-- a block's own place -/
theorem sup_new (W : World) (s : SupP) : Blk ((W.alloc (.cells (supC zeroSup) 77)).setRow W.heap.size (supC s)) W.heap.size (supC s) 77 ∧ Below W.heap.size W ((W.alloc (.cells (supC zeroSup) 77)).setRow W.heap.size (supC s)) := by
  have hal : Below W.heap.size W (W.alloc (.cells (supC zeroSup) 77)) := (Below.refl _ _).alloc (Nat.le_refl _) _
  have hA : Blk (W.alloc (.cells (supC zeroSup) 77)) W.heap.size (supC zeroSup) 77 := heap_alloc_new W _
  exact ⟨blk_setRow hA _, hal.trans (below_of_but (but_setRow _ W.heap.size (supC s)) (Nat.le_refl _) hal.size)⟩
set_option maxHeartbeats 16000000 in
set_option maxRecDepth 100000 in
theorem load_any (w : World) (B D : Nat) (d : DevP) (hd : IsDev B w D d) (h2 : 2 ≤ d.sure.length) :
    Calls Tryz.prog 30 #[.pointer (some ⟨D, 0, none⟩)] w fun e w' => e = .returned (.tuple #[.agg (supC (loadP d)), .int .i64 (loadE d)]) ∧ Below w.heap.size w w' := by
  have hal : Below w.heap.size w (w.alloc (.cells (supC zeroSup) 77)) := (Below.refl _ _).alloc (Nat.le_refl _) _
  have hA : Blk (w.alloc (.cells (supC zeroSup) 77)) w.heap.size (supC zeroSup) 77 := heap_alloc_new w _
  have HLN := Lib.hid (dlen_any (w.alloc (.cells (supC zeroSup) 77)) B D d (hd.on hal))
  have HDW := Lib.hid (ddown_any (w.alloc (.cells (supC zeroSup) 77)) B D d (hd.on hal))
  have HA := Lib.hid (And.intro hal hA)
  have HD := Lib.hid hd
  have h2i : ¬ ((d.sure.length : Int) < 2) := by omega
  have hle := hd.le
  obtain ⟨n, hn⟩ : ∃ n, n = d.sure.length := ⟨_, rfl⟩
  rw [← hn] at h2i hle h2
  have HN := Lib.hid hn
  clear hal hA hd hn
  cases hdn : d.down with
  | true =>
    have HE := Lib.hid (show loadE d = 8 ∧ loadP d = zeroSup by simp [loadE, loadP, hdn])
    rw [hdn] at HDW
    clear hdn
    go_enter Tryz.func30, Tryz.ntmps30
    go_wp2_with (first | (go_at_call 13; refine HLN.out.mono ?_; rintro e W ⟨rfl, rfl⟩; rw [← HN.out]) | (go_at_call 29; refine HDW.out.mono ?_; rintro e W ⟨rfl, rfl⟩) | (refine wpList_store_row rfl 77 _ _ rfl w.heap.size (supC zeroSup) rfl rfl 77 (supC zeroSup) HA.out.2 supSize rfl (supC_all _) ?_))
    have HF := Lib.hid (sup_out HA.out.2 HA.out.1 zeroSup)
    exact bodyPost_ret (load_results rfl rfl HF.out.1) rfl ⟨by rw [HE.out.1, HE.out.2], HF.out.2⟩
  | false =>
    have HDN := Lib.hid hdn
    rw [hdn] at HDW
    clear hdn
    go_enter Tryz.func30, Tryz.ntmps30
    go_wp2_with (first | (go_at_call 13; refine HLN.out.mono ?_; rintro e W ⟨rfl, rfl⟩; rw [← HN.out]) | (go_at_call 29; refine HDW.out.mono ?_; rintro e W ⟨rfl, rfl⟩))
    go_loopw [5, 19] (fun f i wr => ∃ t : Nat, t ≤ 2 ∧ i = .int .i64 (t : Int) ∧ f = .bool (loadN d t).isSome ∧ Hid (Below w.heap.size w wr ∧ Blk wr w.heap.size (supC zeroSup) 77 ∧ Blk wr (w.heap.size + 1) (supC ((loadN d t).getD zeroSup)) 77)) (fun _ i _ => (2 - intOf i).toNat)
    case atStart =>
      refine ⟨0, Nat.zero_le _, rfl, rfl, Lib.hid ?_⟩
      have h1 := HA.out.1.alloc HA.out.1.size (.cells (supC zeroSup) 77)
      have h3 := heap_alloc_new (w.alloc (.cells (supC zeroSup) 77)) (.cells (supC zeroSup) 77)
      rw [show (w.alloc (.cells (supC zeroSup) 77)).heap.size = w.heap.size + 1 from Array.size_push _] at h3
      exact ⟨h1, HA.out.2.on ((Below.refl _ _).alloc (Nat.le_refl _) _), h3⟩
    case round =>
      obtain ⟨t, ht, rfl, rfl, hinv⟩ := hrel
      by_cases hlt : t < 2
      · have hr := supread_any wr B D d (HD.out.on hinv.out.1) t (by rw [← HN.out]; omega)
        rw [supRead_e HDN.out t] at hr
        obtain ⟨rs, hrs⟩ : ∃ rs, rs = (supRead d t).1 := ⟨_, rfl⟩
        obtain ⟨rb, hrb⟩ : ∃ rb, rb = (supRead d t).2.1 := ⟨_, rfl⟩
        obtain ⟨lo, hlo⟩ : ∃ lo, lo = loadN d t := ⟨_, rfl⟩
        have hst : loadN d (t + 1) = if rb = true ∧ ∀ b, lo = some b → b.gen < rs.gen then some rs else lo := by rw [loadN, hrs, hrb, hlo]
        rw [← hrs, ← hrb] at hr
        rw [← hlo] at hinv ⊢
        have HR := Lib.hid hr
        have HS := Lib.hid hst
        clear hr hst hrs hrb hlo
        cases rb with
        | false =>
          have HNX := Lib.hid (show loadN d (t + 1) = lo by rw [HS.out, if_neg (by simp)])
          go_wp2_with (first | (go_at_call 52; refine HR.out.mono ?_; rintro e W ⟨rfl, hb⟩; have HW := Lib.hid (And.intro (below_on hinv.out.1 hb (Nat.le_refl _)) (And.intro (hinv.out.2.1.on hb) (hinv.out.2.2.on hb))); clear hb) | (refine wpList_store_row rfl 77 _ _ rfl W.heap.size (supC rs) rfl rfl 77 (supC zeroSup) (heap_alloc_new W _) supSize rfl (supC_all _) ?_; have hq := sup_new W rs; (try change wpList _ _ _ _ _ ((W.alloc (.cells (supC zeroSup) 77)).setRow W.heap.size (supC rs))); generalize (W.alloc (.cells (supC zeroSup) 77)).setRow W.heap.size (supC rs) = W3 at hq ⊢; have q0 := hq.1.cell 0; simp [supC] at q0; have HQ := Lib.hid (And.intro (below_on HW.out.1 hq.2 (Nat.le_refl _)) (And.intro (HW.out.2.1.on hq.2) (HW.out.2.2.on hq.2))); clear hq))
          go_roundw
          case rel => exact ⟨t + 1, hlt, by simp, by rw [HNX.out], Lib.hid (by rw [HNX.out]; exact HQ.out)⟩
          case measure => simp [intOf]; omega
        | true =>
          cases lo with
          | none =>
            have HNX := Lib.hid (show loadN d (t + 1) = some rs by rw [HS.out, if_pos ⟨rfl, fun b hb => by cases hb⟩])
            go_wp2_with (first | (go_at_call 52; refine HR.out.mono ?_; rintro e W ⟨rfl, hb⟩; have HW := Lib.hid (And.intro (below_on hinv.out.1 hb (Nat.le_refl _)) (And.intro (hinv.out.2.1.on hb) (hinv.out.2.2.on hb))); clear hb) | (refine wpList_store_row rfl 77 _ _ rfl W.heap.size (supC rs) rfl rfl 77 (supC zeroSup) (heap_alloc_new W _) supSize rfl (supC_all _) ?_; have hq := sup_new W rs; (try change wpList _ _ _ _ _ ((W.alloc (.cells (supC zeroSup) 77)).setRow W.heap.size (supC rs))); generalize (W.alloc (.cells (supC zeroSup) 77)).setRow W.heap.size (supC rs) = W3 at hq ⊢; have q0 := hq.1.cell 0; have q1 := hq.1.cell 1; have q2 := hq.1.cell 2; have q3 := hq.1.cell 3; have q4 := hq.1.cell 4; simp [supC] at q0 q1 q2 q3 q4; have HQ := Lib.hid (And.intro (below_on HW.out.1 hq.2 (Nat.le_refl _)) (And.intro (HW.out.2.1.on hq.2) (HW.out.2.2.on hq.2))); clear hq) | (refine wpList_store_row rfl 77 _ _ rfl (w.heap.size + 1) (supC rs) rfl rfl 77 (supC ((none : Option SupP).getD zeroSup)) HQ.out.2.2 supSize rfl (supC_all _) ?_))
            have hsr := but_setRow W3 (w.heap.size + 1) (supC rs)
            have HZ := Lib.hid (And.intro (HQ.out.1.trans (below_of_but hsr (Nat.le_succ _) HQ.out.1.size)) (And.intro (HQ.out.2.1.but hsr (by omega)) (blk_setRow HQ.out.2.2 (supC rs))))
            clear hsr
            go_roundw
            case rel => exact ⟨t + 1, hlt, by simp, by rw [HNX.out]; rfl, Lib.hid (by rw [HNX.out]; exact HZ.out)⟩
            case measure => simp [intOf]; omega
          | some b =>
            by_cases hgt : b.gen < rs.gen
            · have HNX := Lib.hid (show loadN d (t + 1) = some rs by rw [HS.out, if_pos ⟨rfl, fun b' hb => by cases hb; exact hgt⟩])
              go_wp2_with (first | (go_at_call 52; refine HR.out.mono ?_; rintro e W ⟨rfl, hb⟩; have HW := Lib.hid (And.intro (below_on hinv.out.1 hb (Nat.le_refl _)) (And.intro (hinv.out.2.1.on hb) (hinv.out.2.2.on hb))); clear hb) | (refine wpList_store_row rfl 77 _ _ rfl W.heap.size (supC rs) rfl rfl 77 (supC zeroSup) (heap_alloc_new W _) supSize rfl (supC_all _) ?_; have hq := sup_new W rs; (try change wpList _ _ _ _ _ ((W.alloc (.cells (supC zeroSup) 77)).setRow W.heap.size (supC rs))); generalize (W.alloc (.cells (supC zeroSup) 77)).setRow W.heap.size (supC rs) = W3 at hq ⊢; have q0 := hq.1.cell 0; have q1 := hq.1.cell 1; have q2 := hq.1.cell 2; have q3 := hq.1.cell 3; have q4 := hq.1.cell 4; simp [supC] at q0 q1 q2 q3 q4; have HQ := Lib.hid (And.intro (below_on HW.out.1 hq.2 (Nat.le_refl _)) (And.intro (HW.out.2.1.on hq.2) (HW.out.2.2.on hq.2))); have qb := HQ.out.2.2.cell 0; simp [supC] at qb; clear hq) | (refine wpList_store_row rfl 77 _ _ rfl (w.heap.size + 1) (supC rs) rfl rfl 77 (supC ((some b).getD zeroSup)) HQ.out.2.2 supSize rfl (supC_all _) ?_))
              have hsr := but_setRow W3 (w.heap.size + 1) (supC rs)
              have HZ := Lib.hid (And.intro (HQ.out.1.trans (below_of_but hsr (Nat.le_succ _) HQ.out.1.size)) (And.intro (HQ.out.2.1.but hsr (by omega)) (blk_setRow HQ.out.2.2 (supC rs))))
              clear hsr
              go_roundw
              case rel => exact ⟨t + 1, hlt, by simp, by rw [HNX.out]; rfl, Lib.hid (by rw [HNX.out]; exact HZ.out)⟩
              case measure => simp [intOf]; omega
            · have HNX := Lib.hid (show loadN d (t + 1) = some b by rw [HS.out, if_neg (fun h => hgt (h.2 b rfl))])
              go_wp2_with (first | (go_at_call 52; refine HR.out.mono ?_; rintro e W ⟨rfl, hb⟩; have HW := Lib.hid (And.intro (below_on hinv.out.1 hb (Nat.le_refl _)) (And.intro (hinv.out.2.1.on hb) (hinv.out.2.2.on hb))); clear hb) | (refine wpList_store_row rfl 77 _ _ rfl W.heap.size (supC rs) rfl rfl 77 (supC zeroSup) (heap_alloc_new W _) supSize rfl (supC_all _) ?_; have hq := sup_new W rs; (try change wpList _ _ _ _ _ ((W.alloc (.cells (supC zeroSup) 77)).setRow W.heap.size (supC rs))); generalize (W.alloc (.cells (supC zeroSup) 77)).setRow W.heap.size (supC rs) = W3 at hq ⊢; have q0 := hq.1.cell 0; have q1 := hq.1.cell 1; have q2 := hq.1.cell 2; have q3 := hq.1.cell 3; have q4 := hq.1.cell 4; simp [supC] at q0 q1 q2 q3 q4; have HQ := Lib.hid (And.intro (below_on HW.out.1 hq.2 (Nat.le_refl _)) (And.intro (HW.out.2.1.on hq.2) (HW.out.2.2.on hq.2))); have qb := HQ.out.2.2.cell 0; simp [supC] at qb; clear hq))
              go_roundw
              case rel => exact ⟨t + 1, hlt, by simp, by rw [HNX.out]; rfl, Lib.hid (by rw [HNX.out]; exact HQ.out)⟩
              case measure => simp [intOf]; omega
      · obtain rfl : t = 2 := by omega
        cases hlo : loadN d 2 with
        | none =>
          have HE := Lib.hid (show loadE d = 11 ∧ loadP d = zeroSup by simp [loadE, loadP, HDN.out, hlo])
          have HF := Lib.hid (sup_out hinv.out.2.1 hinv.out.1 zeroSup)
          clear hlo
          go_wp2_with (refine wpList_store_row rfl 77 _ _ rfl w.heap.size (supC zeroSup) rfl rfl 77 (supC zeroSup) hinv.out.2.1 supSize rfl (supC_all _) ?_)
          exact bodyPost_ret (load_results rfl rfl HF.out.1) rfl ⟨by rw [HE.out.1, HE.out.2], HF.out.2⟩
        | some s =>
          have HE := Lib.hid (show loadE d = 0 ∧ loadP d = s by simp [loadE, loadP, HDN.out, hlo])
          have HF := Lib.hid (sup_out hinv.out.2.1 hinv.out.1 s)
          have hb := hinv.out.2.2
          rw [hlo] at hb
          have q0 := hb.cell 0
          have q1 := hb.cell 1
          have q2 := hb.cell 2
          have q3 := hb.cell 3
          have q4 := hb.cell 4
          simp [supC] at q0 q1 q2 q3 q4
          clear hb hlo
          go_wp2_with (refine wpList_store_row rfl 77 _ _ rfl w.heap.size (supC s) rfl rfl 77 (supC zeroSup) hinv.out.2.1 supSize rfl (supC_all _) ?_)
          exact bodyPost_ret (load_results rfl rfl HF.out.1) rfl ⟨by rw [HE.out.1, HE.out.2], HF.out.2⟩
end
section
open Go.ChangeShapes Go.WideShapes Go.ChangeAt Go.RowKit
def supNum (s : SupP) : Nat → Int
  | 0 => s.gen
  | 1 => s.epoch
  | 2 => s.first
  | 3 => s.from'
  | _ => s.count
/-- the data of the first t numbers -/
def supData (s : SupP) : Nat → List UInt8
  | 0 => []
  | t + 1 => supData s t ++ putN (supNum s t) 7
theorem supData_len (s : SupP) (t : Nat) : (supData s t).length = t * 7 := by
  induction t with
  | zero => rfl
  | succ t ih => rw [supData, List.length_append, ih, putB_len]; omega
def supFits (s : SupP) : Bool := fitK s.gen 7 && fitK s.epoch 7 && fitK s.first 7 && fitK s.from' 7 && fitK s.count 7
/-- may b follow what lies there? -/
def supNext (d : DevP) (b : SupP) : Bool := match loadN d 2 with
  | some old => b.gen == old.gen + 1
  | none => b.gen == 0
def supRaw (b : SupP) : List UInt8 := sealB ⟨1, 0, 0, 0, 1⟩ (supData b 5)
/-- what Save does, and its error -/
def saveP (d : DevP) (b : SupP) : DevP × Int :=
  if d.down = true then (d, 8) else if supFits b = false then (d, 15) else if supNext d b = false then (d, 15)
  else if syncE d ≠ 0 then (syncP d, syncE d)
  else if writeE (syncP d) ≠ 0 then (writeP (syncP d) (b.gen % 2).toNat (supRaw b), writeE (syncP d))
  else (syncP (writeP (syncP d) (b.gen % 2).toNat (supRaw b)), syncE (writeP (syncP d) (b.gen % 2).toNat (supRaw b)))
theorem supC_get (s : SupP) {t : Nat} (h : t < 5) : (supC s)[t]? = some (.int .i64 (supNum s t)) := by
  match t, h with
  | 0, _ | 1, _ | 2, _ | 3, _ | 4, _ => simp [supC, supNum]
theorem supFits_at {s : SupP} (h : supFits s = true) {t : Nat} (ht : t < 5) : fitK (supNum s t) 7 = true := by
  simp only [supFits, Bool.and_eq_true] at h
  obtain ⟨⟨⟨⟨h0, h1⟩, h2⟩, h3⟩, h4⟩ := h
  match t, ht with
  | 0, _ => exact h0
  | 1, _ => exact h1
  | 2, _ => exact h2
  | 3, _ => exact h3
  | 4, _ => exact h4
theorem fit7 {n : Int} (h : fitK n 7 = true) : 0 ≤ n ∧ n < 72057594037927936 := by
  simp only [fitK, Bool.and_eq_true, decide_eq_true_eq] at h
  exact ⟨h.1, by have := h.2; have h256 : (256 : Int) ^ 7 = 72057594037927936 := by decide
                 omega⟩
theorem seal_sup (l : List UInt8) (hl : l.length = 35) : sealE ⟨1, 0, 0, 0, 1⟩ l = 0 := by
  rw [sealE, if_neg (by decide), if_neg (by decide), if_neg (by omega)]
theorem sync_len (d : DevP) : (syncP d).sure.length = d.sure.length := by
  unfold syncP
  split
  · rfl
  · split
    · exact setN_len _ _ _ _
    · rw [(spend_same d).1]
theorem sync_clear {d : DevP} (h : d.down = false) (hs : spendOk d = true) : (syncP d).unsure = [] ∧ (syncP d).down = false := by
  have hne : d.limit ≠ 1 := by simpa [spendOk] using hs
  rw [syncP, if_neg (by rw [h]; decide), if_pos hs]
  refine ⟨rfl, ?_⟩
  show (spendP d).down = false
  rw [spendP]
  split
  · exact h
  · simpa using hne
theorem sup_next {d : DevP} {b : SupP} (h : supNext d b = true) : ∃ old k, old = loadP d ∧ k = loadE d ∧ ((k = 0 ∧ b.gen = old.gen + 1) ∨ (k = 11 ∧ b.gen = 0)) ∨ d.down = true := by
  cases hdn : d.down with
  | true => exact ⟨zeroSup, 0, .inr rfl⟩
  | false =>
    refine ⟨loadP d, loadE d, .inl ⟨rfl, rfl, ?_⟩⟩
    unfold supNext at h
    cases hl : loadN d 2 with
    | none => rw [hl] at h; right; simp [loadE, hdn, hl]; simpa using h
    | some old => rw [hl] at h; left; simp [loadE, loadP, hdn, hl]; simpa using h
theorem own_only {B : Nat} {w w' : World} {ao : Option Addr} {n c : Nat} {vs : List Value} {N : Nat} (h : Own1 [5] N w ao n c vs) (ho : Only dvT B w w') : Own1 [5] N w' ao n c vs :=
  h.step ((ho.same (T := [5]) (by decide)).mono (fun _ _ h => h.1))
theorem ex_blk {w : World} {g : Nat} {cs : Array Value} {T : TypeId} (h : Blk w g cs T) : ∃ cs, Blk w g cs T := ⟨_, h⟩
theorem only_cell {B : Nat} {w w' : World} {g : Nat} {v : Value} (ho : Only dvT B w w') (h : w.cell? ⟨g, 0, none⟩ = some v ∧ ∃ cs, Blk w g cs 77) (hT : 77 ∉ dvT) : w'.cell? ⟨g, 0, none⟩ = some v := by
  obtain ⟨hc, cs, hb⟩ := h
  have h2 := ho.blk hb hT
  rw [h2.cell 0, ← hc, hb.cell 0]
theorem IsDev.Ble {B : Nat} {w : World} {D : Nat} {d : DevP} (h : IsDev B w D d) : B ≤ w.heap.size := by
  obtain ⟨SU, v, h1, _⟩ := h.ex
  have := h1.lt
  have := h.base
  omega
set_option maxHeartbeats 16000000 in
set_option maxRecDepth 100000 in
theorem save_any (w : World) (B D : Nat) (d : DevP) (hd : IsDev B w D d) (h2 : 2 ≤ d.sure.length) (hdn : d.down = false) (b : SupP) (hfit : supFits b = true) (hnx : supNext d b = true) :
    Calls Tryz.prog 33 #[.pointer (some ⟨D, 0, none⟩), .agg (supC b)] w fun e w' => e = .returned (.int .i64 (saveP d b).2) ∧ IsDev B w' D (saveP d b).1 ∧ Only dvT B w w' := by
  have hal : Below w.heap.size w (w.alloc (.cells (supC b) 77)) := (Below.refl _ _).alloc (Nat.le_refl _) _
  have hA : Blk (w.alloc (.cells (supC b) 77)) w.heap.size (supC b) 77 := heap_alloc_new w _
  have HLD := Lib.hid (load_any (w.alloc (.cells (supC b) 77)) B D d (hd.on hal) h2)
  have HA := Lib.hid (And.intro hal hA)
  obtain ⟨old, k, hk0⟩ := sup_next hnx
  obtain ⟨hold, hke, hk⟩ := hk0.resolve_right (by rw [hdn]; decide)
  clear hk0
  rw [← hold, ← hke] at HLD
  have HD := Lib.hid (And.intro hd (And.intro h2 hdn))
  have hg0 := fit7 (supFits_at hfit (t := 0) (by omega))
  simp only [supNum] at hg0
  obtain ⟨g, hg⟩ : ∃ g : Nat, b.gen = (g : Int) := ⟨b.gen.toNat, by omega⟩
  rw [hg] at hk hg0
  have HF := Lib.hid (And.intro hfit hg)
  have HS := Lib.hid (show saveP d b = if syncE d ≠ 0 then (syncP d, syncE d) else if writeE (syncP d) ≠ 0 then (writeP (syncP d) (g % 2) (supRaw b), writeE (syncP d)) else (syncP (writeP (syncP d) (g % 2) (supRaw b)), syncE (writeP (syncP d) (g % 2) (supRaw b))) by
    rw [saveP, if_neg (by rw [hdn]; decide), if_neg (by rw [hfit]; decide), if_neg (by rw [hnx]; decide), hg, show ((g : Int) % 2).toNat = g % 2 by omega])
  obtain ⟨og, hog⟩ : ∃ og, og = old.gen := ⟨_, rfl⟩
  rw [← hog] at hk
  have HOG := Lib.hid hog
  clear hal hA hd h2 hdn hfit hnx hold hke hg hog
  rcases hk with ⟨rfl, hgo⟩ | ⟨rfl, hg1⟩
  all_goals (
    first
      | (have ho : og = (g : Int) - 1 := by omega
         subst ho)
      | (have hg2 : ((g : Int) != 0) = false := by (rw [bne_eq_false_iff_eq]; omega)
         have hg3 : ((g : Int) == 0) = true := by (rw [beq_iff_eq]; omega))
    (try clear hgo)
    (try clear hg1)
    go_enter Tryz.func33, Tryz.ntmps33
    go_wp2_with (first | (go_at_call 30; refine HLD.out.mono ?_; rintro e W ⟨rfl, hb⟩; have HW := Lib.hid (And.intro (below_on HA.out.1 hb (Nat.le_refl _)) (HA.out.2.on hb)); clear hb) | (refine wpList_store_row rfl 77 _ _ rfl W.heap.size (supC old) rfl rfl 77 (supC zeroSup) (heap_alloc_new W _) supSize rfl (supC_all _) ?_; have hq := sup_new W old; (try change wpList _ _ _ _ _ ((W.alloc (.cells (supC zeroSup) 77)).setRow W.heap.size (supC old))); generalize (W.alloc (.cells (supC zeroSup) 77)).setRow W.heap.size (supC old) = W3 at hq ⊢; have HQ := Lib.hid (And.intro (below_on HW.out.1 hq.2 (Nat.le_refl _)) (And.intro (HW.out.2.on hq.2) hq.1)); clear hq) | (go_at_call 55; refine (numbers_any W3 w.heap.size).mono ?_; rintro e W4 ⟨rfl, hb4⟩; have HN := Lib.hid (And.intro (below_on HQ.out.1 hb4 (Nat.le_refl _)) (And.intro (HQ.out.2.1.on hb4) (HQ.out.2.2.on hb4))); clear hb4))
    go_loopw [7, 27] (fun v i wr => ∃ t : Nat, t ≤ 5 ∧ i = .int .i64 (t : Int) ∧ Hid (Below w.heap.size w wr ∧ Blk wr w.heap.size (supC b) 77 ∧ Blk wr W.heap.size (supC old) 77 ∧ wr.ownsRow w.heap.size 5 1 v (t * 7) ((supData b t).map u8V))) (fun _ i _ => (5 - intOf i).toNat)
    case atStart => exact ⟨0, Nat.zero_le _, rfl, Lib.hid ⟨HN.out.1, HN.out.2.1, HN.out.2.2, World.ownsRow_nil _ _ _ _⟩⟩
    case round =>
      obtain ⟨t, ht, rfl, hinv⟩ := hrel
      by_cases hlt : t < 5
      · obtain ⟨nt, hnt⟩ : ∃ nt, nt = supNum b t := ⟨_, rfl⟩
        have hix := nums_run wr w.heap.size hlt
        have c0 : wr.cell? ⟨w.heap.size, t, none⟩ = some (.int .i64 nt) := by rw [hinv.out.2.1.cell t, hnt]; exact supC_get b hlt
        have hft := supFits_at HF.out.1 hlt
        rw [← hnt] at hft
        have HFK := Lib.hid (fun w => fitk_any w nt 7 (by omega) (by omega))
        rw [hft] at HFK
        obtain ⟨ao, cap, hv, hrow⟩ := row_of_owns hinv.out.2.2.2 (by omega)
        have HRW := Lib.hid hrow
        have HPU := Lib.hid (show putL (supData b t) nt 7 = supData b (t + 1) by rw [putL, if_pos hft, hnt]; rfl)
        have HI := Lib.hid hinv.out
        have hw2 := hinv.out.1.size
        have hdl := supData_len b t
        have HPT := Lib.hid (fun (W : World) (h : Below wr.heap.size wr W) => putk_any W ao (t * 7) cap (supData b t) (hrow.below h (Nat.le_refl _)) (by omega) nt 7 (by omega) (by omega))
        clear hinv hnt hft hrow hdl
        subst hv
        go_wp2_with (first | (go_at_call 56; refine (HFK.out _).mono ?_; rintro e W5 ⟨rfl, rfl⟩) | (go_at_call 57; refine (HPT.out W5 (Below.refl _ _)).mono ?_; rintro e W6 ⟨⟨v2, rfl, hown2⟩, hb2⟩; have HO2 := Lib.hid (And.intro hown2 hb2); clear hown2 hb2))
        go_roundw
        case rel =>
          have ho := HO2.out.1
          rw [HPU.out, show (supData b (t + 1)).length = (t + 1) * 7 from supData_len _ _] at ho
          exact ⟨t + 1, hlt, by go_num, Lib.hid ⟨below_on HI.out.1 HO2.out.2 (Nat.le_refl _), HI.out.2.1.on HO2.out.2, HI.out.2.2.1.on HO2.out.2, owns_monoK ho hw2⟩⟩
        case measure => simp [intOf]; omega
      · obtain rfl : t = 5 := by omega
        obtain ⟨ao, cap, hv, hown⟩ := own1_of_owns hinv.out.2.2.2 (by omega)
        subst hv
        have c3 : wr.cell? ⟨w.heap.size, 0, none⟩ = some (.int .i64 (g : Int)) := by rw [hinv.out.2.1.cell 0, supC_get b (by omega), supNum, HF.out.2]
        first
          | (have c5 : wr.cell? ⟨W.heap.size, 0, none⟩ = some (.int .i64 ((g : Int) - 1)) := by rw [hinv.out.2.2.1.cell 0, supC_get old (by omega), supNum, ← HOG.out])
          | (have c5 : wr.cell? ⟨W.heap.size, 0, none⟩ = some (.int .i64 og) := by rw [hinv.out.2.2.1.cell 0, supC_get old (by omega), supNum, ← HOG.out])
        have HI := Lib.hid (And.intro hinv.out.1 (And.intro hown hinv.out.2.1))
        have h35 := supData_len b 5
        have HSE := Lib.hid (seal_sup (supData b 5) h35)
        have HSL := Lib.hid (seal_any wr ⟨1, 0, 0, 0, 1⟩ ao 35 cap (supData b 5) hown.row (by omega))
        have HBL := Lib.hid (HD.out.1.Ble)
        have hm2 : (g : Int).tmod 2 = ((g % 2 : Nat) : Int) := rfl
        have HP2 := Lib.hid (show g % 2 < d.sure.length by have := HD.out.2.1; have := Nat.mod_lt g (show 0 < 2 by omega); omega)
        clear hinv hown h35
        cases hs1 : spendOk d with
        | false =>
          have HE := Lib.hid (And.intro (show syncE d = 8 by rw [syncE, if_neg (by rw [HD.out.2.2]; decide), hs1]; rfl) (show saveP d b = (syncP d, 8) by rw [HS.out, if_pos (by rw [syncE, if_neg (by rw [HD.out.2.2]; decide), hs1]; decide), syncE, if_neg (by rw [HD.out.2.2]; decide), hs1]; rfl))
          clear hs1
          go_wp2_with (first | (go_at_call 58; refine HSL.out.mono ?_; rintro e W7 hS; obtain ⟨v7, rfl, hv7⟩ := hS.ok HSE.out; obtain ⟨ro, rc, rfl, hro⟩ := own1_of_owns hv7 (by omega); have H7 := Lib.hid (And.intro (below_on HI.out.1 hS.bel (Nat.le_refl _)) hro); clear hS hv7 hro c3 c5) | (go_at_call 51; refine (dsync_any W7 B D d (HD.out.1.on H7.out.1)).mono ?_; rintro e W8 ⟨rfl, hd8, ho8⟩; rw [HE.out.1]; have H8 := Lib.hid (And.intro hd8 ((Only.below H7.out.1 HBL.out).trans ho8)); clear hd8 ho8))
          go_ret
          exact ⟨by rw [HE.out.2]; rfl, by rw [HE.out.2]; exact H8.out.1, H8.out.2⟩
        | true =>
          have hc := sync_clear HD.out.2.2 hs1
          have HE := Lib.hid (And.intro (show syncE d = 0 by rw [syncE, if_neg (by rw [HD.out.2.2]; decide), hs1]; rfl) hc)
          clear hs1 hc
          cases hs2 : spendOk (syncP d) with
          | false =>
            have HE2 := Lib.hid (And.intro (show writeE (syncP d) = 8 by rw [writeE, if_neg (by rw [HE.out.2.2]; decide), hs2]; rfl) (show saveP d b = (writeP (syncP d) (g % 2) (supRaw b), 8) by rw [HS.out, if_neg (by rw [HE.out.1]; decide), if_pos (by rw [writeE, if_neg (by rw [HE.out.2.2]; decide), hs2]; decide), writeE, if_neg (by rw [HE.out.2.2]; decide), hs2]; rfl))
            clear hs2
            go_wp2_with (first | (go_at_call 58; refine HSL.out.mono ?_; rintro e W7 hS; obtain ⟨v7, rfl, hv7⟩ := hS.ok HSE.out; obtain ⟨ro, rc, rfl, hro⟩ := own1_of_owns hv7 (by omega); have H7 := Lib.hid (And.intro (below_on HI.out.1 hS.bel (Nat.le_refl _)) (And.intro hro (And.intro (cell_keep hS.bel c3) (ex_blk (HI.out.2.2.on hS.bel))))); clear hS hv7 hro c3 c5) | (go_at_call 51; refine (dsync_any W7 B D d (HD.out.1.on H7.out.1)).mono ?_; rintro e W8 ⟨rfl, hd8, ho8⟩; rw [HE.out.1]; have H8 := Lib.hid (And.intro hd8 (And.intro ((Only.below H7.out.1 HBL.out).trans ho8) (own_only H7.out.2.1 ho8))); have c8 := only_cell ho8 H7.out.2.2 (by decide); clear hd8 ho8) | (go_at_call 59; (try rw [show (g : Int).tmod 2 = ((g % 2 : Nat) : Int) from rfl]); (try rw [show (g : Int) % 2 = ((g % 2 : Nat) : Int) from rfl]); refine (dwrite_any W8 B D _ H8.out.1 (g % 2) (by rw [sync_len]; exact HP2.out) ro rc (supRaw b) H8.out.2.2.row (fun h0 a ha => (H8.out.2.2.mem h0 a ha).1) (by rw [HE.out.2.1]; simp)).mono ?_; rintro e W9 ⟨rfl, hd9, ho9⟩; rw [HE2.out.1]; have H9 := Lib.hid (And.intro hd9 (H8.out.2.1.trans ho9)); clear hd9 ho9))
            go_ret
            exact ⟨by rw [HE2.out.2]; rfl, by rw [HE2.out.2]; exact H9.out.1, H9.out.2⟩
          | true =>
            have HE2 := Lib.hid (And.intro (show writeE (syncP d) = 0 by rw [writeE, if_neg (by rw [HE.out.2.2]; decide), hs2]; rfl) (show saveP d b = (syncP (writeP (syncP d) (g % 2) (supRaw b)), syncE (writeP (syncP d) (g % 2) (supRaw b))) by rw [HS.out, if_neg (by rw [HE.out.1]; decide), if_neg (by rw [writeE, if_neg (by rw [HE.out.2.2]; decide), hs2]; decide)]))
            clear hs2
            go_wp2_with (first | (go_at_call 58; refine HSL.out.mono ?_; rintro e W7 hS; obtain ⟨v7, rfl, hv7⟩ := hS.ok HSE.out; obtain ⟨ro, rc, rfl, hro⟩ := own1_of_owns hv7 (by omega); have H7 := Lib.hid (And.intro (below_on HI.out.1 hS.bel (Nat.le_refl _)) (And.intro hro (And.intro (cell_keep hS.bel c3) (ex_blk (HI.out.2.2.on hS.bel))))); clear hS hv7 hro c3 c5) | (go_at_call 51; refine (dsync_any W7 B D d (HD.out.1.on H7.out.1)).mono ?_; rintro e W8 ⟨rfl, hd8, ho8⟩; rw [HE.out.1]; have H8 := Lib.hid (And.intro hd8 (And.intro ((Only.below H7.out.1 HBL.out).trans ho8) (own_only H7.out.2.1 ho8))); have c8 := only_cell ho8 H7.out.2.2 (by decide); clear hd8 ho8) | (go_at_call 59; (try rw [show (g : Int).tmod 2 = ((g % 2 : Nat) : Int) from rfl]); (try rw [show (g : Int) % 2 = ((g % 2 : Nat) : Int) from rfl]); refine (dwrite_any W8 B D _ H8.out.1 (g % 2) (by rw [sync_len]; exact HP2.out) ro rc (supRaw b) H8.out.2.2.row (fun h0 a ha => (H8.out.2.2.mem h0 a ha).1) (by rw [HE.out.2.1]; simp)).mono ?_; rintro e W9 ⟨rfl, hd9, ho9⟩; rw [HE2.out.1]; have H9 := Lib.hid (And.intro hd9 (H8.out.2.1.trans ho9)); clear hd9 ho9) | (go_at_call 51; refine (dsync_any W9 B D _ H9.out.1).mono ?_; rintro e W10 ⟨rfl, hd10, ho10⟩; have H10 := Lib.hid (And.intro hd10 (H9.out.2.trans ho10)); clear hd10 ho10))
            go_ret
            exact ⟨by rw [HE2.out.2]; rfl, by rw [HE2.out.2]; exact H10.out.1, H10.out.2⟩)
end
end Go.Proofs.YtjbaohcofdoinaaGreat

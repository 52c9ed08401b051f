/- Contracts of fact.Typed, fact.none, the closure of fact.distinct, slices.ContainsFunc at data, fact.distinct, the reference's Typed, In, SameSet and SameKey. -/
import Derived.Test.YtgfibbjifbghdaaGreatFactLaw
import Derived.BigQuiet
namespace Go.Proofs.YtgfibbjifbghdaaGreat
open Go.ChangeShapes Go.WideShapes Go.ChangeAt Go.RowKit

theorem typed_any (w : World) (k : Int) : Calls Tryz.prog 30 #[.int .i64 k] w fun e w' => e = .returned (.bool (typedB k)) ∧ w = w' := by
  by_cases h1 : 1 ≤ k
  · have d1 : decide (1 ≤ k) = true := decide_eq_true h1
    by_cases h2 : k ≤ 65534
    · have d2 : decide (k ≤ 65534) = true := decide_eq_true h2
      by_cases h3 : k = 41
      · subst h3
        go_enter Tryz.func30, Tryz.ntmps30
        go_wp2_with fail
        go_ret
        exact ⟨rfl, rfl⟩
      · have q3 : (k != 41) = true := by rw [bne_iff_ne]; exact h3
        have H := Lib.hid (show typedB k = (k != 255) by
          rw [typedB, d1, d2, decide_eq_true h3]
          rw [Bool.eq_iff_iff, bne_iff_ne]; simp)
        clear h1 h2 h3
        rw [H.out]
        go_enter Tryz.func30, Tryz.ntmps30
        go_wp2_with fail
        go_ret
        exact ⟨rfl, rfl⟩
    · have d2 : decide (k ≤ 65534) = false := decide_eq_false h2
      have H := Lib.hid (show typedB k = false by rw [typedB, d1, d2]; rfl)
      clear h1 h2
      rw [H.out]
      go_enter Tryz.func30, Tryz.ntmps30
      go_wp2_with fail
      go_ret
      exact ⟨rfl, rfl⟩
  · have d1 : decide (1 ≤ k) = false := decide_eq_false h1
    have H := Lib.hid (show typedB k = false by rw [typedB, d1]; rfl)
    clear h1
    rw [H.out]
    go_enter Tryz.func30, Tryz.ntmps30
    go_wp2_with fail
    go_ret
    exact ⟨rfl, rfl⟩
set_option maxRecDepth 100000 in
theorem none_any (w : World) (h : DataH) (d : DataP) (hd : IsData w h d) : Calls Tryz.prog 139 #[.agg (dataC h)] w fun e w' => e = .returned (.bool (noneB d)) ∧ Below w.heap.size w w' := by
  have hb1 : Below w.heap.size w (w.alloc (.cells (dataC h) 98)) := (Below.refl _ _).alloc (Nat.le_refl _) _
  have hA : Blk (w.alloc (.cells (dataC h) 98)) w.heap.size (dataC h) 98 := heap_alloc_new w _
  have hl := hd.len
  have hm0 := hd.bytes.hmax
  have hm1 := hd.host.row.hmax
  have hm2 := hd.mail.row.hmax
  have hm3 := hd.nums.hmax
  have hm4 := hd.texts.row.hmax
  have HB := Lib.hid hb1
  have HN := Lib.hid (show noneB d = (((((h.bl : Int) + (h.hl : Int)) + (h.ml : Int)) + (h.nl : Int)) + (h.tl : Int) == 0) by
    rw [noneB, Bool.eq_iff_iff, decide_eq_true_eq, beq_iff_eq, hl.bytes, hl.host, hl.mail, hl.nums, hl.texts]
    omega)
  obtain ⟨ba, bl, bc, ha, hl, hc, ma, ml, mc, xa, xl, xc, ta, tl, tc⟩ := h
  simp only [dataC] at *
  have c0 := hA.cell 0
  have c1 := hA.cell 1
  have c2 := hA.cell 2
  have c3 := hA.cell 3
  have c4 := hA.cell 4
  simp at c0 c1 c2 c3 c4
  rw [HN.out]
  clear hb1 hA hd hl HN
  go_enter Tryz.func139, Tryz.ntmps139
  go_wp2_with fail
  go_ret
  exact ⟨rfl, HB.out⟩
set_option maxHeartbeats 4000000 in
set_option maxRecDepth 100000 in
theorem dist1_any (w : World) (h k : DataH) (x d : DataP) (hx : IsData w h x) (hd : IsData w k d) (g : Nat) (hg : Blk w g (dataC k) 98) :
    Calls Tryz.prog 155 #[.agg (dataC h), .pointer (some ⟨g, 0, none⟩)] w fun e w' => e = .returned (.bool (sameD x d)) ∧ Below w.heap.size w w' := by
  have hb1 : Below w.heap.size w (w.alloc (.cells (dataC h) 98)) := (Below.refl _ _).alloc (Nat.le_refl _) _
  have hA0 : Blk (w.alloc (.cells (dataC h) 98)) w.heap.size (dataC h) 98 := heap_alloc_new w _
  have HQ := Lib.hid (dsame_any (w.alloc (.cells (dataC h) 98)) h k x d (hx.on hb1) (hd.on hb1))
  have HA := Lib.hid hA0
  have HB := Lib.hid (hg.on hb1)
  have HBE := Lib.hid hb1
  clear hb1 hA0 hx hd hg
  obtain ⟨ba, bl, bc, ha, hl, hc, ma, ml, mc, xa, xl, xc, ta, tl, tc⟩ := h
  obtain ⟨ba', bl', bc', ha', hl', hc', ma', ml', mc', xa', xl', xc', ta', tl', tc'⟩ := k
  simp only [dataC] at HA HB HBE HQ
  go_enter Tryz.func155, Tryz.ntmps155
  simp only [dataC]
  have a0 := HA.out.cell 0
  have a1 := HA.out.cell 1
  have a2 := HA.out.cell 2
  have a3 := HA.out.cell 3
  have a4 := HA.out.cell 4
  have b0 := HB.out.cell 0
  have b1 := HB.out.cell 1
  have b2 := HB.out.cell 2
  have b3 := HB.out.cell 3
  have b4 := HB.out.cell 4
  simp at a0 a1 a2 a3 a4 b0 b1 b2 b3 b4
  go_wp2_with fail
  refine HQ.out.mono ?_
  rintro e w2 ⟨rfl, hb2⟩
  go_wp2_with fail
  go_ret
  exact ⟨rfl, below_on HBE.out hb2 (Nat.le_refl _)⟩

abbrev distF (g : Nat) : Value := .func (.func 155) #[] #[.pointer (some ⟨g, 0, none⟩)]
theorem sany_none {rs : List DataP} {r : DataP} (h : ∀ j (hj : j < rs.length), sameD rs[j] r = false) : sameAny rs r = false := by
  rw [sameAny, List.any_eq_false]
  intro x hx
  obtain ⟨j, hj, rfl⟩ := List.getElem_of_mem hx
  simp [h j hj]
theorem sany_some {rs : List DataP} {r : DataP} {j : Nat} (hj : j < rs.length) (h : sameD rs[j] r = true) : sameAny rs r = true := List.any_eq_true.2 ⟨_, List.getElem_mem hj, h⟩
set_option maxHeartbeats 4000000 in
set_option maxRecDepth 100000 in
theorem indexD_any (w : World) (S : Nat → Prop) (ao : Option Addr) (n c : Nat) (rs : List DataP) (hrs : Datas S w ao n c rs) (k : DataH) (r : DataP) (hr : IsData w k r) (g : Nat) (hg : Blk w g (dataC k) 98) :
    Calls Tryz.prog 179 #[.slice ao n c, distF g] w fun e w' => (∃ i : Int, e = .returned (.int .i64 i) ∧ decide (0 ≤ i) = sameAny rs r) ∧ Below w.heap.size w w' := by
  have hl := hrs.hlen
  have hle := hrs.hle
  have hmx := hrs.hmax
  have HRS := Lib.hid hrs
  have HR := Lib.hid hr
  have HG := Lib.hid hg
  have HL := Lib.hid hl
  clear hrs hr hg hl
  go_enter Tryz.func179, Tryz.ntmps179
  go_wp2_with fail
  go_loopw [8, 5] (fun i _ wr => ∃ j : Nat, j ≤ n ∧ i = .int .i64 j ∧ Hid (Below w.heap.size w wr ∧ ∀ q (hq : q < rs.length), q < j → sameD rs[q] r = false)) (fun i _ _ => n - (intOf i).toNat)
  case atStart => exact ⟨0, Nat.zero_le _, rfl, Below.refl _ _, fun j hj h => absurd h (by omega)⟩
  case round =>
    obtain ⟨j, hj, rfl, hinv⟩ := hrel
    by_cases hlt : j < n
    · obtain ⟨b, off, rfl⟩ := HRS.out.addr hlt
      obtain ⟨h, hc, ho, _⟩ := data_elem ((HRS.out.on hinv.out.1).at hlt)
      obtain ⟨o, hox⟩ : ∃ o, o = rs[j]'(by have := HL.out; omega) := ⟨_, rfl⟩
      rw [← hox] at ho
      have HOX := Lib.hid hox
      have hcall := dist1_any wr h k o r ho (HR.out.on hinv.out.1) g (HG.out.on hinv.out.1)
      obtain ⟨Z, hS⟩ : ∃ S, S = sameD o r := ⟨_, rfl⟩
      rw [← hS] at hcall
      have HS := Lib.hid hS
      have HC := Lib.hid hcall
      have e0 := hc 0 (by omega)
      have e1 := hc 1 (by omega)
      have e2 := hc 2 (by omega)
      have e3 := hc 3 (by omega)
      have e4 := hc 4 (by omega)
      clear hc ho hox hcall hS
      obtain ⟨ba, bl, bc, ha, hl, hc, ma, ml, mc, xa, xl, xc, ta, tl, tc⟩ := h
      simp only [dataC] at HC
      simp [dataC, dataK] at e0 e1 e2 e3 e4
      go_wp2_with fail
      refine HC.out.mono ?_
      rintro e w2 ⟨rfl, hb2⟩
      have HB2 := Lib.hid (below_on hinv.out.1 hb2 (Nat.le_refl _))
      clear hb2 e0 e1 e2 e3 e4
      cases Z
      · go_wp2_with fail
        go_roundw
        case rel =>
          refine ⟨j + 1, by omega, by go_num, HB2.out, fun q hq h => ?_⟩
          rcases Nat.lt_succ_iff_lt_or_eq.1 h with h | rfl
          · exact hinv.out.2 q hq h
          · rw [← HOX.out]; exact HS.out.symm
        case measure => simp [intOf]; omega
      · go_wp2_with fail
        go_ret
        exact ⟨⟨_, rfl, by rw [sany_some (j := j) (by have := HL.out; omega) (by rw [← HOX.out]; exact HS.out.symm)]; simp⟩, HB2.out⟩
    · go_wp2_with fail
      go_ret
      exact ⟨⟨_, rfl, by rw [sany_none fun q hq => hinv.out.2 q hq (by have := HL.out; omega)]; rfl⟩, hinv.out.1⟩
set_option maxRecDepth 100000 in
theorem containsD_any (w : World) (S : Nat → Prop) (ao : Option Addr) (n c : Nat) (rs : List DataP) (hrs : Datas S w ao n c rs) (k : DataH) (r : DataP) (hr : IsData w k r) (g : Nat) (hg : Blk w g (dataC k) 98) :
    Calls Tryz.prog 154 #[.slice ao n c, distF g] w fun e w' => e = .returned (.bool (sameAny rs r)) ∧ Below w.heap.size w w' := by
  have HC := Lib.hid (indexD_any w S ao n c rs hrs k r hr g hg)
  clear hrs hr hg
  go_enter Tryz.func154, Tryz.ntmps154
  go_wp2_with fail
  refine HC.out.mono ?_
  rintro e w2 ⟨⟨i, rfl, hi⟩, hb2⟩
  go_wp2_with fail
  go_ret
  exact ⟨rfl, hb2⟩
end Go.Proofs.YtgfibbjifbghdaaGreat

/- Contracts of fact.Typed, fact.none, the closure of fact.distinct, slices.ContainsFunc at data, fact.distinct, the reference's Typed, In, SameSet and SameKey. -/
import Derived.Test.YtpemdieejgldiaaGreatFactLaw
import Derived.BigQuiet
namespace Go.Proofs.YtpemdieejgldiaaGreat
open Go.ChangeShapes Go.WideShapes Go.ChangeAt Go.RowKit

theorem typed_any (w : World) (k : Int) : Calls Tryz.prog 47 #[.int .i64 k] w fun e w' => e = .returned (.bool (typedB k)) ∧ w = w' := by
  by_cases h1 : 1 ≤ k
  · have d1 : decide (1 ≤ k) = true := decide_eq_true h1
    by_cases h2 : k ≤ 65534
    · have d2 : decide (k ≤ 65534) = true := decide_eq_true h2
      by_cases h3 : k = 41
      · subst h3
        go_enter Tryz.func47, Tryz.ntmps47
        go_wp2_with fail
        go_ret
        exact ⟨rfl, rfl⟩
      · have q3 : (k != 41) = true := by rw [bne_iff_ne]; exact h3
        have H := Lib.hid (show typedB k = (k != 255) by
          rw [typedB, d1, d2, decide_eq_true h3]
          rw [Bool.eq_iff_iff, bne_iff_ne]; simp)
        clear h1 h2 h3
        rw [H.out]
        go_enter Tryz.func47, Tryz.ntmps47
        go_wp2_with fail
        go_ret
        exact ⟨rfl, rfl⟩
    · have d2 : decide (k ≤ 65534) = false := decide_eq_false h2
      have H := Lib.hid (show typedB k = false by rw [typedB, d1, d2]; rfl)
      clear h1 h2
      rw [H.out]
      go_enter Tryz.func47, Tryz.ntmps47
      go_wp2_with fail
      go_ret
      exact ⟨rfl, rfl⟩
  · have d1 : decide (1 ≤ k) = false := decide_eq_false h1
    have H := Lib.hid (show typedB k = false by rw [typedB, d1]; rfl)
    clear h1
    rw [H.out]
    go_enter Tryz.func47, Tryz.ntmps47
    go_wp2_with fail
    go_ret
    exact ⟨rfl, rfl⟩
theorem rtyped_any (w : World) (k : Int) : Calls Tryz.prog 36 #[.int .i64 k] w fun e w' => e = .returned (.bool (typedB k)) ∧ w = w' := by
  by_cases h1 : 1 ≤ k
  · have d1 : decide (1 ≤ k) = true := decide_eq_true h1
    by_cases h2 : k ≤ 65534
    · have d2 : decide (k ≤ 65534) = true := decide_eq_true h2
      by_cases h3 : k = 41
      · subst h3
        go_enter Tryz.func36, Tryz.ntmps36
        go_wp2_with fail
        go_ret
        exact ⟨rfl, rfl⟩
      · have q3 : (k != 41) = true := by rw [bne_iff_ne]; exact h3
        have H := Lib.hid (show typedB k = (k != 255) by
          rw [typedB, d1, d2, decide_eq_true h3]
          rw [Bool.eq_iff_iff, bne_iff_ne]; simp)
        clear h1 h2 h3
        rw [H.out]
        go_enter Tryz.func36, Tryz.ntmps36
        go_wp2_with fail
        go_ret
        exact ⟨rfl, rfl⟩
    · have d2 : decide (k ≤ 65534) = false := decide_eq_false h2
      have H := Lib.hid (show typedB k = false by rw [typedB, d1, d2]; rfl)
      clear h1 h2
      rw [H.out]
      go_enter Tryz.func36, Tryz.ntmps36
      go_wp2_with fail
      go_ret
      exact ⟨rfl, rfl⟩
  · have d1 : decide (1 ≤ k) = false := decide_eq_false h1
    have H := Lib.hid (show typedB k = false by rw [typedB, d1]; rfl)
    clear h1
    rw [H.out]
    go_enter Tryz.func36, Tryz.ntmps36
    go_wp2_with fail
    go_ret
    exact ⟨rfl, rfl⟩
set_option maxRecDepth 100000 in
theorem none_any (w : World) (h : DataH) (d : DataP) (hd : IsData w h d) : Calls Tryz.prog 49 #[.agg (dataC h)] w fun e w' => e = .returned (.bool (noneB d)) ∧ Below w.heap.size w w' := by
  have hb1 : Below w.heap.size w (w.alloc (.cells (dataC h) 34)) := (Below.refl _ _).alloc (Nat.le_refl _) _
  have hA : Blk (w.alloc (.cells (dataC h) 34)) w.heap.size (dataC h) 34 := heap_alloc_new w _
  have hl := hd.len
  have hm0 := hd.bytes.hmax
  have hm1 := hd.host.row.hmax
  have hm2 := hd.mail.row.hmax
  have hm3 := hd.nums.hmax
  have hm4 := hd.texts.row.hmax
  have HB := Lib.hid hb1
  have HN := Lib.hid (show noneB d = (((((h.bl : Int) + (h.hl : Int)) + (h.ml : Int)) + (h.nl : Int)) + (h.tl : Int) == 0) by
    rw [noneB, Bool.eq_iff_iff, decide_eq_true_eq, beq_iff_eq, hl.bytes, hl.host, hl.mail, hl.nums, hl.texts]
    omega)
  obtain ⟨ba, bl, bc, ha, hl, hc, ma, ml, mc, xa, xl, xc, ta, tl, tc⟩ := h
  simp only [dataC] at *
  have c0 := hA.cell 0
  have c1 := hA.cell 1
  have c2 := hA.cell 2
  have c3 := hA.cell 3
  have c4 := hA.cell 4
  simp at c0 c1 c2 c3 c4
  rw [HN.out]
  clear hb1 hA hd hl HN
  go_enter Tryz.func49, Tryz.ntmps49
  go_wp2_with fail
  go_ret
  exact ⟨rfl, HB.out⟩
set_option maxHeartbeats 4000000 in
set_option maxRecDepth 100000 in
theorem dist1_any (w : World) (h k : DataH) (x d : DataP) (hx : IsData w h x) (hd : IsData w k d) (g : Nat) (hg : Blk w g (dataC k) 34) :
    Calls Tryz.prog 76 #[.agg (dataC h), .pointer (some ⟨g, 0, none⟩)] w fun e w' => e = .returned (.bool (sameD x d)) ∧ Below w.heap.size w w' := by
  have hb1 : Below w.heap.size w (w.alloc (.cells (dataC h) 34)) := (Below.refl _ _).alloc (Nat.le_refl _) _
  have hA0 : Blk (w.alloc (.cells (dataC h) 34)) w.heap.size (dataC h) 34 := heap_alloc_new w _
  have HQ := Lib.hid (dsame_any (w.alloc (.cells (dataC h) 34)) h k x d (hx.on hb1) (hd.on hb1))
  have HA := Lib.hid hA0
  have HB := Lib.hid (hg.on hb1)
  have HBE := Lib.hid hb1
  clear hb1 hA0 hx hd hg
  obtain ⟨ba, bl, bc, ha, hl, hc, ma, ml, mc, xa, xl, xc, ta, tl, tc⟩ := h
  obtain ⟨ba', bl', bc', ha', hl', hc', ma', ml', mc', xa', xl', xc', ta', tl', tc'⟩ := k
  simp only [dataC] at HA HB HBE HQ
  go_enter Tryz.func76, Tryz.ntmps76
  simp only [dataC]
  have a0 := HA.out.cell 0
  have a1 := HA.out.cell 1
  have a2 := HA.out.cell 2
  have a3 := HA.out.cell 3
  have a4 := HA.out.cell 4
  have b0 := HB.out.cell 0
  have b1 := HB.out.cell 1
  have b2 := HB.out.cell 2
  have b3 := HB.out.cell 3
  have b4 := HB.out.cell 4
  simp at a0 a1 a2 a3 a4 b0 b1 b2 b3 b4
  go_wp2_with fail
  refine HQ.out.mono ?_
  rintro e w2 ⟨rfl, hb2⟩
  go_wp2_with fail
  go_ret
  exact ⟨rfl, below_on HBE.out hb2 (Nat.le_refl _)⟩

abbrev distF (g : Nat) : Value := .func (.func 76) #[] #[.pointer (some ⟨g, 0, none⟩)]
theorem sany_none {rs : List DataP} {r : DataP} (h : ∀ j (hj : j < rs.length), sameD rs[j] r = false) : sameAny rs r = false := by
  rw [sameAny, List.any_eq_false]
  intro x hx
  obtain ⟨j, hj, rfl⟩ := List.getElem_of_mem hx
  simp [h j hj]
theorem sany_some {rs : List DataP} {r : DataP} {j : Nat} (hj : j < rs.length) (h : sameD rs[j] r = true) : sameAny rs r = true := List.any_eq_true.2 ⟨_, List.getElem_mem hj, h⟩
set_option maxHeartbeats 4000000 in
set_option maxRecDepth 100000 in
theorem indexD_any (w : World) (S : Nat → Prop) (ao : Option Addr) (n c : Nat) (rs : List DataP) (hrs : Datas S w ao n c rs) (k : DataH) (r : DataP) (hr : IsData w k r) (g : Nat) (hg : Blk w g (dataC k) 34) :
    Calls Tryz.prog 103 #[.slice ao n c, distF g] w fun e w' => (∃ i : Int, e = .returned (.int .i64 i) ∧ decide (0 ≤ i) = sameAny rs r) ∧ Below w.heap.size w w' := by
  have hl := hrs.hlen
  have hle := hrs.hle
  have hmx := hrs.hmax
  have HRS := Lib.hid hrs
  have HR := Lib.hid hr
  have HG := Lib.hid hg
  have HL := Lib.hid hl
  clear hrs hr hg hl
  go_enter Tryz.func103, Tryz.ntmps103
  go_wp2_with fail
  go_loopw [8, 5] (fun i _ wr => ∃ j : Nat, j ≤ n ∧ i = .int .i64 j ∧ Hid (Below w.heap.size w wr ∧ ∀ q (hq : q < rs.length), q < j → sameD rs[q] r = false)) (fun i _ _ => n - (intOf i).toNat)
  case atStart => exact ⟨0, Nat.zero_le _, rfl, Below.refl _ _, fun j hj h => absurd h (by omega)⟩
  case round =>
    obtain ⟨j, hj, rfl, hinv⟩ := hrel
    by_cases hlt : j < n
    · obtain ⟨b, off, rfl⟩ := HRS.out.addr hlt
      obtain ⟨h, hc, ho, _⟩ := data_elem ((HRS.out.on hinv.out.1).at hlt)
      obtain ⟨o, hox⟩ : ∃ o, o = rs[j]'(by have := HL.out; omega) := ⟨_, rfl⟩
      rw [← hox] at ho
      have HOX := Lib.hid hox
      have hcall := dist1_any wr h k o r ho (HR.out.on hinv.out.1) g (HG.out.on hinv.out.1)
      obtain ⟨Z, hS⟩ : ∃ S, S = sameD o r := ⟨_, rfl⟩
      rw [← hS] at hcall
      have HS := Lib.hid hS
      have HC := Lib.hid hcall
      have e0 := hc 0 (by omega)
      have e1 := hc 1 (by omega)
      have e2 := hc 2 (by omega)
      have e3 := hc 3 (by omega)
      have e4 := hc 4 (by omega)
      clear hc ho hox hcall hS
      obtain ⟨ba, bl, bc, ha, hl, hc, ma, ml, mc, xa, xl, xc, ta, tl, tc⟩ := h
      simp only [dataC] at HC
      simp [dataC, dataK] at e0 e1 e2 e3 e4
      go_wp2_with fail
      refine HC.out.mono ?_
      rintro e w2 ⟨rfl, hb2⟩
      have HB2 := Lib.hid (below_on hinv.out.1 hb2 (Nat.le_refl _))
      clear hb2 e0 e1 e2 e3 e4
      cases Z
      · go_wp2_with fail
        go_roundw
        case rel =>
          refine ⟨j + 1, by omega, by go_num, HB2.out, fun q hq h => ?_⟩
          rcases Nat.lt_succ_iff_lt_or_eq.1 h with h | rfl
          · exact hinv.out.2 q hq h
          · rw [← HOX.out]; exact HS.out.symm
        case measure => simp [intOf]; omega
      · go_wp2_with fail
        go_ret
        exact ⟨⟨_, rfl, by rw [sany_some (j := j) (by have := HL.out; omega) (by rw [← HOX.out]; exact HS.out.symm)]; simp⟩, HB2.out⟩
    · go_wp2_with fail
      go_ret
      exact ⟨⟨_, rfl, by rw [sany_none fun q hq => hinv.out.2 q hq (by have := HL.out; omega)]; rfl⟩, hinv.out.1⟩
set_option maxRecDepth 100000 in
theorem containsD_any (w : World) (S : Nat → Prop) (ao : Option Addr) (n c : Nat) (rs : List DataP) (hrs : Datas S w ao n c rs) (k : DataH) (r : DataP) (hr : IsData w k r) (g : Nat) (hg : Blk w g (dataC k) 34) :
    Calls Tryz.prog 75 #[.slice ao n c, distF g] w fun e w' => e = .returned (.bool (sameAny rs r)) ∧ Below w.heap.size w w' := by
  have HC := Lib.hid (indexD_any w S ao n c rs hrs k r hr g hg)
  clear hrs hr hg
  go_enter Tryz.func75, Tryz.ntmps75
  go_wp2_with fail
  refine HC.out.mono ?_
  rintro e w2 ⟨⟨i, rfl, hi⟩, hb2⟩
  go_wp2_with fail
  go_ret
  exact ⟨rfl, hb2⟩
set_option maxHeartbeats 4000000 in
set_option maxRecDepth 100000 in
theorem rin_any (w : World) (S : Nat → Prop) (ao : Option Addr) (n c : Nat) (rs : List DataP) (hrs : Datas S w ao n c rs) (k : DataH) (r : DataP) (hr : IsData w k r) :
    Calls Tryz.prog 38 #[.slice ao n c, .agg (dataC k)] w fun e w' => e = .returned (.bool (sameAny rs r)) ∧ Below w.heap.size w w' := by
  have hb1 : Below w.heap.size w (w.alloc (.cells (dataC k) 34)) := (Below.refl _ _).alloc (Nat.le_refl _) _
  have hA : Blk (w.alloc (.cells (dataC k) 34)) w.heap.size (dataC k) 34 := heap_alloc_new w _
  have hl := hrs.hlen
  have hle := hrs.hle
  have hmx := hrs.hmax
  have HRS := Lib.hid hrs
  have HR := Lib.hid hr
  have HG := Lib.hid hA
  have HB := Lib.hid hb1
  have HL := Lib.hid hl
  clear hrs hr hA hl hb1
  obtain ⟨ba', bl', bc', ha', hl', hc', ma', ml', mc', xa', xl', xc', ta', tl', tc'⟩ := k
  simp only [dataC] at HG HB
  go_enter Tryz.func38, Tryz.ntmps38
  simp only [dataC]
  go_wp2_with fail
  go_loopw [5] (fun i wr => ∃ j : Nat, j ≤ n ∧ i = .int .i64 j ∧ Hid (Below w.heap.size w wr ∧ (wr.cell? ⟨w.heap.size, 0, none⟩ = some (.slice ba' bl' bc') ∧ wr.cell? ⟨w.heap.size, 1, none⟩ = some (.slice ha' hl' hc') ∧ wr.cell? ⟨w.heap.size, 2, none⟩ = some (.slice ma' ml' mc') ∧ wr.cell? ⟨w.heap.size, 3, none⟩ = some (.slice xa' xl' xc') ∧ wr.cell? ⟨w.heap.size, 4, none⟩ = some (.slice ta' tl' tc')) ∧ ∀ q (hq : q < rs.length), q < j → sameD rs[q] r = false)) (fun i _ => n - (intOf i).toNat)
  case atStart => exact ⟨0, Nat.zero_le _, rfl, HB.out, ⟨HG.out.cell 0, HG.out.cell 1, HG.out.cell 2, HG.out.cell 3, HG.out.cell 4⟩, fun j hj h => absurd h (by omega)⟩
  case round =>
    obtain ⟨j, hj, rfl, hinv⟩ := hrel
    by_cases hlt : j < n
    · obtain ⟨b, off, rfl⟩ := HRS.out.addr hlt
      have hbd : Below w.heap.size w wr.drew := Below.drew hinv.out.1
      obtain ⟨h, hc, ho, _⟩ := data_elem (HRS.out.at hlt)
      obtain ⟨o, hox⟩ : ∃ o, o = rs[j]'(by have := HL.out; omega) := ⟨_, rfl⟩
      rw [← hox] at ho
      have HOX := Lib.hid hox
      obtain ⟨g0, g1, g2, g3, g4⟩ := hinv.out.2.1
      obtain ⟨Z, hS⟩ : ∃ S, S = sameD o r := ⟨_, rfl⟩
      have HS := Lib.hid hS
      have HC := Lib.hid (fun w' (hb : Below w.heap.size w w') => rdsame_any w' h _ o r (ho.on hb) (HR.out.on hb))
      rw [← hS] at HC
      have e0 := hc 0 (by omega)
      have e1 := hc 1 (by omega)
      have e2 := hc 2 (by omega)
      have e3 := hc 3 (by omega)
      have e4 := hc 4 (by omega)
      clear hc ho hox hS
      obtain ⟨ba, bl, bc, ha, hl, hc, ma, ml, mc, xa, xl, xc, ta, tl, tc⟩ := h
      simp only [dataC] at HC
      simp [dataC, dataK] at e0 e1 e2 e3 e4
      replace e0 := cell_keep hinv.out.1 e0
      replace e1 := cell_keep hinv.out.1 e1
      replace e2 := cell_keep hinv.out.1 e2
      replace e3 := cell_keep hinv.out.1 e3
      replace e4 := cell_keep hinv.out.1 e4
      have hbw := hinv.out.1
      go_wp2_with fail
      go_region_held3 (fun w' => Below w.heap.size w w' ∧ w'.cell? ⟨b, off + j * 5, none⟩ = some (.slice ba bl bc) ∧ w'.cell? ⟨b, off + j * 5 + 1, none⟩ = some (.slice ha hl hc) ∧ w'.cell? ⟨b, off + j * 5 + 2, none⟩ = some (.slice ma ml mc) ∧ w'.cell? ⟨b, off + j * 5 + 3, none⟩ = some (.slice xa xl xc) ∧ w'.cell? ⟨b, off + j * 5 + 4, none⟩ = some (.slice ta tl tc) ∧ w'.cell? ⟨w.heap.size, 0, none⟩ = some (.slice ba' bl' bc') ∧ w'.cell? ⟨w.heap.size, 1, none⟩ = some (.slice ha' hl' hc') ∧ w'.cell? ⟨w.heap.size, 2, none⟩ = some (.slice ma' ml' mc') ∧ w'.cell? ⟨w.heap.size, 3, none⟩ = some (.slice xa' xl' xc') ∧ w'.cell? ⟨w.heap.size, 4, none⟩ = some (.slice ta' tl' tc'))
        (first | go_keep | (go_split_ands; exact ⟨below_on (by assumption) hb2 (Nat.le_refl _), cell_keep hb2 (by assumption), cell_keep hb2 (by assumption), cell_keep hb2 (by assumption), cell_keep hb2 (by assumption), cell_keep hb2 (by assumption), cell_keep hb2 (by assumption), cell_keep hb2 (by assumption), cell_keep hb2 (by assumption), cell_keep hb2 (by assumption), cell_keep hb2 (by assumption)⟩) | (refine ⟨?_, ?_, ?_, ?_, ?_, ?_, ?_, ?_, ?_, ?_, ?_⟩ <;> first | go_keep | exact Below.drew (by assumption)))
        (first | (go_at_call 33; refine (HC.out _ (by assumption)).mono ?_; rintro e w2 ⟨rfl, hb2⟩))
      go_split_ands
      cases Z
      · go_wp2
        go_roundw
        case rel =>
          refine ⟨j + 1, by omega, by go_num, by assumption, ⟨by assumption, by assumption, by assumption, by assumption, by assumption⟩, fun q hq h => ?_⟩
          rcases Nat.lt_succ_iff_lt_or_eq.1 h with h | rfl
          · exact hinv.out.2.2 q hq h
          · rw [← HOX.out]; exact HS.out.symm
        case measure => simp [intOf]; omega
      · go_wp2
        go_ret
        exact ⟨ret_bool (by rw [sany_some (j := j) (by have := HL.out; omega) (by rw [← HOX.out]; exact HS.out.symm)]), by assumption⟩
    · go_wp2_with fail
      go_ret
      exact ⟨ret_bool (by rw [sany_none fun q hq => hinv.out.2.2 q hq (by have := HL.out; omega)]), hinv.out.1⟩
set_option maxHeartbeats 4000000 in
set_option maxRecDepth 100000 in
theorem rsameset_any (w : World) (S : Nat → Prop) (ao bo : Option Addr) (n c m e : Nat) (xs ys : List DataP) (ha : Datas S w ao n c xs) (hb : Datas S w bo m e ys) :
    Calls Tryz.prog 32 #[.slice ao n c, .slice bo m e] w fun e w' => e = .returned (.bool (setB xs ys)) ∧ Below w.heap.size w w' := by
  have hl := ha.hlen
  have hle := ha.hle
  have hmx := ha.hmax
  have hl2 := hb.hlen
  have hle2 := hb.hle
  have hmx2 := hb.hmax
  have HA := Lib.hid ha
  have HB := Lib.hid hb
  have HL := Lib.hid hl
  have HL2 := Lib.hid hl2
  clear ha hb hl hl2
  go_enter Tryz.func32, Tryz.ntmps32
  go_wp2_with fail
  go_loopw [5] (fun i wr => ∃ j : Nat, j ≤ n ∧ i = .int .i64 j ∧ Hid (Below w.heap.size w wr ∧ ∀ q (hq : q < xs.length), q < j → sameAny ys xs[q] = true)) (fun i _ => n - (intOf i).toNat)
  case atStart => exact ⟨0, Nat.zero_le _, rfl, Below.refl _ _, fun j hj h => absurd h (by omega)⟩
  case round =>
    obtain ⟨j, hj, rfl, hinv⟩ := hrel
    by_cases hlt : j < n
    · obtain ⟨b, off, rfl⟩ := HA.out.addr hlt
      obtain ⟨h, hc, ho, _⟩ := data_elem ((HA.out.on hinv.out.1).at hlt)
      obtain ⟨o, hox⟩ : ∃ o, o = xs[j]'(by have := HL.out; omega) := ⟨_, rfl⟩
      rw [← hox] at ho
      have HOX := Lib.hid hox
      obtain ⟨Z, hS⟩ : ∃ S, S = sameAny ys o := ⟨_, rfl⟩
      have HS := Lib.hid hS
      have HC := Lib.hid (rin_any wr S _ _ _ _ (HB.out.on hinv.out.1) h o ho)
      rw [← hS] at HC
      have e0 := hc 0 (by omega)
      have e1 := hc 1 (by omega)
      have e2 := hc 2 (by omega)
      have e3 := hc 3 (by omega)
      have e4 := hc 4 (by omega)
      clear hc ho hox hS
      obtain ⟨ba, bl, bc, ha, hl, hc, ma, ml, mc, xa, xl, xc, ta, tl, tc⟩ := h
      simp only [dataC] at HC
      simp [dataC, dataK] at e0 e1 e2 e3 e4
      go_wp2_with fail
      refine HC.out.mono ?_
      rintro e w2 ⟨rfl, hb2⟩
      have HB2 := Lib.hid (below_on hinv.out.1 hb2 (Nat.le_refl _))
      clear hb2 HC e0 e1 e2 e3 e4
      cases Z
      · go_wp2_with fail
        go_ret
        refine ⟨ret_bool ?_, HB2.out⟩
        have hn : withinB xs ys = false := by
          rw [withinB, List.all_eq_false]
          exact ⟨o, by rw [HOX.out]; exact List.getElem_mem _, by rw [← HS.out]; simp⟩
        rw [setB, hn]; rfl
      · go_wp2_with fail
        go_roundw
        case rel =>
          refine ⟨j + 1, by omega, by go_num, HB2.out, fun q hq h => ?_⟩
          rcases Nat.lt_succ_iff_lt_or_eq.1 h with h | rfl
          · exact hinv.out.2 q hq h
          · rw [← HOX.out]; exact HS.out.symm
        case measure => simp [intOf]; omega
    · have HW := Lib.hid (show withinB xs ys = true by
        rw [withinB, List.all_eq_true]
        intro x hx
        obtain ⟨q, hq, rfl⟩ := List.getElem_of_mem hx
        exact hinv.out.2 q hq (by have := HL.out; omega))
      have HBR := Lib.hid hinv.out.1
      clear hinv
      go_wp2_with fail
      rename World => w3
      go_loopw [6] (fun i wr => ∃ j : Nat, j ≤ m ∧ i = .int .i64 j ∧ Hid (Below w.heap.size w wr ∧ ∀ q (hq : q < ys.length), q < j → sameAny xs ys[q] = true)) (fun i _ => m - (intOf i).toNat)
      case atStart => exact ⟨0, Nat.zero_le _, rfl, HBR.out, fun j hj h => absurd h (by omega)⟩
      case round =>
        obtain ⟨j, hj, rfl, hinv⟩ := hrel
        by_cases hlt : j < m
        · obtain ⟨b, off, rfl⟩ := HB.out.addr hlt
          obtain ⟨h, hc, ho, _⟩ := data_elem ((HB.out.on hinv.out.1).at hlt)
          obtain ⟨o, hox⟩ : ∃ o, o = ys[j]'(by have := HL2.out; omega) := ⟨_, rfl⟩
          rw [← hox] at ho
          have HOX := Lib.hid hox
          obtain ⟨Z, hS⟩ : ∃ S, S = sameAny xs o := ⟨_, rfl⟩
          have HS := Lib.hid hS
          have HC := Lib.hid (rin_any _ S _ _ _ _ (HA.out.on hinv.out.1) h o ho)
          rw [← hS] at HC
          have e0 := hc 0 (by omega)
          have e1 := hc 1 (by omega)
          have e2 := hc 2 (by omega)
          have e3 := hc 3 (by omega)
          have e4 := hc 4 (by omega)
          clear hc ho hox hS
          obtain ⟨ba, bl, bc, ha, hl, hc, ma, ml, mc, xa, xl, xc, ta, tl, tc⟩ := h
          simp only [dataC] at HC
          simp [dataC, dataK] at e0 e1 e2 e3 e4
          go_wp2_with fail
          refine HC.out.mono ?_
          rintro e w2 ⟨rfl, hb2⟩
          have HB2 := Lib.hid (below_on hinv.out.1 hb2 (Nat.le_refl _))
          clear hb2 HC e0 e1 e2 e3 e4
          cases Z
          · go_wp2_with fail
            go_ret
            refine ⟨ret_bool ?_, HB2.out⟩
            have hn : withinB ys xs = false := by
              rw [withinB, List.all_eq_false]
              exact ⟨o, by rw [HOX.out]; exact List.getElem_mem _, by rw [← HS.out]; simp⟩
            rw [setB, hn, Bool.and_false]
          · go_wp2_with fail
            go_roundw
            case rel =>
              refine ⟨j + 1, by omega, by go_num, HB2.out, fun q hq h => ?_⟩
              rcases Nat.lt_succ_iff_lt_or_eq.1 h with h | rfl
              · exact hinv.out.2 q hq h
              · rw [← HOX.out]; exact HS.out.symm
            case measure => simp [intOf]; omega
        · go_wp2_with fail
          go_ret
          refine ⟨ret_bool ?_, hinv.out.1⟩
          have hn : withinB ys xs = true := by
            rw [withinB, List.all_eq_true]
            intro x hx
            obtain ⟨q, hq, rfl⟩ := List.getElem_of_mem hx
            exact hinv.out.2 q hq (by have := HL2.out; omega)
          rw [setB, hn, HW.out]; rfl
end Go.Proofs.YtpemdieejgldiaaGreat

/- Contracts of the reference's SameKey and Same of facts. -/
import Derived.Test.YtpemdieejgldiaaGreatRfsound
namespace Go.Proofs.YtpemdieejgldiaaGreat
open Go.ChangeShapes Go.WideShapes Go.ChangeAt Go.RowKit

set_option maxHeartbeats 16000000 in
set_option maxRecDepth 100000 in
theorem samekey_any (w : World) (S R : Nat → Prop) (h k : FactH) (f g : FactP) (hf : IsFact S w h f) (hg : IsFact R w k g) :
    Calls Tryz.prog 31 #[.agg (factC h f), .agg (factC k g)] w fun e w' => e = .returned (.bool (decide (f.typ = g.typ) && eqB f.name g.name)) ∧ Below w.heap.size w w' := by
  have hb1 : Below w.heap.size w (w.alloc (.cells (factC h f) 36)) := (Below.refl _ _).alloc (Nat.le_refl _) _
  have hs1 : (w.alloc (.cells (factC h f) 36)).heap.size = w.heap.size + 1 := by simp
  have hb2 : Below w.heap.size w ((w.alloc (.cells (factC h f) 36)).alloc (.cells (factC k g) 36)) := hb1.alloc (by omega) _
  have hA0 : Blk (w.alloc (.cells (factC h f) 36)) w.heap.size (factC h f) 36 := heap_alloc_new w _
  have HA0 := Lib.hid (hA0.on ((Below.refl _ _).alloc (Nat.le_refl _) (.cells (factC k g) 36)))
  have HD0 := Lib.hid (show Blk ((w.alloc (.cells (factC h f) 36)).alloc (.cells (factC k g) 36)) (w.heap.size + 1) (factC k g) 36 by rw [← hs1]; exact heap_alloc_new _ _)
  have HB0 := Lib.hid hb2
  have HY0 := Lib.hid (Below.refl ((w.alloc (.cells (factC h f) 36)).alloc (.cells (factC k g) 36)).heap.size ((w.alloc (.cells (factC h f) 36)).alloc (.cells (factC k g) 36)))
  have HF0 := Lib.hid (hf.on hb2)
  have HG0 := Lib.hid (hg.on hb2)
  obtain ⟨EB, hEB⟩ : ∃ q, q = eqB f.name g.name := ⟨_, rfl⟩
  have HEB := Lib.hid (requal_any _ _ _ _ _ _ _ _ _ HF0.out.name HG0.out.name)
  rw [← hEB] at HEB
  rw [← hEB]
  clear hb1 hs1 hb2 hA0 hf hg hEB
  obtain ⟨na, nl, nc, sa, sl, sc, za, zl, zc, ⟨ba, bl, bc, ha, hl, hc, ma, ml, mc, xa, xl, xc, ta, tl, tc⟩⟩ := h
  obtain ⟨na', nl', nc', sa', sl', sc', za', zl', zc', ⟨ba', bl', bc', ha', hl', hc', ma', ml', mc', xa', xl', xc', ta', tl', tc'⟩⟩ := k
  simp only [factC] at HA0 HD0 HB0 HY0 HF0 HG0 HEB
  go_enter Tryz.func31, Tryz.ntmps31
  simp only [factC]
  by_cases ht : f.typ = g.typ
  · have q : (f.typ == g.typ) = true := by rw [ht]; simp
    rw [decide_eq_true ht]
    clear ht
    go_wp2_with fail
    refine HEB.out.mono ?_
    rintro e w' ⟨rfl, hb⟩
    go_wp2_with fail
    go_ret
    exact ⟨rfl, below_on HB0.out hb (Nat.le_refl _)⟩
  · have q : (f.typ == g.typ) = false := by rw [beq_eq_false_iff_ne]; exact ht
    rw [decide_eq_false ht]
    clear ht
    go_wp2_with fail
    go_ret
    exact ⟨rfl, HB0.out⟩
set_option maxHeartbeats 16000000 in
set_option maxRecDepth 100000 in
theorem rsame12_any (w : World) (S R : Nat → Prop) (h k : FactH) (f g : FactP) (hf : IsFact S w h f) (hg : IsFact R w k g) :
    Calls Tryz.prog 14 #[.agg (factC h f), .agg (factC k g)] w fun e w' => e = .returned (.bool (sameF f g)) ∧ Below w.heap.size w w' := by
  have hb1 : Below w.heap.size w (w.alloc (.cells (factC h f) 36)) := (Below.refl _ _).alloc (Nat.le_refl _) _
  have hs1 : (w.alloc (.cells (factC h f) 36)).heap.size = w.heap.size + 1 := by simp
  have hb2 : Below w.heap.size w ((w.alloc (.cells (factC h f) 36)).alloc (.cells (factC k g) 36)) := hb1.alloc (by omega) _
  have hA0 : Blk (w.alloc (.cells (factC h f) 36)) w.heap.size (factC h f) 36 := heap_alloc_new w _
  have HA0 := Lib.hid (hA0.on ((Below.refl _ _).alloc (Nat.le_refl _) (.cells (factC k g) 36)))
  have HD0 := Lib.hid (show Blk ((w.alloc (.cells (factC h f) 36)).alloc (.cells (factC k g) 36)) (w.heap.size + 1) (factC k g) 36 by rw [← hs1]; exact heap_alloc_new _ _)
  have HB0 := Lib.hid hb2
  have HY0 := Lib.hid (Below.refl ((w.alloc (.cells (factC h f) 36)).alloc (.cells (factC k g) 36)).heap.size ((w.alloc (.cells (factC h f) 36)).alloc (.cells (factC k g) 36)))
  have HF0 := Lib.hid (hf.on hb2)
  have HG0 := Lib.hid (hg.on hb2)
  obtain ⟨FB, hFB⟩ : ∃ q, q = factB f := ⟨_, rfl⟩
  obtain ⟨GB, hGB⟩ : ∃ q, q = factB g := ⟨_, rfl⟩
  obtain ⟨KB, hKB⟩ : ∃ q, q = (decide (f.typ = g.typ) && eqB f.name g.name) := ⟨_, rfl⟩
  obtain ⟨SB, hSB⟩ : ∃ q, q = setB f.set g.set := ⟨_, rfl⟩
  obtain ⟨ZB, hZB⟩ : ∃ q, q = eqB f.zone g.zone := ⟨_, rfl⟩
  obtain ⟨DB, hDB⟩ : ∃ q, q = sameD f.soa g.soa := ⟨_, rfl⟩
  obtain ⟨B, hB⟩ : ∃ q, q = sameF f g := ⟨_, rfl⟩
  have HFB := Lib.hid (rfsound_any _ S _ _ HF0.out)
  rw [← hFB] at HFB
  have HGB := Lib.hid (fun w' (p : IsFact R w' k g) => rfsound_any w' R _ _ p)
  rw [← hGB] at HGB
  have HKB := Lib.hid (fun w' (p : IsFact S w' h f) (q : IsFact R w' k g) => samekey_any w' S R _ _ _ _ p q)
  rw [← hKB] at HKB
  have HSB := Lib.hid (fun w' (p : Datas (fun _ => True) w' h.sa h.sl h.sc f.set) (q : Datas (fun _ => True) w' k.sa k.sl k.sc g.set) => rsameset_any w' _ _ _ _ _ _ _ _ _ p q)
  rw [← hSB] at HSB
  have HZB := Lib.hid (fun w' (p : Strs w' h.za h.zl h.zc f.zone) (q : Strs w' k.za k.zl k.zc g.zone) => requal_any w' _ _ _ _ _ _ _ _ p q)
  rw [← hZB] at HZB
  have HDB := Lib.hid (fun w' (p : IsData w' h.d f.soa) (q : IsData w' k.d g.soa) => rdsame_any w' _ _ _ _ p q)
  rw [← hDB] at HDB
  have HE0 := Lib.hid (show B = (FB && (GB && (KB && (decide (f.kind = g.kind) && (decide (f.rank = g.rank) && (decide (f.got = g.got) && (decide (f.ttl = g.ttl) && (SB && (ZB && DB))))))))) by
    rw [hB, sameF, hFB, hGB, hKB, hSB, hZB, hDB]
    simp only [Bool.and_assoc])
  rw [← hB]
  clear hb1 hs1 hb2 hA0 hf hg hB hFB hGB hKB hSB hZB hDB
  obtain ⟨na, nl, nc, sa, sl, sc, za, zl, zc, ⟨ba, bl, bc, ha, hl, hc, ma, ml, mc, xa, xl, xc, ta, tl, tc⟩⟩ := h
  obtain ⟨na', nl', nc', sa', sl', sc', za', zl', zc', ⟨ba', bl', bc', ha', hl', hc', ma', ml', mc', xa', xl', xc', ta', tl', tc'⟩⟩ := k
  simp only [factC] at HA0 HD0 HB0 HY0 HF0 HG0 HFB HGB HKB HSB HZB HDB
  simp only [dataC] at HDB
  go_enter Tryz.func14, Tryz.ntmps14
  simp only [factC]
  go_wp2_with fail
  refine (HFB.out).mono ?_
  rintro e w2 ⟨rfl, hb⟩
  have HB1 := Lib.hid (below_on HB0.out hb (Nat.le_refl _))
  have HY1 := Lib.hid (below_on HY0.out hb (Nat.le_refl _))
  clear hb HB0 HY0
  have hA := HA0.out.on HY1.out
  have c0 := hA.cell 0
  have c1 := hA.cell 1
  have c2 := hA.cell 2
  have c3 := hA.cell 3
  have c4 := hA.cell 4
  have c5 := hA.cell 5
  have c6 := hA.cell 6
  have c7 := hA.cell 7
  have c8 := hA.cell 8
  have c9 := hA.cell 9
  have c10 := hA.cell 10
  have c11 := hA.cell 11
  have c12 := hA.cell 12
  clear hA
  have hA := HD0.out.on HY1.out
  have d0 := hA.cell 0
  have d1 := hA.cell 1
  have d2 := hA.cell 2
  have d3 := hA.cell 3
  have d4 := hA.cell 4
  have d5 := hA.cell 5
  have d6 := hA.cell 6
  have d7 := hA.cell 7
  have d8 := hA.cell 8
  have d9 := hA.cell 9
  have d10 := hA.cell 10
  have d11 := hA.cell 11
  have d12 := hA.cell 12
  clear hA
  simp at c0 c1 c2 c3 c4 c5 c6 c7 c8 c9 c10 c11 c12 d0 d1 d2 d3 d4 d5 d6 d7 d8 d9 d10 d11 d12
  cases FB
  · have HF := Lib.hid (show B = false by rw [HE0.out]; rfl)
    go_wp2_with fail
    go_ret
    exact ⟨ret_bool (HF.out).symm, HB1.out⟩
  have HE1 := Lib.hid (show B = (GB && (KB && (decide (f.kind = g.kind) && (decide (f.rank = g.rank) && (decide (f.got = g.got) && (decide (f.ttl = g.ttl) && (SB && (ZB && (DB))))))))) by rw [HE0.out]; rfl)
  clear HE0
  go_wp2_with fail
  refine (HGB.out _ (HG0.out.on HY1.out)).mono ?_
  rintro e w3 ⟨rfl, hb⟩
  have HB2 := Lib.hid (below_on HB1.out hb (Nat.le_refl _))
  have HY2 := Lib.hid (below_on HY1.out hb (Nat.le_refl _))
  clear hb HB1 HY1
  clear c0 c1 c2 c3 c4 c5 c6 c7 c8 c9 c10 c11 c12 d0 d1 d2 d3 d4 d5 d6 d7 d8 d9 d10 d11 d12
  have hA := HA0.out.on HY2.out
  have c0 := hA.cell 0
  have c1 := hA.cell 1
  have c2 := hA.cell 2
  have c3 := hA.cell 3
  have c4 := hA.cell 4
  have c5 := hA.cell 5
  have c6 := hA.cell 6
  have c7 := hA.cell 7
  have c8 := hA.cell 8
  have c9 := hA.cell 9
  have c10 := hA.cell 10
  have c11 := hA.cell 11
  have c12 := hA.cell 12
  clear hA
  have hA := HD0.out.on HY2.out
  have d0 := hA.cell 0
  have d1 := hA.cell 1
  have d2 := hA.cell 2
  have d3 := hA.cell 3
  have d4 := hA.cell 4
  have d5 := hA.cell 5
  have d6 := hA.cell 6
  have d7 := hA.cell 7
  have d8 := hA.cell 8
  have d9 := hA.cell 9
  have d10 := hA.cell 10
  have d11 := hA.cell 11
  have d12 := hA.cell 12
  clear hA
  simp at c0 c1 c2 c3 c4 c5 c6 c7 c8 c9 c10 c11 c12 d0 d1 d2 d3 d4 d5 d6 d7 d8 d9 d10 d11 d12
  cases GB
  · have HF := Lib.hid (show B = false by rw [HE1.out]; rfl)
    go_wp2_with fail
    go_ret
    exact ⟨ret_bool (HF.out).symm, HB2.out⟩
  have HE2 := Lib.hid (show B = (KB && (decide (f.kind = g.kind) && (decide (f.rank = g.rank) && (decide (f.got = g.got) && (decide (f.ttl = g.ttl) && (SB && (ZB && (DB)))))))) by rw [HE1.out]; rfl)
  clear HE1
  go_wp2_with fail
  refine (HKB.out _ (HF0.out.on HY2.out) (HG0.out.on HY2.out)).mono ?_
  rintro e w4 ⟨rfl, hb⟩
  have HB3 := Lib.hid (below_on HB2.out hb (Nat.le_refl _))
  have HY3 := Lib.hid (below_on HY2.out hb (Nat.le_refl _))
  clear hb HB2 HY2
  clear c0 c1 c2 c3 c4 c5 c6 c7 c8 c9 c10 c11 c12 d0 d1 d2 d3 d4 d5 d6 d7 d8 d9 d10 d11 d12
  have hA := HA0.out.on HY3.out
  have c0 := hA.cell 0
  have c1 := hA.cell 1
  have c2 := hA.cell 2
  have c3 := hA.cell 3
  have c4 := hA.cell 4
  have c5 := hA.cell 5
  have c6 := hA.cell 6
  have c7 := hA.cell 7
  have c8 := hA.cell 8
  have c9 := hA.cell 9
  have c10 := hA.cell 10
  have c11 := hA.cell 11
  have c12 := hA.cell 12
  clear hA
  have hA := HD0.out.on HY3.out
  have d0 := hA.cell 0
  have d1 := hA.cell 1
  have d2 := hA.cell 2
  have d3 := hA.cell 3
  have d4 := hA.cell 4
  have d5 := hA.cell 5
  have d6 := hA.cell 6
  have d7 := hA.cell 7
  have d8 := hA.cell 8
  have d9 := hA.cell 9
  have d10 := hA.cell 10
  have d11 := hA.cell 11
  have d12 := hA.cell 12
  clear hA
  simp at c0 c1 c2 c3 c4 c5 c6 c7 c8 c9 c10 c11 c12 d0 d1 d2 d3 d4 d5 d6 d7 d8 d9 d10 d11 d12
  cases KB
  · have HF := Lib.hid (show B = false by rw [HE2.out]; rfl)
    go_wp2_with fail
    go_ret
    exact ⟨ret_bool (HF.out).symm, HB3.out⟩
  have HE3 := Lib.hid (show B = (decide (f.kind = g.kind) && (decide (f.rank = g.rank) && (decide (f.got = g.got) && (decide (f.ttl = g.ttl) && (SB && (ZB && (DB))))))) by rw [HE2.out]; rfl)
  clear HE2
  by_cases h0 : f.kind = g.kind
  case neg =>
    have q0 : (f.kind == g.kind) = false := by rw [beq_eq_false_iff_ne]; exact h0
    have HF := Lib.hid (show B = false by rw [HE3.out, decide_eq_false h0]; rfl)
    clear h0
    go_wp2_with fail
    go_ret
    exact ⟨ret_bool (HF.out).symm, HB3.out⟩
  have q0 : (f.kind == g.kind) = true := by rw [beq_iff_eq]; exact h0
  have HE4 := Lib.hid (show B = (decide (f.rank = g.rank) && (decide (f.got = g.got) && (decide (f.ttl = g.ttl) && (SB && (ZB && (DB)))))) by rw [HE3.out, decide_eq_true h0]; rfl)
  clear HE3
  clear h0
  by_cases h1 : f.rank = g.rank
  case neg =>
    have q1 : (f.rank == g.rank) = false := by rw [beq_eq_false_iff_ne]; exact h1
    have HF := Lib.hid (show B = false by rw [HE4.out, decide_eq_false h1]; rfl)
    clear h1
    go_wp2_with fail
    go_ret
    exact ⟨ret_bool (HF.out).symm, HB3.out⟩
  have q1 : (f.rank == g.rank) = true := by rw [beq_iff_eq]; exact h1
  have HE5 := Lib.hid (show B = (decide (f.got = g.got) && (decide (f.ttl = g.ttl) && (SB && (ZB && (DB))))) by rw [HE4.out, decide_eq_true h1]; rfl)
  clear HE4
  clear h1
  by_cases h2 : f.got = g.got
  case neg =>
    have q2 : (f.got == g.got) = false := by rw [beq_eq_false_iff_ne]; exact h2
    have HF := Lib.hid (show B = false by rw [HE5.out, decide_eq_false h2]; rfl)
    clear h2
    go_wp2_with fail
    go_ret
    exact ⟨ret_bool (HF.out).symm, HB3.out⟩
  have q2 : (f.got == g.got) = true := by rw [beq_iff_eq]; exact h2
  have HE6 := Lib.hid (show B = (decide (f.ttl = g.ttl) && (SB && (ZB && (DB)))) by rw [HE5.out, decide_eq_true h2]; rfl)
  clear HE5
  clear h2
  by_cases h3 : f.ttl = g.ttl
  case neg =>
    have q3 : (f.ttl == g.ttl) = false := by rw [beq_eq_false_iff_ne]; exact h3
    have HF := Lib.hid (show B = false by rw [HE6.out, decide_eq_false h3]; rfl)
    clear h3
    go_wp2_with fail
    go_ret
    exact ⟨ret_bool (HF.out).symm, HB3.out⟩
  have q3 : (f.ttl == g.ttl) = true := by rw [beq_iff_eq]; exact h3
  have HE7 := Lib.hid (show B = (SB && (ZB && (DB))) by rw [HE6.out, decide_eq_true h3]; rfl)
  clear HE6
  clear h3
  go_wp2_with fail
  refine (HSB.out _ ((HF0.out.set.on HY3.out).mono (fun _ _ _ => trivial)) ((HG0.out.set.on HY3.out).mono (fun _ _ _ => trivial))).mono ?_
  rintro e w5 ⟨rfl, hb⟩
  have HB4 := Lib.hid (below_on HB3.out hb (Nat.le_refl _))
  have HY4 := Lib.hid (below_on HY3.out hb (Nat.le_refl _))
  clear hb HB3 HY3
  clear c0 c1 c2 c3 c4 c5 c6 c7 c8 c9 c10 c11 c12 d0 d1 d2 d3 d4 d5 d6 d7 d8 d9 d10 d11 d12
  have hA := HA0.out.on HY4.out
  have c0 := hA.cell 0
  have c1 := hA.cell 1
  have c2 := hA.cell 2
  have c3 := hA.cell 3
  have c4 := hA.cell 4
  have c5 := hA.cell 5
  have c6 := hA.cell 6
  have c7 := hA.cell 7
  have c8 := hA.cell 8
  have c9 := hA.cell 9
  have c10 := hA.cell 10
  have c11 := hA.cell 11
  have c12 := hA.cell 12
  clear hA
  have hA := HD0.out.on HY4.out
  have d0 := hA.cell 0
  have d1 := hA.cell 1
  have d2 := hA.cell 2
  have d3 := hA.cell 3
  have d4 := hA.cell 4
  have d5 := hA.cell 5
  have d6 := hA.cell 6
  have d7 := hA.cell 7
  have d8 := hA.cell 8
  have d9 := hA.cell 9
  have d10 := hA.cell 10
  have d11 := hA.cell 11
  have d12 := hA.cell 12
  clear hA
  simp at c0 c1 c2 c3 c4 c5 c6 c7 c8 c9 c10 c11 c12 d0 d1 d2 d3 d4 d5 d6 d7 d8 d9 d10 d11 d12
  cases SB
  · have HF := Lib.hid (show B = false by rw [HE7.out]; rfl)
    go_wp2_with fail
    go_ret
    exact ⟨ret_bool (HF.out).symm, HB4.out⟩
  have HE8 := Lib.hid (show B = (ZB && (DB)) by rw [HE7.out]; rfl)
  clear HE7
  go_wp2_with fail
  refine (HZB.out _ (HF0.out.on HY4.out).zone (HG0.out.on HY4.out).zone).mono ?_
  rintro e w6 ⟨rfl, hb⟩
  have HB5 := Lib.hid (below_on HB4.out hb (Nat.le_refl _))
  have HY5 := Lib.hid (below_on HY4.out hb (Nat.le_refl _))
  clear hb HB4 HY4
  clear c0 c1 c2 c3 c4 c5 c6 c7 c8 c9 c10 c11 c12 d0 d1 d2 d3 d4 d5 d6 d7 d8 d9 d10 d11 d12
  have hA := HA0.out.on HY5.out
  have c0 := hA.cell 0
  have c1 := hA.cell 1
  have c2 := hA.cell 2
  have c3 := hA.cell 3
  have c4 := hA.cell 4
  have c5 := hA.cell 5
  have c6 := hA.cell 6
  have c7 := hA.cell 7
  have c8 := hA.cell 8
  have c9 := hA.cell 9
  have c10 := hA.cell 10
  have c11 := hA.cell 11
  have c12 := hA.cell 12
  clear hA
  have hA := HD0.out.on HY5.out
  have d0 := hA.cell 0
  have d1 := hA.cell 1
  have d2 := hA.cell 2
  have d3 := hA.cell 3
  have d4 := hA.cell 4
  have d5 := hA.cell 5
  have d6 := hA.cell 6
  have d7 := hA.cell 7
  have d8 := hA.cell 8
  have d9 := hA.cell 9
  have d10 := hA.cell 10
  have d11 := hA.cell 11
  have d12 := hA.cell 12
  clear hA
  simp at c0 c1 c2 c3 c4 c5 c6 c7 c8 c9 c10 c11 c12 d0 d1 d2 d3 d4 d5 d6 d7 d8 d9 d10 d11 d12
  cases ZB
  · have HF := Lib.hid (show B = false by rw [HE8.out]; rfl)
    go_wp2_with fail
    go_ret
    exact ⟨ret_bool (HF.out).symm, HB5.out⟩
  have HE9 := Lib.hid (show B = (DB) by rw [HE8.out]; rfl)
  clear HE8
  go_wp2_with fail
  refine (HDB.out _ (HF0.out.on HY5.out).soa (HG0.out.on HY5.out).soa).mono ?_
  rintro e w9 ⟨rfl, hb⟩
  have HB9 := Lib.hid (below_on HB5.out hb (Nat.le_refl _))
  clear hb
  go_wp2_with fail
  go_ret
  exact ⟨ret_bool HE9.out.symm, HB9.out⟩
end Go.Proofs.YtpemdieejgldiaaGreat

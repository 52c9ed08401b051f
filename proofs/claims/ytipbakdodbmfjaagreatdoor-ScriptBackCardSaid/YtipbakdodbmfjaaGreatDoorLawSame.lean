/- Contracts of the reference's Same and of the statements' own same: whether two acts are one. -/
import Derived.Test.YtipbakdodbmfjaaGreatDoorSame
import Derived.Test.YtipbakdodbmfjaaGreatDoorLists
namespace Go.Proofs.YtipbakdodbmfjaaGreatDoor
open Go.ChangeShapes Go.WideShapes Go.ChangeAt Go.RowKit

set_option maxHeartbeats 1000000 in
theorem rsame_any (w : World) (ao bo : Option Addr) (la ca lb cb : Nat) (sa sb : List UInt8) (ha : Byts w ao la ca sa) (hb : Byts w bo lb cb sb) :
    Calls Tryz.prog 78 #[.slice ao la ca, .slice bo lb cb] w fun e w' => e = .returned (.bool (decide (sa = sb))) ∧ Below w.heap.size w w' := by
  have hla : sa.length = la := by simpa using ha.hlen
  have hlb : sb.length = lb := by simpa using hb.hlen
  have hmx := ha.hmax
  have hca := ha.hcap
  have hle := ha.hle
  have hcb := hb.hcap
  have hleb := hb.hle
  by_cases hll : la = lb
  · subst hll
    go_enter Tryz.func78, Tryz.ntmps78
    go_wp2
    go_loopw [5] (fun i wr => ∃ k : Nat, k ≤ la ∧ i = .int .i64 k ∧ Below w.heap.size w wr ∧ Hid (∀ j (hj : j < sa.length) (hj' : j < sb.length), j < k → sa[j] = sb[j])) (fun i _ => la - (intOf i).toNat)
    case atStart => exact ⟨0, Nat.zero_le _, rfl, Below.refl _ _, fun j hj _ h => absurd h (by omega)⟩
    case round =>
      obtain ⟨k, hk, rfl, hbr, hno⟩ := hrel
      by_cases hlt : k < la
      · obtain ⟨b1, off1, rfl⟩ := ha.addr hlt
        obtain ⟨b2, off2, rfl⟩ := hb.addr hlt
        have hc1 := (ha.below hbr (Nat.le_refl _)).at hlt
        have hc2 := (hb.below hbr (Nat.le_refl _)).at hlt
        rw [List.getElem_map] at hc1 hc2
        obtain ⟨x, hxk⟩ : ∃ x, x = sa[k] := ⟨_, rfl⟩
        obtain ⟨y, hyk⟩ : ∃ y, y = sb[k] := ⟨_, rfl⟩
        rw [← hxk] at hc1
        rw [← hyk] at hc2
        obtain ⟨n1, hn1⟩ : ∃ n, n = x.toNat := ⟨_, rfl⟩
        obtain ⟨n2, hn2⟩ : ∃ n, n = y.toNat := ⟨_, rfl⟩
        rw [← hn1] at hc1
        rw [← hn2] at hc2
        have HX := Lib.hid hxk; clear hxk
        have HY := Lib.hid hyk; clear hyk
        have H1 := Lib.hid hn1; clear hn1
        have H2 := Lib.hid hn2; clear hn2
        have hkp : (0 : Int) ≤ (k : Int) := Int.natCast_nonneg _
        have hkl : (k : Int) < (la : Int) := by omega
        by_cases hs : n1 = n2
        · have hT : ((n1 : Int) != (n2 : Int)) = false := by rw [bne_eq_false_iff_eq]; omega
          have HS := Lib.hid hs
          clear hs
          go_wp2_with fail
          go_quiet (fail)
          go_wp2
          go_roundw
          case rel =>
            refine ⟨k + 1, by omega, by go_num, below_drewN hbr _, fun j hj hj' h => ?_⟩
            rcases Nat.lt_succ_iff_lt_or_eq.1 h with h | rfl
            · exact hno.out j hj hj' h
            · rw [← HX.out, ← HY.out]; apply UInt8.toNat_inj.1; rw [← H1.out, ← H2.out]; exact HS.out
          case measure => simp [intOf]; omega
        · have hT : ((n1 : Int) != (n2 : Int)) = true := by rw [bne_iff_ne]; omega
          have HS := Lib.hid hs
          clear hs
          go_wp2_with fail
          go_quiet (fail)
          go_wp2
          go_ret
          refine ⟨ret_bool ?_, below_drewN hbr _⟩
          have : ¬ sa = sb := by
            intro e; subst e
            exact HS.out (by rw [H1.out, H2.out, HX.out, HY.out])
          simp [this]
      · go_wp2
        go_ret
        refine ⟨ret_bool ?_, hbr⟩
        have : sa = sb := List.ext_getElem (by omega) (fun j h1 h2 => hno.out j h1 h2 (by omega))
        simp [this]
  · have hne : ((la : Int) != (lb : Int)) = true := by rw [bne_iff_ne]; omega
    go_enter Tryz.func78, Tryz.ntmps78
    go_wp2
    go_ret
    refine ⟨ret_bool ?_, Below.refl _ _⟩
    have : ¬ sa = sb := by intro e; subst e; omega
    simp [this]

set_option maxHeartbeats 4000000 in
set_option maxRecDepth 100000 in
theorem lsame_any (w : World) (x y : ActP) (nao : Option Addr) (nl nc : Nat) (dao : Option Addr) (dl dc : Nat) (nao2 : Option Addr) (nl2 nc2 : Nat) (dao2 : Option Addr) (dl2 dc2 : Nat)
    (hnx : Strs w nao nl nc x.name) (hdx : Byts w dao dl dc x.data) (hny : Strs w nao2 nl2 nc2 y.name) (hdy : Byts w dao2 dl2 dc2 y.data) :
    Calls Tryz.prog 37 #[.agg (actCells x nao nl nc dao dl dc), .agg (actCells y nao2 nl2 nc2 dao2 dl2 dc2)] w fun e w' => e = .returned (.bool (sameP x y)) ∧ Below w.heap.size w w' := by
  obtain ⟨W1, hW1⟩ : ∃ z, z = w.alloc (.cells (actCells x nao nl nc dao dl dc) 60) := ⟨_, rfl⟩
  obtain ⟨W2, hW2⟩ : ∃ z, z = W1.alloc (.cells (actCells y nao2 nl2 nc2 dao2 dl2 dc2) 60) := ⟨_, rfl⟩
  have hs1 : W1.heap.size = w.heap.size + 1 := by rw [hW1, World.size_alloc]
  have hb1 : Below w.heap.size w W1 := by rw [hW1]; exact (Below.refl _ _).alloc (Nat.le_refl _) _
  have hb12 : Below W1.heap.size W1 W2 := by rw [hW2]; exact (Below.refl _ _).alloc (Nat.le_refl _) _
  have hb2 : Below w.heap.size w W2 := below_on hb1 hb12 (Nat.le_refl _)
  have hA : Blk W2 w.heap.size (actCells x nao nl nc dao dl dc) 60 := by
    refine Blk.on ?_ hb12
    rw [hW1]; exact heap_alloc_new w _
  have hB : Blk W2 (w.heap.size + 1) (actCells y nao2 nl2 nc2 dao2 dl2 dc2) 60 := by
    rw [hW2, ← hs1]; exact heap_alloc_new W1 _
  have hex := exact_any W2 nao nao2 nl nc nl2 nc2 x.name y.name (hnx.below hb2 (Nat.le_refl _)) (hny.below hb2 (Nat.le_refl _))
  have HDX := Lib.hid (hdx.below hb2 (Nat.le_refl _))
  have HDY := Lib.hid (hdy.below hb2 (Nat.le_refl _))
  have a0 := hA.cell 0
  have b0 := hB.cell 0
  have a1 := hA.cell 1
  have b1 := hB.cell 1
  have a2 := hA.cell 2
  have b2 := hB.cell 2
  have a3 := hA.cell 3
  have b3 := hB.cell 3
  have a4 := hA.cell 4
  have b4 := hB.cell 4
  have a5 := hA.cell 5
  have b5 := hB.cell 5
  have a6 := hA.cell 6
  have b6 := hB.cell 6
  have a7 := hA.cell 7
  have b7 := hB.cell 7
  simp [actCells] at a0 b0 a1 b1 a2 b2 a3 b3 a4 b4 a5 b5 a6 b6 a7 b7
  have HB2 := Lib.hid hb2
  simp only [actCells] at hW1 hW2
  rw [hW1] at hW2
  subst hW2
  clear hb1 hb12 hs1 hW1 W1
  clear hnx hny hdx hdy hb2 hA hB
  by_cases h0 : x.kind = y.kind
  rotate_left
  · have HS := Lib.hid (sameP_ne (x := x) (y := y) (by intro h; apply h0; rw [h]))
    have g0 : ((x.kind == y.kind) = false) := by rw [beq_eq_false_iff_ne]; intro h; exact h0 h
    clear h0
    go_enter Tryz.func37, Tryz.ntmps37
    simp only [actCells]
    go_wp2_with fail
    go_ret
    exact ⟨by rw [HS.out]; rfl, HB2.out⟩
  have g0 : ((x.kind == y.kind) = true) := by rw [h0, beq_self_eq_true]
  have H0 := Lib.hid h0
  clear h0
  by_cases h1 : x.a = y.a
  rotate_left
  · have HS := Lib.hid (sameP_ne (x := x) (y := y) (by intro h; apply h1; rw [h]))
    have g1 : ((x.a == y.a) = false) := by rw [beq_eq_false_iff_ne]; intro h; exact h1 h
    clear h1
    go_enter Tryz.func37, Tryz.ntmps37
    simp only [actCells]
    go_wp2_with fail
    go_ret
    exact ⟨by rw [HS.out]; rfl, HB2.out⟩
  have g1 : ((x.a == y.a) = true) := by rw [h1, beq_self_eq_true]
  have H1 := Lib.hid h1
  clear h1
  by_cases h2 : x.b = y.b
  rotate_left
  · have HS := Lib.hid (sameP_ne (x := x) (y := y) (by intro h; apply h2; rw [h]))
    have g2 : ((x.b == y.b) = false) := by rw [beq_eq_false_iff_ne]; intro h; exact h2 h
    clear h2
    go_enter Tryz.func37, Tryz.ntmps37
    simp only [actCells]
    go_wp2_with fail
    go_ret
    exact ⟨by rw [HS.out]; rfl, HB2.out⟩
  have g2 : ((x.b == y.b) = true) := by rw [h2, beq_self_eq_true]
  have H2 := Lib.hid h2
  clear h2
  by_cases h3 : x.n = y.n
  rotate_left
  · have HS := Lib.hid (sameP_ne (x := x) (y := y) (by intro h; apply h3; rw [h]))
    have g3 : ((x.n == y.n) = false) := by rw [beq_eq_false_iff_ne]; intro h; exact h3 h
    clear h3
    go_enter Tryz.func37, Tryz.ntmps37
    simp only [actCells]
    go_wp2_with fail
    go_ret
    exact ⟨by rw [HS.out]; rfl, HB2.out⟩
  have g3 : ((x.n == y.n) = true) := by rw [h3, beq_self_eq_true]
  have H3 := Lib.hid h3
  clear h3
  by_cases h4 : x.name = y.name
  rotate_left
  · have HS := Lib.hid (sameP_ne (x := x) (y := y) (by intro h; apply h4; rw [h]))
    have q4 : exactB x.name y.name = false := by simp [exactB, h4]
    rw [q4] at hex
    have HEX := Lib.hid hex
    clear h4 hex q4
    go_enter Tryz.func37, Tryz.ntmps37
    simp only [actCells]
    go_wp2_with fail
    refine HEX.out.mono ?_
    rintro e w3 ⟨rfl, hb3⟩
    have HB3 := Lib.hid (below_on HB2.out hb3 (Nat.le_refl _))
    have HB33 := Lib.hid hb3
    clear hb3
    go_wp2_with fail
    go_ret
    exact ⟨by rw [HS.out]; rfl, HB3.out⟩
  have q4 : exactB x.name y.name = true := by simp [exactB, h4]
  rw [q4] at hex
  have HEX := Lib.hid hex
  have H4 := Lib.hid h4
  clear h4 hex q4
  by_cases h5 : x.mask = y.mask
  rotate_left
  · have HS := Lib.hid (sameP_ne (x := x) (y := y) (by intro h; apply h5; rw [h]))
    have g5 : (((x.mask : Int) == (y.mask : Int)) = false) := by rw [beq_eq_false_iff_ne]; intro h; apply h5; exact_mod_cast h
    clear h5
    go_enter Tryz.func37, Tryz.ntmps37
    simp only [actCells]
    go_wp2_with fail
    refine HEX.out.mono ?_
    rintro e w3 ⟨rfl, hb3⟩
    have c5 := cell_keep hb3 a5
    have d5 := cell_keep hb3 b5
    have c6 := cell_keep hb3 a6
    have d6 := cell_keep hb3 b6
    have c7 := cell_keep hb3 a7
    have d7 := cell_keep hb3 b7
    have HB3 := Lib.hid (below_on HB2.out hb3 (Nat.le_refl _))
    have HB33 := Lib.hid hb3
    clear hb3
    go_wp2_with fail
    go_ret
    exact ⟨by rw [HS.out]; rfl, HB3.out⟩
  have g5 : (((x.mask : Int) == (y.mask : Int)) = true) := by rw [h5, beq_self_eq_true]
  have H5 := Lib.hid h5
  clear h5
  by_cases h6 : x.torn = y.torn
  rotate_left
  · have HS := Lib.hid (sameP_ne (x := x) (y := y) (by intro h; apply h6; rw [h]))
    have g6 : (((x.torn : Int) == (y.torn : Int)) = false) := by rw [beq_eq_false_iff_ne]; intro h; apply h6; exact_mod_cast h
    clear h6
    go_enter Tryz.func37, Tryz.ntmps37
    simp only [actCells]
    go_wp2_with fail
    refine HEX.out.mono ?_
    rintro e w3 ⟨rfl, hb3⟩
    have c5 := cell_keep hb3 a5
    have d5 := cell_keep hb3 b5
    have c6 := cell_keep hb3 a6
    have d6 := cell_keep hb3 b6
    have c7 := cell_keep hb3 a7
    have d7 := cell_keep hb3 b7
    have HB3 := Lib.hid (below_on HB2.out hb3 (Nat.le_refl _))
    have HB33 := Lib.hid hb3
    clear hb3
    go_wp2_with fail
    go_ret
    exact ⟨by rw [HS.out]; rfl, HB3.out⟩
  have g6 : (((x.torn : Int) == (y.torn : Int)) = true) := by rw [h6, beq_self_eq_true]
  have H6 := Lib.hid h6
  clear h6
  by_cases h7 : x.data = y.data
  rotate_left
  · have HS := Lib.hid (sameP_ne (x := x) (y := y) (by intro h; apply h7; rw [h]))
    have HQ : Hid (decide (x.data = y.data) = false) := by show _ = _; simp [h7]
    clear h7
    go_enter Tryz.func37, Tryz.ntmps37
    simp only [actCells]
    go_wp2_with fail
    refine HEX.out.mono ?_
    rintro e w3 ⟨rfl, hb3⟩
    have c5 := cell_keep hb3 a5
    have d5 := cell_keep hb3 b5
    have c6 := cell_keep hb3 a6
    have d6 := cell_keep hb3 b6
    have c7 := cell_keep hb3 a7
    have d7 := cell_keep hb3 b7
    have HB3 := Lib.hid (below_on HB2.out hb3 (Nat.le_refl _))
    have HB33 := Lib.hid hb3
    clear hb3
    go_wp2_with fail
    refine (rsame_any _ _ _ _ _ _ _ _ _ (HDX.out.below HB33.out (Nat.le_refl _)) (HDY.out.below HB33.out (Nat.le_refl _))).mono ?_
    rintro e w4 ⟨rfl, hb4⟩
    rw [HQ.out]
    go_wp2_with fail
    go_ret
    exact ⟨by rw [HS.out]; rfl, below_on HB3.out hb4 (Nat.le_refl _)⟩
  have HQ : Hid (decide (x.data = y.data) = true) := by show _ = _; simp [h7]
  have H7 := Lib.hid h7
  clear h7
  go_enter Tryz.func37, Tryz.ntmps37
  simp only [actCells]
  go_wp2_with fail
  refine HEX.out.mono ?_
  rintro e w3 ⟨rfl, hb3⟩
  have c5 := cell_keep hb3 a5
  have d5 := cell_keep hb3 b5
  have c6 := cell_keep hb3 a6
  have d6 := cell_keep hb3 b6
  have c7 := cell_keep hb3 a7
  have d7 := cell_keep hb3 b7
  have HB3 := Lib.hid (below_on HB2.out hb3 (Nat.le_refl _))
  have HB33 := Lib.hid hb3
  clear hb3
  go_wp2_with fail
  refine (rsame_any _ _ _ _ _ _ _ _ _ (HDX.out.below HB33.out (Nat.le_refl _)) (HDY.out.below HB33.out (Nat.le_refl _))).mono ?_
  rintro e w4 ⟨rfl, hb4⟩
  rw [HQ.out]
  go_wp2_with fail
  go_ret
  refine ⟨?_, below_on HB3.out hb4 (Nat.le_refl _)⟩
  have : sameP x y = true := by
    rw [sameP_eq]
    cases x; cases y
    simp only [ActP.mk.injEq]
    exact ⟨H0.out, H1.out, H2.out, H3.out, H4.out, H5.out, H6.out, H7.out⟩
  rw [this]
  rfl
end Go.Proofs.YtipbakdodbmfjaaGreatDoor

/- Merged texts: Ksettings. -/
import Derived.Test.YtgfibbjifbghdaaGreatWset2
import Derived.Deep.CutBlock
import Derived.Deep.DeepCutAuto
import Derived.Deep.RegionHeld3
namespace Go.Proofs.YtgfibbjifbghdaaGreat
section
open Go.ChangeShapes Go.WideShapes Go.ChangeAt Go.RowKit

def fineN (s : SetP) (n : Nat) : Bool := (decide ((1 : Int) ≤ (n : Int)) && (decide ((n : Int) ≤ 16) && (decide (1 ≤ s.cache) && (decide (s.cache ≤ 4096) && (timeB s.stale && (decide (1 ≤ s.timeout) && (decide (s.timeout ≤ 3600) && (decide (1 ≤ s.tries) && (decide (s.tries ≤ 8) && (decide (1 ≤ s.deadline) && (decide (s.deadline ≤ 86400) && (decide (1 ≤ s.pending) && decide (s.pending ≤ 256)))))))))))))
def ok4 (r : List UInt8) : Bool := decide ((r.length : Int) = 4)
theorem sett_fine (s : SetP) : settB s = ((fineN s s.roots.length && s.roots.all ok4) && s.zones.all soundB) := by
  rw [Bool.eq_iff_iff]
  simp only [settB, fineN, betwB, bad4, badZ, ok4, Bool.and_eq_true, decide_eq_true_eq, Bool.not_eq_true', List.any_eq_false, List.all_eq_true, Classical.not_not]
  constructor
  · rintro ⟨h1, h2, h3, h4, ⟨h5, h6⟩, h7, ⟨h8, h9⟩, ⟨h10, h11⟩, ⟨h12, h13⟩, h14, h15⟩
    exact ⟨⟨⟨by omega, by omega, h5, h6, h7, h8, h9, h10, h11, h12, h13, h14, h15⟩, h3⟩, fun x hx => by simpa using h4 x hx⟩
  · rintro ⟨⟨⟨h1, h2, h5, h6, h7, h8, h9, h10, h11, h12, h13, h14, h15⟩, h3⟩, h4⟩
    exact ⟨by omega, by omega, h3, fun x hx => by simpa using h4 x hx, ⟨h5, h6⟩, h7, ⟨h8, h9⟩, ⟨h10, h11⟩, ⟨h12, h13⟩, h14, h15⟩
theorem all_take {α : Type} (p : α → Bool) (xs : List α) {k : Nat} (hk : k < xs.length) : (xs.take (k + 1)).all p = ((xs.take k).all p && p xs[k]) := by
  rw [List.take_succ_eq_append_getElem hk, List.all_append]
  simp
set_option maxHeartbeats 32000000 in
set_option maxRecDepth 100000 in
theorem settings_walk (W : World) (s : SetP) (h : SetH) (hs : IsSet (fun b => b < W.heap.size) W h s) :
    Calls Tryz.prog 3 #[.agg (setC h s)] W fun e w' => e = .returned (.bool true) ∧ Below W.heap.size W w' := by
  obtain ⟨ra, rc, za, zc⟩ := h
  obtain ⟨n, hn⟩ : ∃ q, q = s.roots.length := ⟨_, rfl⟩
  obtain ⟨m, hm⟩ : ∃ q, q = s.zones.length := ⟨_, rfl⟩
  have hnb := hs.roots.hle
  have hnc := hs.roots.hmax
  have hmb := hs.zones.hle
  have hmc := hs.zones.hmax
  have hal : Below W.heap.size W (W.alloc (.cells (setC ⟨ra, rc, za, zc⟩ s) 25)) := (Below.refl _ _).alloc (Nat.le_refl _) _
  have hA : Blk (W.alloc (.cells (setC ⟨ra, rc, za, zc⟩ s) 25)) W.heap.size (setC ⟨ra, rc, za, zc⟩ s) 25 := heap_alloc_new W _
  have HN := Lib.hid (And.intro hn (And.intro hm hs))
  simp only [setC, ← hn, ← hm] at hal hA hnb hmb ⊢
  have HAL := Lib.hid (And.intro hal hA)
  clear hs hn hm hal hA
  by_cases hr : n ≤ 100
  rotate_left
  · have b1 : decide ((100 : Int) < (n : Int)) = true := decide_eq_true (by omega)
    clear hr
    go_enter Tryz.func3, Tryz.ntmps3
    go_wp2_with (go_at_call 4; refine (answers20 _).mono ?_; rintro e W1 ⟨rfl, hb1⟩; (first | (have HB2 := Lib.hid (below_on HB1.out hb1 (Nat.le_refl _))) | (have HB1 := Lib.hid (below_on HAL.out.1 hb1 (Nat.le_refl _)); have hA1 := HAL.out.2.on hb1; have c0 := hA1.cell 0; simp at c0)); clear hb1)
    go_ret
    exact ⟨rfl, HB2.out⟩
  by_cases hz : m ≤ 50
  rotate_left
  · have b1 : decide ((100 : Int) < (n : Int)) = false := decide_eq_false (by omega)
    have b2 : decide ((50 : Int) < (m : Int)) = true := decide_eq_true (by omega)
    clear hr hz
    go_enter Tryz.func3, Tryz.ntmps3
    go_wp2_with (go_at_call 4; refine (answers20 _).mono ?_; rintro e W1 ⟨rfl, hb1⟩; (first | (have HB2 := Lib.hid (below_on HB1.out hb1 (Nat.le_refl _))) | (have HB1 := Lib.hid (below_on HAL.out.1 hb1 (Nat.le_refl _)); have hA1 := HAL.out.2.on hb1; have c0 := hA1.cell 0; have c7 := hA1.cell 7; simp at c0 c7)); clear hb1)
    go_ret
    exact ⟨rfl, HB2.out⟩
  have b1 : decide ((100 : Int) < (n : Int)) = false := decide_eq_false (by omega)
  have b2 : decide ((50 : Int) < (m : Int)) = false := decide_eq_false (by omega)
  clear hr hz
  go_enter Tryz.func3, Tryz.ntmps3
  go_upto_region 3 with (go_at_call 4; refine (answers20 _).mono ?_; rintro e W1 ⟨rfl, hb1⟩; have HB1 := Lib.hid (below_on HAL.out.1 hb1 (Nat.le_refl _)); have hA1 := HAL.out.2.on hb1; have HA1 := Lib.hid hA1; have c0 := hA1.cell 0; have c7 := hA1.cell 7; simp at c0 c7; clear hb1 hA1)
  go_cut [3] (fun v wx => v = .bool (fineN s n) ∧ wx = W1)
  case first =>
    have hA1 := HA1.out
    have c1 := hA1.cell 1
    have c2 := hA1.cell 2
    have c3 := hA1.cell 3
    have c4 := hA1.cell 4
    have c5 := hA1.cell 5
    have c6 := hA1.cell 6
    simp at c1 c2 c3 c4 c5 c6
    clear hA1
    cases qn1 : decide ((1 : Int) ≤ (n : Int)) with
    | false =>
      have Qn1 := Lib.hid qn1
      have HE := Lib.hid (show fineN s n = false by rw [fineN, Qn1.out]; rfl)
      go_wp2_with fail
      go_meet
      case rel => exact ⟨by rw [HE.out], rfl⟩
    | true =>
    have Qn1 := Lib.hid qn1
    cases qn2 : decide ((n : Int) ≤ 16) with
    | false =>
      have Qn2 := Lib.hid qn2
      have HE := Lib.hid (show fineN s n = false by rw [fineN, Qn1.out, Qn2.out]; rfl)
      go_wp2_with fail
      go_meet
      case rel => exact ⟨by rw [HE.out], rfl⟩
    | true =>
    have Qn2 := Lib.hid qn2
    cases qc1 : decide (1 ≤ s.cache) with
    | false =>
      have Qc1 := Lib.hid qc1
      have HE := Lib.hid (show fineN s n = false by rw [fineN, Qn1.out, Qn2.out, Qc1.out]; rfl)
      go_wp2_with fail
      go_meet
      case rel => exact ⟨by rw [HE.out], rfl⟩
    | true =>
    have Qc1 := Lib.hid qc1
    cases qc2 : decide (s.cache ≤ 4096) with
    | false =>
      have Qc2 := Lib.hid qc2
      have HE := Lib.hid (show fineN s n = false by rw [fineN, Qn1.out, Qn2.out, Qc1.out, Qc2.out]; rfl)
      go_wp2_with fail
      go_meet
      case rel => exact ⟨by rw [HE.out], rfl⟩
    | true =>
    have Qc2 := Lib.hid qc2
    cases qst : timeB s.stale with
    | false =>
      have Qst := Lib.hid qst
      have HE := Lib.hid (show fineN s n = false by rw [fineN, Qn1.out, Qn2.out, Qc1.out, Qc2.out, Qst.out]; rfl)
      clear qst
      go_wp2_with (go_at_call 5; refine (rtime_any _ _).mono ?_; rintro e w2 ⟨rfl, rfl⟩; rw [Qst.out])
      go_meet
      case rel => exact ⟨by rw [HE.out], rfl⟩
    | true =>
    have Qst := Lib.hid qst
    clear qst
    cases qt1 : decide (1 ≤ s.timeout) with
    | false =>
      have Qt1 := Lib.hid qt1
      have HE := Lib.hid (show fineN s n = false by rw [fineN, Qn1.out, Qn2.out, Qc1.out, Qc2.out, Qst.out, Qt1.out]; rfl)
      go_wp2_with (go_at_call 5; refine (rtime_any _ _).mono ?_; rintro e w2 ⟨rfl, rfl⟩; rw [Qst.out])
      go_meet
      case rel => exact ⟨by rw [HE.out], rfl⟩
    | true =>
    have Qt1 := Lib.hid qt1
    cases qt2 : decide (s.timeout ≤ 3600) with
    | false =>
      have Qt2 := Lib.hid qt2
      have HE := Lib.hid (show fineN s n = false by rw [fineN, Qn1.out, Qn2.out, Qc1.out, Qc2.out, Qst.out, Qt1.out, Qt2.out]; rfl)
      go_wp2_with (go_at_call 5; refine (rtime_any _ _).mono ?_; rintro e w2 ⟨rfl, rfl⟩; rw [Qst.out])
      go_meet
      case rel => exact ⟨by rw [HE.out], rfl⟩
    | true =>
    have Qt2 := Lib.hid qt2
    cases qr1 : decide (1 ≤ s.tries) with
    | false =>
      have Qr1 := Lib.hid qr1
      have HE := Lib.hid (show fineN s n = false by rw [fineN, Qn1.out, Qn2.out, Qc1.out, Qc2.out, Qst.out, Qt1.out, Qt2.out, Qr1.out]; rfl)
      go_wp2_with (go_at_call 5; refine (rtime_any _ _).mono ?_; rintro e w2 ⟨rfl, rfl⟩; rw [Qst.out])
      go_meet
      case rel => exact ⟨by rw [HE.out], rfl⟩
    | true =>
    have Qr1 := Lib.hid qr1
    cases qr2 : decide (s.tries ≤ 8) with
    | false =>
      have Qr2 := Lib.hid qr2
      have HE := Lib.hid (show fineN s n = false by rw [fineN, Qn1.out, Qn2.out, Qc1.out, Qc2.out, Qst.out, Qt1.out, Qt2.out, Qr1.out, Qr2.out]; rfl)
      go_wp2_with (go_at_call 5; refine (rtime_any _ _).mono ?_; rintro e w2 ⟨rfl, rfl⟩; rw [Qst.out])
      go_meet
      case rel => exact ⟨by rw [HE.out], rfl⟩
    | true =>
    have Qr2 := Lib.hid qr2
    cases qd1 : decide (1 ≤ s.deadline) with
    | false =>
      have Qd1 := Lib.hid qd1
      have HE := Lib.hid (show fineN s n = false by rw [fineN, Qn1.out, Qn2.out, Qc1.out, Qc2.out, Qst.out, Qt1.out, Qt2.out, Qr1.out, Qr2.out, Qd1.out]; rfl)
      go_wp2_with (go_at_call 5; refine (rtime_any _ _).mono ?_; rintro e w2 ⟨rfl, rfl⟩; rw [Qst.out])
      go_meet
      case rel => exact ⟨by rw [HE.out], rfl⟩
    | true =>
    have Qd1 := Lib.hid qd1
    cases qd2 : decide (s.deadline ≤ 86400) with
    | false =>
      have Qd2 := Lib.hid qd2
      have HE := Lib.hid (show fineN s n = false by rw [fineN, Qn1.out, Qn2.out, Qc1.out, Qc2.out, Qst.out, Qt1.out, Qt2.out, Qr1.out, Qr2.out, Qd1.out, Qd2.out]; rfl)
      go_wp2_with (go_at_call 5; refine (rtime_any _ _).mono ?_; rintro e w2 ⟨rfl, rfl⟩; rw [Qst.out])
      go_meet
      case rel => exact ⟨by rw [HE.out], rfl⟩
    | true =>
    have Qd2 := Lib.hid qd2
    cases qp1 : decide (1 ≤ s.pending) with
    | false =>
      have Qp1 := Lib.hid qp1
      have HE := Lib.hid (show fineN s n = false by rw [fineN, Qn1.out, Qn2.out, Qc1.out, Qc2.out, Qst.out, Qt1.out, Qt2.out, Qr1.out, Qr2.out, Qd1.out, Qd2.out, Qp1.out]; rfl)
      go_wp2_with (go_at_call 5; refine (rtime_any _ _).mono ?_; rintro e w2 ⟨rfl, rfl⟩; rw [Qst.out])
      go_meet
      case rel => exact ⟨by rw [HE.out], rfl⟩
    | true =>
    have Qp1 := Lib.hid qp1
    cases qp2 : decide (s.pending ≤ 256) with
    | false =>
      have Qp2 := Lib.hid qp2
      have HE := Lib.hid (show fineN s n = false by rw [fineN, Qn1.out, Qn2.out, Qc1.out, Qc2.out, Qst.out, Qt1.out, Qt2.out, Qr1.out, Qr2.out, Qd1.out, Qd2.out, Qp1.out, Qp2.out]; rfl)
      go_wp2_with (go_at_call 5; refine (rtime_any _ _).mono ?_; rintro e w2 ⟨rfl, rfl⟩; rw [Qst.out])
      go_meet
      case rel => exact ⟨by rw [HE.out], rfl⟩
    | true =>
    have Qp2 := Lib.hid qp2
    have HE := Lib.hid (show fineN s n = true by rw [fineN, Qn1.out, Qn2.out, Qc1.out, Qc2.out, Qst.out, Qt1.out, Qt2.out, Qr1.out, Qr2.out, Qd1.out, Qd2.out, Qp1.out, Qp2.out]; rfl)
    go_wp2_with (go_at_call 5; refine (rtime_any _ _).mono ?_; rintro e w2 ⟨rfl, rfl⟩; rw [Qst.out])
    go_meet
    case rel => exact ⟨by rw [HE.out], rfl⟩
  case rest =>
    obtain ⟨rfl, rfl⟩ := hcut
    obtain ⟨b0, hb0⟩ : ∃ q, q = fineN s n := ⟨_, rfl⟩
    have HF := Lib.hid hb0
    rw [← hb0]
    clear hb0
    rename World => W1
    go_wp2_with fail
    go_loopw [3, 4] (fun f i wr => ∃ k : Nat, k ≤ n ∧ i = .int .i64 (k : Int) ∧ wr = W1 ∧ f = .bool (b0 && (s.roots.take k).all ok4)) (fun _ i _ => n - (intOf i).toNat)
    case atStart => exact ⟨0, Nat.zero_le _, rfl, rfl, by simp⟩
    case round =>
      obtain ⟨k, hk, rfl, rfl, rfl⟩ := hrel
      obtain ⟨B, hB⟩ : ∃ q, q = (b0 && (s.roots.take k).all ok4) := ⟨_, rfl⟩
      rw [← hB]
      by_cases hlt : k < n
      · have hsq := (HN.out.2.2.on HB1.out).roots
        rw [← HN.out.1] at hsq
        have hkx : k < s.roots.length := by rw [← HN.out.1]; exact hlt
        obtain ⟨b, off, rfl⟩ := hsq.addr hlt
        obtain ⟨hh, hc, hi⟩ := hsq.at hlt
        obtain ⟨x, hx⟩ : ∃ x, x = s.roots[k] := ⟨_, rfl⟩
        rw [← hx] at hc
        have e0 := hc 0 (by decide)
        simp [rootK] at e0
        have HX := Lib.hid (show (s.roots.take (k + 1)).all ok4 = ((s.roots.take k).all ok4 && ok4 x) by rw [all_take _ _ hkx, hx])
        have hq : ((x.length : Int) == 4) = ok4 x := by rw [ok4, Bool.eq_iff_iff]; simp
        cases B
        · have HB := Lib.hid hB
          clear hB hsq hc hi hx hq hkx
          go_wp2_with fail
          go_roundw
          case rel => exact ⟨k + 1, by omega, by go_num, trivial, by rw [HX.out, ← Bool.and_assoc, ← HB.out]; rfl⟩
          case measure => simp [intOf]; omega
        · have HB := Lib.hid hB
          cases ho : ok4 x
          all_goals
            rw [ho] at hq HX
            clear hB hsq hc hi hx hkx ho
            go_wp2_with fail
            go_roundw
            case rel => exact ⟨k + 1, by omega, by go_num, trivial, by rw [HX.out, ← Bool.and_assoc, ← HB.out]; rfl⟩
            case measure => simp [intOf]; omega
      · have hkn : k = n := by omega
        subst hkn
        have HB := Lib.hid (show B = (fineN s s.roots.length && s.roots.all ok4) by rw [hB, HF.out, HN.out.1, List.take_length])
        clear hB hlt hk
        go_wp2_with fail
        go_loopw [3, 5] (fun f i w2 => ∃ j : Nat, j ≤ m ∧ i = .int .i64 (j : Int) ∧ w2 = wr ∧ f = .bool (B && (s.zones.take j).all soundB)) (fun _ i _ => m - (intOf i).toNat)
        case atStart => exact ⟨0, Nat.zero_le _, rfl, rfl, by simp⟩
        case round =>
          rename World => w3
          obtain ⟨j, hj, rfl, rfl, rfl⟩ := hrel
          obtain ⟨D, hD⟩ : ∃ q, q = (B && (s.zones.take j).all soundB) := ⟨_, rfl⟩
          rw [← hD]
          by_cases hlt : j < m
          · have hsq := (HN.out.2.2.on HB1.out).zones
            rw [← HN.out.2.1] at hsq
            have hkx : j < s.zones.length := by rw [← HN.out.2.1]; exact hlt
            obtain ⟨b, off, rfl⟩ := hsq.addr hlt
            obtain ⟨hh, hc, hi⟩ := hsq.at hlt
            obtain ⟨x, hx⟩ : ∃ x, x = s.zones[j] := ⟨_, rfl⟩
            rw [← hx] at hc hi
            have e0 := hc 0 (by decide)
            simp [namesK] at e0
            have HX := Lib.hid (show (s.zones.take (j + 1)).all soundB = ((s.zones.take j).all soundB && soundB x) by rw [all_take _ _ hkx, hx])
            have HS := Lib.hid (rsound_any w3 hh.1 x.length hh.2 x hi.1)
            have HB := Lib.hid hD
            cases hq : decide ((200 : Int) < (x.length : Int))
            · cases D
              · clear hD hsq hc hi hx hkx
                go_wp2_with fail
                go_roundw
                case rel => exact ⟨j + 1, by omega, by go_num, trivial, by rw [HX.out, ← Bool.and_assoc, ← HB.out]; rfl⟩
                case measure => simp [intOf]; omega
              · cases ho : soundB x
                all_goals
                  rw [ho] at HS HX
                  clear hD hsq hc hi hx hkx ho
                  go_wp2_with (go_at_call 6; refine HS.out.mono ?_; rintro e w' ⟨rfl, rfl⟩)
                  go_roundw
                  case rel => exact ⟨j + 1, by omega, by go_num, trivial, by rw [HX.out, ← Bool.and_assoc, ← HB.out]; rfl⟩
                  case measure => simp [intOf]; omega
            · clear hD hsq hc hi hx hkx
              go_wp2_with fail
              go_ret
              exact ⟨rfl, HB1.out⟩
          · have hjm : j = m := by omega
            subst hjm
            have HD := Lib.hid (show D = settB s by rw [hD, sett_fine, ← HB.out, HN.out.2.1, List.take_length])
            clear hD hlt hj
            go_wp2_with fail
            have hA3 := HA1.out
            have hd3 := hA3.on (Below.drew (Below.refl w3.heap.size w3))
            have hS0 : w3.drew.cell? ⟨W.heap.size, 0, none⟩ = some (.slice ra k rc) ∧ w3.drew.cell? ⟨W.heap.size, 1, none⟩ = some (.int .i64 s.cache) ∧ w3.drew.cell? ⟨W.heap.size, 2, none⟩ = some (.int .i64 s.stale) ∧ w3.drew.cell? ⟨W.heap.size, 3, none⟩ = some (.int .i64 s.timeout) ∧ w3.drew.cell? ⟨W.heap.size, 4, none⟩ = some (.int .i64 s.tries) ∧ w3.drew.cell? ⟨W.heap.size, 5, none⟩ = some (.int .i64 s.deadline) ∧ w3.drew.cell? ⟨W.heap.size, 6, none⟩ = some (.int .i64 s.pending) ∧ w3.drew.cell? ⟨W.heap.size, 7, none⟩ = some (.slice za j zc) := ⟨hd3.cell 0, hd3.cell 1, hd3.cell 2, hd3.cell 3, hd3.cell 4, hd3.cell 5, hd3.cell 6, hd3.cell 7⟩
            have HF8 := Lib.hid (fresh20_any w3.drew 8 (by decide) (by decide))
            have HD3 := Lib.hid (And.intro hd3 (below_on HB1.out (Below.drew (Below.refl w3.heap.size w3)) (Nat.le_refl _)))
            clear hA3 hd3
            cases hsb : settB s
            all_goals
              have HD2 := Lib.hid (show D = _ from HD.out.trans hsb)
              have HSB := Lib.hid hsb
              clear hsb
            · obtain rfl := HD2.out
              go_region_held3 (fun w' => w'.cell? ⟨W.heap.size, 0, none⟩ = some (.slice ra k rc) ∧ w'.cell? ⟨W.heap.size, 1, none⟩ = some (.int .i64 s.cache) ∧ w'.cell? ⟨W.heap.size, 2, none⟩ = some (.int .i64 s.stale) ∧ w'.cell? ⟨W.heap.size, 3, none⟩ = some (.int .i64 s.timeout) ∧ w'.cell? ⟨W.heap.size, 4, none⟩ = some (.int .i64 s.tries) ∧ w'.cell? ⟨W.heap.size, 5, none⟩ = some (.int .i64 s.deadline) ∧ w'.cell? ⟨W.heap.size, 6, none⟩ = some (.int .i64 s.pending) ∧ w'.cell? ⟨W.heap.size, 7, none⟩ = some (.slice za j zc))
                (first | go_keep | exact hS0 | exact hS5 | exact hS6)
                (first | (go_at_call 8; refine HF8.out.mono ?_; rintro e W5 ⟨⟨K, C, L, rfl, hk⟩, hb5⟩; have hd5 := HD3.out.1.on hb5; have hS5 : W5.cell? ⟨W.heap.size, 0, none⟩ = some (.slice ra k rc) ∧ W5.cell? ⟨W.heap.size, 1, none⟩ = some (.int .i64 s.cache) ∧ W5.cell? ⟨W.heap.size, 2, none⟩ = some (.int .i64 s.stale) ∧ W5.cell? ⟨W.heap.size, 3, none⟩ = some (.int .i64 s.timeout) ∧ W5.cell? ⟨W.heap.size, 4, none⟩ = some (.int .i64 s.tries) ∧ W5.cell? ⟨W.heap.size, 5, none⟩ = some (.int .i64 s.deadline) ∧ W5.cell? ⟨W.heap.size, 6, none⟩ = some (.int .i64 s.pending) ∧ W5.cell? ⟨W.heap.size, 7, none⟩ = some (.slice za j zc) := ⟨hd5.cell 0, hd5.cell 1, hd5.cell 2, hd5.cell 3, hd5.cell 4, hd5.cell 5, hd5.cell 6, hd5.cell 7⟩; have H5 := Lib.hid (And.intro hk (And.intro hd5 (below_on HD3.out.2 hb5 (Nat.le_refl _)))); clear hk hb5 hd5) | (go_at_call 7; have hw := wnew_bad W5 (fun b => b < W.heap.size) K ⟨ra, rc, za, zc⟩ s (HN.out.2.2.on H5.out.2.2) HSB.out none 0 0 1 0; simp only [setC, queC, ← HN.out.1, ← HN.out.2.1] at hw; refine hw.mono ?_; rintro e W6 ⟨rfl, hb6⟩; have hd6 := H5.out.2.1.on hb6; have hS6 : W6.cell? ⟨W.heap.size, 0, none⟩ = some (.slice ra k rc) ∧ W6.cell? ⟨W.heap.size, 1, none⟩ = some (.int .i64 s.cache) ∧ W6.cell? ⟨W.heap.size, 2, none⟩ = some (.int .i64 s.stale) ∧ W6.cell? ⟨W.heap.size, 3, none⟩ = some (.int .i64 s.timeout) ∧ W6.cell? ⟨W.heap.size, 4, none⟩ = some (.int .i64 s.tries) ∧ W6.cell? ⟨W.heap.size, 5, none⟩ = some (.int .i64 s.deadline) ∧ W6.cell? ⟨W.heap.size, 6, none⟩ = some (.int .i64 s.pending) ∧ W6.cell? ⟨W.heap.size, 7, none⟩ = some (.slice za j zc) := ⟨hd6.cell 0, hd6.cell 1, hd6.cell 2, hd6.cell 3, hd6.cell 4, hd6.cell 5, hd6.cell 6, hd6.cell 7⟩; have H6 := Lib.hid (below_on H5.out.2.2 hb6 (Nat.le_refl _)); clear hb6 hd6 hw))
              all_goals go_split_ands
              all_goals
                have hst := setting_any W6 (fun b => b < W.heap.size) ⟨ra, rc, za, zc⟩ s (HN.out.2.2.on H6.out)
                simp only [setC, ← HN.out.1, ← HN.out.2.1, HSB.out] at hst
                have HST := Lib.hid hst
                clear hst
                go_wp2_with (go_at_call 9; refine HST.out.mono ?_; rintro e W7 ⟨rfl, hb7⟩; have H7 := Lib.hid hb7; clear hb7)
                go_ret
                exact ⟨rfl, below_on H6.out H7.out (Nat.le_refl _)⟩
            · obtain rfl := HD2.out
              go_region_held3 (fun w' => w'.cell? ⟨W.heap.size, 0, none⟩ = some (.slice ra k rc) ∧ w'.cell? ⟨W.heap.size, 1, none⟩ = some (.int .i64 s.cache) ∧ w'.cell? ⟨W.heap.size, 2, none⟩ = some (.int .i64 s.stale) ∧ w'.cell? ⟨W.heap.size, 3, none⟩ = some (.int .i64 s.timeout) ∧ w'.cell? ⟨W.heap.size, 4, none⟩ = some (.int .i64 s.tries) ∧ w'.cell? ⟨W.heap.size, 5, none⟩ = some (.int .i64 s.deadline) ∧ w'.cell? ⟨W.heap.size, 6, none⟩ = some (.int .i64 s.pending) ∧ w'.cell? ⟨W.heap.size, 7, none⟩ = some (.slice za j zc))
                (first | go_keep | exact hS0 | exact hS5 | exact hS6)
                (first | (go_at_call 8; refine HF8.out.mono ?_; rintro e W5 ⟨⟨K, C, L, rfl, hk⟩, hb5⟩; have hd5 := HD3.out.1.on hb5; have hS5 : W5.cell? ⟨W.heap.size, 0, none⟩ = some (.slice ra k rc) ∧ W5.cell? ⟨W.heap.size, 1, none⟩ = some (.int .i64 s.cache) ∧ W5.cell? ⟨W.heap.size, 2, none⟩ = some (.int .i64 s.stale) ∧ W5.cell? ⟨W.heap.size, 3, none⟩ = some (.int .i64 s.timeout) ∧ W5.cell? ⟨W.heap.size, 4, none⟩ = some (.int .i64 s.tries) ∧ W5.cell? ⟨W.heap.size, 5, none⟩ = some (.int .i64 s.deadline) ∧ W5.cell? ⟨W.heap.size, 6, none⟩ = some (.int .i64 s.pending) ∧ W5.cell? ⟨W.heap.size, 7, none⟩ = some (.slice za j zc) := ⟨hd5.cell 0, hd5.cell 1, hd5.cell 2, hd5.cell 3, hd5.cell 4, hd5.cell 5, hd5.cell 6, hd5.cell 7⟩; have H5 := Lib.hid (And.intro hk (And.intro hd5 (below_on HD3.out.2 hb5 (Nat.le_refl _)))); clear hk hb5 hd5) | (go_at_call 7; have hw := wnew_none W5 ⟨ra, rc, za, zc⟩ s w3.drew.heap.size ((HN.out.2.2.on H5.out.2.2).mono (fun b hb hS => ⟨hb, .inl (Nat.lt_of_lt_of_le hS HD3.out.2.size)⟩)) HSB.out K C L _ 0 0 false false 500 1000 0 H5.out.1 none 0 0 [] 1 0 ⟨Row.empty (by omega) (fun _ => rfl), by simp⟩ (by decide) (by decide); simp only [setC, queC, ← HN.out.1, ← HN.out.2.1] at hw; refine hw.mono ?_; rintro e W6 ⟨⟨Wk, xk, rfl, _, _, _⟩, ho6⟩; have hd6 := ho6.blk H5.out.2.1 (by decide); have hb6 := ho6.bel.mono HD3.out.2.size; have hS6 : W6.cell? ⟨W.heap.size, 0, none⟩ = some (.slice ra k rc) ∧ W6.cell? ⟨W.heap.size, 1, none⟩ = some (.int .i64 s.cache) ∧ W6.cell? ⟨W.heap.size, 2, none⟩ = some (.int .i64 s.stale) ∧ W6.cell? ⟨W.heap.size, 3, none⟩ = some (.int .i64 s.timeout) ∧ W6.cell? ⟨W.heap.size, 4, none⟩ = some (.int .i64 s.tries) ∧ W6.cell? ⟨W.heap.size, 5, none⟩ = some (.int .i64 s.deadline) ∧ W6.cell? ⟨W.heap.size, 6, none⟩ = some (.int .i64 s.pending) ∧ W6.cell? ⟨W.heap.size, 7, none⟩ = some (.slice za j zc) := ⟨hd6.cell 0, hd6.cell 1, hd6.cell 2, hd6.cell 3, hd6.cell 4, hd6.cell 5, hd6.cell 6, hd6.cell 7⟩; have H6 := Lib.hid (H5.out.2.2.trans hb6); clear hb6 hd6 hw ho6))
              all_goals go_split_ands
              all_goals
                have hst := setting_any W6 (fun b => b < W.heap.size) ⟨ra, rc, za, zc⟩ s (HN.out.2.2.on H6.out)
                simp only [setC, ← HN.out.1, ← HN.out.2.1, HSB.out] at hst
                have HST := Lib.hid hst
                clear hst
                go_wp2_with (go_at_call 9; refine HST.out.mono ?_; rintro e W7 ⟨rfl, hb7⟩; have H7 := Lib.hid hb7; clear hb7)
                go_ret
                exact ⟨rfl, below_on H6.out H7.out (Nat.le_refl _)⟩
end
end Go.Proofs.YtgfibbjifbghdaaGreat

/- The law FilePrints returns true for every input and leaves its arguments as they were; no condition, the package-level tables that it reads tied to the program's text. -/
import Derived.Test.YtipbakdodbmfjaaGreatDoorAns25
import Derived.Test.YtipbakdodbmfjaaGreatDoorZoned
import Derived.Test.YtipbakdodbmfjaaGreatDoorErrs
import Derived.Test.YtipbakdodbmfjaaGreatDoorOpen
import Derived.Test.YtipbakdodbmfjaaGreatDoorRows
import Derived.Test.YtipbakdodbmfjaaGreatDoorCards
import Derived.Test.YtipbakdodbmfjaaGreatDoorTie
import Derived.SevenTiedAt
import Derived.LaidMore
import Derived.Stop.Joined
import Derived.Stop.LaidErr
import Derived.Lib.LaidTab
import Derived.MakeChecks
import Derived.Lay
import Derived.WalkKit
import Derived.ProofKit
import Derived.OpenShut
import Derived.Below
namespace Go.Proofs.YtipbakdodbmfjaaGreatDoor.filePrints
open Go.ChangeShapes Go.WideShapes Go.ChangeAt Go.RowKit
open Go.ChangeMaps (open_string shut_string)
set_option linter.unusedVariables false

/-- what the walk reads -/
theorem env_of {W : World} (hL : laidMetH Tryz.prog Rows.filePrintsRow.laid W) (hM : ∃ m, W.cell? ⟨1, 0, none⟩ = some (.int .i64 m)) : Env W ∧ Types W ∧ Bru W := by
  rw [MakeChecks.laidMetH_plain _ _ _ (by kernel_rfl)] at hL
  refine ⟨⟨Lib.tabIs_of_head (g := 2) (by kernel_rfl) (by kernel_rfl) Tryz.underlying199 Tryz.underlying58 (by kernel_rfl) (by kernel_rfl) hL.tail.tail,
    ⟨err_cell hL.tail.tail.tail.tail.tail (by kernel_rfl) (by kernel_rfl), err_cell hL.tail.tail.tail.tail (by kernel_rfl) (by kernel_rfl)⟩, hM⟩, types_of_laid hL.tail.tail.tail.tail.tail.tail, ?_⟩
  have h := hL.tail
  have ht : Lib.TabIs Tryz.prog W "math/bits.deBruijn64tab" IntKind.u8 [0, 1, 56, 2, 57, 49, 28, 3, 61, 58, 42, 50, 38, 29, 17, 4, 62, 47, 59, 36, 45, 43, 51, 22, 53, 39, 33, 30, 24, 18, 12, 5, 63, 55, 48, 27, 60, 41, 37, 16, 46, 35, 44, 21, 52, 32, 23, 11, 54, 26, 40, 15, 34, 20, 31, 10, 25, 14, 19, 9, 13, 8, 7, 6] :=
    Lib.tabIs_of_head (g := 8) (by kernel_rfl) (by kernel_rfl) Tryz.underlying221 Tryz.underlying5 (by kernel_rfl) (by kernel_rfl) h
  exact ht.cell (g := 8) (by kernel_rfl) 15 (by decide)
theorem print_parts (z : ZP) : ∃ s n, printE z = .tuple #[.string s, .int .i64 n] := by
  unfold printE
  split
  · split
    · exact ⟨_, _, rfl⟩
    · exact ⟨_, _, rfl⟩
  · exact ⟨_, _, rfl⟩
set_option maxHeartbeats 16000000 in
set_option maxRecDepth 100000 in
theorem walk (x0 : ZP) (dh0 : ZH) (W : World) (sx0 : IsZone W dh0 x0) (hL : laidMetH Tryz.prog Rows.filePrintsRow.laid W) (hM : ∃ m, W.cell? ⟨1, 0, none⟩ = some (.int .i64 m)) :
    Calls Tryz.prog 6 #[.agg (zoneC dh0)] W fun e w' => e = .returned (.bool true) ∧ Below W.heap.size W w' := by
  have hES := env_of hL hM
  have HE := Lib.hid hES.1
  have HT := Lib.hid hES.2.1
  have HB := Lib.hid hES.2.2
  have hwa : Below W.heap.size W (W.alloc (.cells (zoneC dh0) 46)) := (Below.refl _ _).alloc (Nat.le_refl _) _
  have hA : Blk (W.alloc (.cells (zoneC dh0) 46)) W.heap.size (zoneC dh0) 46 := heap_alloc_new W _
  have HWA := Lib.hid hwa
  have HA := Lib.hid hA
  have HZ := Lib.hid sx0
  have HAN := Lib.hid (fun w' (h1 : Env w') (h2 : Types w') => answers25_any w' h1 h2)
  have hlen := sx0.recs.hlen
  have hle := sx0.recs.hle
  have hmx := sx0.recs.hmax
  have HL := Lib.hid hlen
  obtain ⟨PS, PN, hPE⟩ := print_parts x0
  have HPE := Lib.hid hPE
  clear hL hM hES hwa hA sx0 hPE
  obtain ⟨za, zl, zc, ra, n, rc⟩ := dh0
  simp only [zoneC] at HWA HA
  simp only at hle hmx HL hlen
  clear hlen
  go_enter Tryz.func6, Tryz.ntmps6
  simp only [zoneC]
  go_wp2_with fail
  refine (HAN.out _ (HE.out.on HWA.out) (HT.out.on HWA.out)).mono ?_
  rintro e w2 ⟨rfl, hb2⟩
  have HB2 := Lib.hid (below_on HWA.out hb2 (Nat.le_refl _))
  have HA2 := Lib.hid (HA.out.on hb2)
  have c0 := HA2.out.cell 0
  have c1 := HA2.out.cell 1
  simp at c0 c1
  clear hb2 HA HWA
  by_cases h60 : 60 < n
  · have d3 : decide ((60 : Int) < (n : Int)) = true := by rw [decide_eq_true_eq]; omega
    go_wp2_with fail
    refine (HAN.out _ (HE.out.on HB2.out) (HT.out.on HB2.out)).mono ?_
    rintro e w9 ⟨rfl, hb9⟩
    go_wp2_with fail
    go_ret
    exact ⟨rfl, below_on HB2.out hb9 (Nat.le_refl _)⟩
  have d3 : decide ((60 : Int) < (n : Int)) = false := by rw [decide_eq_false_iff_not]; omega
  by_cases h130 : 130 < zl
  · have d4 : decide ((130 : Int) < (zl : Int)) = true := by rw [decide_eq_true_eq]; omega
    go_wp2_with fail
    refine (HAN.out _ (HE.out.on HB2.out) (HT.out.on HB2.out)).mono ?_
    rintro e w9 ⟨rfl, hb9⟩
    go_wp2_with fail
    go_ret
    exact ⟨rfl, below_on HB2.out hb9 (Nat.le_refl _)⟩
  have d4 : decide ((130 : Int) < (zl : Int)) = false := by rw [decide_eq_false_iff_not]; omega
  have hn60 : n ≤ 60 := by omega
  clear h60
  go_wp2_with fail
  clear c0 c1 d3 d4
  go_loopw [3, 4, 5, 6, 7] (fun i _ _ _ _ wr => ∃ k : Nat, k ≤ n ∧ i = .int .i64 k ∧ Hid (Below w2.heap.size w2 wr ∧ ∀ j (hj : j < x0.recs.length), j < k → LightData x0.recs[j].data ∧ x0.recs[j].name.length ≤ 130)) (fun i _ _ _ _ _ => n - (intOf i).toNat)
  case atStart => exact ⟨0, Nat.zero_le _, rfl, Below.refl _ _, fun j hj h => absurd h (by omega)⟩
  case round =>
    obtain ⟨k, hk, rfl, hinv⟩ := hrel
    have HBr := Lib.hid (below_on HB2.out hinv.out.1 (Nat.le_refl _))
    have HAr := Lib.hid (HA2.out.on hinv.out.1)
    have HZr := Lib.hid (HZ.out.on HBr.out)
    have HEr := Lib.hid (HE.out.on HBr.out)
    have HTr := Lib.hid (HT.out.on HBr.out)
    have HBUr := Lib.hid (HB.out.on HBr.out)
    have c1 := HAr.out.cell 1
    simp at c1
    by_cases hlt : k < n
    · have hkr : k < x0.recs.length := by have := HL.out; omega
      obtain ⟨b, off, rfl⟩ : ∃ b off, ra = some ⟨b, off, none⟩ := HZr.out.recs.addr hlt
      obtain ⟨h, hc, ho⟩ := HZr.out.recs.at hlt
      obtain ⟨r, hrx⟩ : ∃ o, o = x0.recs[k] := ⟨_, rfl⟩
      rw [← hrx] at hc ho
      have HRX := Lib.hid hrx
      have HO := Lib.hid ho
      have HLG := Lib.hid (light_any wr h.d r.data ho.data)
      obtain ⟨L, hLe⟩ : ∃ L, L = lightB r.data := ⟨_, rfl⟩
      rw [← hLe] at HLG
      have HLL := Lib.hid hLe
      have HFL := Lib.hid (fun (w' : World) (p : IsRR w' h r) (q : LightData r.data) (e : Env w') (t : Types w') (u : Bru w') => fline_any w' h r p q e t u)
      have HRL := Lib.hid (fun (w' : World) (p : IsRR w' h r) (q : LightData r.data) => rline_any w' h r p q)
      obtain ⟨LT, hLT⟩ : ∃ L, L = lineT r := ⟨_, rfl⟩
      obtain ⟨LO, hLO⟩ : ∃ L, L = lineOk r := ⟨_, rfl⟩
      rw [← hLT, ← hLO] at HFL HRL
      have e0 := hc 0 (by omega)
      have e1 := hc 1 (by omega)
      have e2 := hc 2 (by omega)
      have e3 := hc 3 (by omega)
      have e4 := hc 4 (by omega)
      have e5 := hc 5 (by omega)
      have e6 := hc 6 (by omega)
      have e7 := hc 7 (by omega)
      have e8 := hc 8 (by omega)
      clear hc ho hrx hLe hLT hLO
      obtain ⟨na, nl, nc, ⟨ba, bl, bc, ha, hl, hc, ma, ml, mc, xa, xl, xc, ta, tl, tc⟩⟩ := h
      simp only [dataC] at HLG
      simp only [rrC] at HFL HRL
      simp [rrC] at e0 e1 e2 e3 e4 e5 e6 e7 e8
      go_wp2_with fail
      refine HLG.out.mono ?_
      rintro e w3 ⟨rfl, hb3⟩
      have HB3 := Lib.hid (below_on HBr.out hb3 (Nat.le_refl _))
      have HI3 := Lib.hid (below_on hinv.out.1 hb3 (Nat.le_refl _))
      have HA3 := Lib.hid (HAr.out.on hb3)
      have HO3 := Lib.hid (HO.out.on hb3)
      replace e0 := cell_keep hb3 e0
      replace e1 := cell_keep hb3 e1
      replace e2 := cell_keep hb3 e2
      replace e3 := cell_keep hb3 e3
      replace e4 := cell_keep hb3 e4
      replace e5 := cell_keep hb3 e5
      replace e6 := cell_keep hb3 e6
      replace e7 := cell_keep hb3 e7
      replace e8 := cell_keep hb3 e8
      have c1 := HA3.out.cell 1
      simp at c1
      clear hb3 HLG
      cases L
      · go_wp2_with fail
        go_ret
        exact ⟨rfl, HB3.out⟩
      have HLI := Lib.hid (light_data HLL.out.symm)
      by_cases hn130 : 130 < nl
      · have d5 : decide ((130 : Int) < (nl : Int)) = true := by rw [decide_eq_true_eq]; omega
        go_wp2_with fail
        go_ret
        exact ⟨rfl, HB3.out⟩
      have d5 : decide ((130 : Int) < (nl : Int)) = false := by rw [decide_eq_false_iff_not]; omega
      have HNL := Lib.hid (show r.name.length ≤ 130 by have h1 : r.name.length = nl := HO3.out.name.len; omega)
      clear hn130
      go_wp2_with fail
      refine (HFL.out _ HO3.out HLI.out (HE.out.on HB3.out) (HT.out.on HB3.out) (HB.out.on HB3.out)).mono ?_
      rintro e w4 ⟨rfl, hb4⟩
      have HB4 := Lib.hid (below_on HB3.out hb4 (Nat.le_refl _))
      have HI4 := Lib.hid (below_on HI3.out hb4 (Nat.le_refl _))
      have HA4 := Lib.hid (HA3.out.on hb4)
      have HO4 := Lib.hid (HO3.out.on hb4)
      replace e0 := cell_keep hb4 e0
      replace e1 := cell_keep hb4 e1
      replace e2 := cell_keep hb4 e2
      replace e3 := cell_keep hb4 e3
      replace e4 := cell_keep hb4 e4
      replace e5 := cell_keep hb4 e5
      replace e6 := cell_keep hb4 e6
      replace e7 := cell_keep hb4 e7
      replace e8 := cell_keep hb4 e8
      have c1 := HA4.out.cell 1
      simp at c1
      clear hb4 HFL
      go_wp2_with fail
      refine (HRL.out _ HO4.out HLI.out).mono ?_
      rintro e w5 ⟨rfl, hb5⟩
      have HI5 := Lib.hid (below_on HI4.out hb5 (Nat.le_refl _))
      clear hb5 HRL e0 e1 e2 e3 e4 e5 e6 e7 e8 c1
      have q1 : (LT.toList != LT.toList) = false := by simp
      go_wp2_with fail
      go_roundw
      case rel =>
        refine ⟨k + 1, by omega, by go_num, HI5.out, fun j hj h => ?_⟩
        rcases Nat.lt_succ_iff_lt_or_eq.1 h with h | rfl
        · exact hinv.out.2 j hj h
        · rw [← HRX.out]; exact ⟨HLI.out, HNL.out⟩
      case measure => simp [intOf]; omega
    · have HLI := Lib.hid (show ∀ r ∈ x0.recs, LightData r.data ∧ r.name.length ≤ 130 by
        intro r hr
        obtain ⟨i, hi, rfl⟩ := List.getElem_of_mem hr
        exact hinv.out.2 i hi (by have := HL.out; omega))
      have HC0 := Lib.hid (show wr.drew.cell? ⟨W.heap.size, 0, none⟩ = some (.slice za zl zc) from HAr.out.cell 0)
      have HC1 := Lib.hid (show wr.drew.cell? ⟨W.heap.size, 1, none⟩ = some (.slice ra n rc) from HAr.out.cell 1)
      clear hinv
      go_wp2_with fail
      clear c1
      refine wp_soup0 (m := 123) (by kernel_rfl) (fun x y => Below x.heap.size x y) (fun i v xw => match i with | 0 => ∃ g, v = .slice (some ⟨g, 0, none⟩) 0 0 ∧ g < xw.heap.size | 1 => v = .pointer (some ⟨W.heap.size, 0, none⟩) | 2 => v = .slice za zl zc | 3 => ∃ a c, v = .slice (some a) zl c ∧ Strs xw (some a) zl c x0.name | 4 => v = .pointer (some ⟨W.heap.size, 1, none⟩) | 5 => v = .slice ra n rc | 6 => ∃ ao c, v = .slice ao n c ∧ RRs xw ao n c x0.recs | 7 => ∃ k, v = .agg (zoneC k) ∧ IsZone xw k x0 | 8 => v = .tuple #[.string PS, .int .i64 PN] | 9 => v = .tuple #[.string PS, .int .i64 PN] | 10 => v = .string PS | 11 => v = .int .i64 PN | 12 => v = .string PS | 13 => v = .int .i64 PN | _ => True) rfl (by kernel_rfl) (fun _ _ _ h1 h2 => below_on h1 h2 (Nat.le_refl _)) (Below.refl _ _) (by intro i v x y h hxy; match i, h with | 0, ⟨g, e, hg⟩ => exact ⟨g, e, Nat.lt_of_lt_of_le hg hxy.size⟩ | 1, h => exact h | 2, h => exact h | 3, ⟨a, c, e, hr⟩ => exact ⟨a, c, e, hr.below hxy (Nat.le_refl _)⟩ | 4, h => exact h | 5, h => exact h | 6, ⟨a, c, e, hr⟩ => exact ⟨a, c, e, hr.on hxy⟩ | 7, ⟨k, e, hr⟩ => exact ⟨k, e, hr.on hxy⟩ | 8, h => exact h | 9, h => exact h | 10, h => exact h | 11, h => exact h | 12, h => exact h | 13, h => exact h | _ + 14, _ => trivial) (dst_but 14 (by kernel_rfl) (fun _ _ h => h)) ?_ ?_
      rotate_left
      · intro a X hR hS hdep
        have e1 : a.tmps.getD 1 undef = .pointer (some ⟨W.heap.size, 0, none⟩) := hS.keep 1 (by kernel_rfl)
        have e8 : a.tmps.getD 8 undef = .string PS := hdep 12 (by decide +kernel)
        have e9 : a.tmps.getD 9 undef = .int .i64 PN := hdep 13 (by decide +kernel)
        obtain ⟨T, df⟩ := a
        obtain rfl : df = [] := hS.defers
        have hT : T = #[T.getD 0 undef, T.getD 1 undef, T.getD 2 undef, T.getD 3 undef, T.getD 4 undef, T.getD 5 undef, T.getD 6 undef, T.getD 7 undef, T.getD 8 undef, T.getD 9 undef, T.getD 10 undef, T.getD 11 undef, T.getD 12 undef, T.getD 13 undef, T.getD 14 undef, T.getD 15 undef, T.getD 16 undef, T.getD 17 undef, T.getD 18 undef, T.getD 19 undef, T.getD 20 undef, T.getD 21 undef, T.getD 22 undef, T.getD 23 undef, T.getD 24 undef, T.getD 25 undef, T.getD 26 undef, T.getD 27 undef, T.getD 28 undef, T.getD 29 undef, T.getD 30 undef, T.getD 31 undef, T.getD 32 undef, T.getD 33 undef, T.getD 34 undef, T.getD 35 undef, T.getD 36 undef, T.getD 37 undef, T.getD 38 undef, T.getD 39 undef, T.getD 40 undef, T.getD 41 undef, T.getD 42 undef, T.getD 43 undef, T.getD 44 undef, T.getD 45 undef, T.getD 46 undef, T.getD 47 undef, T.getD 48 undef, T.getD 49 undef, T.getD 50 undef, T.getD 51 undef, T.getD 52 undef, T.getD 53 undef, T.getD 54 undef, T.getD 55 undef, T.getD 56 undef, T.getD 57 undef, T.getD 58 undef, T.getD 59 undef, T.getD 60 undef, T.getD 61 undef, T.getD 62 undef, T.getD 63 undef, T.getD 64 undef, T.getD 65 undef, T.getD 66 undef, T.getD 67 undef, T.getD 68 undef, T.getD 69 undef, T.getD 70 undef, T.getD 71 undef, T.getD 72 undef, T.getD 73 undef, T.getD 74 undef, T.getD 75 undef, T.getD 76 undef, T.getD 77 undef, T.getD 78 undef, T.getD 79 undef, T.getD 80 undef, T.getD 81 undef, T.getD 82 undef, T.getD 83 undef, T.getD 84 undef, T.getD 85 undef, T.getD 86 undef, T.getD 87 undef, T.getD 88 undef, T.getD 89 undef, T.getD 90 undef, T.getD 91 undef, T.getD 92 undef, T.getD 93 undef, T.getD 94 undef, T.getD 95 undef, T.getD 96 undef, T.getD 97 undef, T.getD 98 undef, T.getD 99 undef, T.getD 100 undef, T.getD 101 undef, T.getD 102 undef, T.getD 103 undef, T.getD 104 undef, T.getD 105 undef, T.getD 106 undef, T.getD 107 undef, T.getD 108 undef, T.getD 109 undef, T.getD 110 undef, T.getD 111 undef, T.getD 112 undef, T.getD 113 undef, T.getD 114 undef, T.getD 115 undef, T.getD 116 undef, T.getD 117 undef, T.getD 118 undef, T.getD 119 undef, T.getD 120 undef, T.getD 121 undef, T.getD 122 undef] := arr_eta T 123 hS.size
        have k1 : T.getD 1 undef = .pointer (some ⟨W.heap.size, 0, none⟩) := e1
        have k8 : T.getD 8 undef = .string PS := e8
        have k9 : T.getD 9 undef = .int .i64 PN := e9
        clear hS hdep
        rw [hT]
        rw [k1]
        clear k1 e1
        rw [k8]
        clear k8 e8
        rw [k9]
        clear k9 e9
        clear hT
        generalize T.getD 0 undef = u0
        generalize T.getD 2 undef = u2
        generalize T.getD 3 undef = u3
        generalize T.getD 4 undef = u4
        generalize T.getD 5 undef = u5
        generalize T.getD 6 undef = u6
        generalize T.getD 7 undef = u7
        generalize T.getD 10 undef = u10
        generalize T.getD 11 undef = u11
        generalize T.getD 12 undef = u12
        generalize T.getD 13 undef = u13
        generalize T.getD 14 undef = u14
        generalize T.getD 15 undef = u15
        generalize T.getD 16 undef = u16
        generalize T.getD 17 undef = u17
        generalize T.getD 18 undef = u18
        generalize T.getD 19 undef = u19
        generalize T.getD 20 undef = u20
        generalize T.getD 21 undef = u21
        generalize T.getD 22 undef = u22
        generalize T.getD 23 undef = u23
        generalize T.getD 24 undef = u24
        generalize T.getD 25 undef = u25
        generalize T.getD 26 undef = u26
        generalize T.getD 27 undef = u27
        generalize T.getD 28 undef = u28
        generalize T.getD 29 undef = u29
        generalize T.getD 30 undef = u30
        generalize T.getD 31 undef = u31
        generalize T.getD 32 undef = u32
        generalize T.getD 33 undef = u33
        generalize T.getD 34 undef = u34
        generalize T.getD 35 undef = u35
        generalize T.getD 36 undef = u36
        generalize T.getD 37 undef = u37
        generalize T.getD 38 undef = u38
        generalize T.getD 39 undef = u39
        generalize T.getD 40 undef = u40
        generalize T.getD 41 undef = u41
        generalize T.getD 42 undef = u42
        generalize T.getD 43 undef = u43
        generalize T.getD 44 undef = u44
        generalize T.getD 45 undef = u45
        generalize T.getD 46 undef = u46
        generalize T.getD 47 undef = u47
        generalize T.getD 48 undef = u48
        generalize T.getD 49 undef = u49
        generalize T.getD 50 undef = u50
        generalize T.getD 51 undef = u51
        generalize T.getD 52 undef = u52
        generalize T.getD 53 undef = u53
        generalize T.getD 54 undef = u54
        generalize T.getD 55 undef = u55
        generalize T.getD 56 undef = u56
        generalize T.getD 57 undef = u57
        generalize T.getD 58 undef = u58
        generalize T.getD 59 undef = u59
        generalize T.getD 60 undef = u60
        generalize T.getD 61 undef = u61
        generalize T.getD 62 undef = u62
        generalize T.getD 63 undef = u63
        generalize T.getD 64 undef = u64
        generalize T.getD 65 undef = u65
        generalize T.getD 66 undef = u66
        generalize T.getD 67 undef = u67
        generalize T.getD 68 undef = u68
        generalize T.getD 69 undef = u69
        generalize T.getD 70 undef = u70
        generalize T.getD 71 undef = u71
        generalize T.getD 72 undef = u72
        generalize T.getD 73 undef = u73
        generalize T.getD 74 undef = u74
        generalize T.getD 75 undef = u75
        generalize T.getD 76 undef = u76
        generalize T.getD 77 undef = u77
        generalize T.getD 78 undef = u78
        generalize T.getD 79 undef = u79
        generalize T.getD 80 undef = u80
        generalize T.getD 81 undef = u81
        generalize T.getD 82 undef = u82
        generalize T.getD 83 undef = u83
        generalize T.getD 84 undef = u84
        generalize T.getD 85 undef = u85
        generalize T.getD 86 undef = u86
        generalize T.getD 87 undef = u87
        generalize T.getD 88 undef = u88
        generalize T.getD 89 undef = u89
        generalize T.getD 90 undef = u90
        generalize T.getD 91 undef = u91
        generalize T.getD 92 undef = u92
        generalize T.getD 93 undef = u93
        generalize T.getD 94 undef = u94
        generalize T.getD 95 undef = u95
        generalize T.getD 96 undef = u96
        generalize T.getD 97 undef = u97
        generalize T.getD 98 undef = u98
        generalize T.getD 99 undef = u99
        generalize T.getD 100 undef = u100
        generalize T.getD 101 undef = u101
        generalize T.getD 102 undef = u102
        generalize T.getD 103 undef = u103
        generalize T.getD 104 undef = u104
        generalize T.getD 105 undef = u105
        generalize T.getD 106 undef = u106
        generalize T.getD 107 undef = u107
        generalize T.getD 108 undef = u108
        generalize T.getD 109 undef = u109
        generalize T.getD 110 undef = u110
        generalize T.getD 111 undef = u111
        generalize T.getD 112 undef = u112
        generalize T.getD 113 undef = u113
        generalize T.getD 114 undef = u114
        generalize T.getD 115 undef = u115
        generalize T.getD 116 undef = u116
        generalize T.getD 117 undef = u117
        generalize T.getD 118 undef = u118
        generalize T.getD 119 undef = u119
        generalize T.getD 120 undef = u120
        generalize T.getD 121 undef = u121
        generalize T.getD 122 undef = u122
        have HBX := Lib.hid (below_on (B := wr.heap.size) (Below.drew (Below.refl _ _)) hR (Nat.le_refl _))
        have HRP := Lib.hid (rprint_any X ⟨za, zl, zc, ra, n, rc⟩ x0 (HZr.out.on HBX.out) (fun r hr => (HLI.out r hr).1) (by rw [HL.out]; exact hn60))
        simp only [zoneC] at HRP
        obtain ⟨PT, hPT⟩ : ∃ q, q = printT x0 := ⟨_, rfl⟩
        obtain ⟨ZB, hZB⟩ : ∃ q, q = zoneB x0 := ⟨_, rfl⟩
        rw [← hPT, ← hZB] at HRP
        have HPT := Lib.hid hPT
        have HZB := Lib.hid hZB
        clear hPT hZB
        have HAX := Lib.hid (HAr.out.on HBX.out)
        have HBF := Lib.hid (below_on HBr.out HBX.out (Nat.le_refl _))
        have c0 := HAX.out.cell 0
        have c1 := HAX.out.cell 1
        simp at c0 c1
        clear hR
        go_wp2_with fail
        clear c0 c1
        refine HRP.out.mono ?_
        rintro e w8 ⟨rfl, hb8⟩
        have HB8 := Lib.hid (below_on HBF.out hb8 (Nat.le_refl _))
        clear hb8 HRP HAX HBF HBX
        cases ZB
        · have hp : PS = ⟨#[]⟩ ∧ PN = 2 := by
            have h1 := HPE.out
            rw [printE, ← HZB.out] at h1
            simp at h1
            exact ⟨h1.1.symm, h1.2.symm⟩
          obtain ⟨rfl, rfl⟩ := hp
          go_wp2_with fail
          go_ret
          exact ⟨rfl, HB8.out⟩
        have hpt : PT = strOf (printL x0) := by rw [HPT.out, printT, ← HZB.out, if_pos rfl]
        have hsz : PT.size = (printL x0).length := by rw [hpt]; show (printL x0).toArray.size = _; simp
        by_cases hbig : 262144 < PT.size
        · have hp : PS = ⟨#[]⟩ ∧ PN = 4 := by
            have h1 := HPE.out
            rw [printE, ← HZB.out, if_pos rfl, if_pos (by omega)] at h1
            simp at h1
            exact ⟨h1.1.symm, h1.2.symm⟩
          obtain ⟨rfl, rfl⟩ := hp
          have d9 : decide ((262144 : Int) < (PT.size : Int)) = true := by rw [decide_eq_true_eq]; omega
          clear hpt hsz hbig
          go_wp2_with fail
          go_ret
          exact ⟨rfl, HB8.out⟩
        · have hp : PS = PT ∧ PN = 0 := by
            have h1 := HPE.out
            rw [printE, ← HZB.out, if_pos rfl, if_neg (by omega), ← hpt] at h1
            simp at h1
            exact ⟨h1.1.symm, h1.2.symm⟩
          obtain ⟨rfl, rfl⟩ := hp
          have d9 : decide ((262144 : Int) < (PS.size : Int)) = false := by rw [decide_eq_false_iff_not]; omega
          have q9 : (PS.toList == PS.toList) = true := by simp
          clear hpt hsz hbig
          go_wp2_with fail
          go_ret
          exact ⟨rfl, HB8.out⟩
      refine soup_cons rfl rfl (fun a X hR hS hdep K hK => ?_) ?_
      · go_simp
        exact hK _ _ ((Below.refl _ _).alloc (Nat.le_refl _) _) ⟨_, rfl, by simp⟩
      refine soup_cons rfl rfl (fun a X hR hS hdep K hK => ?_) ?_
      · have e1 : a.tmps[1]?.getD undef = .pointer (some ⟨W.heap.size, 0, none⟩) := slot_of (hS.keep 1 (by kernel_rfl))
        go_simp
        exact hK _ _ (Below.refl _ _) rfl
      refine soup_cons rfl rfl (fun a X hR hS hdep K hK => ?_) ?_
      · have e80 : a.tmps[80]?.getD undef = .pointer (some ⟨W.heap.size, 0, none⟩) := slot_of (hdep 1 (by decide +kernel))
        have q1 := cell_keep hR HC0.out
        go_simp
        exact hK _ _ (Below.refl _ _) rfl
      refine soup_cons rfl rfl (fun a X hR hS hdep K hK => ?_) ?_
      · obtain ⟨g, q, hg⟩ := hdep 0 (by decide +kernel)
        have e79 : a.tmps[79]?.getD undef = .slice (some ⟨g, 0, none⟩) 0 0 := slot_of (q)
        clear q
        have e81 : a.tmps[81]?.getD undef = .slice za zl zc := slot_of (hdep 2 (by decide +kernel))
        have hbX := below_on (B := wr.heap.size) (Below.drew (Below.refl _ _)) hR (Nat.le_refl _)
        have hzW := HZr.out.on hbX
        obtain ⟨i0, hi, hz0, hz1, hz2⟩ := info_parts strInfo
        obtain ⟨a', c', w', hrun, hrow, hgr, hb⟩ := append_made (P := Tryz.prog) X 30 30 9 i0 _ 16 Tryz.underlying30 hi hz0 hz1 hz2 g hg za zl zc _ hzW.name.row (by omega)
        rw [if_pos (by rfl)]
        refine wp_append_run _ _ _ rfl _ _ (Array.getD_eq_getD_getElem?.trans e79) (Array.getD_eq_getD_getElem?.trans e81) hrun ?_
        exact hK _ _ hb ⟨_, _, rfl, ⟨hrow, hzW.name.small⟩⟩
      refine soup_cons rfl rfl (fun a X hR hS hdep K hK => ?_) ?_
      · have e1 : a.tmps[1]?.getD undef = .pointer (some ⟨W.heap.size, 0, none⟩) := slot_of (hS.keep 1 (by kernel_rfl))
        go_simp
        exact hK _ _ (Below.refl _ _) rfl
      refine soup_cons rfl rfl (fun a X hR hS hdep K hK => ?_) ?_
      · have e83 : a.tmps[83]?.getD undef = .pointer (some ⟨W.heap.size, 1, none⟩) := slot_of (hdep 4 (by decide +kernel))
        have q1 := cell_keep hR HC1.out
        go_simp
        exact hK _ _ (Below.refl _ _) rfl
      refine soup_cons rfl rfl (fun a X hR hS hdep K hK => ?_) ?_
      · have e84 : a.tmps[84]?.getD undef = .slice ra n rc := slot_of (hdep 5 (by decide +kernel))
        have hbX := below_on (B := wr.heap.size) (Below.drew (Below.refl _ _)) hR (Nat.le_refl _)
        go_simp
        refine (ownrrs_any X ra n rc x0.recs (HZr.out.on hbX).recs HLI.out hn60).mono ?_
        rintro e W' ⟨⟨ao, c, rfl, hr⟩, hb⟩
        exact hK _ _ hb ⟨ao, c, rfl, hr⟩
      refine soup_cons rfl rfl (fun a X hR hS hdep K hK => ?_) ?_
      · obtain ⟨a1, c1, q, h1⟩ := hdep 3 (by decide +kernel)
        have e82 : a.tmps[82]?.getD undef = .slice (some a1) zl c1 := slot_of (q)
        clear q
        obtain ⟨ao, c2, q, h2⟩ := hdep 6 (by decide +kernel)
        have e85 : a.tmps[85]?.getD undef = .slice ao n c2 := slot_of (q)
        clear q
        go_simp
        exact hK _ _ (Below.refl _ _) ⟨⟨some a1, zl, c1, ao, n, c2⟩, rfl, ⟨h1, h2⟩⟩
      refine soup_cons rfl rfl (fun a X hR hS hdep K hK => ?_) ?_
      · obtain ⟨kz, q, hkz⟩ := hdep 7 (by decide +kernel)
        have e86 : a.tmps[86]?.getD undef = .agg (zoneC kz) := slot_of (q)
        clear q
        have hbX := below_on (B := wr.heap.size) (Below.drew (Below.refl _ _)) hR (Nat.le_refl _)
        go_simp
        refine (fprint_any X kz x0 hkz (fun r hr => (HLI.out r hr).1) (by rw [HL.out]; exact hn60) (HEr.out.on hbX) (HTr.out.on hbX) (HBUr.out.on hbX)).mono ?_
        rintro e W' ⟨rfl, hb⟩
        exact hK _ _ hb HPE.out
      refine soup_cons rfl rfl (fun a X hR hS hdep K hK => ?_) ?_
      · have e87 : a.tmps[87]?.getD undef = .tuple #[.string PS, .int .i64 PN] := slot_of (hdep 8 (by decide +kernel))
        go_simp
        exact hK _ _ (Below.refl _ _) rfl
      refine soup_cons rfl rfl (fun a X hR hS hdep K hK => ?_) ?_
      · have e78 : a.tmps[78]?.getD undef = .tuple #[.string PS, .int .i64 PN] := slot_of (hdep 9 (by decide +kernel))
        go_simp
        exact hK _ _ (Below.refl _ _) rfl
      refine soup_cons rfl rfl (fun a X hR hS hdep K hK => ?_) ?_
      · have e78 : a.tmps[78]?.getD undef = .tuple #[.string PS, .int .i64 PN] := slot_of (hdep 9 (by decide +kernel))
        go_simp
        exact hK _ _ (Below.refl _ _) rfl
      refine soup_cons rfl rfl (fun a X hR hS hdep K hK => ?_) ?_
      · have e88 : a.tmps[88]?.getD undef = .string PS := slot_of (hdep 10 (by decide +kernel))
        go_simp
        exact hK _ _ (Below.refl _ _) rfl
      refine soup_cons rfl rfl (fun a X hR hS hdep K hK => ?_) ?_
      · have e89 : a.tmps[89]?.getD undef = .int .i64 PN := slot_of (hdep 11 (by decide +kernel))
        go_simp
        exact hK _ _ (Below.refl _ _) rfl
      exact fun j h1 h2 => absurd h1 (by simp only [List.size_toArray, List.length_cons, List.length_nil]; omega)

theorem door_met (os : Os) (args : Array Value) : laidMetH Tryz.prog Rows.filePrintsRow.laid ((World.laidAll Tryz.prog os Rows.filePrintsRow.laid).forCall (fun _ _ => 0) ⟨#[], args, []⟩).memory := by
  rw [MakeChecks.laidMetH_plain _ _ _ (by kernel_rfl)]
  exact laidMet_laidAll _ (by kernel_rfl) (by kernel_rfl)

set_option maxHeartbeats 1000000 in
set_option maxRecDepth 100000 in
theorem lifted (os : Os) (started : os.Started) (H : Type) (enc : TypeId × Value → H) :
    ReturnsInHanded {} Tryz.checked os 6 .any (fun w args => (Rows.filePrintsSpec.pre enc Tryz.prog Tryz.f6 [] false w args ∧ laidMetH Tryz.prog Rows.filePrintsRow.laid w) ∧ sizedMet enc Tryz.prog Tryz.f6 (OpenSpec.ofChange Rows.filePrintsSpec) false w args) (Rows.filePrintsSpec.post enc Tryz.prog Tryz.f6 false true false false) := by
  refine wrap_and_shaped (C := Tryz.checked) (X := fun w _ => laidMetH Tryz.prog Rows.filePrintsRow.laid w) (fun _ _ _ hh h => h.of_heap hh) own started (by kernel_rfl) Tryz.func6
    (ChangeSpec.witness_shaped (enc := enc) (C := Tryz.checked) (os := os) (X := fun w _ => laidMetH Tryz.prog Rows.filePrintsRow.laid w) false (World.laidAll Tryz.prog os Rows.filePrintsRow.laid) #[.agg #[.slice none 0 0, .slice none 0 0]] 8 (World.laidAll_os _ _ _) (World.shaped_of_ZipB (by kernel_rfl) (by kernel_rfl)) (by kernel_rfl) (by kernel_rfl) (by kernel_rfl) (door_met os _)) ?_
  intro W base args ds gs before hval0 hW hcnd hsz0 hL hsh _
  have hval : ∀ (j : Nat) t v, Tryz.f6.params[j]? = some t → args[j]? = some v → Value.okWide Tryz.prog W .any base t v := hval0
  have hW' := hW
  obtain ⟨p, q, hA0, hV, rfl, hfz, hnd⟩ := hW
  have hA : DataW.TrodAll enc Tryz.prog W 0 (fun _ => true) true Tryz.f6.params.toList args.toList ds p := hA0
  have hsz : (DataW.weightsEach Tryz.prog (Tryz.f6.params.toList ++ Rows.filePrintsSpec.plain.varTypes Tryz.prog) (ds ++ gs)).all (· ≤ reachBytes) = true := hsz0
  rw [Tryz.params6] at hA hval hsz
  obtain ⟨v0, vs0, d0, ds0, p0, q0, hargs, rfl, rfl, h0, r0⟩ := trodAll_cons hA
  obtain ⟨rfl, rfl, rfl⟩ := trodAll_nil r0
  obtain rfl : args = #[v0] := by cases args; simp_all
  obtain ⟨rfl, rfl⟩ := trodVars_none hV
  have k0 := h0
  have lt0 : ∀ x ∈ p0, x.block < W.heap.size := by obtain ⟨m, hm⟩ := k0; exact DataW.trod_lt m _ _ _ hm
  obtain ⟨x0, dh0, hv0, sx0⟩ := open_zone_arg (hval 0 46 v0 rfl rfl) h0 (weights_at hsz (j := 0) rfl rfl)
  clear hA0 hval0
  subst hv0
  refine (walk x0 dh0 W sx0 hL (max_of_shape hsh)).mono fun e W' ⟨he, bel⟩ => ?_
  subst he
  exact ⟨_, rfl, _, _, _, [], _, [], hW', trodAll_mk1 (shut_bool Tryz.underlying4 _), (trodAll_cons_mk (Below.trod laidOut (by kernel_rfl) (of_decide_eq_true (by kernel_rfl)) k0 bel lt0) trodAll_mk0), rfl, bel.frame _, fun h => by cases h⟩

theorem over : Rows.filePrintsRow.holds Tryz.pinned (OpenSpec.ofChange Rows.filePrintsSpec) :=
  OpenClaim.holds_of_wide 6 Tryz.f6 rfl rfl rfl rfl rfl rfl rfl ⟨rfl, rfl, rfl, rfl, rfl⟩ rfl rfl rfl rfl rfl (by kernel_rfl) Tryz.func6 (by kernel_rfl)
    (of_decide_eq_true (by kernel_rfl)) (by unfold Func.isWrapper; first | (rw [if_pos (by decide +kernel)]; kernel_rfl) | (rw [if_neg (by decide +kernel)]; exact ⟨rfl, rfl⟩))
    (fun os started H enc _ => lifted os started H enc)

theorem proved : Rows.FilePrintsCardSaid :=
  Claim7.holds_tied_plain_at .later [] [.data, .data, .data, .data, .sentinel, .sentinel, .data, .pinned] true (true, "fab5b64761970f4e0cf9cb2320c20c52afa86df77447b640b54cc28f6a1e98a6") true
    over (fun _ h => by cases h) (by kernel_rfl) (fun _ h => by cases h) filePrints_row_tie rfl ⟨rfl, rfl⟩ (by kernel_rfl) rfl
    (fun f fn hf hfn => by
      obtain rfl : f = 6 := Option.some.inj ((show Tryz.prog.funcNamed "gazetteer/gazetteerlaw25.FilePrints" = some 6 by kernel_rfl).symm.trans hf) |>.symm
      obtain rfl : fn = Tryz.f6 := (Option.some.inj (Tryz.func6.symm.trans hfn)).symm
      exact ⟨by kernel_rfl, fun j t ht => by
        rw [Tryz.params6] at ht
        have hm : t ∈ [46] := by simpa using Array.mem_of_getElem? ht
        have hall : ([46].all fun u => !Tryz.prog.wantsStandIn u) = true := by kernel_rfl
        exact (show Tryz.prog.wantsStandIn t = false by simpa using List.all_eq_true.1 hall t hm)⟩)
    (by kernel_rfl)
end Go.Proofs.YtipbakdodbmfjaaGreatDoor.filePrints

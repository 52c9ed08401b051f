/- The walk of law14.CacheBeaten. -/
import Derived.Test.YtpemdieejgldiaaAnswers
import Derived.Test.YtpemdieejgldiaaLight
import Derived.Test.YtpemdieejgldiaaTailp
import Derived.Test.YtpemdieejgldiaaRownfact
import Derived.Test.YtpemdieejgldiaaBeatlaw
import Derived.Test.YtpemdieejgldiaaRfsame
namespace Go.Proofs.Ytpemdieejgldiaa
open Go.ChangeShapes Go.WideShapes Go.ChangeAt Go.RowKit

/-- what the loop keeps -/
structure BtSt (w wr : World) (C j : Nat) : Prop where
  bel : Below w.heap.size w wr
  ca : ∃ k L, IsCache w.heap.size wr C 100 0 k L ∧ k ≤ j ∧ L.length ≤ j
theorem look_one (w : World) (N C : Nat) (k : Nat) (L : List Slot) (B : Nat) (hN : N ≤ w.heap.size) (hC : IsCache B w C 100 0 k L) (S : Nat → Prop) (h : FactH) (o g : FactP) (th : Bool) (hf : IsFact S w h o) (hz : sizeN o.name ≤ 1099511627776) (hth : th = (atL L (keyF o)).isSome) (hg : g = ((atL L (keyF o)).map (·.f)).getD zF) :
    Calls Try.prog 9 #[.pointer (some ⟨C, 0, none⟩), .slice h.na h.nl h.nc, .int .i64 o.typ] w fun e w' => (∃ q, e = .returned (.tuple #[.agg (factC q g), .bool th]) ∧ OwnF N w' q g) ∧ Below w.heap.size w w' := by
  refine (look_any w B C 100 0 k L hC _ _ _ _ _ hf.name hz).mono ?_
  rintro e w' ⟨⟨q, f', b, rfl, h1, rfl, rfl⟩, hb⟩
  refine ⟨⟨q, ?_, ?_⟩, hb⟩
  · rw [hth, hg]; rfl
  · rw [hg]; exact h1.mono (fun b _ ht => ⟨ht.1, by omega⟩)
theorem same_small (w : World) (S R : Nat → Prop) (h k : FactH) (f g : FactP) (B : Bool) (hB : B = sameF f g) (hf : IsFact S w h f) (hg : IsFact R w k g) :
    Calls Try.prog 13 #[.agg (factC h f), .agg (factC k g)] w fun e w' => e = .returned (.bool B) ∧ Below w.heap.size w w' := by
  rw [hB]
  exact rsame12_any w S R h k f g hf hg
set_option maxHeartbeats 64000000 in
set_option maxRecDepth 100000 in
theorem beaten_walk (w : World) (S : Nat → Prop) (ao : Option Addr) (n c : Nat) (fs : List FactP) (hfs : Seq factK S w ao n c fs) (now : Int) (h0 : 0 ≤ now) (h1 : now ≤ 255) (hsz : ∀ f ∈ fs, sizeN f.name ≤ 1099511627776 ∧ f.soa.texts.length ≤ 1048576) :
    Calls Try.prog 3 #[.slice ao n c, .int .u8 now] w fun e w' => e = .returned (.bool true) ∧ Below w.heap.size w w' := by
  have HNW := Lib.hid (new_any w w.heap.size (Nat.le_refl _) 100 0 (by decide) (by decide) (by decide))
  have hl := hfs.hlen
  have hle := hfs.hle
  have hmx := hfs.hmax
  have HFS := Lib.hid hfs
  have HL := Lib.hid hl
  have HSZ := Lib.hid hsz
  have HNO := Lib.hid (And.intro h0 h1)
  clear hfs hl hsz
  by_cases h40 : 40 < n
  · go_enter Try.func3, Try.ntmps3
    go_wp2_with (first | (go_at_call 6; refine HNW.out.mono ?_; rintro e W ⟨⟨C, rfl, hC⟩, hb⟩; have HW := Lib.hid hb; clear hC hb) | (go_at_call 7; refine (answers_any _).mono ?_; rintro e W2 ⟨rfl, hb2⟩; replace HW := Lib.hid (below_on HW.out hb2 (Nat.le_refl _)); clear hb2))
    go_ret
    exact ⟨rfl, HW.out⟩
  · have hn40 : n ≤ 40 := by omega
    go_enter Try.func3, Try.ntmps3
    go_wp2_with (first | (go_at_call 6; refine HNW.out.mono ?_; rintro e W ⟨⟨C, rfl, hC⟩, hb⟩; have HW := Lib.hid (And.intro hb hC); clear hC hb) | (go_at_call 7; refine (answers_any _).mono ?_; rintro e W2 ⟨rfl, hb2⟩; have HV := Lib.hid (And.intro (below_on HW.out.1 hb2 (Nat.le_refl _)) (HW.out.2.on hb2)); clear hb2))
    go_loopw [7] (fun i wr => ∃ j : Nat, j ≤ n ∧ i = .int .i64 j ∧ Hid (BtSt w wr C j)) (fun i _ => n - (intOf i).toNat)
    case atStart => exact ⟨0, Nat.zero_le _, rfl, Lib.hid ⟨HV.out.1, 0, [], HV.out.2, Nat.le_refl _, Nat.le_refl _⟩⟩
    case round =>
      obtain ⟨j, hj, rfl, hinv⟩ := hrel
      by_cases hlt : j < n
      · obtain ⟨b0, off, rfl⟩ := HFS.out.addr hlt
        obtain ⟨h, hcs, ho⟩ := fact_elem (HFS.out.at hlt)
        obtain ⟨o, hox⟩ : ∃ o, o = fs[j]'(by have := HL.out; omega) := ⟨_, rfl⟩
        rw [← hox] at ho hcs
        have hso := HSZ.out o (by rw [hox]; exact List.getElem_mem _)
        have HSO := Lib.hid hso
        have HO := Lib.hid ho
        obtain ⟨k, L, hC, hk, hLn⟩ := hinv.out.ca
        have HC := Lib.hid hC
        have HK := Lib.hid (And.intro hk hLn)
        have HB := Lib.hid hinv.out.bel
        have HOW := Lib.hid (ho.on hinv.out.bel)
        clear hso hox ho hC hk hLn hinv
        have E0 := Lib.hid (show w.cell? ⟨b0, off + j * 13, none⟩ = some (.slice h.na h.nl h.nc) from hcs 0 (by omega))
        have E1 := Lib.hid (show w.cell? ⟨b0, off + j * 13 + 1, none⟩ = some (.int .i64 o.typ) from hcs 1 (by omega))
        have E2 := Lib.hid (show w.cell? ⟨b0, off + j * 13 + 2, none⟩ = some (.int .i64 o.kind) from hcs 2 (by omega))
        have E3 := Lib.hid (show w.cell? ⟨b0, off + j * 13 + 3, none⟩ = some (.int .i64 o.rank) from hcs 3 (by omega))
        have E4 := Lib.hid (show w.cell? ⟨b0, off + j * 13 + 4, none⟩ = some (.int .i64 o.got) from hcs 4 (by omega))
        have E5 := Lib.hid (show w.cell? ⟨b0, off + j * 13 + 5, none⟩ = some (.int .i64 o.ttl) from hcs 5 (by omega))
        have E6 := Lib.hid (show w.cell? ⟨b0, off + j * 13 + 6, none⟩ = some (.slice h.sa h.sl h.sc) from hcs 6 (by omega))
        have E7 := Lib.hid (show w.cell? ⟨b0, off + j * 13 + 7, none⟩ = some (.slice h.za h.zl h.zc) from hcs 7 (by omega))
        have E8 := Lib.hid (show w.cell? ⟨b0, off + j * 13 + 8, none⟩ = some (.slice h.d.ba h.d.bl h.d.bc) from hcs 8 (by omega))
        have E9 := Lib.hid (show w.cell? ⟨b0, off + j * 13 + 9, none⟩ = some (.slice h.d.ha h.d.hl h.d.hc) from hcs 9 (by omega))
        have E10 := Lib.hid (show w.cell? ⟨b0, off + j * 13 + 10, none⟩ = some (.slice h.d.ma h.d.ml h.d.mc) from hcs 10 (by omega))
        have E11 := Lib.hid (show w.cell? ⟨b0, off + j * 13 + 11, none⟩ = some (.slice h.d.na h.d.nl h.d.nc) from hcs 11 (by omega))
        have E12 := Lib.hid (show w.cell? ⟨b0, off + j * 13 + 12, none⟩ = some (.slice h.d.ta h.d.tl h.d.tc) from hcs 12 (by omega))
        clear hcs
        have m0 := cell_keep HB.out E0.out
        have m1 := cell_keep HB.out E1.out
        have m2 := cell_keep HB.out E2.out
        have m3 := cell_keep HB.out E3.out
        have m4 := cell_keep HB.out E4.out
        have m5 := cell_keep HB.out E5.out
        have m6 := cell_keep HB.out E6.out
        have m7 := cell_keep HB.out E7.out
        have m8 := cell_keep HB.out E8.out
        have m9 := cell_keep HB.out E9.out
        have m10 := cell_keep HB.out E10.out
        have m11 := cell_keep HB.out E11.out
        have m12 := cell_keep HB.out E12.out
        have HLT := Lib.hid (light_any wr S h o HOW.out)
        simp only [factC] at HLT
        go_wp2_with (go_at_call 8; refine HLT.out.mono ?_; rintro e Y ⟨⟨⟨lb, rfl, hlb⟩⟩, hby⟩; clear HLT)
        · go_ret
          exact ⟨rfl, below_on HB.out hby (Nat.le_refl _)⟩
        rename_i hnl K0 hK0
        have HK0 := Lib.hid hK0
        have HFL := Lib.hid (hlb (by simpa using hnl) HSO.out.2)
        have hwy := below_on HB.out hby (Nat.le_refl _)
        have HY := Lib.hid hwy
        have HCY := Lib.hid (HC.out.on hby)
        obtain ⟨th, hth⟩ : ∃ q : Bool, q = (atL L (keyF o)).isSome := ⟨_, rfl⟩
        obtain ⟨g, hg⟩ : ∃ q : FactP, q = ((atL L (keyF o)).map (·.f)).getD zF := ⟨_, rfl⟩
        have HTG := Lib.hid (And.intro hth hg)
        have HLK := Lib.hid (fun w' (p : Below Y.heap.size Y w') => look_one w' Y.heap.size C k L _ p.size (HCY.out.on p) S h o g th ((HO.out.on hwy).on p) HSO.out.1 hth hg)
        have HQ0 := Lib.hid (show Y.drew.cell? ⟨b0, off + j * 13, none⟩ = some (.slice h.na h.nl h.nc) from cell_keep (Below.drew hwy) E0.out)
        have HQ1 := Lib.hid (show Y.drew.cell? ⟨b0, off + j * 13 + 1, none⟩ = some (.int .i64 o.typ) from cell_keep (Below.drew hwy) E1.out)
        have HR10 : Hid (∀ (T : Array Value) (Z : World) (bq : Nat) (hq : FactH) (t : T.size = 125) (t0 : T.getD 0 undef = .slice (some ⟨b0, off, none⟩) n c) (t1 : T.getD 1 undef = .int .u8 now) (t5 : T.getD 5 undef = .pointer (some ⟨C, 0, none⟩)) (t7 : T.getD 7 undef = .int .i64 (j : Int)) (t8 : T.getD 8 undef = .pointer (some ⟨bq, 0, none⟩)) (t9 : T.getD 9 undef = .bool th) (t2 : T.getD 2 undef = undef) (t3 : T.getD 3 undef = undef) (t6 : T.getD 6 undef = .int .i64 0) (t12 : T.getD 12 undef = .tuple #[.pointer (some ⟨C, 0, none⟩), .int .i64 0]) (t13 : T.getD 13 undef = .tuple #[.pointer (some ⟨C, 0, none⟩), .int .i64 0]) (t14 : T.getD 14 undef = .pointer (some ⟨C, 0, none⟩)) (t15 : T.getD 15 undef = .int .i64 0) (t16 : T.getD 16 undef = .bool true) (t17 : T.getD 17 undef = .bool false) (t18 : T.getD 18 undef = .bool false) (t19 : T.getD 19 undef = .int .i64 0) (t20 : T.getD 20 undef = .bool false) (t21 : T.getD 21 undef = .bool false) (t22 : T.getD 22 undef = .bool false) (t23 : T.getD 23 undef = .slice ((some ⟨b0, off, none⟩)) n c) (t24 : T.getD 24 undef = .int .i64 ((n : Int))) (t25 : T.getD 25 undef = .bool (decide (40 < (n : Int)))) (t26 : T.getD 26 undef = .bool (decide (40 < (n : Int)))) (t27 : T.getD 27 undef = undef) (t28 : T.getD 28 undef = undef) (t29 : T.getD 29 undef = undef) (t30 : T.getD 30 undef = undef) (t31 : T.getD 31 undef = undef) (hbz : Below Y.heap.size Y Z) (hbq : Y.heap.size ≤ bq) (hqz : Blk Z bq (factC hq g) 36) (hoz : OwnF Y.heap.size Z hq g), K0 ⟨T, []⟩ Z) := by
          as_aux_lemma =>
            refine Lib.hid ?_
            intro T Z bq hq t t0 t1 t5 t7 t8 t9 t2 t3 t6 t12 t13 t14 t15 t16 t17 t18 t19 t20 t21 t22 t23 t24 t25 t26 t27 t28 t29 t30 t31 hbz hbq hqz hoz
            refine HK0.out _ _ ?_
            have hT : T = #[T.getD 0 undef, T.getD 1 undef, T.getD 2 undef, T.getD 3 undef, T.getD 4 undef, T.getD 5 undef, T.getD 6 undef, T.getD 7 undef, T.getD 8 undef, T.getD 9 undef, T.getD 10 undef, T.getD 11 undef, T.getD 12 undef, T.getD 13 undef, T.getD 14 undef, T.getD 15 undef, T.getD 16 undef, T.getD 17 undef, T.getD 18 undef, T.getD 19 undef, T.getD 20 undef, T.getD 21 undef, T.getD 22 undef, T.getD 23 undef, T.getD 24 undef, T.getD 25 undef, T.getD 26 undef, T.getD 27 undef, T.getD 28 undef, T.getD 29 undef, T.getD 30 undef, T.getD 31 undef, T.getD 32 undef, T.getD 33 undef, T.getD 34 undef, T.getD 35 undef, T.getD 36 undef, T.getD 37 undef, T.getD 38 undef, T.getD 39 undef, T.getD 40 undef, T.getD 41 undef, T.getD 42 undef, T.getD 43 undef, T.getD 44 undef, T.getD 45 undef, T.getD 46 undef, T.getD 47 undef, T.getD 48 undef, T.getD 49 undef, T.getD 50 undef, T.getD 51 undef, T.getD 52 undef, T.getD 53 undef, T.getD 54 undef, T.getD 55 undef, T.getD 56 undef, T.getD 57 undef, T.getD 58 undef, T.getD 59 undef, T.getD 60 undef, T.getD 61 undef, T.getD 62 undef, T.getD 63 undef, T.getD 64 undef, T.getD 65 undef, T.getD 66 undef, T.getD 67 undef, T.getD 68 undef, T.getD 69 undef, T.getD 70 undef, T.getD 71 undef, T.getD 72 undef, T.getD 73 undef, T.getD 74 undef, T.getD 75 undef, T.getD 76 undef, T.getD 77 undef, T.getD 78 undef, T.getD 79 undef, T.getD 80 undef, T.getD 81 undef, T.getD 82 undef, T.getD 83 undef, T.getD 84 undef, T.getD 85 undef, T.getD 86 undef, T.getD 87 undef, T.getD 88 undef, T.getD 89 undef, T.getD 90 undef, T.getD 91 undef, T.getD 92 undef, T.getD 93 undef, T.getD 94 undef, T.getD 95 undef, T.getD 96 undef, T.getD 97 undef, T.getD 98 undef, T.getD 99 undef, T.getD 100 undef, T.getD 101 undef, T.getD 102 undef, T.getD 103 undef, T.getD 104 undef, T.getD 105 undef, T.getD 106 undef, T.getD 107 undef, T.getD 108 undef, T.getD 109 undef, T.getD 110 undef, T.getD 111 undef, T.getD 112 undef, T.getD 113 undef, T.getD 114 undef, T.getD 115 undef, T.getD 116 undef, T.getD 117 undef, T.getD 118 undef, T.getD 119 undef, T.getD 120 undef, T.getD 121 undef, T.getD 122 undef, T.getD 123 undef, T.getD 124 undef] := arr_eta T 125 t
            rw [hT]
            rw [t0]
            rw [t1]
            rw [t5]
            rw [t7]
            rw [t8]
            rw [t9]
            rw [t2]
            rw [t3]
            rw [t6]
            rw [t12]
            rw [t13]
            rw [t14]
            rw [t15]
            rw [t16]
            rw [t17]
            rw [t18]
            rw [t19]
            rw [t20]
            rw [t21]
            rw [t22]
            rw [t23]
            rw [t24]
            rw [t25]
            rw [t26]
            rw [t27]
            rw [t28]
            rw [t29]
            rw [t30]
            rw [t31]
            clear hT t0 t1 t5 t7 t8 t9 t2 t3 t6 t12 t13 t14 t15 t16 t17 t18 t19 t20 t21 t22 t23 t24 t25 t26 t27 t28 t29 t30 t31
            generalize T.getD 4 undef = u4
            generalize T.getD 10 undef = u10
            generalize T.getD 11 undef = u11
            generalize T.getD 32 undef = u32
            generalize T.getD 33 undef = u33
            generalize T.getD 34 undef = u34
            generalize T.getD 35 undef = u35
            generalize T.getD 36 undef = u36
            generalize T.getD 37 undef = u37
            generalize T.getD 38 undef = u38
            generalize T.getD 39 undef = u39
            generalize T.getD 40 undef = u40
            generalize T.getD 41 undef = u41
            generalize T.getD 42 undef = u42
            generalize T.getD 43 undef = u43
            generalize T.getD 44 undef = u44
            generalize T.getD 45 undef = u45
            generalize T.getD 46 undef = u46
            generalize T.getD 47 undef = u47
            generalize T.getD 48 undef = u48
            generalize T.getD 49 undef = u49
            generalize T.getD 50 undef = u50
            generalize T.getD 51 undef = u51
            generalize T.getD 52 undef = u52
            generalize T.getD 53 undef = u53
            generalize T.getD 54 undef = u54
            generalize T.getD 55 undef = u55
            generalize T.getD 56 undef = u56
            generalize T.getD 57 undef = u57
            generalize T.getD 58 undef = u58
            generalize T.getD 59 undef = u59
            generalize T.getD 60 undef = u60
            generalize T.getD 61 undef = u61
            generalize T.getD 62 undef = u62
            generalize T.getD 63 undef = u63
            generalize T.getD 64 undef = u64
            generalize T.getD 65 undef = u65
            generalize T.getD 66 undef = u66
            generalize T.getD 67 undef = u67
            generalize T.getD 68 undef = u68
            generalize T.getD 69 undef = u69
            generalize T.getD 70 undef = u70
            generalize T.getD 71 undef = u71
            generalize T.getD 72 undef = u72
            generalize T.getD 73 undef = u73
            generalize T.getD 74 undef = u74
            generalize T.getD 75 undef = u75
            generalize T.getD 76 undef = u76
            generalize T.getD 77 undef = u77
            generalize T.getD 78 undef = u78
            generalize T.getD 79 undef = u79
            generalize T.getD 80 undef = u80
            generalize T.getD 81 undef = u81
            generalize T.getD 82 undef = u82
            generalize T.getD 83 undef = u83
            generalize T.getD 84 undef = u84
            generalize T.getD 85 undef = u85
            generalize T.getD 86 undef = u86
            generalize T.getD 87 undef = u87
            generalize T.getD 88 undef = u88
            generalize T.getD 89 undef = u89
            generalize T.getD 90 undef = u90
            generalize T.getD 91 undef = u91
            generalize T.getD 92 undef = u92
            generalize T.getD 93 undef = u93
            generalize T.getD 94 undef = u94
            generalize T.getD 95 undef = u95
            generalize T.getD 96 undef = u96
            generalize T.getD 97 undef = u97
            generalize T.getD 98 undef = u98
            generalize T.getD 99 undef = u99
            generalize T.getD 100 undef = u100
            generalize T.getD 101 undef = u101
            generalize T.getD 102 undef = u102
            generalize T.getD 103 undef = u103
            generalize T.getD 104 undef = u104
            generalize T.getD 105 undef = u105
            generalize T.getD 106 undef = u106
            generalize T.getD 107 undef = u107
            generalize T.getD 108 undef = u108
            generalize T.getD 109 undef = u109
            generalize T.getD 110 undef = u110
            generalize T.getD 111 undef = u111
            generalize T.getD 112 undef = u112
            generalize T.getD 113 undef = u113
            generalize T.getD 114 undef = u114
            generalize T.getD 115 undef = u115
            generalize T.getD 116 undef = u116
            generalize T.getD 117 undef = u117
            generalize T.getD 118 undef = u118
            generalize T.getD 119 undef = u119
            generalize T.getD 120 undef = u120
            generalize T.getD 121 undef = u121
            generalize T.getD 122 undef = u122
            generalize T.getD 123 undef = u123
            generalize T.getD 124 undef = u124
            clear HK0 hth hg hK0 hlb hnl hwy hby m0 m1 m2 m3 m4 m5 m6 m7 m8 m9 m10 m11 m12
            have hwz := below_on HY.out hbz (Nat.le_refl _)
            have HWZ := Lib.hid hwz
            have HCZ := Lib.hid (HCY.out.on hbz)
            have HQZ := Lib.hid (And.intro hqz hoz)
            have m0 := cell_keep hwz E0.out
            have m1 := cell_keep hwz E1.out
            have m2 := cell_keep hwz E2.out
            have m3 := cell_keep hwz E3.out
            have m4 := cell_keep hwz E4.out
            have m5 := cell_keep hwz E5.out
            have m6 := cell_keep hwz E6.out
            have m7 := cell_keep hwz E7.out
            have m8 := cell_keep hwz E8.out
            have m9 := cell_keep hwz E9.out
            have m10 := cell_keep hwz E10.out
            have m11 := cell_keep hwz E11.out
            have m12 := cell_keep hwz E12.out
            have hk1 : k < 4000000000000000000 := by have := HK.out; omega
            have hk2 : L.length < 100000 := by have := HK.out; omega
            have hroom : (((offL L (keyF o)).length + 1 : Nat) : Int) ≤ 100 := by have := HK.out; have := off_le L (keyF o); omega
            have HRM := Lib.hid (And.intro hk1 (And.intro hk2 hroom))
            clear hbz hqz hoz hwz hk1 hk2 hroom
            go_wp2_with (first | (go_at_call 11; refine (rownfact_any Z S h o (HO.out.on HWZ.out) HFL.out).mono ?_; rintro e V ⟨⟨kf, rfl, hkf, _, _⟩, hbv⟩; have HKF := Lib.hid hkf; have HBV := Lib.hid hbv; clear hkf hbv; simp only [factC]) | (go_at_call 10; refine (put_any V (tagged fT V) w.heap.size C 100 0 k L (HCZ.out.on HBV.out) HRM.out.1 HRM.out.2.1 kf o HKF.out HFL.out now HRM.out.2.2).mono ?_; rintro e V2 ⟨rfl, hle, hpd⟩; have HPD := Lib.hid (And.intro hle hpd); clear hle hpd))
            rename_i K1 hK1
            have HK1 := Lib.hid hK1
            have hv2 : Below w.heap.size w V2 := (below_on HWZ.out HBV.out (Nat.le_refl _)).trans HPD.out.1.bel
            have HY2 := Lib.hid hv2
            obtain ⟨k2, L2, hC2, hk2, hL2, hnx⟩ := put_next HPD.out.2 HK.out.1 HK.out.2
            have HC2 := Lib.hid hC2
            have HK2 := Lib.hid (And.intro hk2 hL2)
            have HNX := Lib.hid hnx
            obtain ⟨th2, hth2⟩ : ∃ q : Bool, q = (oldF L2 o).isSome := ⟨_, rfl⟩
            obtain ⟨g2, hg2⟩ : ∃ q : FactP, q = (oldF L2 o).getD zF := ⟨_, rfl⟩
            have HTG2 := Lib.hid (And.intro hth2 hg2)
            have HLK2 := Lib.hid (fun w' (p : Below V2.heap.size V2 w') => look_one w' V2.heap.size C k2 L2 _ p.size (HC2.out.on p) S h o g2 th2 ((HO.out.on hv2).on p) HSO.out.1 (by rw [hth2, oldF]; cases atL L2 (keyF o) <;> rfl) (by rw [hg2]; rfl))
            have HQ2 := Lib.hid (show V2.drew.cell? ⟨b0, off + j * 13, none⟩ = some (.slice h.na h.nl h.nc) from cell_keep (Below.drew hv2) E0.out)
            have HQ3 := Lib.hid (show V2.drew.cell? ⟨b0, off + j * 13 + 1, none⟩ = some (.int .i64 o.typ) from cell_keep (Below.drew hv2) E1.out)
            have hoV := HQZ.out.1.on HBV.out
            have hoV2 : Blk V2 bq (factC hq g) 36 := (HPD.out.1.same bq hoV.lt ⟨_, _, hoV, by decide⟩).trans hoV
            have HOLD := Lib.hid (And.intro hoV2 (((HQZ.out.2.mono (fun b _ ht => ht.1)).step (Same.below HBV.out _)).step (HPD.out.1.same.mono (fun b _ ht => tagged_mono ht fT_gT))))
            have HLT2 := Lib.hid (show bq < V2.heap.size from hoV2.lt)
            have HR12 : Hid (∀ (T : Array Value) (Z : World) (bp : Nat) (hp : FactH) (t : T.size = 125) (t0 : T.getD 0 undef = .slice (some ⟨b0, off, none⟩) n c) (t1 : T.getD 1 undef = .int .u8 now) (t5 : T.getD 5 undef = .pointer (some ⟨C, 0, none⟩)) (t7 : T.getD 7 undef = .int .i64 (j : Int)) (t8 : T.getD 8 undef = .pointer (some ⟨bq, 0, none⟩)) (t9 : T.getD 9 undef = .bool th) (t2 : T.getD 2 undef = undef) (t3 : T.getD 3 undef = undef) (t6 : T.getD 6 undef = .int .i64 0) (t12 : T.getD 12 undef = .tuple #[.pointer (some ⟨C, 0, none⟩), .int .i64 0]) (t13 : T.getD 13 undef = .tuple #[.pointer (some ⟨C, 0, none⟩), .int .i64 0]) (t14 : T.getD 14 undef = .pointer (some ⟨C, 0, none⟩)) (t15 : T.getD 15 undef = .int .i64 0) (t16 : T.getD 16 undef = .bool true) (t17 : T.getD 17 undef = .bool false) (t18 : T.getD 18 undef = .bool false) (t19 : T.getD 19 undef = .int .i64 0) (t20 : T.getD 20 undef = .bool false) (t21 : T.getD 21 undef = .bool false) (t22 : T.getD 22 undef = .bool false) (t23 : T.getD 23 undef = .slice ((some ⟨b0, off, none⟩)) n c) (t24 : T.getD 24 undef = .int .i64 ((n : Int))) (t25 : T.getD 25 undef = .bool (decide (40 < (n : Int)))) (t26 : T.getD 26 undef = .bool (decide (40 < (n : Int)))) (t27 : T.getD 27 undef = undef) (t28 : T.getD 28 undef = undef) (t29 : T.getD 29 undef = undef) (t30 : T.getD 30 undef = undef) (t31 : T.getD 31 undef = undef) (t10 : T.getD 10 undef = .pointer (some ⟨bp, 0, none⟩)) (t11 : T.getD 11 undef = .bool th2) (hbz : Below V2.heap.size V2 Z) (hbq : V2.heap.size ≤ bp) (hqz : Blk Z bp (factC hp g2) 36) (hoz : OwnF V2.heap.size Z hp g2), K1 ⟨T, []⟩ Z) := by
              as_aux_lemma =>
                refine Lib.hid ?_
                intro T Z bp hp t t0 t1 t5 t7 t8 t9 t2 t3 t6 t12 t13 t14 t15 t16 t17 t18 t19 t20 t21 t22 t23 t24 t25 t26 t27 t28 t29 t30 t31 t10 t11 hbz hbq hqz hoz
                refine HK1.out _ _ ?_
                have hT : T = #[T.getD 0 undef, T.getD 1 undef, T.getD 2 undef, T.getD 3 undef, T.getD 4 undef, T.getD 5 undef, T.getD 6 undef, T.getD 7 undef, T.getD 8 undef, T.getD 9 undef, T.getD 10 undef, T.getD 11 undef, T.getD 12 undef, T.getD 13 undef, T.getD 14 undef, T.getD 15 undef, T.getD 16 undef, T.getD 17 undef, T.getD 18 undef, T.getD 19 undef, T.getD 20 undef, T.getD 21 undef, T.getD 22 undef, T.getD 23 undef, T.getD 24 undef, T.getD 25 undef, T.getD 26 undef, T.getD 27 undef, T.getD 28 undef, T.getD 29 undef, T.getD 30 undef, T.getD 31 undef, T.getD 32 undef, T.getD 33 undef, T.getD 34 undef, T.getD 35 undef, T.getD 36 undef, T.getD 37 undef, T.getD 38 undef, T.getD 39 undef, T.getD 40 undef, T.getD 41 undef, T.getD 42 undef, T.getD 43 undef, T.getD 44 undef, T.getD 45 undef, T.getD 46 undef, T.getD 47 undef, T.getD 48 undef, T.getD 49 undef, T.getD 50 undef, T.getD 51 undef, T.getD 52 undef, T.getD 53 undef, T.getD 54 undef, T.getD 55 undef, T.getD 56 undef, T.getD 57 undef, T.getD 58 undef, T.getD 59 undef, T.getD 60 undef, T.getD 61 undef, T.getD 62 undef, T.getD 63 undef, T.getD 64 undef, T.getD 65 undef, T.getD 66 undef, T.getD 67 undef, T.getD 68 undef, T.getD 69 undef, T.getD 70 undef, T.getD 71 undef, T.getD 72 undef, T.getD 73 undef, T.getD 74 undef, T.getD 75 undef, T.getD 76 undef, T.getD 77 undef, T.getD 78 undef, T.getD 79 undef, T.getD 80 undef, T.getD 81 undef, T.getD 82 undef, T.getD 83 undef, T.getD 84 undef, T.getD 85 undef, T.getD 86 undef, T.getD 87 undef, T.getD 88 undef, T.getD 89 undef, T.getD 90 undef, T.getD 91 undef, T.getD 92 undef, T.getD 93 undef, T.getD 94 undef, T.getD 95 undef, T.getD 96 undef, T.getD 97 undef, T.getD 98 undef, T.getD 99 undef, T.getD 100 undef, T.getD 101 undef, T.getD 102 undef, T.getD 103 undef, T.getD 104 undef, T.getD 105 undef, T.getD 106 undef, T.getD 107 undef, T.getD 108 undef, T.getD 109 undef, T.getD 110 undef, T.getD 111 undef, T.getD 112 undef, T.getD 113 undef, T.getD 114 undef, T.getD 115 undef, T.getD 116 undef, T.getD 117 undef, T.getD 118 undef, T.getD 119 undef, T.getD 120 undef, T.getD 121 undef, T.getD 122 undef, T.getD 123 undef, T.getD 124 undef] := arr_eta T 125 t
                rw [hT]
                rw [t0]
                rw [t1]
                rw [t5]
                rw [t7]
                rw [t8]
                rw [t9]
                rw [t2]
                rw [t3]
                rw [t6]
                rw [t12]
                rw [t13]
                rw [t14]
                rw [t15]
                rw [t16]
                rw [t17]
                rw [t18]
                rw [t19]
                rw [t20]
                rw [t21]
                rw [t22]
                rw [t23]
                rw [t24]
                rw [t25]
                rw [t26]
                rw [t27]
                rw [t28]
                rw [t29]
                rw [t30]
                rw [t31]
                rw [t10]
                rw [t11]
                clear hT t0 t1 t5 t7 t8 t9 t2 t3 t6 t12 t13 t14 t15 t16 t17 t18 t19 t20 t21 t22 t23 t24 t25 t26 t27 t28 t29 t30 t31 t10 t11
                generalize T.getD 4 undef = u4
                generalize T.getD 32 undef = u32
                generalize T.getD 33 undef = u33
                generalize T.getD 34 undef = u34
                generalize T.getD 35 undef = u35
                generalize T.getD 36 undef = u36
                generalize T.getD 37 undef = u37
                generalize T.getD 38 undef = u38
                generalize T.getD 39 undef = u39
                generalize T.getD 40 undef = u40
                generalize T.getD 41 undef = u41
                generalize T.getD 42 undef = u42
                generalize T.getD 43 undef = u43
                generalize T.getD 44 undef = u44
                generalize T.getD 45 undef = u45
                generalize T.getD 46 undef = u46
                generalize T.getD 47 undef = u47
                generalize T.getD 48 undef = u48
                generalize T.getD 49 undef = u49
                generalize T.getD 50 undef = u50
                generalize T.getD 51 undef = u51
                generalize T.getD 52 undef = u52
                generalize T.getD 53 undef = u53
                generalize T.getD 54 undef = u54
                generalize T.getD 55 undef = u55
                generalize T.getD 56 undef = u56
                generalize T.getD 57 undef = u57
                generalize T.getD 58 undef = u58
                generalize T.getD 59 undef = u59
                generalize T.getD 60 undef = u60
                generalize T.getD 61 undef = u61
                generalize T.getD 62 undef = u62
                generalize T.getD 63 undef = u63
                generalize T.getD 64 undef = u64
                generalize T.getD 65 undef = u65
                generalize T.getD 66 undef = u66
                generalize T.getD 67 undef = u67
                generalize T.getD 68 undef = u68
                generalize T.getD 69 undef = u69
                generalize T.getD 70 undef = u70
                generalize T.getD 71 undef = u71
                generalize T.getD 72 undef = u72
                generalize T.getD 73 undef = u73
                generalize T.getD 74 undef = u74
                generalize T.getD 75 undef = u75
                generalize T.getD 76 undef = u76
                generalize T.getD 77 undef = u77
                generalize T.getD 78 undef = u78
                generalize T.getD 79 undef = u79
                generalize T.getD 80 undef = u80
                generalize T.getD 81 undef = u81
                generalize T.getD 82 undef = u82
                generalize T.getD 83 undef = u83
                generalize T.getD 84 undef = u84
                generalize T.getD 85 undef = u85
                generalize T.getD 86 undef = u86
                generalize T.getD 87 undef = u87
                generalize T.getD 88 undef = u88
                generalize T.getD 89 undef = u89
                generalize T.getD 90 undef = u90
                generalize T.getD 91 undef = u91
                generalize T.getD 92 undef = u92
                generalize T.getD 93 undef = u93
                generalize T.getD 94 undef = u94
                generalize T.getD 95 undef = u95
                generalize T.getD 96 undef = u96
                generalize T.getD 97 undef = u97
                generalize T.getD 98 undef = u98
                generalize T.getD 99 undef = u99
                generalize T.getD 100 undef = u100
                generalize T.getD 101 undef = u101
                generalize T.getD 102 undef = u102
                generalize T.getD 103 undef = u103
                generalize T.getD 104 undef = u104
                generalize T.getD 105 undef = u105
                generalize T.getD 106 undef = u106
                generalize T.getD 107 undef = u107
                generalize T.getD 108 undef = u108
                generalize T.getD 109 undef = u109
                generalize T.getD 110 undef = u110
                generalize T.getD 111 undef = u111
                generalize T.getD 112 undef = u112
                generalize T.getD 113 undef = u113
                generalize T.getD 114 undef = u114
                generalize T.getD 115 undef = u115
                generalize T.getD 116 undef = u116
                generalize T.getD 117 undef = u117
                generalize T.getD 118 undef = u118
                generalize T.getD 119 undef = u119
                generalize T.getD 120 undef = u120
                generalize T.getD 121 undef = u121
                generalize T.getD 122 undef = u122
                generalize T.getD 123 undef = u123
                generalize T.getD 124 undef = u124
                clear HK1 hK1 hth2 hg2 hnx hC2 hk2 hL2 hoV hoV2 hv2
                have HBZ := Lib.hid hbz
                have HNEW := Lib.hid (And.intro hqz (hoz.mono (fun b _ ht => ht.1)))
                have hold := HOLD.out.1.on hbz
                have HOLZ := Lib.hid (HOLD.out.2.step (Same.below hbz _))
                have n3 : Z.cell? ⟨bp, 3, none⟩ = some (.int .i64 g2.rank) := hqz.cell 3
                have o3 : Z.cell? ⟨bq, 3, none⟩ = some (.int .i64 g.rank) := hold.cell 3
                have o4 : Z.cell? ⟨bq, 4, none⟩ = some (.int .i64 g.got) := hold.cell 4
                have o5 : Z.cell? ⟨bq, 5, none⟩ = some (.int .i64 g.ttl) := hold.cell 5
                have HBO := Lib.hid hold
                have HTH := Lib.hid (show th = true → th2 = true by
                  rw [HTG.out.1, HTG2.out.1, HNX.out]
                  intro e
                  exact next_there (by rw [oldF]; cases hx : atL L (keyF o) with
                    | none => rw [hx] at e; cases e
                    | some s => rfl))
                have HRK := Lib.hid (show th = true → ¬ (g2.rank < g.rank ∧ 0 < leftZ g.got g.ttl now) by
                  rw [HTG.out.1, HTG.out.2, HTG2.out.2, HNX.out]
                  intro e
                  exact next_rank (by rw [oldF]; cases hx : atL L (keyF o) with
                    | none => rw [hx] at e; cases e
                    | some s => rfl))
                obtain ⟨S1, hS1⟩ : ∃ q : Bool, q = sameF g2 o := ⟨_, rfl⟩
                obtain ⟨S2, hS2⟩ : ∃ q : Bool, q = sameF g2 g := ⟨_, rfl⟩
                have HSM := Lib.hid (show th2 = true → S1 = true ∨ (th = true ∧ S2 = true) by
                  rw [hS1, hS2, HTG.out.1, HTG.out.2, HTG2.out.1, HTG2.out.2, HNX.out]
                  intro e
                  rcases next_same HC.out e with h | ⟨h, h'⟩
                  · exact .inl h
                  · refine .inr ⟨?_, h'⟩
                    rw [oldF] at h
                    cases hx : atL L (keyF o) with
                    | none => rw [hx] at h; cases h
                    | some s => rfl)
                have HS1 := Lib.hid (fun w' (p : Below Z.heap.size Z w') => same_small w' _ S hp h g2 o S1 hS1 (HNEW.out.2.on p) (HO.out.on (below_on (below_on HY2.out HBZ.out (Nat.le_refl _)) p (Nat.le_refl _))))
                have HS2 := Lib.hid (fun w' (p : Below Z.heap.size Z w') => same_small w' _ _ hp hq g2 g S2 hS2 (HNEW.out.2.on p) (HOLZ.out.on p))
                simp only [factC] at HS1 HS2
                obtain ⟨lz, hlz⟩ : ∃ q : Int, q = leftZ g.got g.ttl now := ⟨_, rfl⟩
                have HLZ := Lib.hid (fun w' => rleft_any g.got g.ttl now w')
                rw [← hlz] at HLZ HRK
                have HFIN := Lib.hid (show ∀ W, Below Z.heap.size Z W → BtSt w W C (j + 1) from fun W p => ⟨below_on (below_on HY2.out HBZ.out (Nat.le_refl _)) p (Nat.le_refl _), k2, L2, HC2.out.on (below_on HBZ.out p (Nat.le_refl _)), HK2.out.1, HK2.out.2⟩)
                clear hbz hqz hoz hold hS1 hS2 hlz
                cases th with
                | false =>
                  go_wp2_with fail
                  cases th2 with
                  | false =>
                    as_aux_lemma =>
                      clear n3 o3 o4 o5
                      have HP0 := Lib.hid (show Z.drew.cell? ⟨bp, 0, none⟩ = some (.slice hp.na hp.nl hp.nc) from HNEW.out.1.cell 0)
                      have HP1 := Lib.hid (show Z.drew.cell? ⟨bp, 1, none⟩ = some (.int .i64 g2.typ) from HNEW.out.1.cell 1)
                      have HP2 := Lib.hid (show Z.drew.cell? ⟨bp, 2, none⟩ = some (.int .i64 g2.kind) from HNEW.out.1.cell 2)
                      have HP3 := Lib.hid (show Z.drew.cell? ⟨bp, 3, none⟩ = some (.int .i64 g2.rank) from HNEW.out.1.cell 3)
                      have HP4 := Lib.hid (show Z.drew.cell? ⟨bp, 4, none⟩ = some (.int .i64 g2.got) from HNEW.out.1.cell 4)
                      have HP5 := Lib.hid (show Z.drew.cell? ⟨bp, 5, none⟩ = some (.int .i64 g2.ttl) from HNEW.out.1.cell 5)
                      have HP6 := Lib.hid (show Z.drew.cell? ⟨bp, 6, none⟩ = some (.slice hp.sa hp.sl hp.sc) from HNEW.out.1.cell 6)
                      have HP7 := Lib.hid (show Z.drew.cell? ⟨bp, 7, none⟩ = some (.slice hp.za hp.zl hp.zc) from HNEW.out.1.cell 7)
                      have HP8 := Lib.hid (show Z.drew.cell? ⟨bp, 8, none⟩ = some (.slice hp.d.ba hp.d.bl hp.d.bc) from HNEW.out.1.cell 8)
                      have HP9 := Lib.hid (show Z.drew.cell? ⟨bp, 9, none⟩ = some (.slice hp.d.ha hp.d.hl hp.d.hc) from HNEW.out.1.cell 9)
                      have HP10 := Lib.hid (show Z.drew.cell? ⟨bp, 10, none⟩ = some (.slice hp.d.ma hp.d.ml hp.d.mc) from HNEW.out.1.cell 10)
                      have HP11 := Lib.hid (show Z.drew.cell? ⟨bp, 11, none⟩ = some (.slice hp.d.na hp.d.nl hp.d.nc) from HNEW.out.1.cell 11)
                      have HP12 := Lib.hid (show Z.drew.cell? ⟨bp, 12, none⟩ = some (.slice hp.d.ta hp.d.tl hp.d.tc) from HNEW.out.1.cell 12)
                      have HG0 := Lib.hid (show Z.drew.cell? ⟨bq, 0, none⟩ = some (.slice hq.na hq.nl hq.nc) from HBO.out.cell 0)
                      have HG1 := Lib.hid (show Z.drew.cell? ⟨bq, 1, none⟩ = some (.int .i64 g.typ) from HBO.out.cell 1)
                      have HG2 := Lib.hid (show Z.drew.cell? ⟨bq, 2, none⟩ = some (.int .i64 g.kind) from HBO.out.cell 2)
                      have HG3 := Lib.hid (show Z.drew.cell? ⟨bq, 3, none⟩ = some (.int .i64 g.rank) from HBO.out.cell 3)
                      have HG4 := Lib.hid (show Z.drew.cell? ⟨bq, 4, none⟩ = some (.int .i64 g.got) from HBO.out.cell 4)
                      have HG5 := Lib.hid (show Z.drew.cell? ⟨bq, 5, none⟩ = some (.int .i64 g.ttl) from HBO.out.cell 5)
                      have HG6 := Lib.hid (show Z.drew.cell? ⟨bq, 6, none⟩ = some (.slice hq.sa hq.sl hq.sc) from HBO.out.cell 6)
                      have HG7 := Lib.hid (show Z.drew.cell? ⟨bq, 7, none⟩ = some (.slice hq.za hq.zl hq.zc) from HBO.out.cell 7)
                      have HG8 := Lib.hid (show Z.drew.cell? ⟨bq, 8, none⟩ = some (.slice hq.d.ba hq.d.bl hq.d.bc) from HBO.out.cell 8)
                      have HG9 := Lib.hid (show Z.drew.cell? ⟨bq, 9, none⟩ = some (.slice hq.d.ha hq.d.hl hq.d.hc) from HBO.out.cell 9)
                      have HG10 := Lib.hid (show Z.drew.cell? ⟨bq, 10, none⟩ = some (.slice hq.d.ma hq.d.ml hq.d.mc) from HBO.out.cell 10)
                      have HG11 := Lib.hid (show Z.drew.cell? ⟨bq, 11, none⟩ = some (.slice hq.d.na hq.d.nl hq.d.nc) from HBO.out.cell 11)
                      have HG12 := Lib.hid (show Z.drew.cell? ⟨bq, 12, none⟩ = some (.slice hq.d.ta hq.d.tl hq.d.tc) from HBO.out.cell 12)
                      have hwz := below_on HY2.out HBZ.out (Nat.le_refl _)
                      have HO0 := Lib.hid (show Z.drew.cell? ⟨b0, off + j * 13, none⟩ = some (.slice h.na h.nl h.nc) from cell_keep (Below.drew hwz) E0.out)
                      have HO1 := Lib.hid (show Z.drew.cell? ⟨b0, off + j * 13 + 1, none⟩ = some (.int .i64 o.typ) from cell_keep (Below.drew hwz) E1.out)
                      have HO2 := Lib.hid (show Z.drew.cell? ⟨b0, off + j * 13 + 2, none⟩ = some (.int .i64 o.kind) from cell_keep (Below.drew hwz) E2.out)
                      have HO3 := Lib.hid (show Z.drew.cell? ⟨b0, off + j * 13 + 3, none⟩ = some (.int .i64 o.rank) from cell_keep (Below.drew hwz) E3.out)
                      have HO4 := Lib.hid (show Z.drew.cell? ⟨b0, off + j * 13 + 4, none⟩ = some (.int .i64 o.got) from cell_keep (Below.drew hwz) E4.out)
                      have HO5 := Lib.hid (show Z.drew.cell? ⟨b0, off + j * 13 + 5, none⟩ = some (.int .i64 o.ttl) from cell_keep (Below.drew hwz) E5.out)
                      have HO6 := Lib.hid (show Z.drew.cell? ⟨b0, off + j * 13 + 6, none⟩ = some (.slice h.sa h.sl h.sc) from cell_keep (Below.drew hwz) E6.out)
                      have HO7 := Lib.hid (show Z.drew.cell? ⟨b0, off + j * 13 + 7, none⟩ = some (.slice h.za h.zl h.zc) from cell_keep (Below.drew hwz) E7.out)
                      have HO8 := Lib.hid (show Z.drew.cell? ⟨b0, off + j * 13 + 8, none⟩ = some (.slice h.d.ba h.d.bl h.d.bc) from cell_keep (Below.drew hwz) E8.out)
                      have HO9 := Lib.hid (show Z.drew.cell? ⟨b0, off + j * 13 + 9, none⟩ = some (.slice h.d.ha h.d.hl h.d.hc) from cell_keep (Below.drew hwz) E9.out)
                      have HO10 := Lib.hid (show Z.drew.cell? ⟨b0, off + j * 13 + 10, none⟩ = some (.slice h.d.ma h.d.ml h.d.mc) from cell_keep (Below.drew hwz) E10.out)
                      have HO11 := Lib.hid (show Z.drew.cell? ⟨b0, off + j * 13 + 11, none⟩ = some (.slice h.d.na h.d.nl h.d.nc) from cell_keep (Below.drew hwz) E11.out)
                      have HO12 := Lib.hid (show Z.drew.cell? ⟨b0, off + j * 13 + 12, none⟩ = some (.slice h.d.ta h.d.tl h.d.tc) from cell_keep (Below.drew hwz) E12.out)
                      clear hwz
                      refine wp_soup0 (m := 125) (by kernel_rfl) (fun x y => Below x.heap.size x y) (fun i v xw => match i with | 0 => v = .bool false | 1 => v = .bool false | 2 => v = undef | 3 => v = undef | 4 => v = undef | 5 => v = undef | 6 => v = undef | 7 => v = undef | 8 => v = undef | 9 => v = .bool false | 10 => v = .bool false | 11 => v = undef | 12 => v = undef | 13 => v = undef | 14 => v = undef | 15 => v = undef | 16 => v = undef | 17 => v = undef | 18 => v = undef | 19 => v = .bool false | _ => True) rfl (by kernel_rfl) (fun _ _ _ h1 h2 => below_on h1 h2 (Nat.le_refl _)) (Below.refl _ _) (fun _ _ _ _ h _ => h) (dst_but 20 (by kernel_rfl) (fun _ _ h => h)) ?_ ?_
                      rotate_left
                      · intro a W hR hS hdep
                        have e0 : a.tmps.getD 0 undef = .slice ((some ⟨b0, off, none⟩)) n c := hS.keep 0 (by kernel_rfl)
                        have e1 : a.tmps.getD 1 undef = .int .u8 now := hS.keep 1 (by kernel_rfl)
                        have e5 : a.tmps.getD 5 undef = .pointer (some ⟨C, 0, none⟩) := hS.keep 5 (by kernel_rfl)
                        have e7 : a.tmps.getD 7 undef = .int .i64 ((j : Int)) := hS.keep 7 (by kernel_rfl)
                        have e2 : a.tmps.getD 2 undef = undef := hS.keep 2 (by kernel_rfl)
                        have e3 : a.tmps.getD 3 undef = undef := hS.keep 3 (by kernel_rfl)
                        have e6 : a.tmps.getD 6 undef = .int .i64 0 := hS.keep 6 (by kernel_rfl)
                        have e12 : a.tmps.getD 12 undef = .tuple #[.pointer (some ⟨C, 0, none⟩), .int .i64 0] := hS.keep 12 (by kernel_rfl)
                        have e13 : a.tmps.getD 13 undef = .tuple #[.pointer (some ⟨C, 0, none⟩), .int .i64 0] := hS.keep 13 (by kernel_rfl)
                        have e14 : a.tmps.getD 14 undef = .pointer (some ⟨C, 0, none⟩) := hS.keep 14 (by kernel_rfl)
                        have e15 : a.tmps.getD 15 undef = .int .i64 0 := hS.keep 15 (by kernel_rfl)
                        have e16 : a.tmps.getD 16 undef = .bool true := hS.keep 16 (by kernel_rfl)
                        have e17 : a.tmps.getD 17 undef = .bool false := hS.keep 17 (by kernel_rfl)
                        have e18 : a.tmps.getD 18 undef = .bool false := hS.keep 18 (by kernel_rfl)
                        have e19 : a.tmps.getD 19 undef = .int .i64 0 := hS.keep 19 (by kernel_rfl)
                        have e20 : a.tmps.getD 20 undef = .bool false := hS.keep 20 (by kernel_rfl)
                        have e21 : a.tmps.getD 21 undef = .bool false := hS.keep 21 (by kernel_rfl)
                        have e22 : a.tmps.getD 22 undef = .bool false := hS.keep 22 (by kernel_rfl)
                        have e23 : a.tmps.getD 23 undef = .slice ((some ⟨b0, off, none⟩)) n c := hS.keep 23 (by kernel_rfl)
                        have e24 : a.tmps.getD 24 undef = .int .i64 ((n : Int)) := hS.keep 24 (by kernel_rfl)
                        have e25 : a.tmps.getD 25 undef = .bool (decide (40 < (n : Int))) := hS.keep 25 (by kernel_rfl)
                        have e26 : a.tmps.getD 26 undef = .bool (decide (40 < (n : Int))) := hS.keep 26 (by kernel_rfl)
                        have e27 : a.tmps.getD 27 undef = undef := hS.keep 27 (by kernel_rfl)
                        have e28 : a.tmps.getD 28 undef = undef := hS.keep 28 (by kernel_rfl)
                        have e29 : a.tmps.getD 29 undef = undef := hS.keep 29 (by kernel_rfl)
                        have e30 : a.tmps.getD 30 undef = undef := hS.keep 30 (by kernel_rfl)
                        have e31 : a.tmps.getD 31 undef = undef := hS.keep 31 (by kernel_rfl)
                        have e124 : a.tmps.getD 124 undef = .bool false := hdep 19 (by decide +kernel)
                        obtain ⟨T, df⟩ := a
                        obtain rfl : df = [] := hS.defers
                        have hT : T = #[T.getD 0 undef, T.getD 1 undef, T.getD 2 undef, T.getD 3 undef, T.getD 4 undef, T.getD 5 undef, T.getD 6 undef, T.getD 7 undef, T.getD 8 undef, T.getD 9 undef, T.getD 10 undef, T.getD 11 undef, T.getD 12 undef, T.getD 13 undef, T.getD 14 undef, T.getD 15 undef, T.getD 16 undef, T.getD 17 undef, T.getD 18 undef, T.getD 19 undef, T.getD 20 undef, T.getD 21 undef, T.getD 22 undef, T.getD 23 undef, T.getD 24 undef, T.getD 25 undef, T.getD 26 undef, T.getD 27 undef, T.getD 28 undef, T.getD 29 undef, T.getD 30 undef, T.getD 31 undef, T.getD 32 undef, T.getD 33 undef, T.getD 34 undef, T.getD 35 undef, T.getD 36 undef, T.getD 37 undef, T.getD 38 undef, T.getD 39 undef, T.getD 40 undef, T.getD 41 undef, T.getD 42 undef, T.getD 43 undef, T.getD 44 undef, T.getD 45 undef, T.getD 46 undef, T.getD 47 undef, T.getD 48 undef, T.getD 49 undef, T.getD 50 undef, T.getD 51 undef, T.getD 52 undef, T.getD 53 undef, T.getD 54 undef, T.getD 55 undef, T.getD 56 undef, T.getD 57 undef, T.getD 58 undef, T.getD 59 undef, T.getD 60 undef, T.getD 61 undef, T.getD 62 undef, T.getD 63 undef, T.getD 64 undef, T.getD 65 undef, T.getD 66 undef, T.getD 67 undef, T.getD 68 undef, T.getD 69 undef, T.getD 70 undef, T.getD 71 undef, T.getD 72 undef, T.getD 73 undef, T.getD 74 undef, T.getD 75 undef, T.getD 76 undef, T.getD 77 undef, T.getD 78 undef, T.getD 79 undef, T.getD 80 undef, T.getD 81 undef, T.getD 82 undef, T.getD 83 undef, T.getD 84 undef, T.getD 85 undef, T.getD 86 undef, T.getD 87 undef, T.getD 88 undef, T.getD 89 undef, T.getD 90 undef, T.getD 91 undef, T.getD 92 undef, T.getD 93 undef, T.getD 94 undef, T.getD 95 undef, T.getD 96 undef, T.getD 97 undef, T.getD 98 undef, T.getD 99 undef, T.getD 100 undef, T.getD 101 undef, T.getD 102 undef, T.getD 103 undef, T.getD 104 undef, T.getD 105 undef, T.getD 106 undef, T.getD 107 undef, T.getD 108 undef, T.getD 109 undef, T.getD 110 undef, T.getD 111 undef, T.getD 112 undef, T.getD 113 undef, T.getD 114 undef, T.getD 115 undef, T.getD 116 undef, T.getD 117 undef, T.getD 118 undef, T.getD 119 undef, T.getD 120 undef, T.getD 121 undef, T.getD 122 undef, T.getD 123 undef, T.getD 124 undef] := arr_eta T 125 hS.size
                        have k0 : T.getD 0 undef = .slice ((some ⟨b0, off, none⟩)) n c := e0
                        have k1 : T.getD 1 undef = .int .u8 now := e1
                        have k5 : T.getD 5 undef = .pointer (some ⟨C, 0, none⟩) := e5
                        have k7 : T.getD 7 undef = .int .i64 ((j : Int)) := e7
                        have k2 : T.getD 2 undef = undef := e2
                        have k3 : T.getD 3 undef = undef := e3
                        have k6 : T.getD 6 undef = .int .i64 0 := e6
                        have k12 : T.getD 12 undef = .tuple #[.pointer (some ⟨C, 0, none⟩), .int .i64 0] := e12
                        have k13 : T.getD 13 undef = .tuple #[.pointer (some ⟨C, 0, none⟩), .int .i64 0] := e13
                        have k14 : T.getD 14 undef = .pointer (some ⟨C, 0, none⟩) := e14
                        have k15 : T.getD 15 undef = .int .i64 0 := e15
                        have k16 : T.getD 16 undef = .bool true := e16
                        have k17 : T.getD 17 undef = .bool false := e17
                        have k18 : T.getD 18 undef = .bool false := e18
                        have k19 : T.getD 19 undef = .int .i64 0 := e19
                        have k20 : T.getD 20 undef = .bool false := e20
                        have k21 : T.getD 21 undef = .bool false := e21
                        have k22 : T.getD 22 undef = .bool false := e22
                        have k23 : T.getD 23 undef = .slice ((some ⟨b0, off, none⟩)) n c := e23
                        have k24 : T.getD 24 undef = .int .i64 ((n : Int)) := e24
                        have k25 : T.getD 25 undef = .bool (decide (40 < (n : Int))) := e25
                        have k26 : T.getD 26 undef = .bool (decide (40 < (n : Int))) := e26
                        have k27 : T.getD 27 undef = undef := e27
                        have k28 : T.getD 28 undef = undef := e28
                        have k29 : T.getD 29 undef = undef := e29
                        have k30 : T.getD 30 undef = undef := e30
                        have k31 : T.getD 31 undef = undef := e31
                        have k124 : T.getD 124 undef = .bool false := e124
                        clear hS hdep
                        rw [hT]
                        rw [k0]
                        clear k0 e0
                        rw [k1]
                        clear k1 e1
                        rw [k5]
                        clear k5 e5
                        rw [k7]
                        clear k7 e7
                        rw [k2]
                        clear k2 e2
                        rw [k3]
                        clear k3 e3
                        rw [k6]
                        clear k6 e6
                        rw [k12]
                        clear k12 e12
                        rw [k13]
                        clear k13 e13
                        rw [k14]
                        clear k14 e14
                        rw [k15]
                        clear k15 e15
                        rw [k16]
                        clear k16 e16
                        rw [k17]
                        clear k17 e17
                        rw [k18]
                        clear k18 e18
                        rw [k19]
                        clear k19 e19
                        rw [k20]
                        clear k20 e20
                        rw [k21]
                        clear k21 e21
                        rw [k22]
                        clear k22 e22
                        rw [k23]
                        clear k23 e23
                        rw [k24]
                        clear k24 e24
                        rw [k25]
                        clear k25 e25
                        rw [k26]
                        clear k26 e26
                        rw [k27]
                        clear k27 e27
                        rw [k28]
                        clear k28 e28
                        rw [k29]
                        clear k29 e29
                        rw [k30]
                        clear k30 e30
                        rw [k31]
                        clear k31 e31
                        rw [k124]
                        clear k124 e124
                        clear hT
                        generalize T.getD 4 undef = u4
                        generalize T.getD 8 undef = u8
                        generalize T.getD 9 undef = u9
                        generalize T.getD 10 undef = u10
                        generalize T.getD 11 undef = u11
                        generalize T.getD 32 undef = u32
                        generalize T.getD 33 undef = u33
                        generalize T.getD 34 undef = u34
                        generalize T.getD 35 undef = u35
                        generalize T.getD 36 undef = u36
                        generalize T.getD 37 undef = u37
                        generalize T.getD 38 undef = u38
                        generalize T.getD 39 undef = u39
                        generalize T.getD 40 undef = u40
                        generalize T.getD 41 undef = u41
                        generalize T.getD 42 undef = u42
                        generalize T.getD 43 undef = u43
                        generalize T.getD 44 undef = u44
                        generalize T.getD 45 undef = u45
                        generalize T.getD 46 undef = u46
                        generalize T.getD 47 undef = u47
                        generalize T.getD 48 undef = u48
                        generalize T.getD 49 undef = u49
                        generalize T.getD 50 undef = u50
                        generalize T.getD 51 undef = u51
                        generalize T.getD 52 undef = u52
                        generalize T.getD 53 undef = u53
                        generalize T.getD 54 undef = u54
                        generalize T.getD 55 undef = u55
                        generalize T.getD 56 undef = u56
                        generalize T.getD 57 undef = u57
                        generalize T.getD 58 undef = u58
                        generalize T.getD 59 undef = u59
                        generalize T.getD 60 undef = u60
                        generalize T.getD 61 undef = u61
                        generalize T.getD 62 undef = u62
                        generalize T.getD 63 undef = u63
                        generalize T.getD 64 undef = u64
                        generalize T.getD 65 undef = u65
                        generalize T.getD 66 undef = u66
                        generalize T.getD 67 undef = u67
                        generalize T.getD 68 undef = u68
                        generalize T.getD 69 undef = u69
                        generalize T.getD 70 undef = u70
                        generalize T.getD 71 undef = u71
                        generalize T.getD 72 undef = u72
                        generalize T.getD 73 undef = u73
                        generalize T.getD 74 undef = u74
                        generalize T.getD 75 undef = u75
                        generalize T.getD 76 undef = u76
                        generalize T.getD 77 undef = u77
                        generalize T.getD 78 undef = u78
                        generalize T.getD 79 undef = u79
                        generalize T.getD 80 undef = u80
                        generalize T.getD 81 undef = u81
                        generalize T.getD 82 undef = u82
                        generalize T.getD 83 undef = u83
                        generalize T.getD 84 undef = u84
                        generalize T.getD 85 undef = u85
                        generalize T.getD 86 undef = u86
                        generalize T.getD 87 undef = u87
                        generalize T.getD 88 undef = u88
                        generalize T.getD 89 undef = u89
                        generalize T.getD 90 undef = u90
                        generalize T.getD 91 undef = u91
                        generalize T.getD 92 undef = u92
                        generalize T.getD 93 undef = u93
                        generalize T.getD 94 undef = u94
                        generalize T.getD 95 undef = u95
                        generalize T.getD 96 undef = u96
                        generalize T.getD 97 undef = u97
                        generalize T.getD 98 undef = u98
                        generalize T.getD 99 undef = u99
                        generalize T.getD 100 undef = u100
                        generalize T.getD 101 undef = u101
                        generalize T.getD 102 undef = u102
                        generalize T.getD 103 undef = u103
                        generalize T.getD 104 undef = u104
                        generalize T.getD 105 undef = u105
                        generalize T.getD 106 undef = u106
                        generalize T.getD 107 undef = u107
                        generalize T.getD 108 undef = u108
                        generalize T.getD 109 undef = u109
                        generalize T.getD 110 undef = u110
                        generalize T.getD 111 undef = u111
                        generalize T.getD 112 undef = u112
                        generalize T.getD 113 undef = u113
                        generalize T.getD 114 undef = u114
                        generalize T.getD 115 undef = u115
                        generalize T.getD 116 undef = u116
                        generalize T.getD 117 undef = u117
                        generalize T.getD 118 undef = u118
                        generalize T.getD 119 undef = u119
                        generalize T.getD 120 undef = u120
                        generalize T.getD 121 undef = u121
                        generalize T.getD 122 undef = u122
                        generalize T.getD 123 undef = u123
                        have hbz2 := below_on (B := Z.heap.size) (Below.drew (Below.refl _ _)) hR (Nat.le_refl _)
                        clear hR
                        have HWF := Lib.hid (HFIN.out _ hbz2)
                        clear hbz2
                        go_wp2_with fail
                        go_roundw
                        case rel => exact ⟨j + 1, by omega, by go_num, HWF⟩
                        case measure => simp [intOf]; omega
                      refine soup_cons rfl rfl (fun a W hR hS hdep K hK => ?_) ?_
                      · have e11 : a.tmps[11]?.getD undef = .bool false := slot_of (hS.keep 11 (by kernel_rfl))
                        go_simp
                        exact hK _ _ (Below.refl _ _) (by first | rfl | simp)
                      refine soup_cons rfl rfl (fun a W hR hS hdep K hK => ?_) ?_
                      · have e105 : a.tmps[105]?.getD undef = .bool false := slot_of (hdep 0 (by decide +kernel))
                        go_simp
                        exact hK _ _ (Below.refl _ _) (by first | rfl | simp)
                      refine soup_cons rfl rfl (fun a W hR hS hdep K hK => ?_) ?_
                      · have e106 : a.tmps[106]?.getD undef = .bool false := slot_of (hdep 1 (by decide +kernel))
                        have g106 : a.tmps[106]? = some (.bool false) := slot_at (show _ = 125 from hS.size) (by decide) (hdep 1 (by decide +kernel))
                        go_simp
                        exact hK _ _ (Below.refl _ _) (by first | rfl | simp)
                      refine soup_cons rfl rfl (fun a W hR hS hdep K hK => ?_) ?_
                      · have e106 : a.tmps[106]?.getD undef = .bool false := slot_of (hdep 1 (by decide +kernel))
                        have g106 : a.tmps[106]? = some (.bool false) := slot_at (show _ = 125 from hS.size) (by decide) (hdep 1 (by decide +kernel))
                        go_simp
                        exact hK _ _ (Below.refl _ _) (by first | rfl | simp)
                      refine soup_cons rfl rfl (fun a W hR hS hdep K hK => ?_) ?_
                      · have e106 : a.tmps[106]?.getD undef = .bool false := slot_of (hdep 1 (by decide +kernel))
                        have g106 : a.tmps[106]? = some (.bool false) := slot_at (show _ = 125 from hS.size) (by decide) (hdep 1 (by decide +kernel))
                        go_simp
                        exact hK _ _ (Below.refl _ _) (by first | rfl | simp)
                      refine soup_cons rfl rfl (fun a W hR hS hdep K hK => ?_) ?_
                      · have e106 : a.tmps[106]?.getD undef = .bool false := slot_of (hdep 1 (by decide +kernel))
                        have g106 : a.tmps[106]? = some (.bool false) := slot_at (show _ = 125 from hS.size) (by decide) (hdep 1 (by decide +kernel))
                        go_simp
                        exact hK _ _ (Below.refl _ _) (by first | rfl | simp)
                      refine soup_cons rfl rfl (fun a W hR hS hdep K hK => ?_) ?_
                      · have e106 : a.tmps[106]?.getD undef = .bool false := slot_of (hdep 1 (by decide +kernel))
                        have g106 : a.tmps[106]? = some (.bool false) := slot_at (show _ = 125 from hS.size) (by decide) (hdep 1 (by decide +kernel))
                        go_simp
                        exact hK _ _ (Below.refl _ _) (by first | rfl | simp)
                      refine soup_cons rfl rfl (fun a W hR hS hdep K hK => ?_) ?_
                      · have e106 : a.tmps[106]?.getD undef = .bool false := slot_of (hdep 1 (by decide +kernel))
                        have g106 : a.tmps[106]? = some (.bool false) := slot_at (show _ = 125 from hS.size) (by decide) (hdep 1 (by decide +kernel))
                        go_simp
                        exact hK _ _ (Below.refl _ _) (by first | rfl | simp)
                      refine soup_cons rfl rfl (fun a W hR hS hdep K hK => ?_) ?_
                      · have e106 : a.tmps[106]?.getD undef = .bool false := slot_of (hdep 1 (by decide +kernel))
                        have g106 : a.tmps[106]? = some (.bool false) := slot_at (show _ = 125 from hS.size) (by decide) (hdep 1 (by decide +kernel))
                        go_simp
                        exact hK _ _ (Below.refl _ _) (by first | rfl | simp)
                      refine soup_cons rfl rfl (fun a W hR hS hdep K hK => ?_) ?_
                      · have e106 : a.tmps[106]?.getD undef = .bool false := slot_of (hdep 1 (by decide +kernel))
                        have e113 : a.tmps[113]?.getD undef = undef := slot_of (hdep 8 (by decide +kernel))
                        go_simp
                        exact hK _ _ (Below.refl _ _) rfl
                      refine soup_cons rfl rfl (fun a W hR hS hdep K hK => ?_) ?_
                      · have e114 : a.tmps[114]?.getD undef = .bool false := slot_of (hdep 9 (by decide +kernel))
                        go_simp
                        exact hK _ _ (Below.refl _ _) rfl
                      refine soup_cons rfl rfl (fun a W hR hS hdep K hK => ?_) ?_
                      · have e115 : a.tmps[115]?.getD undef = .bool false := slot_of (hdep 10 (by decide +kernel))
                        have g115 : a.tmps[115]? = some (.bool false) := slot_at (show _ = 125 from hS.size) (by decide) (hdep 10 (by decide +kernel))
                        go_simp
                        exact hK _ _ (Below.refl _ _) (by first | rfl | simp)
                      refine soup_cons rfl rfl (fun a W hR hS hdep K hK => ?_) ?_
                      · have e115 : a.tmps[115]?.getD undef = .bool false := slot_of (hdep 10 (by decide +kernel))
                        have g115 : a.tmps[115]? = some (.bool false) := slot_at (show _ = 125 from hS.size) (by decide) (hdep 10 (by decide +kernel))
                        go_simp
                        exact hK _ _ (Below.refl _ _) (by first | rfl | simp)
                      refine soup_cons rfl rfl (fun a W hR hS hdep K hK => ?_) ?_
                      · have e115 : a.tmps[115]?.getD undef = .bool false := slot_of (hdep 10 (by decide +kernel))
                        have g115 : a.tmps[115]? = some (.bool false) := slot_at (show _ = 125 from hS.size) (by decide) (hdep 10 (by decide +kernel))
                        go_simp
                        exact hK _ _ (Below.refl _ _) (by first | rfl | simp)
                      refine soup_cons rfl rfl (fun a W hR hS hdep K hK => ?_) ?_
                      · have e118 : a.tmps[118]?.getD undef = undef := slot_of (hdep 13 (by decide +kernel))
                        have g118 : a.tmps[118]? = some (undef) := slot_at (show _ = 125 from hS.size) (by decide) (hdep 13 (by decide +kernel))
                        go_simp
                        exact hK _ _ (Below.refl _ _) (by first | rfl | simp)
                      refine soup_cons rfl rfl (fun a W hR hS hdep K hK => ?_) ?_
                      · have e118 : a.tmps[118]?.getD undef = undef := slot_of (hdep 13 (by decide +kernel))
                        have g118 : a.tmps[118]? = some (undef) := slot_at (show _ = 125 from hS.size) (by decide) (hdep 13 (by decide +kernel))
                        go_simp
                        exact hK _ _ (Below.refl _ _) (by first | rfl | simp)
                      refine soup_cons rfl rfl (fun a W hR hS hdep K hK => ?_) ?_
                      · have e118 : a.tmps[118]?.getD undef = undef := slot_of (hdep 13 (by decide +kernel))
                        have g118 : a.tmps[118]? = some (undef) := slot_at (show _ = 125 from hS.size) (by decide) (hdep 13 (by decide +kernel))
                        go_simp
                        exact hK _ _ (Below.refl _ _) (by first | rfl | simp)
                      refine soup_cons rfl rfl (fun a W hR hS hdep K hK => ?_) ?_
                      · have e118 : a.tmps[118]?.getD undef = undef := slot_of (hdep 13 (by decide +kernel))
                        have g118 : a.tmps[118]? = some (undef) := slot_at (show _ = 125 from hS.size) (by decide) (hdep 13 (by decide +kernel))
                        go_simp
                        exact hK _ _ (Below.refl _ _) (by first | rfl | simp)
                      refine soup_cons rfl rfl (fun a W hR hS hdep K hK => ?_) ?_
                      · have e115 : a.tmps[115]?.getD undef = .bool false := slot_of (hdep 10 (by decide +kernel))
                        have g115 : a.tmps[115]? = some (.bool false) := slot_at (show _ = 125 from hS.size) (by decide) (hdep 10 (by decide +kernel))
                        go_simp
                        exact hK _ _ (Below.refl _ _) (by first | rfl | simp)
                      refine soup_cons rfl rfl (fun a W hR hS hdep K hK => ?_) ?_
                      · have e115 : a.tmps[115]?.getD undef = .bool false := slot_of (hdep 10 (by decide +kernel))
                        have e123 : a.tmps[123]?.getD undef = undef := slot_of (hdep 18 (by decide +kernel))
                        go_simp
                        exact hK _ _ (Below.refl _ _) rfl
                      exact fun j h1 h2 => absurd h1 (by simp only [List.size_toArray, List.length_cons, List.length_nil]; omega)
                  | true =>
                    cases S1 with
                    | false => exact absurd HSM.out (by simp)
                    | true =>
                      as_aux_lemma =>
                        clear n3 o3 o4 o5
                        have HP0 := Lib.hid (show Z.drew.cell? ⟨bp, 0, none⟩ = some (.slice hp.na hp.nl hp.nc) from HNEW.out.1.cell 0)
                        have HP1 := Lib.hid (show Z.drew.cell? ⟨bp, 1, none⟩ = some (.int .i64 g2.typ) from HNEW.out.1.cell 1)
                        have HP2 := Lib.hid (show Z.drew.cell? ⟨bp, 2, none⟩ = some (.int .i64 g2.kind) from HNEW.out.1.cell 2)
                        have HP3 := Lib.hid (show Z.drew.cell? ⟨bp, 3, none⟩ = some (.int .i64 g2.rank) from HNEW.out.1.cell 3)
                        have HP4 := Lib.hid (show Z.drew.cell? ⟨bp, 4, none⟩ = some (.int .i64 g2.got) from HNEW.out.1.cell 4)
                        have HP5 := Lib.hid (show Z.drew.cell? ⟨bp, 5, none⟩ = some (.int .i64 g2.ttl) from HNEW.out.1.cell 5)
                        have HP6 := Lib.hid (show Z.drew.cell? ⟨bp, 6, none⟩ = some (.slice hp.sa hp.sl hp.sc) from HNEW.out.1.cell 6)
                        have HP7 := Lib.hid (show Z.drew.cell? ⟨bp, 7, none⟩ = some (.slice hp.za hp.zl hp.zc) from HNEW.out.1.cell 7)
                        have HP8 := Lib.hid (show Z.drew.cell? ⟨bp, 8, none⟩ = some (.slice hp.d.ba hp.d.bl hp.d.bc) from HNEW.out.1.cell 8)
                        have HP9 := Lib.hid (show Z.drew.cell? ⟨bp, 9, none⟩ = some (.slice hp.d.ha hp.d.hl hp.d.hc) from HNEW.out.1.cell 9)
                        have HP10 := Lib.hid (show Z.drew.cell? ⟨bp, 10, none⟩ = some (.slice hp.d.ma hp.d.ml hp.d.mc) from HNEW.out.1.cell 10)
                        have HP11 := Lib.hid (show Z.drew.cell? ⟨bp, 11, none⟩ = some (.slice hp.d.na hp.d.nl hp.d.nc) from HNEW.out.1.cell 11)
                        have HP12 := Lib.hid (show Z.drew.cell? ⟨bp, 12, none⟩ = some (.slice hp.d.ta hp.d.tl hp.d.tc) from HNEW.out.1.cell 12)
                        have HG0 := Lib.hid (show Z.drew.cell? ⟨bq, 0, none⟩ = some (.slice hq.na hq.nl hq.nc) from HBO.out.cell 0)
                        have HG1 := Lib.hid (show Z.drew.cell? ⟨bq, 1, none⟩ = some (.int .i64 g.typ) from HBO.out.cell 1)
                        have HG2 := Lib.hid (show Z.drew.cell? ⟨bq, 2, none⟩ = some (.int .i64 g.kind) from HBO.out.cell 2)
                        have HG3 := Lib.hid (show Z.drew.cell? ⟨bq, 3, none⟩ = some (.int .i64 g.rank) from HBO.out.cell 3)
                        have HG4 := Lib.hid (show Z.drew.cell? ⟨bq, 4, none⟩ = some (.int .i64 g.got) from HBO.out.cell 4)
                        have HG5 := Lib.hid (show Z.drew.cell? ⟨bq, 5, none⟩ = some (.int .i64 g.ttl) from HBO.out.cell 5)
                        have HG6 := Lib.hid (show Z.drew.cell? ⟨bq, 6, none⟩ = some (.slice hq.sa hq.sl hq.sc) from HBO.out.cell 6)
                        have HG7 := Lib.hid (show Z.drew.cell? ⟨bq, 7, none⟩ = some (.slice hq.za hq.zl hq.zc) from HBO.out.cell 7)
                        have HG8 := Lib.hid (show Z.drew.cell? ⟨bq, 8, none⟩ = some (.slice hq.d.ba hq.d.bl hq.d.bc) from HBO.out.cell 8)
                        have HG9 := Lib.hid (show Z.drew.cell? ⟨bq, 9, none⟩ = some (.slice hq.d.ha hq.d.hl hq.d.hc) from HBO.out.cell 9)
                        have HG10 := Lib.hid (show Z.drew.cell? ⟨bq, 10, none⟩ = some (.slice hq.d.ma hq.d.ml hq.d.mc) from HBO.out.cell 10)
                        have HG11 := Lib.hid (show Z.drew.cell? ⟨bq, 11, none⟩ = some (.slice hq.d.na hq.d.nl hq.d.nc) from HBO.out.cell 11)
                        have HG12 := Lib.hid (show Z.drew.cell? ⟨bq, 12, none⟩ = some (.slice hq.d.ta hq.d.tl hq.d.tc) from HBO.out.cell 12)
                        have hwz := below_on HY2.out HBZ.out (Nat.le_refl _)
                        have HO0 := Lib.hid (show Z.drew.cell? ⟨b0, off + j * 13, none⟩ = some (.slice h.na h.nl h.nc) from cell_keep (Below.drew hwz) E0.out)
                        have HO1 := Lib.hid (show Z.drew.cell? ⟨b0, off + j * 13 + 1, none⟩ = some (.int .i64 o.typ) from cell_keep (Below.drew hwz) E1.out)
                        have HO2 := Lib.hid (show Z.drew.cell? ⟨b0, off + j * 13 + 2, none⟩ = some (.int .i64 o.kind) from cell_keep (Below.drew hwz) E2.out)
                        have HO3 := Lib.hid (show Z.drew.cell? ⟨b0, off + j * 13 + 3, none⟩ = some (.int .i64 o.rank) from cell_keep (Below.drew hwz) E3.out)
                        have HO4 := Lib.hid (show Z.drew.cell? ⟨b0, off + j * 13 + 4, none⟩ = some (.int .i64 o.got) from cell_keep (Below.drew hwz) E4.out)
                        have HO5 := Lib.hid (show Z.drew.cell? ⟨b0, off + j * 13 + 5, none⟩ = some (.int .i64 o.ttl) from cell_keep (Below.drew hwz) E5.out)
                        have HO6 := Lib.hid (show Z.drew.cell? ⟨b0, off + j * 13 + 6, none⟩ = some (.slice h.sa h.sl h.sc) from cell_keep (Below.drew hwz) E6.out)
                        have HO7 := Lib.hid (show Z.drew.cell? ⟨b0, off + j * 13 + 7, none⟩ = some (.slice h.za h.zl h.zc) from cell_keep (Below.drew hwz) E7.out)
                        have HO8 := Lib.hid (show Z.drew.cell? ⟨b0, off + j * 13 + 8, none⟩ = some (.slice h.d.ba h.d.bl h.d.bc) from cell_keep (Below.drew hwz) E8.out)
                        have HO9 := Lib.hid (show Z.drew.cell? ⟨b0, off + j * 13 + 9, none⟩ = some (.slice h.d.ha h.d.hl h.d.hc) from cell_keep (Below.drew hwz) E9.out)
                        have HO10 := Lib.hid (show Z.drew.cell? ⟨b0, off + j * 13 + 10, none⟩ = some (.slice h.d.ma h.d.ml h.d.mc) from cell_keep (Below.drew hwz) E10.out)
                        have HO11 := Lib.hid (show Z.drew.cell? ⟨b0, off + j * 13 + 11, none⟩ = some (.slice h.d.na h.d.nl h.d.nc) from cell_keep (Below.drew hwz) E11.out)
                        have HO12 := Lib.hid (show Z.drew.cell? ⟨b0, off + j * 13 + 12, none⟩ = some (.slice h.d.ta h.d.tl h.d.tc) from cell_keep (Below.drew hwz) E12.out)
                        clear hwz
                        refine wp_soup0 (m := 125) (by kernel_rfl) (fun x y => Below x.heap.size x y) (fun i v xw => match i with | 0 => v = .bool true | 1 => v = .bool true | 2 => v = .agg #[.slice hp.na hp.nl hp.nc, .int .i64 g2.typ, .int .i64 g2.kind, .int .i64 g2.rank, .int .i64 g2.got, .int .i64 g2.ttl, .slice hp.sa hp.sl hp.sc, .slice hp.za hp.zl hp.zc, .slice hp.d.ba hp.d.bl hp.d.bc, .slice hp.d.ha hp.d.hl hp.d.hc, .slice hp.d.ma hp.d.ml hp.d.mc, .slice hp.d.na hp.d.nl hp.d.nc, .slice hp.d.ta hp.d.tl hp.d.tc] | 3 => v = .slice ((some ⟨b0, off, none⟩)) n c | 4 => v = .int .i64 ((j : Int)) | 5 => v = .pointer (some ⟨b0, off + j * 13, none⟩) | 6 => v = .agg #[.slice h.na h.nl h.nc, .int .i64 o.typ, .int .i64 o.kind, .int .i64 o.rank, .int .i64 o.got, .int .i64 o.ttl, .slice h.sa h.sl h.sc, .slice h.za h.zl h.zc, .slice h.d.ba h.d.bl h.d.bc, .slice h.d.ha h.d.hl h.d.hc, .slice h.d.ma h.d.ml h.d.mc, .slice h.d.na h.d.nl h.d.nc, .slice h.d.ta h.d.tl h.d.tc] | 7 => v = .bool true | 8 => v = .bool false | 9 => v = .bool false | 10 => v = .bool false | 11 => v = undef | 12 => v = undef | 13 => v = undef | 14 => v = undef | 15 => v = undef | 16 => v = undef | 17 => v = undef | 18 => v = undef | 19 => v = .bool false | _ => True) rfl (by kernel_rfl) (fun _ _ _ h1 h2 => below_on h1 h2 (Nat.le_refl _)) (Below.refl _ _) (fun _ _ _ _ h _ => h) (dst_but 20 (by kernel_rfl) (fun _ _ h => h)) ?_ ?_
                        rotate_left
                        · intro a W hR hS hdep
                          have e0 : a.tmps.getD 0 undef = .slice ((some ⟨b0, off, none⟩)) n c := hS.keep 0 (by kernel_rfl)
                          have e1 : a.tmps.getD 1 undef = .int .u8 now := hS.keep 1 (by kernel_rfl)
                          have e5 : a.tmps.getD 5 undef = .pointer (some ⟨C, 0, none⟩) := hS.keep 5 (by kernel_rfl)
                          have e7 : a.tmps.getD 7 undef = .int .i64 ((j : Int)) := hS.keep 7 (by kernel_rfl)
                          have e2 : a.tmps.getD 2 undef = undef := hS.keep 2 (by kernel_rfl)
                          have e3 : a.tmps.getD 3 undef = undef := hS.keep 3 (by kernel_rfl)
                          have e6 : a.tmps.getD 6 undef = .int .i64 0 := hS.keep 6 (by kernel_rfl)
                          have e12 : a.tmps.getD 12 undef = .tuple #[.pointer (some ⟨C, 0, none⟩), .int .i64 0] := hS.keep 12 (by kernel_rfl)
                          have e13 : a.tmps.getD 13 undef = .tuple #[.pointer (some ⟨C, 0, none⟩), .int .i64 0] := hS.keep 13 (by kernel_rfl)
                          have e14 : a.tmps.getD 14 undef = .pointer (some ⟨C, 0, none⟩) := hS.keep 14 (by kernel_rfl)
                          have e15 : a.tmps.getD 15 undef = .int .i64 0 := hS.keep 15 (by kernel_rfl)
                          have e16 : a.tmps.getD 16 undef = .bool true := hS.keep 16 (by kernel_rfl)
                          have e17 : a.tmps.getD 17 undef = .bool false := hS.keep 17 (by kernel_rfl)
                          have e18 : a.tmps.getD 18 undef = .bool false := hS.keep 18 (by kernel_rfl)
                          have e19 : a.tmps.getD 19 undef = .int .i64 0 := hS.keep 19 (by kernel_rfl)
                          have e20 : a.tmps.getD 20 undef = .bool false := hS.keep 20 (by kernel_rfl)
                          have e21 : a.tmps.getD 21 undef = .bool false := hS.keep 21 (by kernel_rfl)
                          have e22 : a.tmps.getD 22 undef = .bool false := hS.keep 22 (by kernel_rfl)
                          have e23 : a.tmps.getD 23 undef = .slice ((some ⟨b0, off, none⟩)) n c := hS.keep 23 (by kernel_rfl)
                          have e24 : a.tmps.getD 24 undef = .int .i64 ((n : Int)) := hS.keep 24 (by kernel_rfl)
                          have e25 : a.tmps.getD 25 undef = .bool (decide (40 < (n : Int))) := hS.keep 25 (by kernel_rfl)
                          have e26 : a.tmps.getD 26 undef = .bool (decide (40 < (n : Int))) := hS.keep 26 (by kernel_rfl)
                          have e27 : a.tmps.getD 27 undef = undef := hS.keep 27 (by kernel_rfl)
                          have e28 : a.tmps.getD 28 undef = undef := hS.keep 28 (by kernel_rfl)
                          have e29 : a.tmps.getD 29 undef = undef := hS.keep 29 (by kernel_rfl)
                          have e30 : a.tmps.getD 30 undef = undef := hS.keep 30 (by kernel_rfl)
                          have e31 : a.tmps.getD 31 undef = undef := hS.keep 31 (by kernel_rfl)
                          have e124 : a.tmps.getD 124 undef = .bool false := hdep 19 (by decide +kernel)
                          obtain ⟨T, df⟩ := a
                          obtain rfl : df = [] := hS.defers
                          have hT : T = #[T.getD 0 undef, T.getD 1 undef, T.getD 2 undef, T.getD 3 undef, T.getD 4 undef, T.getD 5 undef, T.getD 6 undef, T.getD 7 undef, T.getD 8 undef, T.getD 9 undef, T.getD 10 undef, T.getD 11 undef, T.getD 12 undef, T.getD 13 undef, T.getD 14 undef, T.getD 15 undef, T.getD 16 undef, T.getD 17 undef, T.getD 18 undef, T.getD 19 undef, T.getD 20 undef, T.getD 21 undef, T.getD 22 undef, T.getD 23 undef, T.getD 24 undef, T.getD 25 undef, T.getD 26 undef, T.getD 27 undef, T.getD 28 undef, T.getD 29 undef, T.getD 30 undef, T.getD 31 undef, T.getD 32 undef, T.getD 33 undef, T.getD 34 undef, T.getD 35 undef, T.getD 36 undef, T.getD 37 undef, T.getD 38 undef, T.getD 39 undef, T.getD 40 undef, T.getD 41 undef, T.getD 42 undef, T.getD 43 undef, T.getD 44 undef, T.getD 45 undef, T.getD 46 undef, T.getD 47 undef, T.getD 48 undef, T.getD 49 undef, T.getD 50 undef, T.getD 51 undef, T.getD 52 undef, T.getD 53 undef, T.getD 54 undef, T.getD 55 undef, T.getD 56 undef, T.getD 57 undef, T.getD 58 undef, T.getD 59 undef, T.getD 60 undef, T.getD 61 undef, T.getD 62 undef, T.getD 63 undef, T.getD 64 undef, T.getD 65 undef, T.getD 66 undef, T.getD 67 undef, T.getD 68 undef, T.getD 69 undef, T.getD 70 undef, T.getD 71 undef, T.getD 72 undef, T.getD 73 undef, T.getD 74 undef, T.getD 75 undef, T.getD 76 undef, T.getD 77 undef, T.getD 78 undef, T.getD 79 undef, T.getD 80 undef, T.getD 81 undef, T.getD 82 undef, T.getD 83 undef, T.getD 84 undef, T.getD 85 undef, T.getD 86 undef, T.getD 87 undef, T.getD 88 undef, T.getD 89 undef, T.getD 90 undef, T.getD 91 undef, T.getD 92 undef, T.getD 93 undef, T.getD 94 undef, T.getD 95 undef, T.getD 96 undef, T.getD 97 undef, T.getD 98 undef, T.getD 99 undef, T.getD 100 undef, T.getD 101 undef, T.getD 102 undef, T.getD 103 undef, T.getD 104 undef, T.getD 105 undef, T.getD 106 undef, T.getD 107 undef, T.getD 108 undef, T.getD 109 undef, T.getD 110 undef, T.getD 111 undef, T.getD 112 undef, T.getD 113 undef, T.getD 114 undef, T.getD 115 undef, T.getD 116 undef, T.getD 117 undef, T.getD 118 undef, T.getD 119 undef, T.getD 120 undef, T.getD 121 undef, T.getD 122 undef, T.getD 123 undef, T.getD 124 undef] := arr_eta T 125 hS.size
                          have k0 : T.getD 0 undef = .slice ((some ⟨b0, off, none⟩)) n c := e0
                          have k1 : T.getD 1 undef = .int .u8 now := e1
                          have k5 : T.getD 5 undef = .pointer (some ⟨C, 0, none⟩) := e5
                          have k7 : T.getD 7 undef = .int .i64 ((j : Int)) := e7
                          have k2 : T.getD 2 undef = undef := e2
                          have k3 : T.getD 3 undef = undef := e3
                          have k6 : T.getD 6 undef = .int .i64 0 := e6
                          have k12 : T.getD 12 undef = .tuple #[.pointer (some ⟨C, 0, none⟩), .int .i64 0] := e12
                          have k13 : T.getD 13 undef = .tuple #[.pointer (some ⟨C, 0, none⟩), .int .i64 0] := e13
                          have k14 : T.getD 14 undef = .pointer (some ⟨C, 0, none⟩) := e14
                          have k15 : T.getD 15 undef = .int .i64 0 := e15
                          have k16 : T.getD 16 undef = .bool true := e16
                          have k17 : T.getD 17 undef = .bool false := e17
                          have k18 : T.getD 18 undef = .bool false := e18
                          have k19 : T.getD 19 undef = .int .i64 0 := e19
                          have k20 : T.getD 20 undef = .bool false := e20
                          have k21 : T.getD 21 undef = .bool false := e21
                          have k22 : T.getD 22 undef = .bool false := e22
                          have k23 : T.getD 23 undef = .slice ((some ⟨b0, off, none⟩)) n c := e23
                          have k24 : T.getD 24 undef = .int .i64 ((n : Int)) := e24
                          have k25 : T.getD 25 undef = .bool (decide (40 < (n : Int))) := e25
                          have k26 : T.getD 26 undef = .bool (decide (40 < (n : Int))) := e26
                          have k27 : T.getD 27 undef = undef := e27
                          have k28 : T.getD 28 undef = undef := e28
                          have k29 : T.getD 29 undef = undef := e29
                          have k30 : T.getD 30 undef = undef := e30
                          have k31 : T.getD 31 undef = undef := e31
                          have k124 : T.getD 124 undef = .bool false := e124
                          clear hS hdep
                          rw [hT]
                          rw [k0]
                          clear k0 e0
                          rw [k1]
                          clear k1 e1
                          rw [k5]
                          clear k5 e5
                          rw [k7]
                          clear k7 e7
                          rw [k2]
                          clear k2 e2
                          rw [k3]
                          clear k3 e3
                          rw [k6]
                          clear k6 e6
                          rw [k12]
                          clear k12 e12
                          rw [k13]
                          clear k13 e13
                          rw [k14]
                          clear k14 e14
                          rw [k15]
                          clear k15 e15
                          rw [k16]
                          clear k16 e16
                          rw [k17]
                          clear k17 e17
                          rw [k18]
                          clear k18 e18
                          rw [k19]
                          clear k19 e19
                          rw [k20]
                          clear k20 e20
                          rw [k21]
                          clear k21 e21
                          rw [k22]
                          clear k22 e22
                          rw [k23]
                          clear k23 e23
                          rw [k24]
                          clear k24 e24
                          rw [k25]
                          clear k25 e25
                          rw [k26]
                          clear k26 e26
                          rw [k27]
                          clear k27 e27
                          rw [k28]
                          clear k28 e28
                          rw [k29]
                          clear k29 e29
                          rw [k30]
                          clear k30 e30
                          rw [k31]
                          clear k31 e31
                          rw [k124]
                          clear k124 e124
                          clear hT
                          generalize T.getD 4 undef = u4
                          generalize T.getD 8 undef = u8
                          generalize T.getD 9 undef = u9
                          generalize T.getD 10 undef = u10
                          generalize T.getD 11 undef = u11
                          generalize T.getD 32 undef = u32
                          generalize T.getD 33 undef = u33
                          generalize T.getD 34 undef = u34
                          generalize T.getD 35 undef = u35
                          generalize T.getD 36 undef = u36
                          generalize T.getD 37 undef = u37
                          generalize T.getD 38 undef = u38
                          generalize T.getD 39 undef = u39
                          generalize T.getD 40 undef = u40
                          generalize T.getD 41 undef = u41
                          generalize T.getD 42 undef = u42
                          generalize T.getD 43 undef = u43
                          generalize T.getD 44 undef = u44
                          generalize T.getD 45 undef = u45
                          generalize T.getD 46 undef = u46
                          generalize T.getD 47 undef = u47
                          generalize T.getD 48 undef = u48
                          generalize T.getD 49 undef = u49
                          generalize T.getD 50 undef = u50
                          generalize T.getD 51 undef = u51
                          generalize T.getD 52 undef = u52
                          generalize T.getD 53 undef = u53
                          generalize T.getD 54 undef = u54
                          generalize T.getD 55 undef = u55
                          generalize T.getD 56 undef = u56
                          generalize T.getD 57 undef = u57
                          generalize T.getD 58 undef = u58
                          generalize T.getD 59 undef = u59
                          generalize T.getD 60 undef = u60
                          generalize T.getD 61 undef = u61
                          generalize T.getD 62 undef = u62
                          generalize T.getD 63 undef = u63
                          generalize T.getD 64 undef = u64
                          generalize T.getD 65 undef = u65
                          generalize T.getD 66 undef = u66
                          generalize T.getD 67 undef = u67
                          generalize T.getD 68 undef = u68
                          generalize T.getD 69 undef = u69
                          generalize T.getD 70 undef = u70
                          generalize T.getD 71 undef = u71
                          generalize T.getD 72 undef = u72
                          generalize T.getD 73 undef = u73
                          generalize T.getD 74 undef = u74
                          generalize T.getD 75 undef = u75
                          generalize T.getD 76 undef = u76
                          generalize T.getD 77 undef = u77
                          generalize T.getD 78 undef = u78
                          generalize T.getD 79 undef = u79
                          generalize T.getD 80 undef = u80
                          generalize T.getD 81 undef = u81
                          generalize T.getD 82 undef = u82
                          generalize T.getD 83 undef = u83
                          generalize T.getD 84 undef = u84
                          generalize T.getD 85 undef = u85
                          generalize T.getD 86 undef = u86
                          generalize T.getD 87 undef = u87
                          generalize T.getD 88 undef = u88
                          generalize T.getD 89 undef = u89
                          generalize T.getD 90 undef = u90
                          generalize T.getD 91 undef = u91
                          generalize T.getD 92 undef = u92
                          generalize T.getD 93 undef = u93
                          generalize T.getD 94 undef = u94
                          generalize T.getD 95 undef = u95
                          generalize T.getD 96 undef = u96
                          generalize T.getD 97 undef = u97
                          generalize T.getD 98 undef = u98
                          generalize T.getD 99 undef = u99
                          generalize T.getD 100 undef = u100
                          generalize T.getD 101 undef = u101
                          generalize T.getD 102 undef = u102
                          generalize T.getD 103 undef = u103
                          generalize T.getD 104 undef = u104
                          generalize T.getD 105 undef = u105
                          generalize T.getD 106 undef = u106
                          generalize T.getD 107 undef = u107
                          generalize T.getD 108 undef = u108
                          generalize T.getD 109 undef = u109
                          generalize T.getD 110 undef = u110
                          generalize T.getD 111 undef = u111
                          generalize T.getD 112 undef = u112
                          generalize T.getD 113 undef = u113
                          generalize T.getD 114 undef = u114
                          generalize T.getD 115 undef = u115
                          generalize T.getD 116 undef = u116
                          generalize T.getD 117 undef = u117
                          generalize T.getD 118 undef = u118
                          generalize T.getD 119 undef = u119
                          generalize T.getD 120 undef = u120
                          generalize T.getD 121 undef = u121
                          generalize T.getD 122 undef = u122
                          generalize T.getD 123 undef = u123
                          have hbz2 := below_on (B := Z.heap.size) (Below.drew (Below.refl _ _)) hR (Nat.le_refl _)
                          clear hR
                          have HWF := Lib.hid (HFIN.out _ hbz2)
                          clear hbz2
                          go_wp2_with fail
                          go_roundw
                          case rel => exact ⟨j + 1, by omega, by go_num, HWF⟩
                          case measure => simp [intOf]; omega
                        refine soup_cons rfl rfl (fun a W hR hS hdep K hK => ?_) ?_
                        · have e11 : a.tmps[11]?.getD undef = .bool true := slot_of (hS.keep 11 (by kernel_rfl))
                          go_simp
                          exact hK _ _ (Below.refl _ _) (by first | rfl | simp)
                        refine soup_cons rfl rfl (fun a W hR hS hdep K hK => ?_) ?_
                        · have e105 : a.tmps[105]?.getD undef = .bool true := slot_of (hdep 0 (by decide +kernel))
                          go_simp
                          exact hK _ _ (Below.refl _ _) (by first | rfl | simp)
                        refine soup_cons rfl rfl (fun a W hR hS hdep K hK => ?_) ?_
                        · have e10 : a.tmps[10]?.getD undef = .pointer (some ⟨bp, 0, none⟩) := slot_of (hS.keep 10 (by kernel_rfl))
                          have e106 : a.tmps[106]?.getD undef = .bool true := slot_of (hdep 1 (by decide +kernel))
                          have g106 : a.tmps[106]? = some (.bool true) := slot_at (show _ = 125 from hS.size) (by decide) (hdep 1 (by decide +kernel))
                          have m0 := cell_keep hR HP0.out
                          have m1 := cell_keep hR HP1.out
                          have m2 := cell_keep hR HP2.out
                          have m3 := cell_keep hR HP3.out
                          have m4 := cell_keep hR HP4.out
                          have m5 := cell_keep hR HP5.out
                          have m6 := cell_keep hR HP6.out
                          have m7 := cell_keep hR HP7.out
                          have m8 := cell_keep hR HP8.out
                          have m9 := cell_keep hR HP9.out
                          have m10 := cell_keep hR HP10.out
                          have m11 := cell_keep hR HP11.out
                          have m12 := cell_keep hR HP12.out
                          go_simp
                          exact hK _ _ (Below.refl _ _) (by first | rfl | simp)
                        refine soup_cons rfl rfl (fun a W hR hS hdep K hK => ?_) ?_
                        · have e0 : a.tmps[0]?.getD undef = .slice ((some ⟨b0, off, none⟩)) n c := slot_of (hS.keep 0 (by kernel_rfl))
                          have e106 : a.tmps[106]?.getD undef = .bool true := slot_of (hdep 1 (by decide +kernel))
                          have g106 : a.tmps[106]? = some (.bool true) := slot_at (show _ = 125 from hS.size) (by decide) (hdep 1 (by decide +kernel))
                          go_simp
                          exact hK _ _ (Below.refl _ _) (by first | rfl | simp)
                        refine soup_cons rfl rfl (fun a W hR hS hdep K hK => ?_) ?_
                        · have e7 : a.tmps[7]?.getD undef = .int .i64 ((j : Int)) := slot_of (hS.keep 7 (by kernel_rfl))
                          have e106 : a.tmps[106]?.getD undef = .bool true := slot_of (hdep 1 (by decide +kernel))
                          have g106 : a.tmps[106]? = some (.bool true) := slot_at (show _ = 125 from hS.size) (by decide) (hdep 1 (by decide +kernel))
                          go_simp
                          exact hK _ _ (Below.refl _ _) (by first | rfl | simp)
                        refine soup_cons rfl rfl (fun a W hR hS hdep K hK => ?_) ?_
                        · have e108 : a.tmps[108]?.getD undef = .slice ((some ⟨b0, off, none⟩)) n c := slot_of (hdep 3 (by decide +kernel))
                          have e109 : a.tmps[109]?.getD undef = .int .i64 ((j : Int)) := slot_of (hdep 4 (by decide +kernel))
                          have e106 : a.tmps[106]?.getD undef = .bool true := slot_of (hdep 1 (by decide +kernel))
                          have g106 : a.tmps[106]? = some (.bool true) := slot_at (show _ = 125 from hS.size) (by decide) (hdep 1 (by decide +kernel))
                          go_simp
                          exact hK _ _ (Below.refl _ _) (by first | rfl | simp)
                        refine soup_cons rfl rfl (fun a W hR hS hdep K hK => ?_) ?_
                        · have e110 : a.tmps[110]?.getD undef = .pointer (some ⟨b0, off + j * 13, none⟩) := slot_of (hdep 5 (by decide +kernel))
                          have e106 : a.tmps[106]?.getD undef = .bool true := slot_of (hdep 1 (by decide +kernel))
                          have g106 : a.tmps[106]? = some (.bool true) := slot_at (show _ = 125 from hS.size) (by decide) (hdep 1 (by decide +kernel))
                          have m0 := cell_keep hR HO0.out
                          have m1 := cell_keep hR HO1.out
                          have m2 := cell_keep hR HO2.out
                          have m3 := cell_keep hR HO3.out
                          have m4 := cell_keep hR HO4.out
                          have m5 := cell_keep hR HO5.out
                          have m6 := cell_keep hR HO6.out
                          have m7 := cell_keep hR HO7.out
                          have m8 := cell_keep hR HO8.out
                          have m9 := cell_keep hR HO9.out
                          have m10 := cell_keep hR HO10.out
                          have m11 := cell_keep hR HO11.out
                          have m12 := cell_keep hR HO12.out
                          go_simp
                          exact hK _ _ (Below.refl _ _) (by first | rfl | simp)
                        refine soup_cons rfl rfl (fun a W hR hS hdep K hK => ?_) ?_
                        · have e107 : a.tmps[107]?.getD undef = .agg #[.slice hp.na hp.nl hp.nc, .int .i64 g2.typ, .int .i64 g2.kind, .int .i64 g2.rank, .int .i64 g2.got, .int .i64 g2.ttl, .slice hp.sa hp.sl hp.sc, .slice hp.za hp.zl hp.zc, .slice hp.d.ba hp.d.bl hp.d.bc, .slice hp.d.ha hp.d.hl hp.d.hc, .slice hp.d.ma hp.d.ml hp.d.mc, .slice hp.d.na hp.d.nl hp.d.nc, .slice hp.d.ta hp.d.tl hp.d.tc] := slot_of (hdep 2 (by decide +kernel))
                          have e111 : a.tmps[111]?.getD undef = .agg #[.slice h.na h.nl h.nc, .int .i64 o.typ, .int .i64 o.kind, .int .i64 o.rank, .int .i64 o.got, .int .i64 o.ttl, .slice h.sa h.sl h.sc, .slice h.za h.zl h.zc, .slice h.d.ba h.d.bl h.d.bc, .slice h.d.ha h.d.hl h.d.hc, .slice h.d.ma h.d.ml h.d.mc, .slice h.d.na h.d.nl h.d.nc, .slice h.d.ta h.d.tl h.d.tc] := slot_of (hdep 6 (by decide +kernel))
                          have e106 : a.tmps[106]?.getD undef = .bool true := slot_of (hdep 1 (by decide +kernel))
                          have g106 : a.tmps[106]? = some (.bool true) := slot_at (show _ = 125 from hS.size) (by decide) (hdep 1 (by decide +kernel))
                          go_simp
                          have hbx := below_on (B := Z.heap.size) (Below.drew (Below.refl _ _)) hR (Nat.le_refl _)
                          refine (HS1.out _ hbx).mono ?_
                          rintro e W' ⟨rfl, hb⟩
                          exact hK _ _ hb rfl
                        refine soup_cons rfl rfl (fun a W hR hS hdep K hK => ?_) ?_
                        · have e112 : a.tmps[112]?.getD undef = .bool true := slot_of (hdep 7 (by decide +kernel))
                          have e106 : a.tmps[106]?.getD undef = .bool true := slot_of (hdep 1 (by decide +kernel))
                          have g106 : a.tmps[106]? = some (.bool true) := slot_at (show _ = 125 from hS.size) (by decide) (hdep 1 (by decide +kernel))
                          go_simp
                          exact hK _ _ (Below.refl _ _) rfl
                        refine soup_cons rfl rfl (fun a W hR hS hdep K hK => ?_) ?_
                        · have e106 : a.tmps[106]?.getD undef = .bool true := slot_of (hdep 1 (by decide +kernel))
                          have e113 : a.tmps[113]?.getD undef = .bool false := slot_of (hdep 8 (by decide +kernel))
                          go_simp
                          exact hK _ _ (Below.refl _ _) rfl
                        refine soup_cons rfl rfl (fun a W hR hS hdep K hK => ?_) ?_
                        · have e114 : a.tmps[114]?.getD undef = .bool false := slot_of (hdep 9 (by decide +kernel))
                          go_simp
                          exact hK _ _ (Below.refl _ _) rfl
                        refine soup_cons rfl rfl (fun a W hR hS hdep K hK => ?_) ?_
                        · have e115 : a.tmps[115]?.getD undef = .bool false := slot_of (hdep 10 (by decide +kernel))
                          have g115 : a.tmps[115]? = some (.bool false) := slot_at (show _ = 125 from hS.size) (by decide) (hdep 10 (by decide +kernel))
                          go_simp
                          exact hK _ _ (Below.refl _ _) (by first | rfl | simp)
                        refine soup_cons rfl rfl (fun a W hR hS hdep K hK => ?_) ?_
                        · have e115 : a.tmps[115]?.getD undef = .bool false := slot_of (hdep 10 (by decide +kernel))
                          have g115 : a.tmps[115]? = some (.bool false) := slot_at (show _ = 125 from hS.size) (by decide) (hdep 10 (by decide +kernel))
                          go_simp
                          exact hK _ _ (Below.refl _ _) (by first | rfl | simp)
                        refine soup_cons rfl rfl (fun a W hR hS hdep K hK => ?_) ?_
                        · have e115 : a.tmps[115]?.getD undef = .bool false := slot_of (hdep 10 (by decide +kernel))
                          have g115 : a.tmps[115]? = some (.bool false) := slot_at (show _ = 125 from hS.size) (by decide) (hdep 10 (by decide +kernel))
                          go_simp
                          exact hK _ _ (Below.refl _ _) (by first | rfl | simp)
                        refine soup_cons rfl rfl (fun a W hR hS hdep K hK => ?_) ?_
                        · have e118 : a.tmps[118]?.getD undef = undef := slot_of (hdep 13 (by decide +kernel))
                          have g118 : a.tmps[118]? = some (undef) := slot_at (show _ = 125 from hS.size) (by decide) (hdep 13 (by decide +kernel))
                          go_simp
                          exact hK _ _ (Below.refl _ _) (by first | rfl | simp)
                        refine soup_cons rfl rfl (fun a W hR hS hdep K hK => ?_) ?_
                        · have e118 : a.tmps[118]?.getD undef = undef := slot_of (hdep 13 (by decide +kernel))
                          have g118 : a.tmps[118]? = some (undef) := slot_at (show _ = 125 from hS.size) (by decide) (hdep 13 (by decide +kernel))
                          go_simp
                          exact hK _ _ (Below.refl _ _) (by first | rfl | simp)
                        refine soup_cons rfl rfl (fun a W hR hS hdep K hK => ?_) ?_
                        · have e118 : a.tmps[118]?.getD undef = undef := slot_of (hdep 13 (by decide +kernel))
                          have g118 : a.tmps[118]? = some (undef) := slot_at (show _ = 125 from hS.size) (by decide) (hdep 13 (by decide +kernel))
                          go_simp
                          exact hK _ _ (Below.refl _ _) (by first | rfl | simp)
                        refine soup_cons rfl rfl (fun a W hR hS hdep K hK => ?_) ?_
                        · have e118 : a.tmps[118]?.getD undef = undef := slot_of (hdep 13 (by decide +kernel))
                          have g118 : a.tmps[118]? = some (undef) := slot_at (show _ = 125 from hS.size) (by decide) (hdep 13 (by decide +kernel))
                          go_simp
                          exact hK _ _ (Below.refl _ _) (by first | rfl | simp)
                        refine soup_cons rfl rfl (fun a W hR hS hdep K hK => ?_) ?_
                        · have e115 : a.tmps[115]?.getD undef = .bool false := slot_of (hdep 10 (by decide +kernel))
                          have g115 : a.tmps[115]? = some (.bool false) := slot_at (show _ = 125 from hS.size) (by decide) (hdep 10 (by decide +kernel))
                          go_simp
                          exact hK _ _ (Below.refl _ _) (by first | rfl | simp)
                        refine soup_cons rfl rfl (fun a W hR hS hdep K hK => ?_) ?_
                        · have e115 : a.tmps[115]?.getD undef = .bool false := slot_of (hdep 10 (by decide +kernel))
                          have e123 : a.tmps[123]?.getD undef = undef := slot_of (hdep 18 (by decide +kernel))
                          go_simp
                          exact hK _ _ (Below.refl _ _) rfl
                        exact fun j h1 h2 => absurd h1 (by simp only [List.size_toArray, List.length_cons, List.length_nil]; omega)

                | true =>
                  obtain rfl : th2 = true := HTH.out rfl
                  have hrk := HRK.out rfl
                  by_cases hr : g2.rank < g.rank
                  all_goals first | (have hz : ¬ 0 < lz := fun e => hrk ⟨hr, e⟩; clear hrk; go_wp2_with (go_at_call 12; refine (HLZ.out _).mono ?_; rintro e w' ⟨rfl, rfl⟩); clear hz hr) | (clear hrk; go_wp2_with fail; clear hr)
                  all_goals
                    cases S1 with
                    | false =>
                      cases S2 with
                      | false => exact absurd HSM.out (by simp)
                      | true =>
                        as_aux_lemma =>
                          clear n3 o3 o4 o5
                          have HP0 := Lib.hid (show Z.drew.cell? ⟨bp, 0, none⟩ = some (.slice hp.na hp.nl hp.nc) from HNEW.out.1.cell 0)
                          have HP1 := Lib.hid (show Z.drew.cell? ⟨bp, 1, none⟩ = some (.int .i64 g2.typ) from HNEW.out.1.cell 1)
                          have HP2 := Lib.hid (show Z.drew.cell? ⟨bp, 2, none⟩ = some (.int .i64 g2.kind) from HNEW.out.1.cell 2)
                          have HP3 := Lib.hid (show Z.drew.cell? ⟨bp, 3, none⟩ = some (.int .i64 g2.rank) from HNEW.out.1.cell 3)
                          have HP4 := Lib.hid (show Z.drew.cell? ⟨bp, 4, none⟩ = some (.int .i64 g2.got) from HNEW.out.1.cell 4)
                          have HP5 := Lib.hid (show Z.drew.cell? ⟨bp, 5, none⟩ = some (.int .i64 g2.ttl) from HNEW.out.1.cell 5)
                          have HP6 := Lib.hid (show Z.drew.cell? ⟨bp, 6, none⟩ = some (.slice hp.sa hp.sl hp.sc) from HNEW.out.1.cell 6)
                          have HP7 := Lib.hid (show Z.drew.cell? ⟨bp, 7, none⟩ = some (.slice hp.za hp.zl hp.zc) from HNEW.out.1.cell 7)
                          have HP8 := Lib.hid (show Z.drew.cell? ⟨bp, 8, none⟩ = some (.slice hp.d.ba hp.d.bl hp.d.bc) from HNEW.out.1.cell 8)
                          have HP9 := Lib.hid (show Z.drew.cell? ⟨bp, 9, none⟩ = some (.slice hp.d.ha hp.d.hl hp.d.hc) from HNEW.out.1.cell 9)
                          have HP10 := Lib.hid (show Z.drew.cell? ⟨bp, 10, none⟩ = some (.slice hp.d.ma hp.d.ml hp.d.mc) from HNEW.out.1.cell 10)
                          have HP11 := Lib.hid (show Z.drew.cell? ⟨bp, 11, none⟩ = some (.slice hp.d.na hp.d.nl hp.d.nc) from HNEW.out.1.cell 11)
                          have HP12 := Lib.hid (show Z.drew.cell? ⟨bp, 12, none⟩ = some (.slice hp.d.ta hp.d.tl hp.d.tc) from HNEW.out.1.cell 12)
                          have HG0 := Lib.hid (show Z.drew.cell? ⟨bq, 0, none⟩ = some (.slice hq.na hq.nl hq.nc) from HBO.out.cell 0)
                          have HG1 := Lib.hid (show Z.drew.cell? ⟨bq, 1, none⟩ = some (.int .i64 g.typ) from HBO.out.cell 1)
                          have HG2 := Lib.hid (show Z.drew.cell? ⟨bq, 2, none⟩ = some (.int .i64 g.kind) from HBO.out.cell 2)
                          have HG3 := Lib.hid (show Z.drew.cell? ⟨bq, 3, none⟩ = some (.int .i64 g.rank) from HBO.out.cell 3)
                          have HG4 := Lib.hid (show Z.drew.cell? ⟨bq, 4, none⟩ = some (.int .i64 g.got) from HBO.out.cell 4)
                          have HG5 := Lib.hid (show Z.drew.cell? ⟨bq, 5, none⟩ = some (.int .i64 g.ttl) from HBO.out.cell 5)
                          have HG6 := Lib.hid (show Z.drew.cell? ⟨bq, 6, none⟩ = some (.slice hq.sa hq.sl hq.sc) from HBO.out.cell 6)
                          have HG7 := Lib.hid (show Z.drew.cell? ⟨bq, 7, none⟩ = some (.slice hq.za hq.zl hq.zc) from HBO.out.cell 7)
                          have HG8 := Lib.hid (show Z.drew.cell? ⟨bq, 8, none⟩ = some (.slice hq.d.ba hq.d.bl hq.d.bc) from HBO.out.cell 8)
                          have HG9 := Lib.hid (show Z.drew.cell? ⟨bq, 9, none⟩ = some (.slice hq.d.ha hq.d.hl hq.d.hc) from HBO.out.cell 9)
                          have HG10 := Lib.hid (show Z.drew.cell? ⟨bq, 10, none⟩ = some (.slice hq.d.ma hq.d.ml hq.d.mc) from HBO.out.cell 10)
                          have HG11 := Lib.hid (show Z.drew.cell? ⟨bq, 11, none⟩ = some (.slice hq.d.na hq.d.nl hq.d.nc) from HBO.out.cell 11)
                          have HG12 := Lib.hid (show Z.drew.cell? ⟨bq, 12, none⟩ = some (.slice hq.d.ta hq.d.tl hq.d.tc) from HBO.out.cell 12)
                          have hwz := below_on HY2.out HBZ.out (Nat.le_refl _)
                          have HO0 := Lib.hid (show Z.drew.cell? ⟨b0, off + j * 13, none⟩ = some (.slice h.na h.nl h.nc) from cell_keep (Below.drew hwz) E0.out)
                          have HO1 := Lib.hid (show Z.drew.cell? ⟨b0, off + j * 13 + 1, none⟩ = some (.int .i64 o.typ) from cell_keep (Below.drew hwz) E1.out)
                          have HO2 := Lib.hid (show Z.drew.cell? ⟨b0, off + j * 13 + 2, none⟩ = some (.int .i64 o.kind) from cell_keep (Below.drew hwz) E2.out)
                          have HO3 := Lib.hid (show Z.drew.cell? ⟨b0, off + j * 13 + 3, none⟩ = some (.int .i64 o.rank) from cell_keep (Below.drew hwz) E3.out)
                          have HO4 := Lib.hid (show Z.drew.cell? ⟨b0, off + j * 13 + 4, none⟩ = some (.int .i64 o.got) from cell_keep (Below.drew hwz) E4.out)
                          have HO5 := Lib.hid (show Z.drew.cell? ⟨b0, off + j * 13 + 5, none⟩ = some (.int .i64 o.ttl) from cell_keep (Below.drew hwz) E5.out)
                          have HO6 := Lib.hid (show Z.drew.cell? ⟨b0, off + j * 13 + 6, none⟩ = some (.slice h.sa h.sl h.sc) from cell_keep (Below.drew hwz) E6.out)
                          have HO7 := Lib.hid (show Z.drew.cell? ⟨b0, off + j * 13 + 7, none⟩ = some (.slice h.za h.zl h.zc) from cell_keep (Below.drew hwz) E7.out)
                          have HO8 := Lib.hid (show Z.drew.cell? ⟨b0, off + j * 13 + 8, none⟩ = some (.slice h.d.ba h.d.bl h.d.bc) from cell_keep (Below.drew hwz) E8.out)
                          have HO9 := Lib.hid (show Z.drew.cell? ⟨b0, off + j * 13 + 9, none⟩ = some (.slice h.d.ha h.d.hl h.d.hc) from cell_keep (Below.drew hwz) E9.out)
                          have HO10 := Lib.hid (show Z.drew.cell? ⟨b0, off + j * 13 + 10, none⟩ = some (.slice h.d.ma h.d.ml h.d.mc) from cell_keep (Below.drew hwz) E10.out)
                          have HO11 := Lib.hid (show Z.drew.cell? ⟨b0, off + j * 13 + 11, none⟩ = some (.slice h.d.na h.d.nl h.d.nc) from cell_keep (Below.drew hwz) E11.out)
                          have HO12 := Lib.hid (show Z.drew.cell? ⟨b0, off + j * 13 + 12, none⟩ = some (.slice h.d.ta h.d.tl h.d.tc) from cell_keep (Below.drew hwz) E12.out)
                          clear hwz
                          refine wp_soup0 (m := 125) (by kernel_rfl) (fun x y => Below x.heap.size x y) (fun i v xw => match i with | 0 => v = .bool true | 1 => v = .bool true | 2 => v = .agg #[.slice hp.na hp.nl hp.nc, .int .i64 g2.typ, .int .i64 g2.kind, .int .i64 g2.rank, .int .i64 g2.got, .int .i64 g2.ttl, .slice hp.sa hp.sl hp.sc, .slice hp.za hp.zl hp.zc, .slice hp.d.ba hp.d.bl hp.d.bc, .slice hp.d.ha hp.d.hl hp.d.hc, .slice hp.d.ma hp.d.ml hp.d.mc, .slice hp.d.na hp.d.nl hp.d.nc, .slice hp.d.ta hp.d.tl hp.d.tc] | 3 => v = .slice ((some ⟨b0, off, none⟩)) n c | 4 => v = .int .i64 ((j : Int)) | 5 => v = .pointer (some ⟨b0, off + j * 13, none⟩) | 6 => v = .agg #[.slice h.na h.nl h.nc, .int .i64 o.typ, .int .i64 o.kind, .int .i64 o.rank, .int .i64 o.got, .int .i64 o.ttl, .slice h.sa h.sl h.sc, .slice h.za h.zl h.zc, .slice h.d.ba h.d.bl h.d.bc, .slice h.d.ha h.d.hl h.d.hc, .slice h.d.ma h.d.ml h.d.mc, .slice h.d.na h.d.nl h.d.nc, .slice h.d.ta h.d.tl h.d.tc] | 7 => v = .bool false | 8 => v = .bool true | 9 => v = .bool true | 10 => v = .bool true | 11 => v = .bool true | 12 => v = .bool false | 13 => v = .bool false | 14 => v = .agg #[.slice hp.na hp.nl hp.nc, .int .i64 g2.typ, .int .i64 g2.kind, .int .i64 g2.rank, .int .i64 g2.got, .int .i64 g2.ttl, .slice hp.sa hp.sl hp.sc, .slice hp.za hp.zl hp.zc, .slice hp.d.ba hp.d.bl hp.d.bc, .slice hp.d.ha hp.d.hl hp.d.hc, .slice hp.d.ma hp.d.ml hp.d.mc, .slice hp.d.na hp.d.nl hp.d.nc, .slice hp.d.ta hp.d.tl hp.d.tc] | 15 => v = .agg #[.slice hq.na hq.nl hq.nc, .int .i64 g.typ, .int .i64 g.kind, .int .i64 g.rank, .int .i64 g.got, .int .i64 g.ttl, .slice hq.sa hq.sl hq.sc, .slice hq.za hq.zl hq.zc, .slice hq.d.ba hq.d.bl hq.d.bc, .slice hq.d.ha hq.d.hl hq.d.hc, .slice hq.d.ma hq.d.ml hq.d.mc, .slice hq.d.na hq.d.nl hq.d.nc, .slice hq.d.ta hq.d.tl hq.d.tc] | 16 => v = .bool true | 17 => v = .bool false | 18 => v = .bool false | 19 => v = .bool false | _ => True) rfl (by kernel_rfl) (fun _ _ _ h1 h2 => below_on h1 h2 (Nat.le_refl _)) (Below.refl _ _) (fun _ _ _ _ h _ => h) (dst_but 20 (by kernel_rfl) (fun _ _ h => h)) ?_ ?_
                          rotate_left
                          · intro a W hR hS hdep
                            have e0 : a.tmps.getD 0 undef = .slice ((some ⟨b0, off, none⟩)) n c := hS.keep 0 (by kernel_rfl)
                            have e1 : a.tmps.getD 1 undef = .int .u8 now := hS.keep 1 (by kernel_rfl)
                            have e5 : a.tmps.getD 5 undef = .pointer (some ⟨C, 0, none⟩) := hS.keep 5 (by kernel_rfl)
                            have e7 : a.tmps.getD 7 undef = .int .i64 ((j : Int)) := hS.keep 7 (by kernel_rfl)
                            have e2 : a.tmps.getD 2 undef = undef := hS.keep 2 (by kernel_rfl)
                            have e3 : a.tmps.getD 3 undef = undef := hS.keep 3 (by kernel_rfl)
                            have e6 : a.tmps.getD 6 undef = .int .i64 0 := hS.keep 6 (by kernel_rfl)
                            have e12 : a.tmps.getD 12 undef = .tuple #[.pointer (some ⟨C, 0, none⟩), .int .i64 0] := hS.keep 12 (by kernel_rfl)
                            have e13 : a.tmps.getD 13 undef = .tuple #[.pointer (some ⟨C, 0, none⟩), .int .i64 0] := hS.keep 13 (by kernel_rfl)
                            have e14 : a.tmps.getD 14 undef = .pointer (some ⟨C, 0, none⟩) := hS.keep 14 (by kernel_rfl)
                            have e15 : a.tmps.getD 15 undef = .int .i64 0 := hS.keep 15 (by kernel_rfl)
                            have e16 : a.tmps.getD 16 undef = .bool true := hS.keep 16 (by kernel_rfl)
                            have e17 : a.tmps.getD 17 undef = .bool false := hS.keep 17 (by kernel_rfl)
                            have e18 : a.tmps.getD 18 undef = .bool false := hS.keep 18 (by kernel_rfl)
                            have e19 : a.tmps.getD 19 undef = .int .i64 0 := hS.keep 19 (by kernel_rfl)
                            have e20 : a.tmps.getD 20 undef = .bool false := hS.keep 20 (by kernel_rfl)
                            have e21 : a.tmps.getD 21 undef = .bool false := hS.keep 21 (by kernel_rfl)
                            have e22 : a.tmps.getD 22 undef = .bool false := hS.keep 22 (by kernel_rfl)
                            have e23 : a.tmps.getD 23 undef = .slice ((some ⟨b0, off, none⟩)) n c := hS.keep 23 (by kernel_rfl)
                            have e24 : a.tmps.getD 24 undef = .int .i64 ((n : Int)) := hS.keep 24 (by kernel_rfl)
                            have e25 : a.tmps.getD 25 undef = .bool (decide (40 < (n : Int))) := hS.keep 25 (by kernel_rfl)
                            have e26 : a.tmps.getD 26 undef = .bool (decide (40 < (n : Int))) := hS.keep 26 (by kernel_rfl)
                            have e27 : a.tmps.getD 27 undef = undef := hS.keep 27 (by kernel_rfl)
                            have e28 : a.tmps.getD 28 undef = undef := hS.keep 28 (by kernel_rfl)
                            have e29 : a.tmps.getD 29 undef = undef := hS.keep 29 (by kernel_rfl)
                            have e30 : a.tmps.getD 30 undef = undef := hS.keep 30 (by kernel_rfl)
                            have e31 : a.tmps.getD 31 undef = undef := hS.keep 31 (by kernel_rfl)
                            have e124 : a.tmps.getD 124 undef = .bool false := hdep 19 (by decide +kernel)
                            obtain ⟨T, df⟩ := a
                            obtain rfl : df = [] := hS.defers
                            have hT : T = #[T.getD 0 undef, T.getD 1 undef, T.getD 2 undef, T.getD 3 undef, T.getD 4 undef, T.getD 5 undef, T.getD 6 undef, T.getD 7 undef, T.getD 8 undef, T.getD 9 undef, T.getD 10 undef, T.getD 11 undef, T.getD 12 undef, T.getD 13 undef, T.getD 14 undef, T.getD 15 undef, T.getD 16 undef, T.getD 17 undef, T.getD 18 undef, T.getD 19 undef, T.getD 20 undef, T.getD 21 undef, T.getD 22 undef, T.getD 23 undef, T.getD 24 undef, T.getD 25 undef, T.getD 26 undef, T.getD 27 undef, T.getD 28 undef, T.getD 29 undef, T.getD 30 undef, T.getD 31 undef, T.getD 32 undef, T.getD 33 undef, T.getD 34 undef, T.getD 35 undef, T.getD 36 undef, T.getD 37 undef, T.getD 38 undef, T.getD 39 undef, T.getD 40 undef, T.getD 41 undef, T.getD 42 undef, T.getD 43 undef, T.getD 44 undef, T.getD 45 undef, T.getD 46 undef, T.getD 47 undef, T.getD 48 undef, T.getD 49 undef, T.getD 50 undef, T.getD 51 undef, T.getD 52 undef, T.getD 53 undef, T.getD 54 undef, T.getD 55 undef, T.getD 56 undef, T.getD 57 undef, T.getD 58 undef, T.getD 59 undef, T.getD 60 undef, T.getD 61 undef, T.getD 62 undef, T.getD 63 undef, T.getD 64 undef, T.getD 65 undef, T.getD 66 undef, T.getD 67 undef, T.getD 68 undef, T.getD 69 undef, T.getD 70 undef, T.getD 71 undef, T.getD 72 undef, T.getD 73 undef, T.getD 74 undef, T.getD 75 undef, T.getD 76 undef, T.getD 77 undef, T.getD 78 undef, T.getD 79 undef, T.getD 80 undef, T.getD 81 undef, T.getD 82 undef, T.getD 83 undef, T.getD 84 undef, T.getD 85 undef, T.getD 86 undef, T.getD 87 undef, T.getD 88 undef, T.getD 89 undef, T.getD 90 undef, T.getD 91 undef, T.getD 92 undef, T.getD 93 undef, T.getD 94 undef, T.getD 95 undef, T.getD 96 undef, T.getD 97 undef, T.getD 98 undef, T.getD 99 undef, T.getD 100 undef, T.getD 101 undef, T.getD 102 undef, T.getD 103 undef, T.getD 104 undef, T.getD 105 undef, T.getD 106 undef, T.getD 107 undef, T.getD 108 undef, T.getD 109 undef, T.getD 110 undef, T.getD 111 undef, T.getD 112 undef, T.getD 113 undef, T.getD 114 undef, T.getD 115 undef, T.getD 116 undef, T.getD 117 undef, T.getD 118 undef, T.getD 119 undef, T.getD 120 undef, T.getD 121 undef, T.getD 122 undef, T.getD 123 undef, T.getD 124 undef] := arr_eta T 125 hS.size
                            have k0 : T.getD 0 undef = .slice ((some ⟨b0, off, none⟩)) n c := e0
                            have k1 : T.getD 1 undef = .int .u8 now := e1
                            have k5 : T.getD 5 undef = .pointer (some ⟨C, 0, none⟩) := e5
                            have k7 : T.getD 7 undef = .int .i64 ((j : Int)) := e7
                            have k2 : T.getD 2 undef = undef := e2
                            have k3 : T.getD 3 undef = undef := e3
                            have k6 : T.getD 6 undef = .int .i64 0 := e6
                            have k12 : T.getD 12 undef = .tuple #[.pointer (some ⟨C, 0, none⟩), .int .i64 0] := e12
                            have k13 : T.getD 13 undef = .tuple #[.pointer (some ⟨C, 0, none⟩), .int .i64 0] := e13
                            have k14 : T.getD 14 undef = .pointer (some ⟨C, 0, none⟩) := e14
                            have k15 : T.getD 15 undef = .int .i64 0 := e15
                            have k16 : T.getD 16 undef = .bool true := e16
                            have k17 : T.getD 17 undef = .bool false := e17
                            have k18 : T.getD 18 undef = .bool false := e18
                            have k19 : T.getD 19 undef = .int .i64 0 := e19
                            have k20 : T.getD 20 undef = .bool false := e20
                            have k21 : T.getD 21 undef = .bool false := e21
                            have k22 : T.getD 22 undef = .bool false := e22
                            have k23 : T.getD 23 undef = .slice ((some ⟨b0, off, none⟩)) n c := e23
                            have k24 : T.getD 24 undef = .int .i64 ((n : Int)) := e24
                            have k25 : T.getD 25 undef = .bool (decide (40 < (n : Int))) := e25
                            have k26 : T.getD 26 undef = .bool (decide (40 < (n : Int))) := e26
                            have k27 : T.getD 27 undef = undef := e27
                            have k28 : T.getD 28 undef = undef := e28
                            have k29 : T.getD 29 undef = undef := e29
                            have k30 : T.getD 30 undef = undef := e30
                            have k31 : T.getD 31 undef = undef := e31
                            have k124 : T.getD 124 undef = .bool false := e124
                            clear hS hdep
                            rw [hT]
                            rw [k0]
                            clear k0 e0
                            rw [k1]
                            clear k1 e1
                            rw [k5]
                            clear k5 e5
                            rw [k7]
                            clear k7 e7
                            rw [k2]
                            clear k2 e2
                            rw [k3]
                            clear k3 e3
                            rw [k6]
                            clear k6 e6
                            rw [k12]
                            clear k12 e12
                            rw [k13]
                            clear k13 e13
                            rw [k14]
                            clear k14 e14
                            rw [k15]
                            clear k15 e15
                            rw [k16]
                            clear k16 e16
                            rw [k17]
                            clear k17 e17
                            rw [k18]
                            clear k18 e18
                            rw [k19]
                            clear k19 e19
                            rw [k20]
                            clear k20 e20
                            rw [k21]
                            clear k21 e21
                            rw [k22]
                            clear k22 e22
                            rw [k23]
                            clear k23 e23
                            rw [k24]
                            clear k24 e24
                            rw [k25]
                            clear k25 e25
                            rw [k26]
                            clear k26 e26
                            rw [k27]
                            clear k27 e27
                            rw [k28]
                            clear k28 e28
                            rw [k29]
                            clear k29 e29
                            rw [k30]
                            clear k30 e30
                            rw [k31]
                            clear k31 e31
                            rw [k124]
                            clear k124 e124
                            clear hT
                            generalize T.getD 4 undef = u4
                            generalize T.getD 8 undef = u8
                            generalize T.getD 9 undef = u9
                            generalize T.getD 10 undef = u10
                            generalize T.getD 11 undef = u11
                            generalize T.getD 32 undef = u32
                            generalize T.getD 33 undef = u33
                            generalize T.getD 34 undef = u34
                            generalize T.getD 35 undef = u35
                            generalize T.getD 36 undef = u36
                            generalize T.getD 37 undef = u37
                            generalize T.getD 38 undef = u38
                            generalize T.getD 39 undef = u39
                            generalize T.getD 40 undef = u40
                            generalize T.getD 41 undef = u41
                            generalize T.getD 42 undef = u42
                            generalize T.getD 43 undef = u43
                            generalize T.getD 44 undef = u44
                            generalize T.getD 45 undef = u45
                            generalize T.getD 46 undef = u46
                            generalize T.getD 47 undef = u47
                            generalize T.getD 48 undef = u48
                            generalize T.getD 49 undef = u49
                            generalize T.getD 50 undef = u50
                            generalize T.getD 51 undef = u51
                            generalize T.getD 52 undef = u52
                            generalize T.getD 53 undef = u53
                            generalize T.getD 54 undef = u54
                            generalize T.getD 55 undef = u55
                            generalize T.getD 56 undef = u56
                            generalize T.getD 57 undef = u57
                            generalize T.getD 58 undef = u58
                            generalize T.getD 59 undef = u59
                            generalize T.getD 60 undef = u60
                            generalize T.getD 61 undef = u61
                            generalize T.getD 62 undef = u62
                            generalize T.getD 63 undef = u63
                            generalize T.getD 64 undef = u64
                            generalize T.getD 65 undef = u65
                            generalize T.getD 66 undef = u66
                            generalize T.getD 67 undef = u67
                            generalize T.getD 68 undef = u68
                            generalize T.getD 69 undef = u69
                            generalize T.getD 70 undef = u70
                            generalize T.getD 71 undef = u71
                            generalize T.getD 72 undef = u72
                            generalize T.getD 73 undef = u73
                            generalize T.getD 74 undef = u74
                            generalize T.getD 75 undef = u75
                            generalize T.getD 76 undef = u76
                            generalize T.getD 77 undef = u77
                            generalize T.getD 78 undef = u78
                            generalize T.getD 79 undef = u79
                            generalize T.getD 80 undef = u80
                            generalize T.getD 81 undef = u81
                            generalize T.getD 82 undef = u82
                            generalize T.getD 83 undef = u83
                            generalize T.getD 84 undef = u84
                            generalize T.getD 85 undef = u85
                            generalize T.getD 86 undef = u86
                            generalize T.getD 87 undef = u87
                            generalize T.getD 88 undef = u88
                            generalize T.getD 89 undef = u89
                            generalize T.getD 90 undef = u90
                            generalize T.getD 91 undef = u91
                            generalize T.getD 92 undef = u92
                            generalize T.getD 93 undef = u93
                            generalize T.getD 94 undef = u94
                            generalize T.getD 95 undef = u95
                            generalize T.getD 96 undef = u96
                            generalize T.getD 97 undef = u97
                            generalize T.getD 98 undef = u98
                            generalize T.getD 99 undef = u99
                            generalize T.getD 100 undef = u100
                            generalize T.getD 101 undef = u101
                            generalize T.getD 102 undef = u102
                            generalize T.getD 103 undef = u103
                            generalize T.getD 104 undef = u104
                            generalize T.getD 105 undef = u105
                            generalize T.getD 106 undef = u106
                            generalize T.getD 107 undef = u107
                            generalize T.getD 108 undef = u108
                            generalize T.getD 109 undef = u109
                            generalize T.getD 110 undef = u110
                            generalize T.getD 111 undef = u111
                            generalize T.getD 112 undef = u112
                            generalize T.getD 113 undef = u113
                            generalize T.getD 114 undef = u114
                            generalize T.getD 115 undef = u115
                            generalize T.getD 116 undef = u116
                            generalize T.getD 117 undef = u117
                            generalize T.getD 118 undef = u118
                            generalize T.getD 119 undef = u119
                            generalize T.getD 120 undef = u120
                            generalize T.getD 121 undef = u121
                            generalize T.getD 122 undef = u122
                            generalize T.getD 123 undef = u123
                            have hbz2 := below_on (B := Z.heap.size) (Below.drew (Below.refl _ _)) hR (Nat.le_refl _)
                            clear hR
                            have HWF := Lib.hid (HFIN.out _ hbz2)
                            clear hbz2
                            go_wp2_with fail
                            go_roundw
                            case rel => exact ⟨j + 1, by omega, by go_num, HWF⟩
                            case measure => simp [intOf]; omega
                          refine soup_cons rfl rfl (fun a W hR hS hdep K hK => ?_) ?_
                          · have e11 : a.tmps[11]?.getD undef = .bool true := slot_of (hS.keep 11 (by kernel_rfl))
                            go_simp
                            exact hK _ _ (Below.refl _ _) (by first | rfl | simp)
                          refine soup_cons rfl rfl (fun a W hR hS hdep K hK => ?_) ?_
                          · have e105 : a.tmps[105]?.getD undef = .bool true := slot_of (hdep 0 (by decide +kernel))
                            go_simp
                            exact hK _ _ (Below.refl _ _) (by first | rfl | simp)
                          refine soup_cons rfl rfl (fun a W hR hS hdep K hK => ?_) ?_
                          · have e10 : a.tmps[10]?.getD undef = .pointer (some ⟨bp, 0, none⟩) := slot_of (hS.keep 10 (by kernel_rfl))
                            have e106 : a.tmps[106]?.getD undef = .bool true := slot_of (hdep 1 (by decide +kernel))
                            have g106 : a.tmps[106]? = some (.bool true) := slot_at (show _ = 125 from hS.size) (by decide) (hdep 1 (by decide +kernel))
                            have m0 := cell_keep hR HP0.out
                            have m1 := cell_keep hR HP1.out
                            have m2 := cell_keep hR HP2.out
                            have m3 := cell_keep hR HP3.out
                            have m4 := cell_keep hR HP4.out
                            have m5 := cell_keep hR HP5.out
                            have m6 := cell_keep hR HP6.out
                            have m7 := cell_keep hR HP7.out
                            have m8 := cell_keep hR HP8.out
                            have m9 := cell_keep hR HP9.out
                            have m10 := cell_keep hR HP10.out
                            have m11 := cell_keep hR HP11.out
                            have m12 := cell_keep hR HP12.out
                            go_simp
                            exact hK _ _ (Below.refl _ _) (by first | rfl | simp)
                          refine soup_cons rfl rfl (fun a W hR hS hdep K hK => ?_) ?_
                          · have e0 : a.tmps[0]?.getD undef = .slice ((some ⟨b0, off, none⟩)) n c := slot_of (hS.keep 0 (by kernel_rfl))
                            have e106 : a.tmps[106]?.getD undef = .bool true := slot_of (hdep 1 (by decide +kernel))
                            have g106 : a.tmps[106]? = some (.bool true) := slot_at (show _ = 125 from hS.size) (by decide) (hdep 1 (by decide +kernel))
                            go_simp
                            exact hK _ _ (Below.refl _ _) (by first | rfl | simp)
                          refine soup_cons rfl rfl (fun a W hR hS hdep K hK => ?_) ?_
                          · have e7 : a.tmps[7]?.getD undef = .int .i64 ((j : Int)) := slot_of (hS.keep 7 (by kernel_rfl))
                            have e106 : a.tmps[106]?.getD undef = .bool true := slot_of (hdep 1 (by decide +kernel))
                            have g106 : a.tmps[106]? = some (.bool true) := slot_at (show _ = 125 from hS.size) (by decide) (hdep 1 (by decide +kernel))
                            go_simp
                            exact hK _ _ (Below.refl _ _) (by first | rfl | simp)
                          refine soup_cons rfl rfl (fun a W hR hS hdep K hK => ?_) ?_
                          · have e108 : a.tmps[108]?.getD undef = .slice ((some ⟨b0, off, none⟩)) n c := slot_of (hdep 3 (by decide +kernel))
                            have e109 : a.tmps[109]?.getD undef = .int .i64 ((j : Int)) := slot_of (hdep 4 (by decide +kernel))
                            have e106 : a.tmps[106]?.getD undef = .bool true := slot_of (hdep 1 (by decide +kernel))
                            have g106 : a.tmps[106]? = some (.bool true) := slot_at (show _ = 125 from hS.size) (by decide) (hdep 1 (by decide +kernel))
                            go_simp
                            exact hK _ _ (Below.refl _ _) (by first | rfl | simp)
                          refine soup_cons rfl rfl (fun a W hR hS hdep K hK => ?_) ?_
                          · have e110 : a.tmps[110]?.getD undef = .pointer (some ⟨b0, off + j * 13, none⟩) := slot_of (hdep 5 (by decide +kernel))
                            have e106 : a.tmps[106]?.getD undef = .bool true := slot_of (hdep 1 (by decide +kernel))
                            have g106 : a.tmps[106]? = some (.bool true) := slot_at (show _ = 125 from hS.size) (by decide) (hdep 1 (by decide +kernel))
                            have m0 := cell_keep hR HO0.out
                            have m1 := cell_keep hR HO1.out
                            have m2 := cell_keep hR HO2.out
                            have m3 := cell_keep hR HO3.out
                            have m4 := cell_keep hR HO4.out
                            have m5 := cell_keep hR HO5.out
                            have m6 := cell_keep hR HO6.out
                            have m7 := cell_keep hR HO7.out
                            have m8 := cell_keep hR HO8.out
                            have m9 := cell_keep hR HO9.out
                            have m10 := cell_keep hR HO10.out
                            have m11 := cell_keep hR HO11.out
                            have m12 := cell_keep hR HO12.out
                            go_simp
                            exact hK _ _ (Below.refl _ _) (by first | rfl | simp)
                          refine soup_cons rfl rfl (fun a W hR hS hdep K hK => ?_) ?_
                          · have e107 : a.tmps[107]?.getD undef = .agg #[.slice hp.na hp.nl hp.nc, .int .i64 g2.typ, .int .i64 g2.kind, .int .i64 g2.rank, .int .i64 g2.got, .int .i64 g2.ttl, .slice hp.sa hp.sl hp.sc, .slice hp.za hp.zl hp.zc, .slice hp.d.ba hp.d.bl hp.d.bc, .slice hp.d.ha hp.d.hl hp.d.hc, .slice hp.d.ma hp.d.ml hp.d.mc, .slice hp.d.na hp.d.nl hp.d.nc, .slice hp.d.ta hp.d.tl hp.d.tc] := slot_of (hdep 2 (by decide +kernel))
                            have e111 : a.tmps[111]?.getD undef = .agg #[.slice h.na h.nl h.nc, .int .i64 o.typ, .int .i64 o.kind, .int .i64 o.rank, .int .i64 o.got, .int .i64 o.ttl, .slice h.sa h.sl h.sc, .slice h.za h.zl h.zc, .slice h.d.ba h.d.bl h.d.bc, .slice h.d.ha h.d.hl h.d.hc, .slice h.d.ma h.d.ml h.d.mc, .slice h.d.na h.d.nl h.d.nc, .slice h.d.ta h.d.tl h.d.tc] := slot_of (hdep 6 (by decide +kernel))
                            have e106 : a.tmps[106]?.getD undef = .bool true := slot_of (hdep 1 (by decide +kernel))
                            have g106 : a.tmps[106]? = some (.bool true) := slot_at (show _ = 125 from hS.size) (by decide) (hdep 1 (by decide +kernel))
                            go_simp
                            have hbx := below_on (B := Z.heap.size) (Below.drew (Below.refl _ _)) hR (Nat.le_refl _)
                            refine (HS1.out _ hbx).mono ?_
                            rintro e W' ⟨rfl, hb⟩
                            exact hK _ _ hb rfl
                          refine soup_cons rfl rfl (fun a W hR hS hdep K hK => ?_) ?_
                          · have e112 : a.tmps[112]?.getD undef = .bool false := slot_of (hdep 7 (by decide +kernel))
                            have e106 : a.tmps[106]?.getD undef = .bool true := slot_of (hdep 1 (by decide +kernel))
                            have g106 : a.tmps[106]? = some (.bool true) := slot_at (show _ = 125 from hS.size) (by decide) (hdep 1 (by decide +kernel))
                            go_simp
                            exact hK _ _ (Below.refl _ _) rfl
                          refine soup_cons rfl rfl (fun a W hR hS hdep K hK => ?_) ?_
                          · have e106 : a.tmps[106]?.getD undef = .bool true := slot_of (hdep 1 (by decide +kernel))
                            have e113 : a.tmps[113]?.getD undef = .bool true := slot_of (hdep 8 (by decide +kernel))
                            go_simp
                            exact hK _ _ (Below.refl _ _) rfl
                          refine soup_cons rfl rfl (fun a W hR hS hdep K hK => ?_) ?_
                          · have e114 : a.tmps[114]?.getD undef = .bool true := slot_of (hdep 9 (by decide +kernel))
                            go_simp
                            exact hK _ _ (Below.refl _ _) rfl
                          refine soup_cons rfl rfl (fun a W hR hS hdep K hK => ?_) ?_
                          · have e9 : a.tmps[9]?.getD undef = .bool true := slot_of (hS.keep 9 (by kernel_rfl))
                            have e115 : a.tmps[115]?.getD undef = .bool true := slot_of (hdep 10 (by decide +kernel))
                            have g115 : a.tmps[115]? = some (.bool true) := slot_at (show _ = 125 from hS.size) (by decide) (hdep 10 (by decide +kernel))
                            go_simp
                            exact hK _ _ (Below.refl _ _) (by first | rfl | simp)
                          refine soup_cons rfl rfl (fun a W hR hS hdep K hK => ?_) ?_
                          · have e116 : a.tmps[116]?.getD undef = .bool true := slot_of (hdep 11 (by decide +kernel))
                            have e115 : a.tmps[115]?.getD undef = .bool true := slot_of (hdep 10 (by decide +kernel))
                            have g115 : a.tmps[115]? = some (.bool true) := slot_at (show _ = 125 from hS.size) (by decide) (hdep 10 (by decide +kernel))
                            go_simp
                            exact hK _ _ (Below.refl _ _) rfl
                          refine soup_cons rfl rfl (fun a W hR hS hdep K hK => ?_) ?_
                          · have e117 : a.tmps[117]?.getD undef = .bool false := slot_of (hdep 12 (by decide +kernel))
                            have e115 : a.tmps[115]?.getD undef = .bool true := slot_of (hdep 10 (by decide +kernel))
                            have g115 : a.tmps[115]? = some (.bool true) := slot_at (show _ = 125 from hS.size) (by decide) (hdep 10 (by decide +kernel))
                            go_simp
                            exact hK _ _ (Below.refl _ _) rfl
                          refine soup_cons rfl rfl (fun a W hR hS hdep K hK => ?_) ?_
                          · have e10 : a.tmps[10]?.getD undef = .pointer (some ⟨bp, 0, none⟩) := slot_of (hS.keep 10 (by kernel_rfl))
                            have e118 : a.tmps[118]?.getD undef = .bool false := slot_of (hdep 13 (by decide +kernel))
                            have g118 : a.tmps[118]? = some (.bool false) := slot_at (show _ = 125 from hS.size) (by decide) (hdep 13 (by decide +kernel))
                            have m0 := cell_keep hR HP0.out
                            have m1 := cell_keep hR HP1.out
                            have m2 := cell_keep hR HP2.out
                            have m3 := cell_keep hR HP3.out
                            have m4 := cell_keep hR HP4.out
                            have m5 := cell_keep hR HP5.out
                            have m6 := cell_keep hR HP6.out
                            have m7 := cell_keep hR HP7.out
                            have m8 := cell_keep hR HP8.out
                            have m9 := cell_keep hR HP9.out
                            have m10 := cell_keep hR HP10.out
                            have m11 := cell_keep hR HP11.out
                            have m12 := cell_keep hR HP12.out
                            go_simp
                            exact hK _ _ (Below.refl _ _) (by first | rfl | simp)
                          refine soup_cons rfl rfl (fun a W hR hS hdep K hK => ?_) ?_
                          · have e8 : a.tmps[8]?.getD undef = .pointer (some ⟨bq, 0, none⟩) := slot_of (hS.keep 8 (by kernel_rfl))
                            have e118 : a.tmps[118]?.getD undef = .bool false := slot_of (hdep 13 (by decide +kernel))
                            have g118 : a.tmps[118]? = some (.bool false) := slot_at (show _ = 125 from hS.size) (by decide) (hdep 13 (by decide +kernel))
                            have m0 := cell_keep hR HG0.out
                            have m1 := cell_keep hR HG1.out
                            have m2 := cell_keep hR HG2.out
                            have m3 := cell_keep hR HG3.out
                            have m4 := cell_keep hR HG4.out
                            have m5 := cell_keep hR HG5.out
                            have m6 := cell_keep hR HG6.out
                            have m7 := cell_keep hR HG7.out
                            have m8 := cell_keep hR HG8.out
                            have m9 := cell_keep hR HG9.out
                            have m10 := cell_keep hR HG10.out
                            have m11 := cell_keep hR HG11.out
                            have m12 := cell_keep hR HG12.out
                            go_simp
                            exact hK _ _ (Below.refl _ _) (by first | rfl | simp)
                          refine soup_cons rfl rfl (fun a W hR hS hdep K hK => ?_) ?_
                          · have e119 : a.tmps[119]?.getD undef = .agg #[.slice hp.na hp.nl hp.nc, .int .i64 g2.typ, .int .i64 g2.kind, .int .i64 g2.rank, .int .i64 g2.got, .int .i64 g2.ttl, .slice hp.sa hp.sl hp.sc, .slice hp.za hp.zl hp.zc, .slice hp.d.ba hp.d.bl hp.d.bc, .slice hp.d.ha hp.d.hl hp.d.hc, .slice hp.d.ma hp.d.ml hp.d.mc, .slice hp.d.na hp.d.nl hp.d.nc, .slice hp.d.ta hp.d.tl hp.d.tc] := slot_of (hdep 14 (by decide +kernel))
                            have e120 : a.tmps[120]?.getD undef = .agg #[.slice hq.na hq.nl hq.nc, .int .i64 g.typ, .int .i64 g.kind, .int .i64 g.rank, .int .i64 g.got, .int .i64 g.ttl, .slice hq.sa hq.sl hq.sc, .slice hq.za hq.zl hq.zc, .slice hq.d.ba hq.d.bl hq.d.bc, .slice hq.d.ha hq.d.hl hq.d.hc, .slice hq.d.ma hq.d.ml hq.d.mc, .slice hq.d.na hq.d.nl hq.d.nc, .slice hq.d.ta hq.d.tl hq.d.tc] := slot_of (hdep 15 (by decide +kernel))
                            have e118 : a.tmps[118]?.getD undef = .bool false := slot_of (hdep 13 (by decide +kernel))
                            have g118 : a.tmps[118]? = some (.bool false) := slot_at (show _ = 125 from hS.size) (by decide) (hdep 13 (by decide +kernel))
                            go_simp
                            have hbx := below_on (B := Z.heap.size) (Below.drew (Below.refl _ _)) hR (Nat.le_refl _)
                            refine (HS2.out _ hbx).mono ?_
                            rintro e W' ⟨rfl, hb⟩
                            exact hK _ _ hb rfl
                          refine soup_cons rfl rfl (fun a W hR hS hdep K hK => ?_) ?_
                          · have e121 : a.tmps[121]?.getD undef = .bool true := slot_of (hdep 16 (by decide +kernel))
                            have e118 : a.tmps[118]?.getD undef = .bool false := slot_of (hdep 13 (by decide +kernel))
                            have g118 : a.tmps[118]? = some (.bool false) := slot_at (show _ = 125 from hS.size) (by decide) (hdep 13 (by decide +kernel))
                            go_simp
                            exact hK _ _ (Below.refl _ _) rfl
                          refine soup_cons rfl rfl (fun a W hR hS hdep K hK => ?_) ?_
                          · have e118 : a.tmps[118]?.getD undef = .bool false := slot_of (hdep 13 (by decide +kernel))
                            have e122 : a.tmps[122]?.getD undef = .bool false := slot_of (hdep 17 (by decide +kernel))
                            have e115 : a.tmps[115]?.getD undef = .bool true := slot_of (hdep 10 (by decide +kernel))
                            have g115 : a.tmps[115]? = some (.bool true) := slot_at (show _ = 125 from hS.size) (by decide) (hdep 10 (by decide +kernel))
                            go_simp
                            exact hK _ _ (Below.refl _ _) rfl
                          refine soup_cons rfl rfl (fun a W hR hS hdep K hK => ?_) ?_
                          · have e115 : a.tmps[115]?.getD undef = .bool true := slot_of (hdep 10 (by decide +kernel))
                            have e123 : a.tmps[123]?.getD undef = .bool false := slot_of (hdep 18 (by decide +kernel))
                            go_simp
                            exact hK _ _ (Below.refl _ _) rfl
                          exact fun j h1 h2 => absurd h1 (by simp only [List.size_toArray, List.length_cons, List.length_nil]; omega)
                    | true =>
                      as_aux_lemma =>
                        clear n3 o3 o4 o5
                        have HP0 := Lib.hid (show Z.drew.cell? ⟨bp, 0, none⟩ = some (.slice hp.na hp.nl hp.nc) from HNEW.out.1.cell 0)
                        have HP1 := Lib.hid (show Z.drew.cell? ⟨bp, 1, none⟩ = some (.int .i64 g2.typ) from HNEW.out.1.cell 1)
                        have HP2 := Lib.hid (show Z.drew.cell? ⟨bp, 2, none⟩ = some (.int .i64 g2.kind) from HNEW.out.1.cell 2)
                        have HP3 := Lib.hid (show Z.drew.cell? ⟨bp, 3, none⟩ = some (.int .i64 g2.rank) from HNEW.out.1.cell 3)
                        have HP4 := Lib.hid (show Z.drew.cell? ⟨bp, 4, none⟩ = some (.int .i64 g2.got) from HNEW.out.1.cell 4)
                        have HP5 := Lib.hid (show Z.drew.cell? ⟨bp, 5, none⟩ = some (.int .i64 g2.ttl) from HNEW.out.1.cell 5)
                        have HP6 := Lib.hid (show Z.drew.cell? ⟨bp, 6, none⟩ = some (.slice hp.sa hp.sl hp.sc) from HNEW.out.1.cell 6)
                        have HP7 := Lib.hid (show Z.drew.cell? ⟨bp, 7, none⟩ = some (.slice hp.za hp.zl hp.zc) from HNEW.out.1.cell 7)
                        have HP8 := Lib.hid (show Z.drew.cell? ⟨bp, 8, none⟩ = some (.slice hp.d.ba hp.d.bl hp.d.bc) from HNEW.out.1.cell 8)
                        have HP9 := Lib.hid (show Z.drew.cell? ⟨bp, 9, none⟩ = some (.slice hp.d.ha hp.d.hl hp.d.hc) from HNEW.out.1.cell 9)
                        have HP10 := Lib.hid (show Z.drew.cell? ⟨bp, 10, none⟩ = some (.slice hp.d.ma hp.d.ml hp.d.mc) from HNEW.out.1.cell 10)
                        have HP11 := Lib.hid (show Z.drew.cell? ⟨bp, 11, none⟩ = some (.slice hp.d.na hp.d.nl hp.d.nc) from HNEW.out.1.cell 11)
                        have HP12 := Lib.hid (show Z.drew.cell? ⟨bp, 12, none⟩ = some (.slice hp.d.ta hp.d.tl hp.d.tc) from HNEW.out.1.cell 12)
                        have HG0 := Lib.hid (show Z.drew.cell? ⟨bq, 0, none⟩ = some (.slice hq.na hq.nl hq.nc) from HBO.out.cell 0)
                        have HG1 := Lib.hid (show Z.drew.cell? ⟨bq, 1, none⟩ = some (.int .i64 g.typ) from HBO.out.cell 1)
                        have HG2 := Lib.hid (show Z.drew.cell? ⟨bq, 2, none⟩ = some (.int .i64 g.kind) from HBO.out.cell 2)
                        have HG3 := Lib.hid (show Z.drew.cell? ⟨bq, 3, none⟩ = some (.int .i64 g.rank) from HBO.out.cell 3)
                        have HG4 := Lib.hid (show Z.drew.cell? ⟨bq, 4, none⟩ = some (.int .i64 g.got) from HBO.out.cell 4)
                        have HG5 := Lib.hid (show Z.drew.cell? ⟨bq, 5, none⟩ = some (.int .i64 g.ttl) from HBO.out.cell 5)
                        have HG6 := Lib.hid (show Z.drew.cell? ⟨bq, 6, none⟩ = some (.slice hq.sa hq.sl hq.sc) from HBO.out.cell 6)
                        have HG7 := Lib.hid (show Z.drew.cell? ⟨bq, 7, none⟩ = some (.slice hq.za hq.zl hq.zc) from HBO.out.cell 7)
                        have HG8 := Lib.hid (show Z.drew.cell? ⟨bq, 8, none⟩ = some (.slice hq.d.ba hq.d.bl hq.d.bc) from HBO.out.cell 8)
                        have HG9 := Lib.hid (show Z.drew.cell? ⟨bq, 9, none⟩ = some (.slice hq.d.ha hq.d.hl hq.d.hc) from HBO.out.cell 9)
                        have HG10 := Lib.hid (show Z.drew.cell? ⟨bq, 10, none⟩ = some (.slice hq.d.ma hq.d.ml hq.d.mc) from HBO.out.cell 10)
                        have HG11 := Lib.hid (show Z.drew.cell? ⟨bq, 11, none⟩ = some (.slice hq.d.na hq.d.nl hq.d.nc) from HBO.out.cell 11)
                        have HG12 := Lib.hid (show Z.drew.cell? ⟨bq, 12, none⟩ = some (.slice hq.d.ta hq.d.tl hq.d.tc) from HBO.out.cell 12)
                        have hwz := below_on HY2.out HBZ.out (Nat.le_refl _)
                        have HO0 := Lib.hid (show Z.drew.cell? ⟨b0, off + j * 13, none⟩ = some (.slice h.na h.nl h.nc) from cell_keep (Below.drew hwz) E0.out)
                        have HO1 := Lib.hid (show Z.drew.cell? ⟨b0, off + j * 13 + 1, none⟩ = some (.int .i64 o.typ) from cell_keep (Below.drew hwz) E1.out)
                        have HO2 := Lib.hid (show Z.drew.cell? ⟨b0, off + j * 13 + 2, none⟩ = some (.int .i64 o.kind) from cell_keep (Below.drew hwz) E2.out)
                        have HO3 := Lib.hid (show Z.drew.cell? ⟨b0, off + j * 13 + 3, none⟩ = some (.int .i64 o.rank) from cell_keep (Below.drew hwz) E3.out)
                        have HO4 := Lib.hid (show Z.drew.cell? ⟨b0, off + j * 13 + 4, none⟩ = some (.int .i64 o.got) from cell_keep (Below.drew hwz) E4.out)
                        have HO5 := Lib.hid (show Z.drew.cell? ⟨b0, off + j * 13 + 5, none⟩ = some (.int .i64 o.ttl) from cell_keep (Below.drew hwz) E5.out)
                        have HO6 := Lib.hid (show Z.drew.cell? ⟨b0, off + j * 13 + 6, none⟩ = some (.slice h.sa h.sl h.sc) from cell_keep (Below.drew hwz) E6.out)
                        have HO7 := Lib.hid (show Z.drew.cell? ⟨b0, off + j * 13 + 7, none⟩ = some (.slice h.za h.zl h.zc) from cell_keep (Below.drew hwz) E7.out)
                        have HO8 := Lib.hid (show Z.drew.cell? ⟨b0, off + j * 13 + 8, none⟩ = some (.slice h.d.ba h.d.bl h.d.bc) from cell_keep (Below.drew hwz) E8.out)
                        have HO9 := Lib.hid (show Z.drew.cell? ⟨b0, off + j * 13 + 9, none⟩ = some (.slice h.d.ha h.d.hl h.d.hc) from cell_keep (Below.drew hwz) E9.out)
                        have HO10 := Lib.hid (show Z.drew.cell? ⟨b0, off + j * 13 + 10, none⟩ = some (.slice h.d.ma h.d.ml h.d.mc) from cell_keep (Below.drew hwz) E10.out)
                        have HO11 := Lib.hid (show Z.drew.cell? ⟨b0, off + j * 13 + 11, none⟩ = some (.slice h.d.na h.d.nl h.d.nc) from cell_keep (Below.drew hwz) E11.out)
                        have HO12 := Lib.hid (show Z.drew.cell? ⟨b0, off + j * 13 + 12, none⟩ = some (.slice h.d.ta h.d.tl h.d.tc) from cell_keep (Below.drew hwz) E12.out)
                        clear hwz
                        refine wp_soup0 (m := 125) (by kernel_rfl) (fun x y => Below x.heap.size x y) (fun i v xw => match i with | 0 => v = .bool true | 1 => v = .bool true | 2 => v = .agg #[.slice hp.na hp.nl hp.nc, .int .i64 g2.typ, .int .i64 g2.kind, .int .i64 g2.rank, .int .i64 g2.got, .int .i64 g2.ttl, .slice hp.sa hp.sl hp.sc, .slice hp.za hp.zl hp.zc, .slice hp.d.ba hp.d.bl hp.d.bc, .slice hp.d.ha hp.d.hl hp.d.hc, .slice hp.d.ma hp.d.ml hp.d.mc, .slice hp.d.na hp.d.nl hp.d.nc, .slice hp.d.ta hp.d.tl hp.d.tc] | 3 => v = .slice ((some ⟨b0, off, none⟩)) n c | 4 => v = .int .i64 ((j : Int)) | 5 => v = .pointer (some ⟨b0, off + j * 13, none⟩) | 6 => v = .agg #[.slice h.na h.nl h.nc, .int .i64 o.typ, .int .i64 o.kind, .int .i64 o.rank, .int .i64 o.got, .int .i64 o.ttl, .slice h.sa h.sl h.sc, .slice h.za h.zl h.zc, .slice h.d.ba h.d.bl h.d.bc, .slice h.d.ha h.d.hl h.d.hc, .slice h.d.ma h.d.ml h.d.mc, .slice h.d.na h.d.nl h.d.nc, .slice h.d.ta h.d.tl h.d.tc] | 7 => v = .bool true | 8 => v = .bool false | 9 => v = .bool false | 10 => v = .bool false | 11 => v = undef | 12 => v = undef | 13 => v = undef | 14 => v = undef | 15 => v = undef | 16 => v = undef | 17 => v = undef | 18 => v = undef | 19 => v = .bool false | _ => True) rfl (by kernel_rfl) (fun _ _ _ h1 h2 => below_on h1 h2 (Nat.le_refl _)) (Below.refl _ _) (fun _ _ _ _ h _ => h) (dst_but 20 (by kernel_rfl) (fun _ _ h => h)) ?_ ?_
                        rotate_left
                        · intro a W hR hS hdep
                          have e0 : a.tmps.getD 0 undef = .slice ((some ⟨b0, off, none⟩)) n c := hS.keep 0 (by kernel_rfl)
                          have e1 : a.tmps.getD 1 undef = .int .u8 now := hS.keep 1 (by kernel_rfl)
                          have e5 : a.tmps.getD 5 undef = .pointer (some ⟨C, 0, none⟩) := hS.keep 5 (by kernel_rfl)
                          have e7 : a.tmps.getD 7 undef = .int .i64 ((j : Int)) := hS.keep 7 (by kernel_rfl)
                          have e2 : a.tmps.getD 2 undef = undef := hS.keep 2 (by kernel_rfl)
                          have e3 : a.tmps.getD 3 undef = undef := hS.keep 3 (by kernel_rfl)
                          have e6 : a.tmps.getD 6 undef = .int .i64 0 := hS.keep 6 (by kernel_rfl)
                          have e12 : a.tmps.getD 12 undef = .tuple #[.pointer (some ⟨C, 0, none⟩), .int .i64 0] := hS.keep 12 (by kernel_rfl)
                          have e13 : a.tmps.getD 13 undef = .tuple #[.pointer (some ⟨C, 0, none⟩), .int .i64 0] := hS.keep 13 (by kernel_rfl)
                          have e14 : a.tmps.getD 14 undef = .pointer (some ⟨C, 0, none⟩) := hS.keep 14 (by kernel_rfl)
                          have e15 : a.tmps.getD 15 undef = .int .i64 0 := hS.keep 15 (by kernel_rfl)
                          have e16 : a.tmps.getD 16 undef = .bool true := hS.keep 16 (by kernel_rfl)
                          have e17 : a.tmps.getD 17 undef = .bool false := hS.keep 17 (by kernel_rfl)
                          have e18 : a.tmps.getD 18 undef = .bool false := hS.keep 18 (by kernel_rfl)
                          have e19 : a.tmps.getD 19 undef = .int .i64 0 := hS.keep 19 (by kernel_rfl)
                          have e20 : a.tmps.getD 20 undef = .bool false := hS.keep 20 (by kernel_rfl)
                          have e21 : a.tmps.getD 21 undef = .bool false := hS.keep 21 (by kernel_rfl)
                          have e22 : a.tmps.getD 22 undef = .bool false := hS.keep 22 (by kernel_rfl)
                          have e23 : a.tmps.getD 23 undef = .slice ((some ⟨b0, off, none⟩)) n c := hS.keep 23 (by kernel_rfl)
                          have e24 : a.tmps.getD 24 undef = .int .i64 ((n : Int)) := hS.keep 24 (by kernel_rfl)
                          have e25 : a.tmps.getD 25 undef = .bool (decide (40 < (n : Int))) := hS.keep 25 (by kernel_rfl)
                          have e26 : a.tmps.getD 26 undef = .bool (decide (40 < (n : Int))) := hS.keep 26 (by kernel_rfl)
                          have e27 : a.tmps.getD 27 undef = undef := hS.keep 27 (by kernel_rfl)
                          have e28 : a.tmps.getD 28 undef = undef := hS.keep 28 (by kernel_rfl)
                          have e29 : a.tmps.getD 29 undef = undef := hS.keep 29 (by kernel_rfl)
                          have e30 : a.tmps.getD 30 undef = undef := hS.keep 30 (by kernel_rfl)
                          have e31 : a.tmps.getD 31 undef = undef := hS.keep 31 (by kernel_rfl)
                          have e124 : a.tmps.getD 124 undef = .bool false := hdep 19 (by decide +kernel)
                          obtain ⟨T, df⟩ := a
                          obtain rfl : df = [] := hS.defers
                          have hT : T = #[T.getD 0 undef, T.getD 1 undef, T.getD 2 undef, T.getD 3 undef, T.getD 4 undef, T.getD 5 undef, T.getD 6 undef, T.getD 7 undef, T.getD 8 undef, T.getD 9 undef, T.getD 10 undef, T.getD 11 undef, T.getD 12 undef, T.getD 13 undef, T.getD 14 undef, T.getD 15 undef, T.getD 16 undef, T.getD 17 undef, T.getD 18 undef, T.getD 19 undef, T.getD 20 undef, T.getD 21 undef, T.getD 22 undef, T.getD 23 undef, T.getD 24 undef, T.getD 25 undef, T.getD 26 undef, T.getD 27 undef, T.getD 28 undef, T.getD 29 undef, T.getD 30 undef, T.getD 31 undef, T.getD 32 undef, T.getD 33 undef, T.getD 34 undef, T.getD 35 undef, T.getD 36 undef, T.getD 37 undef, T.getD 38 undef, T.getD 39 undef, T.getD 40 undef, T.getD 41 undef, T.getD 42 undef, T.getD 43 undef, T.getD 44 undef, T.getD 45 undef, T.getD 46 undef, T.getD 47 undef, T.getD 48 undef, T.getD 49 undef, T.getD 50 undef, T.getD 51 undef, T.getD 52 undef, T.getD 53 undef, T.getD 54 undef, T.getD 55 undef, T.getD 56 undef, T.getD 57 undef, T.getD 58 undef, T.getD 59 undef, T.getD 60 undef, T.getD 61 undef, T.getD 62 undef, T.getD 63 undef, T.getD 64 undef, T.getD 65 undef, T.getD 66 undef, T.getD 67 undef, T.getD 68 undef, T.getD 69 undef, T.getD 70 undef, T.getD 71 undef, T.getD 72 undef, T.getD 73 undef, T.getD 74 undef, T.getD 75 undef, T.getD 76 undef, T.getD 77 undef, T.getD 78 undef, T.getD 79 undef, T.getD 80 undef, T.getD 81 undef, T.getD 82 undef, T.getD 83 undef, T.getD 84 undef, T.getD 85 undef, T.getD 86 undef, T.getD 87 undef, T.getD 88 undef, T.getD 89 undef, T.getD 90 undef, T.getD 91 undef, T.getD 92 undef, T.getD 93 undef, T.getD 94 undef, T.getD 95 undef, T.getD 96 undef, T.getD 97 undef, T.getD 98 undef, T.getD 99 undef, T.getD 100 undef, T.getD 101 undef, T.getD 102 undef, T.getD 103 undef, T.getD 104 undef, T.getD 105 undef, T.getD 106 undef, T.getD 107 undef, T.getD 108 undef, T.getD 109 undef, T.getD 110 undef, T.getD 111 undef, T.getD 112 undef, T.getD 113 undef, T.getD 114 undef, T.getD 115 undef, T.getD 116 undef, T.getD 117 undef, T.getD 118 undef, T.getD 119 undef, T.getD 120 undef, T.getD 121 undef, T.getD 122 undef, T.getD 123 undef, T.getD 124 undef] := arr_eta T 125 hS.size
                          have k0 : T.getD 0 undef = .slice ((some ⟨b0, off, none⟩)) n c := e0
                          have k1 : T.getD 1 undef = .int .u8 now := e1
                          have k5 : T.getD 5 undef = .pointer (some ⟨C, 0, none⟩) := e5
                          have k7 : T.getD 7 undef = .int .i64 ((j : Int)) := e7
                          have k2 : T.getD 2 undef = undef := e2
                          have k3 : T.getD 3 undef = undef := e3
                          have k6 : T.getD 6 undef = .int .i64 0 := e6
                          have k12 : T.getD 12 undef = .tuple #[.pointer (some ⟨C, 0, none⟩), .int .i64 0] := e12
                          have k13 : T.getD 13 undef = .tuple #[.pointer (some ⟨C, 0, none⟩), .int .i64 0] := e13
                          have k14 : T.getD 14 undef = .pointer (some ⟨C, 0, none⟩) := e14
                          have k15 : T.getD 15 undef = .int .i64 0 := e15
                          have k16 : T.getD 16 undef = .bool true := e16
                          have k17 : T.getD 17 undef = .bool false := e17
                          have k18 : T.getD 18 undef = .bool false := e18
                          have k19 : T.getD 19 undef = .int .i64 0 := e19
                          have k20 : T.getD 20 undef = .bool false := e20
                          have k21 : T.getD 21 undef = .bool false := e21
                          have k22 : T.getD 22 undef = .bool false := e22
                          have k23 : T.getD 23 undef = .slice ((some ⟨b0, off, none⟩)) n c := e23
                          have k24 : T.getD 24 undef = .int .i64 ((n : Int)) := e24
                          have k25 : T.getD 25 undef = .bool (decide (40 < (n : Int))) := e25
                          have k26 : T.getD 26 undef = .bool (decide (40 < (n : Int))) := e26
                          have k27 : T.getD 27 undef = undef := e27
                          have k28 : T.getD 28 undef = undef := e28
                          have k29 : T.getD 29 undef = undef := e29
                          have k30 : T.getD 30 undef = undef := e30
                          have k31 : T.getD 31 undef = undef := e31
                          have k124 : T.getD 124 undef = .bool false := e124
                          clear hS hdep
                          rw [hT]
                          rw [k0]
                          clear k0 e0
                          rw [k1]
                          clear k1 e1
                          rw [k5]
                          clear k5 e5
                          rw [k7]
                          clear k7 e7
                          rw [k2]
                          clear k2 e2
                          rw [k3]
                          clear k3 e3
                          rw [k6]
                          clear k6 e6
                          rw [k12]
                          clear k12 e12
                          rw [k13]
                          clear k13 e13
                          rw [k14]
                          clear k14 e14
                          rw [k15]
                          clear k15 e15
                          rw [k16]
                          clear k16 e16
                          rw [k17]
                          clear k17 e17
                          rw [k18]
                          clear k18 e18
                          rw [k19]
                          clear k19 e19
                          rw [k20]
                          clear k20 e20
                          rw [k21]
                          clear k21 e21
                          rw [k22]
                          clear k22 e22
                          rw [k23]
                          clear k23 e23
                          rw [k24]
                          clear k24 e24
                          rw [k25]
                          clear k25 e25
                          rw [k26]
                          clear k26 e26
                          rw [k27]
                          clear k27 e27
                          rw [k28]
                          clear k28 e28
                          rw [k29]
                          clear k29 e29
                          rw [k30]
                          clear k30 e30
                          rw [k31]
                          clear k31 e31
                          rw [k124]
                          clear k124 e124
                          clear hT
                          generalize T.getD 4 undef = u4
                          generalize T.getD 8 undef = u8
                          generalize T.getD 9 undef = u9
                          generalize T.getD 10 undef = u10
                          generalize T.getD 11 undef = u11
                          generalize T.getD 32 undef = u32
                          generalize T.getD 33 undef = u33
                          generalize T.getD 34 undef = u34
                          generalize T.getD 35 undef = u35
                          generalize T.getD 36 undef = u36
                          generalize T.getD 37 undef = u37
                          generalize T.getD 38 undef = u38
                          generalize T.getD 39 undef = u39
                          generalize T.getD 40 undef = u40
                          generalize T.getD 41 undef = u41
                          generalize T.getD 42 undef = u42
                          generalize T.getD 43 undef = u43
                          generalize T.getD 44 undef = u44
                          generalize T.getD 45 undef = u45
                          generalize T.getD 46 undef = u46
                          generalize T.getD 47 undef = u47
                          generalize T.getD 48 undef = u48
                          generalize T.getD 49 undef = u49
                          generalize T.getD 50 undef = u50
                          generalize T.getD 51 undef = u51
                          generalize T.getD 52 undef = u52
                          generalize T.getD 53 undef = u53
                          generalize T.getD 54 undef = u54
                          generalize T.getD 55 undef = u55
                          generalize T.getD 56 undef = u56
                          generalize T.getD 57 undef = u57
                          generalize T.getD 58 undef = u58
                          generalize T.getD 59 undef = u59
                          generalize T.getD 60 undef = u60
                          generalize T.getD 61 undef = u61
                          generalize T.getD 62 undef = u62
                          generalize T.getD 63 undef = u63
                          generalize T.getD 64 undef = u64
                          generalize T.getD 65 undef = u65
                          generalize T.getD 66 undef = u66
                          generalize T.getD 67 undef = u67
                          generalize T.getD 68 undef = u68
                          generalize T.getD 69 undef = u69
                          generalize T.getD 70 undef = u70
                          generalize T.getD 71 undef = u71
                          generalize T.getD 72 undef = u72
                          generalize T.getD 73 undef = u73
                          generalize T.getD 74 undef = u74
                          generalize T.getD 75 undef = u75
                          generalize T.getD 76 undef = u76
                          generalize T.getD 77 undef = u77
                          generalize T.getD 78 undef = u78
                          generalize T.getD 79 undef = u79
                          generalize T.getD 80 undef = u80
                          generalize T.getD 81 undef = u81
                          generalize T.getD 82 undef = u82
                          generalize T.getD 83 undef = u83
                          generalize T.getD 84 undef = u84
                          generalize T.getD 85 undef = u85
                          generalize T.getD 86 undef = u86
                          generalize T.getD 87 undef = u87
                          generalize T.getD 88 undef = u88
                          generalize T.getD 89 undef = u89
                          generalize T.getD 90 undef = u90
                          generalize T.getD 91 undef = u91
                          generalize T.getD 92 undef = u92
                          generalize T.getD 93 undef = u93
                          generalize T.getD 94 undef = u94
                          generalize T.getD 95 undef = u95
                          generalize T.getD 96 undef = u96
                          generalize T.getD 97 undef = u97
                          generalize T.getD 98 undef = u98
                          generalize T.getD 99 undef = u99
                          generalize T.getD 100 undef = u100
                          generalize T.getD 101 undef = u101
                          generalize T.getD 102 undef = u102
                          generalize T.getD 103 undef = u103
                          generalize T.getD 104 undef = u104
                          generalize T.getD 105 undef = u105
                          generalize T.getD 106 undef = u106
                          generalize T.getD 107 undef = u107
                          generalize T.getD 108 undef = u108
                          generalize T.getD 109 undef = u109
                          generalize T.getD 110 undef = u110
                          generalize T.getD 111 undef = u111
                          generalize T.getD 112 undef = u112
                          generalize T.getD 113 undef = u113
                          generalize T.getD 114 undef = u114
                          generalize T.getD 115 undef = u115
                          generalize T.getD 116 undef = u116
                          generalize T.getD 117 undef = u117
                          generalize T.getD 118 undef = u118
                          generalize T.getD 119 undef = u119
                          generalize T.getD 120 undef = u120
                          generalize T.getD 121 undef = u121
                          generalize T.getD 122 undef = u122
                          generalize T.getD 123 undef = u123
                          have hbz2 := below_on (B := Z.heap.size) (Below.drew (Below.refl _ _)) hR (Nat.le_refl _)
                          clear hR
                          have HWF := Lib.hid (HFIN.out _ hbz2)
                          clear hbz2
                          go_wp2_with fail
                          go_roundw
                          case rel => exact ⟨j + 1, by omega, by go_num, HWF⟩
                          case measure => simp [intOf]; omega
                        refine soup_cons rfl rfl (fun a W hR hS hdep K hK => ?_) ?_
                        · have e11 : a.tmps[11]?.getD undef = .bool true := slot_of (hS.keep 11 (by kernel_rfl))
                          go_simp
                          exact hK _ _ (Below.refl _ _) (by first | rfl | simp)
                        refine soup_cons rfl rfl (fun a W hR hS hdep K hK => ?_) ?_
                        · have e105 : a.tmps[105]?.getD undef = .bool true := slot_of (hdep 0 (by decide +kernel))
                          go_simp
                          exact hK _ _ (Below.refl _ _) (by first | rfl | simp)
                        refine soup_cons rfl rfl (fun a W hR hS hdep K hK => ?_) ?_
                        · have e10 : a.tmps[10]?.getD undef = .pointer (some ⟨bp, 0, none⟩) := slot_of (hS.keep 10 (by kernel_rfl))
                          have e106 : a.tmps[106]?.getD undef = .bool true := slot_of (hdep 1 (by decide +kernel))
                          have g106 : a.tmps[106]? = some (.bool true) := slot_at (show _ = 125 from hS.size) (by decide) (hdep 1 (by decide +kernel))
                          have m0 := cell_keep hR HP0.out
                          have m1 := cell_keep hR HP1.out
                          have m2 := cell_keep hR HP2.out
                          have m3 := cell_keep hR HP3.out
                          have m4 := cell_keep hR HP4.out
                          have m5 := cell_keep hR HP5.out
                          have m6 := cell_keep hR HP6.out
                          have m7 := cell_keep hR HP7.out
                          have m8 := cell_keep hR HP8.out
                          have m9 := cell_keep hR HP9.out
                          have m10 := cell_keep hR HP10.out
                          have m11 := cell_keep hR HP11.out
                          have m12 := cell_keep hR HP12.out
                          go_simp
                          exact hK _ _ (Below.refl _ _) (by first | rfl | simp)
                        refine soup_cons rfl rfl (fun a W hR hS hdep K hK => ?_) ?_
                        · have e0 : a.tmps[0]?.getD undef = .slice ((some ⟨b0, off, none⟩)) n c := slot_of (hS.keep 0 (by kernel_rfl))
                          have e106 : a.tmps[106]?.getD undef = .bool true := slot_of (hdep 1 (by decide +kernel))
                          have g106 : a.tmps[106]? = some (.bool true) := slot_at (show _ = 125 from hS.size) (by decide) (hdep 1 (by decide +kernel))
                          go_simp
                          exact hK _ _ (Below.refl _ _) (by first | rfl | simp)
                        refine soup_cons rfl rfl (fun a W hR hS hdep K hK => ?_) ?_
                        · have e7 : a.tmps[7]?.getD undef = .int .i64 ((j : Int)) := slot_of (hS.keep 7 (by kernel_rfl))
                          have e106 : a.tmps[106]?.getD undef = .bool true := slot_of (hdep 1 (by decide +kernel))
                          have g106 : a.tmps[106]? = some (.bool true) := slot_at (show _ = 125 from hS.size) (by decide) (hdep 1 (by decide +kernel))
                          go_simp
                          exact hK _ _ (Below.refl _ _) (by first | rfl | simp)
                        refine soup_cons rfl rfl (fun a W hR hS hdep K hK => ?_) ?_
                        · have e108 : a.tmps[108]?.getD undef = .slice ((some ⟨b0, off, none⟩)) n c := slot_of (hdep 3 (by decide +kernel))
                          have e109 : a.tmps[109]?.getD undef = .int .i64 ((j : Int)) := slot_of (hdep 4 (by decide +kernel))
                          have e106 : a.tmps[106]?.getD undef = .bool true := slot_of (hdep 1 (by decide +kernel))
                          have g106 : a.tmps[106]? = some (.bool true) := slot_at (show _ = 125 from hS.size) (by decide) (hdep 1 (by decide +kernel))
                          go_simp
                          exact hK _ _ (Below.refl _ _) (by first | rfl | simp)
                        refine soup_cons rfl rfl (fun a W hR hS hdep K hK => ?_) ?_
                        · have e110 : a.tmps[110]?.getD undef = .pointer (some ⟨b0, off + j * 13, none⟩) := slot_of (hdep 5 (by decide +kernel))
                          have e106 : a.tmps[106]?.getD undef = .bool true := slot_of (hdep 1 (by decide +kernel))
                          have g106 : a.tmps[106]? = some (.bool true) := slot_at (show _ = 125 from hS.size) (by decide) (hdep 1 (by decide +kernel))
                          have m0 := cell_keep hR HO0.out
                          have m1 := cell_keep hR HO1.out
                          have m2 := cell_keep hR HO2.out
                          have m3 := cell_keep hR HO3.out
                          have m4 := cell_keep hR HO4.out
                          have m5 := cell_keep hR HO5.out
                          have m6 := cell_keep hR HO6.out
                          have m7 := cell_keep hR HO7.out
                          have m8 := cell_keep hR HO8.out
                          have m9 := cell_keep hR HO9.out
                          have m10 := cell_keep hR HO10.out
                          have m11 := cell_keep hR HO11.out
                          have m12 := cell_keep hR HO12.out
                          go_simp
                          exact hK _ _ (Below.refl _ _) (by first | rfl | simp)
                        refine soup_cons rfl rfl (fun a W hR hS hdep K hK => ?_) ?_
                        · have e107 : a.tmps[107]?.getD undef = .agg #[.slice hp.na hp.nl hp.nc, .int .i64 g2.typ, .int .i64 g2.kind, .int .i64 g2.rank, .int .i64 g2.got, .int .i64 g2.ttl, .slice hp.sa hp.sl hp.sc, .slice hp.za hp.zl hp.zc, .slice hp.d.ba hp.d.bl hp.d.bc, .slice hp.d.ha hp.d.hl hp.d.hc, .slice hp.d.ma hp.d.ml hp.d.mc, .slice hp.d.na hp.d.nl hp.d.nc, .slice hp.d.ta hp.d.tl hp.d.tc] := slot_of (hdep 2 (by decide +kernel))
                          have e111 : a.tmps[111]?.getD undef = .agg #[.slice h.na h.nl h.nc, .int .i64 o.typ, .int .i64 o.kind, .int .i64 o.rank, .int .i64 o.got, .int .i64 o.ttl, .slice h.sa h.sl h.sc, .slice h.za h.zl h.zc, .slice h.d.ba h.d.bl h.d.bc, .slice h.d.ha h.d.hl h.d.hc, .slice h.d.ma h.d.ml h.d.mc, .slice h.d.na h.d.nl h.d.nc, .slice h.d.ta h.d.tl h.d.tc] := slot_of (hdep 6 (by decide +kernel))
                          have e106 : a.tmps[106]?.getD undef = .bool true := slot_of (hdep 1 (by decide +kernel))
                          have g106 : a.tmps[106]? = some (.bool true) := slot_at (show _ = 125 from hS.size) (by decide) (hdep 1 (by decide +kernel))
                          go_simp
                          have hbx := below_on (B := Z.heap.size) (Below.drew (Below.refl _ _)) hR (Nat.le_refl _)
                          refine (HS1.out _ hbx).mono ?_
                          rintro e W' ⟨rfl, hb⟩
                          exact hK _ _ hb rfl
                        refine soup_cons rfl rfl (fun a W hR hS hdep K hK => ?_) ?_
                        · have e112 : a.tmps[112]?.getD undef = .bool true := slot_of (hdep 7 (by decide +kernel))
                          have e106 : a.tmps[106]?.getD undef = .bool true := slot_of (hdep 1 (by decide +kernel))
                          have g106 : a.tmps[106]? = some (.bool true) := slot_at (show _ = 125 from hS.size) (by decide) (hdep 1 (by decide +kernel))
                          go_simp
                          exact hK _ _ (Below.refl _ _) rfl
                        refine soup_cons rfl rfl (fun a W hR hS hdep K hK => ?_) ?_
                        · have e106 : a.tmps[106]?.getD undef = .bool true := slot_of (hdep 1 (by decide +kernel))
                          have e113 : a.tmps[113]?.getD undef = .bool false := slot_of (hdep 8 (by decide +kernel))
                          go_simp
                          exact hK _ _ (Below.refl _ _) rfl
                        refine soup_cons rfl rfl (fun a W hR hS hdep K hK => ?_) ?_
                        · have e114 : a.tmps[114]?.getD undef = .bool false := slot_of (hdep 9 (by decide +kernel))
                          go_simp
                          exact hK _ _ (Below.refl _ _) rfl
                        refine soup_cons rfl rfl (fun a W hR hS hdep K hK => ?_) ?_
                        · have e115 : a.tmps[115]?.getD undef = .bool false := slot_of (hdep 10 (by decide +kernel))
                          have g115 : a.tmps[115]? = some (.bool false) := slot_at (show _ = 125 from hS.size) (by decide) (hdep 10 (by decide +kernel))
                          go_simp
                          exact hK _ _ (Below.refl _ _) (by first | rfl | simp)
                        refine soup_cons rfl rfl (fun a W hR hS hdep K hK => ?_) ?_
                        · have e115 : a.tmps[115]?.getD undef = .bool false := slot_of (hdep 10 (by decide +kernel))
                          have g115 : a.tmps[115]? = some (.bool false) := slot_at (show _ = 125 from hS.size) (by decide) (hdep 10 (by decide +kernel))
                          go_simp
                          exact hK _ _ (Below.refl _ _) (by first | rfl | simp)
                        refine soup_cons rfl rfl (fun a W hR hS hdep K hK => ?_) ?_
                        · have e115 : a.tmps[115]?.getD undef = .bool false := slot_of (hdep 10 (by decide +kernel))
                          have g115 : a.tmps[115]? = some (.bool false) := slot_at (show _ = 125 from hS.size) (by decide) (hdep 10 (by decide +kernel))
                          go_simp
                          exact hK _ _ (Below.refl _ _) (by first | rfl | simp)
                        refine soup_cons rfl rfl (fun a W hR hS hdep K hK => ?_) ?_
                        · have e118 : a.tmps[118]?.getD undef = undef := slot_of (hdep 13 (by decide +kernel))
                          have g118 : a.tmps[118]? = some (undef) := slot_at (show _ = 125 from hS.size) (by decide) (hdep 13 (by decide +kernel))
                          go_simp
                          exact hK _ _ (Below.refl _ _) (by first | rfl | simp)
                        refine soup_cons rfl rfl (fun a W hR hS hdep K hK => ?_) ?_
                        · have e118 : a.tmps[118]?.getD undef = undef := slot_of (hdep 13 (by decide +kernel))
                          have g118 : a.tmps[118]? = some (undef) := slot_at (show _ = 125 from hS.size) (by decide) (hdep 13 (by decide +kernel))
                          go_simp
                          exact hK _ _ (Below.refl _ _) (by first | rfl | simp)
                        refine soup_cons rfl rfl (fun a W hR hS hdep K hK => ?_) ?_
                        · have e118 : a.tmps[118]?.getD undef = undef := slot_of (hdep 13 (by decide +kernel))
                          have g118 : a.tmps[118]? = some (undef) := slot_at (show _ = 125 from hS.size) (by decide) (hdep 13 (by decide +kernel))
                          go_simp
                          exact hK _ _ (Below.refl _ _) (by first | rfl | simp)
                        refine soup_cons rfl rfl (fun a W hR hS hdep K hK => ?_) ?_
                        · have e118 : a.tmps[118]?.getD undef = undef := slot_of (hdep 13 (by decide +kernel))
                          have g118 : a.tmps[118]? = some (undef) := slot_at (show _ = 125 from hS.size) (by decide) (hdep 13 (by decide +kernel))
                          go_simp
                          exact hK _ _ (Below.refl _ _) (by first | rfl | simp)
                        refine soup_cons rfl rfl (fun a W hR hS hdep K hK => ?_) ?_
                        · have e115 : a.tmps[115]?.getD undef = .bool false := slot_of (hdep 10 (by decide +kernel))
                          have g115 : a.tmps[115]? = some (.bool false) := slot_at (show _ = 125 from hS.size) (by decide) (hdep 10 (by decide +kernel))
                          go_simp
                          exact hK _ _ (Below.refl _ _) (by first | rfl | simp)
                        refine soup_cons rfl rfl (fun a W hR hS hdep K hK => ?_) ?_
                        · have e115 : a.tmps[115]?.getD undef = .bool false := slot_of (hdep 10 (by decide +kernel))
                          have e123 : a.tmps[123]?.getD undef = undef := slot_of (hdep 18 (by decide +kernel))
                          go_simp
                          exact hK _ _ (Below.refl _ _) rfl
                        exact fun j h1 h2 => absurd h1 (by simp only [List.size_toArray, List.length_cons, List.length_nil]; omega)
            clear hK1 hv2 hC2 hk2 hL2 hnx hth2 hg2 hoV hoV2 m0 m1 m2 m3 m4 m5 m6 m7 m8 m9 m10 m11 m12
            refine wp_soup_pend (m := 125) 16 14 (by kernel_rfl) (fun x y => Below x.heap.size x y) (fun i v xw => match i with | 0 => v = .pointer (some ⟨C, 0, none⟩) | 1 => v = .slice ((some ⟨b0, off, none⟩)) n c | 2 => v = .int .i64 ((j : Int)) | 3 => v = .pointer (some ⟨b0, off + j * 13, none⟩) | 4 => v = .pointer (some ⟨b0, off + j * 13, none⟩) | 5 => v = .slice h.na h.nl h.nc | 6 => v = .slice ((some ⟨b0, off, none⟩)) n c | 7 => v = .int .i64 ((j : Int)) | 8 => v = .pointer (some ⟨b0, off + j * 13, none⟩) | 9 => v = .pointer (some ⟨b0, off + j * 13 + 1, none⟩) | 10 => v = .int .i64 o.typ | 11 => ∃ h, v = .tuple #[.agg (factC h g2), .bool th2] ∧ OwnF V2.heap.size xw h g2 | 12 => ∃ h, v = .tuple #[.agg (factC h g2), .bool th2] ∧ OwnF V2.heap.size xw h g2 | 13 => ∃ h, v = .agg (factC h g2) ∧ OwnF V2.heap.size xw h g2 | 14 => v = .bool th2 | 15 => ∃ b, v = .pointer (some ⟨b, 0, none⟩) ∧ V2.heap.size ≤ b ∧ Blk xw b noF 36 | _ => True) rfl (by kernel_rfl) (by kernel_rfl) (fun _ _ _ h1 h2 => below_on h1 h2 (Nat.le_refl _)) (Below.refl _ _) (by intro i v x y h hxy; match i, h with | 0, h => exact h | 1, h => exact h | 2, h => exact h | 3, h => exact h | 4, h => exact h | 5, h => exact h | 6, h => exact h | 7, h => exact h | 8, h => exact h | 9, h => exact h | 10, h => exact h | 11, ⟨h, e, hr⟩ => exact ⟨h, e, hr.on hxy⟩ | 12, ⟨h, e, hr⟩ => exact ⟨h, e, hr.on hxy⟩ | 13, ⟨h, e, hr⟩ => exact ⟨h, e, hr.on hxy⟩ | 14, h => exact h | 15, ⟨b, e, hl, hr⟩ => exact ⟨b, e, hl, hr.on hxy⟩ | _ + 16, _ => trivial) (dst_head (by kernel_rfl)) ?_ ?_
            rotate_left
            · intro a W hR hS hdep
              have e0 : a.tmps.getD 0 undef = .slice ((some ⟨b0, off, none⟩)) n c := hS.keep 0 (by kernel_rfl)
              have e1 : a.tmps.getD 1 undef = .int .u8 now := hS.keep 1 (by kernel_rfl)
              have e5 : a.tmps.getD 5 undef = .pointer (some ⟨C, 0, none⟩) := hS.keep 5 (by kernel_rfl)
              have e7 : a.tmps.getD 7 undef = .int .i64 ((j : Int)) := hS.keep 7 (by kernel_rfl)
              have e8 : a.tmps.getD 8 undef = .pointer (some ⟨bq, 0, none⟩) := hS.keep 8 (by kernel_rfl)
              have e9 : a.tmps.getD 9 undef = .bool th := hS.keep 9 (by kernel_rfl)
              have e2 : a.tmps.getD 2 undef = undef := hS.keep 2 (by kernel_rfl)
              have e3 : a.tmps.getD 3 undef = undef := hS.keep 3 (by kernel_rfl)
              have e6 : a.tmps.getD 6 undef = .int .i64 0 := hS.keep 6 (by kernel_rfl)
              have e12 : a.tmps.getD 12 undef = .tuple #[.pointer (some ⟨C, 0, none⟩), .int .i64 0] := hS.keep 12 (by kernel_rfl)
              have e13 : a.tmps.getD 13 undef = .tuple #[.pointer (some ⟨C, 0, none⟩), .int .i64 0] := hS.keep 13 (by kernel_rfl)
              have e14 : a.tmps.getD 14 undef = .pointer (some ⟨C, 0, none⟩) := hS.keep 14 (by kernel_rfl)
              have e15 : a.tmps.getD 15 undef = .int .i64 0 := hS.keep 15 (by kernel_rfl)
              have e16 : a.tmps.getD 16 undef = .bool true := hS.keep 16 (by kernel_rfl)
              have e17 : a.tmps.getD 17 undef = .bool false := hS.keep 17 (by kernel_rfl)
              have e18 : a.tmps.getD 18 undef = .bool false := hS.keep 18 (by kernel_rfl)
              have e19 : a.tmps.getD 19 undef = .int .i64 0 := hS.keep 19 (by kernel_rfl)
              have e20 : a.tmps.getD 20 undef = .bool false := hS.keep 20 (by kernel_rfl)
              have e21 : a.tmps.getD 21 undef = .bool false := hS.keep 21 (by kernel_rfl)
              have e22 : a.tmps.getD 22 undef = .bool false := hS.keep 22 (by kernel_rfl)
              have e23 : a.tmps.getD 23 undef = .slice ((some ⟨b0, off, none⟩)) n c := hS.keep 23 (by kernel_rfl)
              have e24 : a.tmps.getD 24 undef = .int .i64 ((n : Int)) := hS.keep 24 (by kernel_rfl)
              have e25 : a.tmps.getD 25 undef = .bool (decide (40 < (n : Int))) := hS.keep 25 (by kernel_rfl)
              have e26 : a.tmps.getD 26 undef = .bool (decide (40 < (n : Int))) := hS.keep 26 (by kernel_rfl)
              have e27 : a.tmps.getD 27 undef = undef := hS.keep 27 (by kernel_rfl)
              have e28 : a.tmps.getD 28 undef = undef := hS.keep 28 (by kernel_rfl)
              have e29 : a.tmps.getD 29 undef = undef := hS.keep 29 (by kernel_rfl)
              have e30 : a.tmps.getD 30 undef = undef := hS.keep 30 (by kernel_rfl)
              have e31 : a.tmps.getD 31 undef = undef := hS.keep 31 (by kernel_rfl)
              obtain ⟨hp2, q, rhp2⟩ := hdep 12 (by decide +kernel) (by decide)
              have e68 : a.tmps.getD 68 undef = .tuple #[.agg (factC hp2 g2), .bool th2] := q
              clear q
              obtain ⟨hp3, q, rhp3⟩ := hdep 13 (by decide +kernel) (by decide)
              have e81 : a.tmps.getD 81 undef = .agg (factC hp3 g2) := q
              clear q
              obtain ⟨bp, q, hbp, rbp⟩ := hdep 15 (by decide +kernel) (by decide)
              have e10 : a.tmps.getD 10 undef = .pointer (some ⟨bp, 0, none⟩) := q
              clear q
              obtain ⟨T, df⟩ := a
              obtain rfl : df = [] := hS.defers
              have hT : T = #[T.getD 0 undef, T.getD 1 undef, T.getD 2 undef, T.getD 3 undef, T.getD 4 undef, T.getD 5 undef, T.getD 6 undef, T.getD 7 undef, T.getD 8 undef, T.getD 9 undef, T.getD 10 undef, T.getD 11 undef, T.getD 12 undef, T.getD 13 undef, T.getD 14 undef, T.getD 15 undef, T.getD 16 undef, T.getD 17 undef, T.getD 18 undef, T.getD 19 undef, T.getD 20 undef, T.getD 21 undef, T.getD 22 undef, T.getD 23 undef, T.getD 24 undef, T.getD 25 undef, T.getD 26 undef, T.getD 27 undef, T.getD 28 undef, T.getD 29 undef, T.getD 30 undef, T.getD 31 undef, T.getD 32 undef, T.getD 33 undef, T.getD 34 undef, T.getD 35 undef, T.getD 36 undef, T.getD 37 undef, T.getD 38 undef, T.getD 39 undef, T.getD 40 undef, T.getD 41 undef, T.getD 42 undef, T.getD 43 undef, T.getD 44 undef, T.getD 45 undef, T.getD 46 undef, T.getD 47 undef, T.getD 48 undef, T.getD 49 undef, T.getD 50 undef, T.getD 51 undef, T.getD 52 undef, T.getD 53 undef, T.getD 54 undef, T.getD 55 undef, T.getD 56 undef, T.getD 57 undef, T.getD 58 undef, T.getD 59 undef, T.getD 60 undef, T.getD 61 undef, T.getD 62 undef, T.getD 63 undef, T.getD 64 undef, T.getD 65 undef, T.getD 66 undef, T.getD 67 undef, T.getD 68 undef, T.getD 69 undef, T.getD 70 undef, T.getD 71 undef, T.getD 72 undef, T.getD 73 undef, T.getD 74 undef, T.getD 75 undef, T.getD 76 undef, T.getD 77 undef, T.getD 78 undef, T.getD 79 undef, T.getD 80 undef, T.getD 81 undef, T.getD 82 undef, T.getD 83 undef, T.getD 84 undef, T.getD 85 undef, T.getD 86 undef, T.getD 87 undef, T.getD 88 undef, T.getD 89 undef, T.getD 90 undef, T.getD 91 undef, T.getD 92 undef, T.getD 93 undef, T.getD 94 undef, T.getD 95 undef, T.getD 96 undef, T.getD 97 undef, T.getD 98 undef, T.getD 99 undef, T.getD 100 undef, T.getD 101 undef, T.getD 102 undef, T.getD 103 undef, T.getD 104 undef, T.getD 105 undef, T.getD 106 undef, T.getD 107 undef, T.getD 108 undef, T.getD 109 undef, T.getD 110 undef, T.getD 111 undef, T.getD 112 undef, T.getD 113 undef, T.getD 114 undef, T.getD 115 undef, T.getD 116 undef, T.getD 117 undef, T.getD 118 undef, T.getD 119 undef, T.getD 120 undef, T.getD 121 undef, T.getD 122 undef, T.getD 123 undef, T.getD 124 undef] := arr_eta T 125 hS.size
              have k0 : T.getD 0 undef = .slice ((some ⟨b0, off, none⟩)) n c := e0
              have k1 : T.getD 1 undef = .int .u8 now := e1
              have k5 : T.getD 5 undef = .pointer (some ⟨C, 0, none⟩) := e5
              have k7 : T.getD 7 undef = .int .i64 ((j : Int)) := e7
              have k8 : T.getD 8 undef = .pointer (some ⟨bq, 0, none⟩) := e8
              have k9 : T.getD 9 undef = .bool th := e9
              have k2 : T.getD 2 undef = undef := e2
              have k3 : T.getD 3 undef = undef := e3
              have k6 : T.getD 6 undef = .int .i64 0 := e6
              have k12 : T.getD 12 undef = .tuple #[.pointer (some ⟨C, 0, none⟩), .int .i64 0] := e12
              have k13 : T.getD 13 undef = .tuple #[.pointer (some ⟨C, 0, none⟩), .int .i64 0] := e13
              have k14 : T.getD 14 undef = .pointer (some ⟨C, 0, none⟩) := e14
              have k15 : T.getD 15 undef = .int .i64 0 := e15
              have k16 : T.getD 16 undef = .bool true := e16
              have k17 : T.getD 17 undef = .bool false := e17
              have k18 : T.getD 18 undef = .bool false := e18
              have k19 : T.getD 19 undef = .int .i64 0 := e19
              have k20 : T.getD 20 undef = .bool false := e20
              have k21 : T.getD 21 undef = .bool false := e21
              have k22 : T.getD 22 undef = .bool false := e22
              have k23 : T.getD 23 undef = .slice ((some ⟨b0, off, none⟩)) n c := e23
              have k24 : T.getD 24 undef = .int .i64 ((n : Int)) := e24
              have k25 : T.getD 25 undef = .bool (decide (40 < (n : Int))) := e25
              have k26 : T.getD 26 undef = .bool (decide (40 < (n : Int))) := e26
              have k27 : T.getD 27 undef = undef := e27
              have k28 : T.getD 28 undef = undef := e28
              have k29 : T.getD 29 undef = undef := e29
              have k30 : T.getD 30 undef = undef := e30
              have k31 : T.getD 31 undef = undef := e31
              have k68 : T.getD 68 undef = .tuple #[.agg (factC hp2 g2), .bool th2] := e68
              have k81 : T.getD 81 undef = .agg (factC hp3 g2) := e81
              have k10 : T.getD 10 undef = .pointer (some ⟨bp, 0, none⟩) := e10
              clear hS hdep
              rw [hT]
              rw [k0]
              clear k0 e0
              rw [k1]
              clear k1 e1
              rw [k5]
              clear k5 e5
              rw [k7]
              clear k7 e7
              rw [k8]
              clear k8 e8
              rw [k9]
              clear k9 e9
              rw [k2]
              clear k2 e2
              rw [k3]
              clear k3 e3
              rw [k6]
              clear k6 e6
              rw [k12]
              clear k12 e12
              rw [k13]
              clear k13 e13
              rw [k14]
              clear k14 e14
              rw [k15]
              clear k15 e15
              rw [k16]
              clear k16 e16
              rw [k17]
              clear k17 e17
              rw [k18]
              clear k18 e18
              rw [k19]
              clear k19 e19
              rw [k20]
              clear k20 e20
              rw [k21]
              clear k21 e21
              rw [k22]
              clear k22 e22
              rw [k23]
              clear k23 e23
              rw [k24]
              clear k24 e24
              rw [k25]
              clear k25 e25
              rw [k26]
              clear k26 e26
              rw [k27]
              clear k27 e27
              rw [k28]
              clear k28 e28
              rw [k29]
              clear k29 e29
              rw [k30]
              clear k30 e30
              rw [k31]
              clear k31 e31
              rw [k68]
              clear k68 e68
              rw [k81]
              clear k81 e81
              rw [k10]
              clear k10 e10
              clear hT
              generalize T.getD 4 undef = u4
              generalize T.getD 11 undef = u11
              generalize T.getD 32 undef = u32
              generalize T.getD 33 undef = u33
              generalize T.getD 34 undef = u34
              generalize T.getD 35 undef = u35
              generalize T.getD 36 undef = u36
              generalize T.getD 37 undef = u37
              generalize T.getD 38 undef = u38
              generalize T.getD 39 undef = u39
              generalize T.getD 40 undef = u40
              generalize T.getD 41 undef = u41
              generalize T.getD 42 undef = u42
              generalize T.getD 43 undef = u43
              generalize T.getD 44 undef = u44
              generalize T.getD 45 undef = u45
              generalize T.getD 46 undef = u46
              generalize T.getD 47 undef = u47
              generalize T.getD 48 undef = u48
              generalize T.getD 49 undef = u49
              generalize T.getD 50 undef = u50
              generalize T.getD 51 undef = u51
              generalize T.getD 52 undef = u52
              generalize T.getD 53 undef = u53
              generalize T.getD 54 undef = u54
              generalize T.getD 55 undef = u55
              generalize T.getD 56 undef = u56
              generalize T.getD 57 undef = u57
              generalize T.getD 58 undef = u58
              generalize T.getD 59 undef = u59
              generalize T.getD 60 undef = u60
              generalize T.getD 61 undef = u61
              generalize T.getD 62 undef = u62
              generalize T.getD 63 undef = u63
              generalize T.getD 64 undef = u64
              generalize T.getD 65 undef = u65
              generalize T.getD 66 undef = u66
              generalize T.getD 67 undef = u67
              generalize T.getD 69 undef = u69
              generalize T.getD 70 undef = u70
              generalize T.getD 71 undef = u71
              generalize T.getD 72 undef = u72
              generalize T.getD 73 undef = u73
              generalize T.getD 74 undef = u74
              generalize T.getD 75 undef = u75
              generalize T.getD 76 undef = u76
              generalize T.getD 77 undef = u77
              generalize T.getD 78 undef = u78
              generalize T.getD 79 undef = u79
              generalize T.getD 80 undef = u80
              generalize T.getD 82 undef = u82
              generalize T.getD 83 undef = u83
              generalize T.getD 84 undef = u84
              generalize T.getD 85 undef = u85
              generalize T.getD 86 undef = u86
              generalize T.getD 87 undef = u87
              generalize T.getD 88 undef = u88
              generalize T.getD 89 undef = u89
              generalize T.getD 90 undef = u90
              generalize T.getD 91 undef = u91
              generalize T.getD 92 undef = u92
              generalize T.getD 93 undef = u93
              generalize T.getD 94 undef = u94
              generalize T.getD 95 undef = u95
              generalize T.getD 96 undef = u96
              generalize T.getD 97 undef = u97
              generalize T.getD 98 undef = u98
              generalize T.getD 99 undef = u99
              generalize T.getD 100 undef = u100
              generalize T.getD 101 undef = u101
              generalize T.getD 102 undef = u102
              generalize T.getD 103 undef = u103
              generalize T.getD 104 undef = u104
              generalize T.getD 105 undef = u105
              generalize T.getD 106 undef = u106
              generalize T.getD 107 undef = u107
              generalize T.getD 108 undef = u108
              generalize T.getD 109 undef = u109
              generalize T.getD 110 undef = u110
              generalize T.getD 111 undef = u111
              generalize T.getD 112 undef = u112
              generalize T.getD 113 undef = u113
              generalize T.getD 114 undef = u114
              generalize T.getD 115 undef = u115
              generalize T.getD 116 undef = u116
              generalize T.getD 117 undef = u117
              generalize T.getD 118 undef = u118
              generalize T.getD 119 undef = u119
              generalize T.getD 120 undef = u120
              generalize T.getD 121 undef = u121
              generalize T.getD 122 undef = u122
              generalize T.getD 123 undef = u123
              generalize T.getD 124 undef = u124
              have hbx := below_on (B := V2.heap.size) (Below.drew (Below.refl _ _)) hR (Nat.le_refl _)
              clear hR
              simp only [List.filterMap_cons, List.filterMap_nil, List.getElem?_toArray, List.getElem?_cons_succ, List.getElem?_cons_zero]
              have hbz : Below V2.heap.size V2 (W.setRow bp (factC hp3 g2)) := hbx.grown (but_setRow W bp _) hbx.size (fun k e => by cases e; exact hbp)
              have hoz := rhp3.step ((Same.but (but_setRow W bp (factC hp3 g2)) rbp (by decide)).mono (fun b _ ht => ht.1))
              have hqz := blk_setRow rbp (factC hp3 g2)
              refine ⟨fun hp => ?_, ?_⟩
              · have e58 : u82 = .bool th2 := hp
                subst e58
                clear hp
                refine wpList_store_row rfl 36 _ _ rfl bp (factC hp3 g2) rfl rfl 36 noF rbp factSize rfl (factC_all hp3 g2) ?_
                go_wp2_with fail
                exact HR12.out _ _ bp hp3 rfl rfl rfl rfl rfl rfl rfl rfl rfl rfl rfl rfl rfl rfl rfl rfl rfl rfl rfl rfl rfl rfl rfl rfl rfl rfl rfl rfl rfl rfl rfl rfl hbz hbp hqz hoz
              · refine wpList_store_row rfl 36 _ _ rfl bp (factC hp3 g2) rfl rfl 36 noF rbp factSize rfl (factC_all hp3 g2) ?_
                go_wp2_with fail
                exact HR12.out _ _ bp hp3 rfl rfl rfl rfl rfl rfl rfl rfl rfl rfl rfl rfl rfl rfl rfl rfl rfl rfl rfl rfl rfl rfl rfl rfl rfl rfl rfl rfl rfl rfl rfl rfl hbz hbp hqz hoz
            refine soup_cons rfl rfl (fun a W hR hS hdep K hK => ?_) ?_
            · have e5 : a.tmps[5]?.getD undef = .pointer (some ⟨C, 0, none⟩) := slot_of (hS.keep 5 (by kernel_rfl))
              go_simp
              exact hK _ _ (Below.refl _ _) (by first | rfl | simp)
            refine soup_cons rfl rfl (fun a W hR hS hdep K hK => ?_) ?_
            · have e0 : a.tmps[0]?.getD undef = .slice ((some ⟨b0, off, none⟩)) n c := slot_of (hS.keep 0 (by kernel_rfl))
              go_simp
              exact hK _ _ (Below.refl _ _) (by first | rfl | simp)
            refine soup_cons rfl rfl (fun a W hR hS hdep K hK => ?_) ?_
            · have e7 : a.tmps[7]?.getD undef = .int .i64 ((j : Int)) := slot_of (hS.keep 7 (by kernel_rfl))
              go_simp
              exact hK _ _ (Below.refl _ _) (by first | rfl | simp)
            refine soup_cons rfl rfl (fun a W hR hS hdep K hK => ?_) ?_
            · have e70 : a.tmps[70]?.getD undef = .slice ((some ⟨b0, off, none⟩)) n c := slot_of (hdep 1 (by decide +kernel))
              have e71 : a.tmps[71]?.getD undef = .int .i64 ((j : Int)) := slot_of (hdep 2 (by decide +kernel))
              go_simp
              exact hK _ _ (Below.refl _ _) (by first | rfl | simp)
            refine soup_cons rfl rfl (fun a W hR hS hdep K hK => ?_) ?_
            · have e72 : a.tmps[72]?.getD undef = .pointer (some ⟨b0, off + j * 13, none⟩) := slot_of (hdep 3 (by decide +kernel))
              go_simp
              exact hK _ _ (Below.refl _ _) (by first | rfl | simp)
            refine soup_cons rfl rfl (fun a W hR hS hdep K hK => ?_) ?_
            · have e73 : a.tmps[73]?.getD undef = .pointer (some ⟨b0, off + j * 13, none⟩) := slot_of (hdep 4 (by decide +kernel))
              have m0 := cell_keep hR HQ2.out
              go_simp
              exact hK _ _ (Below.refl _ _) (by first | rfl | simp)
            refine soup_cons rfl rfl (fun a W hR hS hdep K hK => ?_) ?_
            · have e0 : a.tmps[0]?.getD undef = .slice ((some ⟨b0, off, none⟩)) n c := slot_of (hS.keep 0 (by kernel_rfl))
              go_simp
              exact hK _ _ (Below.refl _ _) (by first | rfl | simp)
            refine soup_cons rfl rfl (fun a W hR hS hdep K hK => ?_) ?_
            · have e7 : a.tmps[7]?.getD undef = .int .i64 ((j : Int)) := slot_of (hS.keep 7 (by kernel_rfl))
              go_simp
              exact hK _ _ (Below.refl _ _) (by first | rfl | simp)
            refine soup_cons rfl rfl (fun a W hR hS hdep K hK => ?_) ?_
            · have e75 : a.tmps[75]?.getD undef = .slice ((some ⟨b0, off, none⟩)) n c := slot_of (hdep 6 (by decide +kernel))
              have e76 : a.tmps[76]?.getD undef = .int .i64 ((j : Int)) := slot_of (hdep 7 (by decide +kernel))
              go_simp
              exact hK _ _ (Below.refl _ _) (by first | rfl | simp)
            refine soup_cons rfl rfl (fun a W hR hS hdep K hK => ?_) ?_
            · have e77 : a.tmps[77]?.getD undef = .pointer (some ⟨b0, off + j * 13, none⟩) := slot_of (hdep 8 (by decide +kernel))
              go_simp
              exact hK _ _ (Below.refl _ _) (by first | rfl | simp)
            refine soup_cons rfl rfl (fun a W hR hS hdep K hK => ?_) ?_
            · have e78 : a.tmps[78]?.getD undef = .pointer (some ⟨b0, off + j * 13 + 1, none⟩) := slot_of (hdep 9 (by decide +kernel))
              have m0 := cell_keep hR HQ3.out
              go_simp
              exact hK _ _ (Below.refl _ _) (by first | rfl | simp)
            refine soup_cons rfl rfl (fun a W hR hS hdep K hK => ?_) ?_
            · have e69 : a.tmps[69]?.getD undef = .pointer (some ⟨C, 0, none⟩) := slot_of (hdep 0 (by decide +kernel))
              have e74 : a.tmps[74]?.getD undef = .slice h.na h.nl h.nc := slot_of (hdep 5 (by decide +kernel))
              have e79 : a.tmps[79]?.getD undef = .int .i64 o.typ := slot_of (hdep 10 (by decide +kernel))
              go_simp
              have hbx := below_on (B := V2.heap.size) (Below.drew (Below.refl _ _)) hR (Nat.le_refl _)
              refine (HLK2.out _ hbx).mono ?_
              rintro e W' ⟨⟨hp, rfl, ho⟩, hb⟩
              exact hK _ _ hb ⟨hp, rfl, ho⟩
            refine soup_cons rfl rfl (fun a W hR hS hdep K hK => ?_) ?_
            · obtain ⟨hp1, q, rhp1⟩ := hdep 11 (by decide +kernel)
              have e80 : a.tmps[80]?.getD undef = .tuple #[.agg (factC hp1 g2), .bool th2] := slot_of q
              clear q
              go_simp
              exact hK _ _ (Below.refl _ _) ⟨hp1, rfl, rhp1⟩
            refine soup_cons rfl rfl (fun a W hR hS hdep K hK => ?_) ?_
            · obtain ⟨hp2, q, rhp2⟩ := hdep 12 (by decide +kernel)
              have e68 : a.tmps[68]?.getD undef = .tuple #[.agg (factC hp2 g2), .bool th2] := slot_of q
              clear q
              go_simp
              exact hK _ _ (Below.refl _ _) ⟨hp2, rfl, rhp2⟩
            refine soup_cons rfl rfl (fun a W hR hS hdep K hK => ?_) ?_
            · obtain ⟨hp2, q, rhp2⟩ := hdep 12 (by decide +kernel)
              have e68 : a.tmps[68]?.getD undef = .tuple #[.agg (factC hp2 g2), .bool th2] := slot_of q
              clear q
              go_simp
              exact hK _ _ (Below.refl _ _) rfl
            refine soup_cons rfl rfl (fun a W hR hS hdep K hK => ?_) ?_
            · go_simp
              have hbx := below_on (B := V2.heap.size) (Below.drew (Below.refl _ _)) hR (Nat.le_refl _)
              exact hK _ _ ((Below.refl _ _).alloc (Nat.le_refl _) _) ⟨_, rfl, hbx.size, heap_alloc_new _ _⟩
            exact fun j h1 h2 => absurd h1 (by omega)
        clear hK0 hlb hnl hwy hby hth hg m0 m1 m2 m3 m4 m5 m6 m7 m8 m9 m10 m11 m12
        refine wp_soup_pend (m := 125) 16 14 (by kernel_rfl) (fun x y => Below x.heap.size x y) (fun i v xw => match i with | 0 => v = .pointer (some ⟨C, 0, none⟩) | 1 => v = .slice ((some ⟨b0, off, none⟩)) n c | 2 => v = .int .i64 ((j : Int)) | 3 => v = .pointer (some ⟨b0, off + j * 13, none⟩) | 4 => v = .pointer (some ⟨b0, off + j * 13, none⟩) | 5 => v = .slice h.na h.nl h.nc | 6 => v = .slice ((some ⟨b0, off, none⟩)) n c | 7 => v = .int .i64 ((j : Int)) | 8 => v = .pointer (some ⟨b0, off + j * 13, none⟩) | 9 => v = .pointer (some ⟨b0, off + j * 13 + 1, none⟩) | 10 => v = .int .i64 o.typ | 11 => ∃ h, v = .tuple #[.agg (factC h g), .bool th] ∧ OwnF Y.heap.size xw h g | 12 => ∃ h, v = .tuple #[.agg (factC h g), .bool th] ∧ OwnF Y.heap.size xw h g | 13 => ∃ h, v = .agg (factC h g) ∧ OwnF Y.heap.size xw h g | 14 => v = .bool th | 15 => ∃ b, v = .pointer (some ⟨b, 0, none⟩) ∧ Y.heap.size ≤ b ∧ Blk xw b noF 36 | _ => True) rfl (by kernel_rfl) (by kernel_rfl) (fun _ _ _ h1 h2 => below_on h1 h2 (Nat.le_refl _)) (Below.refl _ _) (by intro i v x y h hxy; match i, h with | 0, h => exact h | 1, h => exact h | 2, h => exact h | 3, h => exact h | 4, h => exact h | 5, h => exact h | 6, h => exact h | 7, h => exact h | 8, h => exact h | 9, h => exact h | 10, h => exact h | 11, ⟨h, e, hr⟩ => exact ⟨h, e, hr.on hxy⟩ | 12, ⟨h, e, hr⟩ => exact ⟨h, e, hr.on hxy⟩ | 13, ⟨h, e, hr⟩ => exact ⟨h, e, hr.on hxy⟩ | 14, h => exact h | 15, ⟨b, e, hl, hr⟩ => exact ⟨b, e, hl, hr.on hxy⟩ | _ + 16, _ => trivial) (dst_head (by kernel_rfl)) ?_ ?_
        rotate_left
        · intro a W hR hS hdep
          have e0 : a.tmps.getD 0 undef = .slice ((some ⟨b0, off, none⟩)) n c := hS.keep 0 (by kernel_rfl)
          have e1 : a.tmps.getD 1 undef = .int .u8 now := hS.keep 1 (by kernel_rfl)
          have e5 : a.tmps.getD 5 undef = .pointer (some ⟨C, 0, none⟩) := hS.keep 5 (by kernel_rfl)
          have e7 : a.tmps.getD 7 undef = .int .i64 ((j : Int)) := hS.keep 7 (by kernel_rfl)
          have e2 : a.tmps.getD 2 undef = undef := hS.keep 2 (by kernel_rfl)
          have e3 : a.tmps.getD 3 undef = undef := hS.keep 3 (by kernel_rfl)
          have e6 : a.tmps.getD 6 undef = .int .i64 0 := hS.keep 6 (by kernel_rfl)
          have e12 : a.tmps.getD 12 undef = .tuple #[.pointer (some ⟨C, 0, none⟩), .int .i64 0] := hS.keep 12 (by kernel_rfl)
          have e13 : a.tmps.getD 13 undef = .tuple #[.pointer (some ⟨C, 0, none⟩), .int .i64 0] := hS.keep 13 (by kernel_rfl)
          have e14 : a.tmps.getD 14 undef = .pointer (some ⟨C, 0, none⟩) := hS.keep 14 (by kernel_rfl)
          have e15 : a.tmps.getD 15 undef = .int .i64 0 := hS.keep 15 (by kernel_rfl)
          have e16 : a.tmps.getD 16 undef = .bool true := hS.keep 16 (by kernel_rfl)
          have e17 : a.tmps.getD 17 undef = .bool false := hS.keep 17 (by kernel_rfl)
          have e18 : a.tmps.getD 18 undef = .bool false := hS.keep 18 (by kernel_rfl)
          have e19 : a.tmps.getD 19 undef = .int .i64 0 := hS.keep 19 (by kernel_rfl)
          have e20 : a.tmps.getD 20 undef = .bool false := hS.keep 20 (by kernel_rfl)
          have e21 : a.tmps.getD 21 undef = .bool false := hS.keep 21 (by kernel_rfl)
          have e22 : a.tmps.getD 22 undef = .bool false := hS.keep 22 (by kernel_rfl)
          have e23 : a.tmps.getD 23 undef = .slice ((some ⟨b0, off, none⟩)) n c := hS.keep 23 (by kernel_rfl)
          have e24 : a.tmps.getD 24 undef = .int .i64 ((n : Int)) := hS.keep 24 (by kernel_rfl)
          have e25 : a.tmps.getD 25 undef = .bool (decide (40 < (n : Int))) := hS.keep 25 (by kernel_rfl)
          have e26 : a.tmps.getD 26 undef = .bool (decide (40 < (n : Int))) := hS.keep 26 (by kernel_rfl)
          have e27 : a.tmps.getD 27 undef = undef := hS.keep 27 (by kernel_rfl)
          have e28 : a.tmps.getD 28 undef = undef := hS.keep 28 (by kernel_rfl)
          have e29 : a.tmps.getD 29 undef = undef := hS.keep 29 (by kernel_rfl)
          have e30 : a.tmps.getD 30 undef = undef := hS.keep 30 (by kernel_rfl)
          have e31 : a.tmps.getD 31 undef = undef := hS.keep 31 (by kernel_rfl)
          obtain ⟨hq2, q, rhq2⟩ := hdep 12 (by decide +kernel) (by decide)
          have e44 : a.tmps.getD 44 undef = .tuple #[.agg (factC hq2 g), .bool th] := q
          clear q
          obtain ⟨hq3, q, rhq3⟩ := hdep 13 (by decide +kernel) (by decide)
          have e57 : a.tmps.getD 57 undef = .agg (factC hq3 g) := q
          clear q
          obtain ⟨bq, q, hbq, rbq⟩ := hdep 15 (by decide +kernel) (by decide)
          have e8 : a.tmps.getD 8 undef = .pointer (some ⟨bq, 0, none⟩) := q
          clear q
          obtain ⟨T, df⟩ := a
          obtain rfl : df = [] := hS.defers
          have hT : T = #[T.getD 0 undef, T.getD 1 undef, T.getD 2 undef, T.getD 3 undef, T.getD 4 undef, T.getD 5 undef, T.getD 6 undef, T.getD 7 undef, T.getD 8 undef, T.getD 9 undef, T.getD 10 undef, T.getD 11 undef, T.getD 12 undef, T.getD 13 undef, T.getD 14 undef, T.getD 15 undef, T.getD 16 undef, T.getD 17 undef, T.getD 18 undef, T.getD 19 undef, T.getD 20 undef, T.getD 21 undef, T.getD 22 undef, T.getD 23 undef, T.getD 24 undef, T.getD 25 undef, T.getD 26 undef, T.getD 27 undef, T.getD 28 undef, T.getD 29 undef, T.getD 30 undef, T.getD 31 undef, T.getD 32 undef, T.getD 33 undef, T.getD 34 undef, T.getD 35 undef, T.getD 36 undef, T.getD 37 undef, T.getD 38 undef, T.getD 39 undef, T.getD 40 undef, T.getD 41 undef, T.getD 42 undef, T.getD 43 undef, T.getD 44 undef, T.getD 45 undef, T.getD 46 undef, T.getD 47 undef, T.getD 48 undef, T.getD 49 undef, T.getD 50 undef, T.getD 51 undef, T.getD 52 undef, T.getD 53 undef, T.getD 54 undef, T.getD 55 undef, T.getD 56 undef, T.getD 57 undef, T.getD 58 undef, T.getD 59 undef, T.getD 60 undef, T.getD 61 undef, T.getD 62 undef, T.getD 63 undef, T.getD 64 undef, T.getD 65 undef, T.getD 66 undef, T.getD 67 undef, T.getD 68 undef, T.getD 69 undef, T.getD 70 undef, T.getD 71 undef, T.getD 72 undef, T.getD 73 undef, T.getD 74 undef, T.getD 75 undef, T.getD 76 undef, T.getD 77 undef, T.getD 78 undef, T.getD 79 undef, T.getD 80 undef, T.getD 81 undef, T.getD 82 undef, T.getD 83 undef, T.getD 84 undef, T.getD 85 undef, T.getD 86 undef, T.getD 87 undef, T.getD 88 undef, T.getD 89 undef, T.getD 90 undef, T.getD 91 undef, T.getD 92 undef, T.getD 93 undef, T.getD 94 undef, T.getD 95 undef, T.getD 96 undef, T.getD 97 undef, T.getD 98 undef, T.getD 99 undef, T.getD 100 undef, T.getD 101 undef, T.getD 102 undef, T.getD 103 undef, T.getD 104 undef, T.getD 105 undef, T.getD 106 undef, T.getD 107 undef, T.getD 108 undef, T.getD 109 undef, T.getD 110 undef, T.getD 111 undef, T.getD 112 undef, T.getD 113 undef, T.getD 114 undef, T.getD 115 undef, T.getD 116 undef, T.getD 117 undef, T.getD 118 undef, T.getD 119 undef, T.getD 120 undef, T.getD 121 undef, T.getD 122 undef, T.getD 123 undef, T.getD 124 undef] := arr_eta T 125 hS.size
          have k0 : T.getD 0 undef = .slice ((some ⟨b0, off, none⟩)) n c := e0
          have k1 : T.getD 1 undef = .int .u8 now := e1
          have k5 : T.getD 5 undef = .pointer (some ⟨C, 0, none⟩) := e5
          have k7 : T.getD 7 undef = .int .i64 ((j : Int)) := e7
          have k2 : T.getD 2 undef = undef := e2
          have k3 : T.getD 3 undef = undef := e3
          have k6 : T.getD 6 undef = .int .i64 0 := e6
          have k12 : T.getD 12 undef = .tuple #[.pointer (some ⟨C, 0, none⟩), .int .i64 0] := e12
          have k13 : T.getD 13 undef = .tuple #[.pointer (some ⟨C, 0, none⟩), .int .i64 0] := e13
          have k14 : T.getD 14 undef = .pointer (some ⟨C, 0, none⟩) := e14
          have k15 : T.getD 15 undef = .int .i64 0 := e15
          have k16 : T.getD 16 undef = .bool true := e16
          have k17 : T.getD 17 undef = .bool false := e17
          have k18 : T.getD 18 undef = .bool false := e18
          have k19 : T.getD 19 undef = .int .i64 0 := e19
          have k20 : T.getD 20 undef = .bool false := e20
          have k21 : T.getD 21 undef = .bool false := e21
          have k22 : T.getD 22 undef = .bool false := e22
          have k23 : T.getD 23 undef = .slice ((some ⟨b0, off, none⟩)) n c := e23
          have k24 : T.getD 24 undef = .int .i64 ((n : Int)) := e24
          have k25 : T.getD 25 undef = .bool (decide (40 < (n : Int))) := e25
          have k26 : T.getD 26 undef = .bool (decide (40 < (n : Int))) := e26
          have k27 : T.getD 27 undef = undef := e27
          have k28 : T.getD 28 undef = undef := e28
          have k29 : T.getD 29 undef = undef := e29
          have k30 : T.getD 30 undef = undef := e30
          have k31 : T.getD 31 undef = undef := e31
          have k44 : T.getD 44 undef = .tuple #[.agg (factC hq2 g), .bool th] := e44
          have k57 : T.getD 57 undef = .agg (factC hq3 g) := e57
          have k8 : T.getD 8 undef = .pointer (some ⟨bq, 0, none⟩) := e8
          clear hS hdep
          rw [hT]
          rw [k0]
          clear k0 e0
          rw [k1]
          clear k1 e1
          rw [k5]
          clear k5 e5
          rw [k7]
          clear k7 e7
          rw [k2]
          clear k2 e2
          rw [k3]
          clear k3 e3
          rw [k6]
          clear k6 e6
          rw [k12]
          clear k12 e12
          rw [k13]
          clear k13 e13
          rw [k14]
          clear k14 e14
          rw [k15]
          clear k15 e15
          rw [k16]
          clear k16 e16
          rw [k17]
          clear k17 e17
          rw [k18]
          clear k18 e18
          rw [k19]
          clear k19 e19
          rw [k20]
          clear k20 e20
          rw [k21]
          clear k21 e21
          rw [k22]
          clear k22 e22
          rw [k23]
          clear k23 e23
          rw [k24]
          clear k24 e24
          rw [k25]
          clear k25 e25
          rw [k26]
          clear k26 e26
          rw [k27]
          clear k27 e27
          rw [k28]
          clear k28 e28
          rw [k29]
          clear k29 e29
          rw [k30]
          clear k30 e30
          rw [k31]
          clear k31 e31
          rw [k44]
          clear k44 e44
          rw [k57]
          clear k57 e57
          rw [k8]
          clear k8 e8
          clear hT
          generalize T.getD 4 undef = u4
          generalize T.getD 9 undef = u9
          generalize T.getD 10 undef = u10
          generalize T.getD 11 undef = u11
          generalize T.getD 32 undef = u32
          generalize T.getD 33 undef = u33
          generalize T.getD 34 undef = u34
          generalize T.getD 35 undef = u35
          generalize T.getD 36 undef = u36
          generalize T.getD 37 undef = u37
          generalize T.getD 38 undef = u38
          generalize T.getD 39 undef = u39
          generalize T.getD 40 undef = u40
          generalize T.getD 41 undef = u41
          generalize T.getD 42 undef = u42
          generalize T.getD 43 undef = u43
          generalize T.getD 45 undef = u45
          generalize T.getD 46 undef = u46
          generalize T.getD 47 undef = u47
          generalize T.getD 48 undef = u48
          generalize T.getD 49 undef = u49
          generalize T.getD 50 undef = u50
          generalize T.getD 51 undef = u51
          generalize T.getD 52 undef = u52
          generalize T.getD 53 undef = u53
          generalize T.getD 54 undef = u54
          generalize T.getD 55 undef = u55
          generalize T.getD 56 undef = u56
          generalize T.getD 58 undef = u58
          generalize T.getD 59 undef = u59
          generalize T.getD 60 undef = u60
          generalize T.getD 61 undef = u61
          generalize T.getD 62 undef = u62
          generalize T.getD 63 undef = u63
          generalize T.getD 64 undef = u64
          generalize T.getD 65 undef = u65
          generalize T.getD 66 undef = u66
          generalize T.getD 67 undef = u67
          generalize T.getD 68 undef = u68
          generalize T.getD 69 undef = u69
          generalize T.getD 70 undef = u70
          generalize T.getD 71 undef = u71
          generalize T.getD 72 undef = u72
          generalize T.getD 73 undef = u73
          generalize T.getD 74 undef = u74
          generalize T.getD 75 undef = u75
          generalize T.getD 76 undef = u76
          generalize T.getD 77 undef = u77
          generalize T.getD 78 undef = u78
          generalize T.getD 79 undef = u79
          generalize T.getD 80 undef = u80
          generalize T.getD 81 undef = u81
          generalize T.getD 82 undef = u82
          generalize T.getD 83 undef = u83
          generalize T.getD 84 undef = u84
          generalize T.getD 85 undef = u85
          generalize T.getD 86 undef = u86
          generalize T.getD 87 undef = u87
          generalize T.getD 88 undef = u88
          generalize T.getD 89 undef = u89
          generalize T.getD 90 undef = u90
          generalize T.getD 91 undef = u91
          generalize T.getD 92 undef = u92
          generalize T.getD 93 undef = u93
          generalize T.getD 94 undef = u94
          generalize T.getD 95 undef = u95
          generalize T.getD 96 undef = u96
          generalize T.getD 97 undef = u97
          generalize T.getD 98 undef = u98
          generalize T.getD 99 undef = u99
          generalize T.getD 100 undef = u100
          generalize T.getD 101 undef = u101
          generalize T.getD 102 undef = u102
          generalize T.getD 103 undef = u103
          generalize T.getD 104 undef = u104
          generalize T.getD 105 undef = u105
          generalize T.getD 106 undef = u106
          generalize T.getD 107 undef = u107
          generalize T.getD 108 undef = u108
          generalize T.getD 109 undef = u109
          generalize T.getD 110 undef = u110
          generalize T.getD 111 undef = u111
          generalize T.getD 112 undef = u112
          generalize T.getD 113 undef = u113
          generalize T.getD 114 undef = u114
          generalize T.getD 115 undef = u115
          generalize T.getD 116 undef = u116
          generalize T.getD 117 undef = u117
          generalize T.getD 118 undef = u118
          generalize T.getD 119 undef = u119
          generalize T.getD 120 undef = u120
          generalize T.getD 121 undef = u121
          generalize T.getD 122 undef = u122
          generalize T.getD 123 undef = u123
          generalize T.getD 124 undef = u124
          have hbx := below_on (B := Y.heap.size) (Below.drew (Below.refl _ _)) hR (Nat.le_refl _)
          clear hR
          simp only [List.filterMap_cons, List.filterMap_nil, List.getElem?_toArray, List.getElem?_cons_succ, List.getElem?_cons_zero]
          have hbz : Below Y.heap.size Y (W.setRow bq (factC hq3 g)) := hbx.grown (but_setRow W bq _) hbx.size (fun k e => by cases e; exact hbq)
          have hoz := rhq3.step ((Same.but (but_setRow W bq (factC hq3 g)) rbq (by decide)).mono (fun b _ ht => ht.1))
          have hqz := blk_setRow rbq (factC hq3 g)
          refine ⟨fun hp => ?_, ?_⟩
          · have e58 : u58 = .bool th := hp
            subst e58
            clear hp
            refine wpList_store_row rfl 36 _ _ rfl bq (factC hq3 g) rfl rfl 36 noF rbq factSize rfl (factC_all hq3 g) ?_
            go_wp2_with fail
            exact HR10.out _ _ bq hq3 rfl rfl rfl rfl rfl rfl rfl rfl rfl rfl rfl rfl rfl rfl rfl rfl rfl rfl rfl rfl rfl rfl rfl rfl rfl rfl rfl rfl rfl rfl hbz hbq hqz hoz
          · refine wpList_store_row rfl 36 _ _ rfl bq (factC hq3 g) rfl rfl 36 noF rbq factSize rfl (factC_all hq3 g) ?_
            go_wp2_with fail
            exact HR10.out _ _ bq hq3 rfl rfl rfl rfl rfl rfl rfl rfl rfl rfl rfl rfl rfl rfl rfl rfl rfl rfl rfl rfl rfl rfl rfl rfl rfl rfl rfl rfl rfl rfl hbz hbq hqz hoz
        refine soup_cons rfl rfl (fun a W hR hS hdep K hK => ?_) ?_
        · have e5 : a.tmps[5]?.getD undef = .pointer (some ⟨C, 0, none⟩) := slot_of (hS.keep 5 (by kernel_rfl))
          go_simp
          exact hK _ _ (Below.refl _ _) (by first | rfl | simp)
        refine soup_cons rfl rfl (fun a W hR hS hdep K hK => ?_) ?_
        · have e0 : a.tmps[0]?.getD undef = .slice ((some ⟨b0, off, none⟩)) n c := slot_of (hS.keep 0 (by kernel_rfl))
          go_simp
          exact hK _ _ (Below.refl _ _) (by first | rfl | simp)
        refine soup_cons rfl rfl (fun a W hR hS hdep K hK => ?_) ?_
        · have e7 : a.tmps[7]?.getD undef = .int .i64 ((j : Int)) := slot_of (hS.keep 7 (by kernel_rfl))
          go_simp
          exact hK _ _ (Below.refl _ _) (by first | rfl | simp)
        refine soup_cons rfl rfl (fun a W hR hS hdep K hK => ?_) ?_
        · have e46 : a.tmps[46]?.getD undef = .slice ((some ⟨b0, off, none⟩)) n c := slot_of (hdep 1 (by decide +kernel))
          have e47 : a.tmps[47]?.getD undef = .int .i64 ((j : Int)) := slot_of (hdep 2 (by decide +kernel))
          go_simp
          exact hK _ _ (Below.refl _ _) (by first | rfl | simp)
        refine soup_cons rfl rfl (fun a W hR hS hdep K hK => ?_) ?_
        · have e48 : a.tmps[48]?.getD undef = .pointer (some ⟨b0, off + j * 13, none⟩) := slot_of (hdep 3 (by decide +kernel))
          go_simp
          exact hK _ _ (Below.refl _ _) (by first | rfl | simp)
        refine soup_cons rfl rfl (fun a W hR hS hdep K hK => ?_) ?_
        · have e49 : a.tmps[49]?.getD undef = .pointer (some ⟨b0, off + j * 13, none⟩) := slot_of (hdep 4 (by decide +kernel))
          have m0 := cell_keep hR HQ0.out
          go_simp
          exact hK _ _ (Below.refl _ _) (by first | rfl | simp)
        refine soup_cons rfl rfl (fun a W hR hS hdep K hK => ?_) ?_
        · have e0 : a.tmps[0]?.getD undef = .slice ((some ⟨b0, off, none⟩)) n c := slot_of (hS.keep 0 (by kernel_rfl))
          go_simp
          exact hK _ _ (Below.refl _ _) (by first | rfl | simp)
        refine soup_cons rfl rfl (fun a W hR hS hdep K hK => ?_) ?_
        · have e7 : a.tmps[7]?.getD undef = .int .i64 ((j : Int)) := slot_of (hS.keep 7 (by kernel_rfl))
          go_simp
          exact hK _ _ (Below.refl _ _) (by first | rfl | simp)
        refine soup_cons rfl rfl (fun a W hR hS hdep K hK => ?_) ?_
        · have e51 : a.tmps[51]?.getD undef = .slice ((some ⟨b0, off, none⟩)) n c := slot_of (hdep 6 (by decide +kernel))
          have e52 : a.tmps[52]?.getD undef = .int .i64 ((j : Int)) := slot_of (hdep 7 (by decide +kernel))
          go_simp
          exact hK _ _ (Below.refl _ _) (by first | rfl | simp)
        refine soup_cons rfl rfl (fun a W hR hS hdep K hK => ?_) ?_
        · have e53 : a.tmps[53]?.getD undef = .pointer (some ⟨b0, off + j * 13, none⟩) := slot_of (hdep 8 (by decide +kernel))
          go_simp
          exact hK _ _ (Below.refl _ _) (by first | rfl | simp)
        refine soup_cons rfl rfl (fun a W hR hS hdep K hK => ?_) ?_
        · have e54 : a.tmps[54]?.getD undef = .pointer (some ⟨b0, off + j * 13 + 1, none⟩) := slot_of (hdep 9 (by decide +kernel))
          have m0 := cell_keep hR HQ1.out
          go_simp
          exact hK _ _ (Below.refl _ _) (by first | rfl | simp)
        refine soup_cons rfl rfl (fun a W hR hS hdep K hK => ?_) ?_
        · have e45 : a.tmps[45]?.getD undef = .pointer (some ⟨C, 0, none⟩) := slot_of (hdep 0 (by decide +kernel))
          have e50 : a.tmps[50]?.getD undef = .slice h.na h.nl h.nc := slot_of (hdep 5 (by decide +kernel))
          have e55 : a.tmps[55]?.getD undef = .int .i64 o.typ := slot_of (hdep 10 (by decide +kernel))
          go_simp
          have hbx := below_on (B := Y.heap.size) (Below.drew (Below.refl _ _)) hR (Nat.le_refl _)
          refine (HLK.out _ hbx).mono ?_
          rintro e W' ⟨⟨hq, rfl, ho⟩, hb⟩
          exact hK _ _ hb ⟨hq, rfl, ho⟩
        refine soup_cons rfl rfl (fun a W hR hS hdep K hK => ?_) ?_
        · obtain ⟨hq1, q, rhq1⟩ := hdep 11 (by decide +kernel)
          have e56 : a.tmps[56]?.getD undef = .tuple #[.agg (factC hq1 g), .bool th] := slot_of q
          clear q
          go_simp
          exact hK _ _ (Below.refl _ _) ⟨hq1, rfl, rhq1⟩
        refine soup_cons rfl rfl (fun a W hR hS hdep K hK => ?_) ?_
        · obtain ⟨hq2, q, rhq2⟩ := hdep 12 (by decide +kernel)
          have e44 : a.tmps[44]?.getD undef = .tuple #[.agg (factC hq2 g), .bool th] := slot_of q
          clear q
          go_simp
          exact hK _ _ (Below.refl _ _) ⟨hq2, rfl, rhq2⟩
        refine soup_cons rfl rfl (fun a W hR hS hdep K hK => ?_) ?_
        · obtain ⟨hq2, q, rhq2⟩ := hdep 12 (by decide +kernel)
          have e44 : a.tmps[44]?.getD undef = .tuple #[.agg (factC hq2 g), .bool th] := slot_of q
          clear q
          go_simp
          exact hK _ _ (Below.refl _ _) rfl
        refine soup_cons rfl rfl (fun a W hR hS hdep K hK => ?_) ?_
        · go_simp
          have hbx := below_on (B := Y.heap.size) (Below.drew (Below.refl _ _)) hR (Nat.le_refl _)
          exact hK _ _ ((Below.refl _ _).alloc (Nat.le_refl _) _) ⟨_, rfl, hbx.size, heap_alloc_new _ _⟩
        exact fun j h1 h2 => absurd h1 (by omega)
      · go_wp2_with fail
        go_ret
        exact ⟨rfl, hinv.out.bel⟩
end Go.Proofs.Ytpemdieejgldiaa

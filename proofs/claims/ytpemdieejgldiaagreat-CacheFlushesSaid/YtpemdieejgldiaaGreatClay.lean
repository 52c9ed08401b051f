/- Cache.lay: a fact is there. -/
import Derived.Test.YtpemdieejgldiaaGreatClaylaw
import Derived.Test.YtpemdieejgldiaaGreatCat
import Derived.Test.YtpemdieejgldiaaGreatBeats
namespace Go.Proofs.YtpemdieejgldiaaGreat
open Go.ChangeShapes Go.WideShapes Go.ChangeAt Go.RowKit

set_option maxHeartbeats 16000000 in
set_option maxRecDepth 100000 in
theorem lay_any (w : World) (S : Nat → Prop) (B C : Nat) (most stale : Int) (k : Nat) (L : List Slot) (hC : IsCache B w C most stale k L) (hk : k < 4000000000000000000) (hL : L.length < 100000) (h : FactH) (f : FactP) (hf : IsFact S w h f) (hB : factB f = true) (hl : FLen f)
    (hroom : (((offL L (keyF f)).length + 1 : Nat) : Int) ≤ most) :
    Calls Tryz.prog 23 #[.pointer (some ⟨C, 0, none⟩), .agg (factC h f)] w fun e w' => e = .returned (.tuple #[]) ∧ ∃ b kk, IsCache B w' C most stale (k + 1) (offL L (keyF f) ++ [⟨b, kk, f, k + 1⟩]) ∧ Left B w w' := by
  obtain ⟨M, hCb, hMB, hML⟩ := hC.ex
  have hb1 : Below w.heap.size w (w.alloc (.cells (factC h f) 36)) := (Below.refl _ _).alloc (Nat.le_refl _) _
  have hA : Blk (w.alloc (.cells (factC h f) 36)) w.heap.size (factC h f) 36 := heap_alloc_new w _
  have HA := Lib.hid hA
  have HB := Lib.hid hb1
  have HCC := Lib.hid hC
  have HMM := Lib.hid (And.intro hCb (And.intro hMB hML))
  have HF1 := Lib.hid (hf.on hb1)
  have HFW := Lib.hid hf
  have HV := Lib.hid (And.intro hB (And.intro hl (And.intro hk (And.intro hL hroom))))
  have hz := fact_small hB
  clear hC hCb hMB hML hf hB hl hb1 hk hL hroom
  have m0 : (w.alloc (.cells (factC h f) 36)).cell? ⟨w.heap.size, 0, none⟩ = some (.slice h.na h.nl h.nc) := hA.cell 0
  have m1 : (w.alloc (.cells (factC h f) 36)).cell? ⟨w.heap.size, 1, none⟩ = some (.int .i64 f.typ) := hA.cell 1
  have m2 : (w.alloc (.cells (factC h f) 36)).cell? ⟨w.heap.size, 2, none⟩ = some (.int .i64 f.kind) := hA.cell 2
  have m3 : (w.alloc (.cells (factC h f) 36)).cell? ⟨w.heap.size, 3, none⟩ = some (.int .i64 f.rank) := hA.cell 3
  have m4 : (w.alloc (.cells (factC h f) 36)).cell? ⟨w.heap.size, 4, none⟩ = some (.int .i64 f.got) := hA.cell 4
  have m5 : (w.alloc (.cells (factC h f) 36)).cell? ⟨w.heap.size, 5, none⟩ = some (.int .i64 f.ttl) := hA.cell 5
  have m6 : (w.alloc (.cells (factC h f) 36)).cell? ⟨w.heap.size, 6, none⟩ = some (.slice h.sa h.sl h.sc) := hA.cell 6
  have m7 : (w.alloc (.cells (factC h f) 36)).cell? ⟨w.heap.size, 7, none⟩ = some (.slice h.za h.zl h.zc) := hA.cell 7
  have m8 : (w.alloc (.cells (factC h f) 36)).cell? ⟨w.heap.size, 8, none⟩ = some (.slice h.d.ba h.d.bl h.d.bc) := hA.cell 8
  have m9 : (w.alloc (.cells (factC h f) 36)).cell? ⟨w.heap.size, 9, none⟩ = some (.slice h.d.ha h.d.hl h.d.hc) := hA.cell 9
  have m10 : (w.alloc (.cells (factC h f) 36)).cell? ⟨w.heap.size, 10, none⟩ = some (.slice h.d.ma h.d.ml h.d.mc) := hA.cell 10
  have m11 : (w.alloc (.cells (factC h f) 36)).cell? ⟨w.heap.size, 11, none⟩ = some (.slice h.d.na h.d.nl h.d.nc) := hA.cell 11
  have m12 : (w.alloc (.cells (factC h f) 36)).cell? ⟨w.heap.size, 12, none⟩ = some (.slice h.d.ta h.d.tl h.d.tc) := hA.cell 12
  clear hA
  go_enter Tryz.func23, Tryz.ntmps23
  simp only [factC]
  go_wp2_with (go_at_call 27; refine (fown_any _ S h f HF1.out HV.out.2.1).mono ?_; rintro e W2 ⟨⟨kk, rfl, hown⟩, hb2⟩; simp only [factC])
  clear m0 m1 m2 m3 m4 m5 m6 m7 m8 m9 m10 m11 m12
  (try change Code.wp _ (Code.region _ _ _) _ _ (W2.alloc (.cells (itemC ⟨W2.heap.size, kk, f, 0⟩) 59)))
  have hb3 : Below w.heap.size w (W2.alloc (.cells (itemC ⟨W2.heap.size, kk, f, 0⟩) 59)) := (below_on HB.out hb2 (Nat.le_refl _)).alloc ((below_on HB.out hb2 (Nat.le_refl _)).size) _
  have hb4 : Below W2.heap.size W2 (W2.alloc (.cells (itemC ⟨W2.heap.size, kk, f, 0⟩) 59)) := (Below.refl _ _).alloc (Nat.le_refl _) _
  have hA := (HA.out.on hb2).on hb4
  have hX : Blk (W2.alloc (.cells (itemC ⟨W2.heap.size, kk, f, 0⟩) 59)) W2.heap.size (itemC ⟨W2.heap.size, kk, f, 0⟩) 59 := heap_alloc_new _ _
  have hF : IsFact (tagged fT (W2.alloc (.cells (itemC ⟨W2.heap.size, kk, f, 0⟩) 59))) (W2.alloc (.cells (itemC ⟨W2.heap.size, kk, f, 0⟩) 59)) kk f := (hown.mono (fun b _ ht => ht.1)).step (Same.below hb4 _)
  have hC3 := HMM.out.1.on hb3
  have hXw : w.heap.size ≤ W2.heap.size := (below_on HB.out hb2 (Nat.le_refl _)).size
  have hAX := HA.out.lt
  have hAX2 : w.heap.size < W2.heap.size := Nat.lt_of_lt_of_le hAX hb2.size
  rename_i K0 hK0
  have HK0 := Lib.hid hK0
  clear hK0 hb2 hb4 hown hAX
  generalize W2.alloc (.cells (itemC ⟨W2.heap.size, kk, f, 0⟩) 59) = Y at hb3 hA hX hF hC3 ⊢
  generalize W2.heap.size = X at hX hXw hAX2 hF hb3 hA hC3 ⊢
  have HM0 := Lib.hid (show Y.drew.cell? ⟨w.heap.size, 0, none⟩ = some (.slice h.na h.nl h.nc) from hA.cell 0)
  have HM1 := Lib.hid (show Y.drew.cell? ⟨w.heap.size, 1, none⟩ = some (.int .i64 f.typ) from hA.cell 1)
  have HM2 := Lib.hid (show Y.drew.cell? ⟨w.heap.size, 2, none⟩ = some (.int .i64 f.kind) from hA.cell 2)
  have HM3 := Lib.hid (show Y.drew.cell? ⟨w.heap.size, 3, none⟩ = some (.int .i64 f.rank) from hA.cell 3)
  have HM4 := Lib.hid (show Y.drew.cell? ⟨w.heap.size, 4, none⟩ = some (.int .i64 f.got) from hA.cell 4)
  have HM5 := Lib.hid (show Y.drew.cell? ⟨w.heap.size, 5, none⟩ = some (.int .i64 f.ttl) from hA.cell 5)
  have HM6 := Lib.hid (show Y.drew.cell? ⟨w.heap.size, 6, none⟩ = some (.slice h.sa h.sl h.sc) from hA.cell 6)
  have HM7 := Lib.hid (show Y.drew.cell? ⟨w.heap.size, 7, none⟩ = some (.slice h.za h.zl h.zc) from hA.cell 7)
  have HM8 := Lib.hid (show Y.drew.cell? ⟨w.heap.size, 8, none⟩ = some (.slice h.d.ba h.d.bl h.d.bc) from hA.cell 8)
  have HM9 := Lib.hid (show Y.drew.cell? ⟨w.heap.size, 9, none⟩ = some (.slice h.d.ha h.d.hl h.d.hc) from hA.cell 9)
  have HM10 := Lib.hid (show Y.drew.cell? ⟨w.heap.size, 10, none⟩ = some (.slice h.d.ma h.d.ml h.d.mc) from hA.cell 10)
  have HM11 := Lib.hid (show Y.drew.cell? ⟨w.heap.size, 11, none⟩ = some (.slice h.d.na h.d.nl h.d.nc) from hA.cell 11)
  have HM12 := Lib.hid (show Y.drew.cell? ⟨w.heap.size, 12, none⟩ = some (.slice h.d.ta h.d.tl h.d.tc) from hA.cell 12)
  have HMC := Lib.hid (show Y.drew.cell? ⟨C, 2, none⟩ = some (.map (some M)) from hC3.cell 2)
  have HKY := Lib.hid (fun w' (p : Below Y.heap.size Y w') => fkey_any w' h f ((HFW.out.on hb3).on p).name (Nat.le_trans hz (by decide)))
  have HY := Lib.hid (And.intro hb3 (And.intro hX (And.intro hF (And.intro hXw hAX2))))
  have HML := Lib.hid (HMM.out.2.2.on (hb3.block M HMM.out.2.2.lt))
  simp only [factC] at HKY
  clear hb3 hA hX hF hC3 hXw hAX2
  refine wp_soup_tail (m := 66) 7 (by kernel_rfl) (fun x y => Below x.heap.size x y) (fun i v xw => match i with | 0 => v = .pointer (some ⟨C, 0, none⟩) | 1 => v = .pointer (some ⟨C, 0, none⟩) | 2 => v = .pointer (some ⟨C, 2, none⟩) | 3 => v = .map (some M) | 4 => v = .agg #[.slice h.na h.nl h.nc, .int .i64 f.typ, .int .i64 f.kind, .int .i64 f.rank, .int .i64 f.got, .int .i64 f.ttl, .slice h.sa h.sl h.sc, .slice h.za h.zl h.zc, .slice h.d.ba h.d.bl h.d.bc, .slice h.d.ha h.d.hl h.d.hc, .slice h.d.ma h.d.ml h.d.mc, .slice h.d.na h.d.nl h.d.nc, .slice h.d.ta h.d.tl h.d.tc] | 5 => v = .string (⟨(keyF f).toArray⟩) | 6 => v = .pointer (some ⟨X, 0, none⟩) | _ => True) rfl (by kernel_rfl) (by kernel_rfl) (fun _ _ _ h1 h2 => below_on h1 h2 (Nat.le_refl _)) (Below.refl _ _) (fun _ _ _ _ h _ => h) (dst_head (by kernel_rfl)) ?_ ?_
  rotate_left
  · intro a W hR hS hdep
    have e0 : a.tmps.getD 0 undef = .pointer (some ⟨C, 0, none⟩) := hS.keep 0 (by kernel_rfl)
    have e4 : a.tmps.getD 4 undef = .pointer (some ⟨X, 0, none⟩) := hS.keep 4 (by kernel_rfl)
    have e15 : a.tmps.getD 15 undef = .map (some M) := hdep 3 (by decide +kernel)
    have e17 : a.tmps.getD 17 undef = .string (⟨(keyF f).toArray⟩) := hdep 5 (by decide +kernel)
    have e18 : a.tmps.getD 18 undef = .pointer (some ⟨X, 0, none⟩) := hdep 6 (by decide +kernel)
    obtain ⟨T, df⟩ := a
    obtain rfl : df = [] := hS.defers
    have hT : T = #[T.getD 0 undef, T.getD 1 undef, T.getD 2 undef, T.getD 3 undef, T.getD 4 undef, T.getD 5 undef, T.getD 6 undef, T.getD 7 undef, T.getD 8 undef, T.getD 9 undef, T.getD 10 undef, T.getD 11 undef, T.getD 12 undef, T.getD 13 undef, T.getD 14 undef, T.getD 15 undef, T.getD 16 undef, T.getD 17 undef, T.getD 18 undef, T.getD 19 undef, T.getD 20 undef, T.getD 21 undef, T.getD 22 undef, T.getD 23 undef, T.getD 24 undef, T.getD 25 undef, T.getD 26 undef, T.getD 27 undef, T.getD 28 undef, T.getD 29 undef, T.getD 30 undef, T.getD 31 undef, T.getD 32 undef, T.getD 33 undef, T.getD 34 undef, T.getD 35 undef, T.getD 36 undef, T.getD 37 undef, T.getD 38 undef, T.getD 39 undef, T.getD 40 undef, T.getD 41 undef, T.getD 42 undef, T.getD 43 undef, T.getD 44 undef, T.getD 45 undef, T.getD 46 undef, T.getD 47 undef, T.getD 48 undef, T.getD 49 undef, T.getD 50 undef, T.getD 51 undef, T.getD 52 undef, T.getD 53 undef, T.getD 54 undef, T.getD 55 undef, T.getD 56 undef, T.getD 57 undef, T.getD 58 undef, T.getD 59 undef, T.getD 60 undef, T.getD 61 undef, T.getD 62 undef, T.getD 63 undef, T.getD 64 undef, T.getD 65 undef] := arr_eta T 66 hS.size
    have k0 : T.getD 0 undef = .pointer (some ⟨C, 0, none⟩) := e0
    have k4 : T.getD 4 undef = .pointer (some ⟨X, 0, none⟩) := e4
    have k15 : T.getD 15 undef = .map (some M) := e15
    have k17 : T.getD 17 undef = .string (⟨(keyF f).toArray⟩) := e17
    have k18 : T.getD 18 undef = .pointer (some ⟨X, 0, none⟩) := e18
    clear hS hdep
    rw [hT]
    rw [k0]
    clear k0 e0
    rw [k4]
    clear k4 e4
    rw [k15]
    clear k15 e15
    rw [k17]
    clear k17 e17
    rw [k18]
    clear k18 e18
    clear hT
    generalize T.getD 1 undef = u1
    generalize T.getD 2 undef = u2
    generalize T.getD 3 undef = u3
    generalize T.getD 5 undef = u5
    generalize T.getD 6 undef = u6
    generalize T.getD 7 undef = u7
    generalize T.getD 8 undef = u8
    generalize T.getD 9 undef = u9
    generalize T.getD 10 undef = u10
    generalize T.getD 11 undef = u11
    generalize T.getD 12 undef = u12
    generalize T.getD 13 undef = u13
    generalize T.getD 14 undef = u14
    generalize T.getD 16 undef = u16
    generalize T.getD 19 undef = u19
    generalize T.getD 20 undef = u20
    generalize T.getD 21 undef = u21
    generalize T.getD 22 undef = u22
    generalize T.getD 23 undef = u23
    generalize T.getD 24 undef = u24
    generalize T.getD 25 undef = u25
    generalize T.getD 26 undef = u26
    generalize T.getD 27 undef = u27
    generalize T.getD 28 undef = u28
    generalize T.getD 29 undef = u29
    generalize T.getD 30 undef = u30
    generalize T.getD 31 undef = u31
    generalize T.getD 32 undef = u32
    generalize T.getD 33 undef = u33
    generalize T.getD 34 undef = u34
    generalize T.getD 35 undef = u35
    generalize T.getD 36 undef = u36
    generalize T.getD 37 undef = u37
    generalize T.getD 38 undef = u38
    generalize T.getD 39 undef = u39
    generalize T.getD 40 undef = u40
    generalize T.getD 41 undef = u41
    generalize T.getD 42 undef = u42
    generalize T.getD 43 undef = u43
    generalize T.getD 44 undef = u44
    generalize T.getD 45 undef = u45
    generalize T.getD 46 undef = u46
    generalize T.getD 47 undef = u47
    generalize T.getD 48 undef = u48
    generalize T.getD 49 undef = u49
    generalize T.getD 50 undef = u50
    generalize T.getD 51 undef = u51
    generalize T.getD 52 undef = u52
    generalize T.getD 53 undef = u53
    generalize T.getD 54 undef = u54
    generalize T.getD 55 undef = u55
    generalize T.getD 56 undef = u56
    generalize T.getD 57 undef = u57
    generalize T.getD 58 undef = u58
    generalize T.getD 59 undef = u59
    generalize T.getD 60 undef = u60
    generalize T.getD 61 undef = u61
    generalize T.getD 62 undef = u62
    generalize T.getD 63 undef = u63
    generalize T.getD 64 undef = u64
    generalize T.getD 65 undef = u65
    have hbx := below_on (B := Y.heap.size) (Below.drew (Below.refl _ _)) hR (Nat.le_refl _)
    have hMW := HML.out.on (hbx.block M HML.out.lt)
    obtain ⟨W4, hrun, hM4, hg4, hs4⟩ := hMW.store HCC.out.keys HV.out.2.2.2.1 ⟨X, kk, f, k + 1⟩ (by show (keyF f).length ≤ _; rw [keyF, keyP_size]; omega)
    clear hR
    go_wp2_with fail
    have hlen : (offL L (keyF f)).length + 1 = (offL L (keyF f) ++ [(⟨X, kk, f, k + 1⟩ : Slot)]).length := by simp
    have hC4 := (HMM.out.1.on (HY.out.1.trans (hbx.mono HY.out.1.size))).but hg4 (blk_map_ne HMM.out.1 HMM.out.2.2)
    have hXW := HY.out.2.1.on hbx
    have hX4 := hXW.but hg4 (blk_map_ne hXW hMW)
    have hCX : C ≠ X := blk_ne hC4 hX4 (by decide)
    have h0W : Below w.heap.size w W := below_on HY.out.1 hbx (Nat.le_refl _)
    have HC4 := Lib.hid hC4
    have HX4 := Lib.hid hX4
    have HG4 := Lib.hid (And.intro hg4 (And.intro hs4 hM4))
    have HXW := Lib.hid (And.intro hXW h0W)
    have HFW2 := Lib.hid (HY.out.2.2.1.step (Same.below hbx _))
    have HLEN := Lib.hid hlen
    clear hC4 hX4 hg4 hs4 hM4 hXW h0W hrun hMW hbx hlen
    refine HK0.out _ _ ?_
    clear HK0
    go_wp2_with (go_at_call 51; refine (use_any W4 C X M k most stale _ HC4.out HX4.out rfl hCX HV.out.2.2.1).mono ?_; rintro e W5 ⟨rfl, hC5, hX5, hs5, ho5, hb5⟩; have HFIN := Lib.hid (lay_law HCC.out HMM.out.1 HMM.out.2.1 HMM.out.2.2 HXW.out.2 HY.out.2.2.2.1 HXW.out.1 HFW2.out HV.out.1 HV.out.2.1 HG4.out.2.2 HG4.out.1 HG4.out.2.1 hC5 hX5 hs5 ho5 hb5); have HMW5 := Lib.hid (show MapL W5 M _ from HG4.out.2.2.on (ho5 M (fun e => blk_map_ne HC4.out HG4.out.2.2 e.symm) (fun e => blk_map_ne HX4.out HG4.out.2.2 e.symm))); have HQ2 := Lib.hid (show W5.drew.cell? ⟨C, 2, none⟩ = some (.map (some M)) from hC5.cell 2); have HQ0 := Lib.hid (show W5.drew.cell? ⟨C, 0, none⟩ = some (.int .i64 most) from hC5.cell 0); clear hC5 hX5 hs5 ho5 hb5)
    obtain ⟨N, hN⟩ : ∃ q : Int, q = ((offL L (keyF f) ++ [(⟨X, kk, f, k + 1⟩ : Slot)]).length : Int) := ⟨_, rfl⟩
    have HNM := Lib.hid (show N ≤ most by rw [hN, ← HLEN.out]; exact HV.out.2.2.2.2)
    have HLN := Lib.hid (fun w' (p : Below W5.heap.size W5 w') ty => (HMW5.out.on (p.block M HMW5.out.lt)).len ty)
    rw [← hN] at HLN
    clear HLEN hN
    refine wp_soup0 (m := 66) (by kernel_rfl) (fun x y => Below x.heap.size x y) (fun i v xw => match i with | 0 => v = .pointer (some ⟨C, 0, none⟩) | 1 => v = .pointer (some ⟨C, 0, none⟩) | 2 => v = .pointer (some ⟨C, 2, none⟩) | 3 => v = .map (some M) | 4 => v = .int .i64 N | 5 => v = .pointer (some ⟨C, 0, none⟩) | 6 => v = .pointer (some ⟨C, 0, none⟩) | 7 => v = .pointer (some ⟨C, 0, none⟩) | 8 => v = .int .i64 most | 9 => v = .bool (decide (N ≤ most)) | _ => True) rfl (by kernel_rfl) (fun _ _ _ h1 h2 => below_on h1 h2 (Nat.le_refl _)) (Below.refl _ _) (fun _ _ _ _ h _ => h) (dst_but 10 (by kernel_rfl) (fun _ _ h => h)) ?_ ?_
    rotate_left
    · intro a W hR hS hdep
      have e31 : a.tmps.getD 31 undef = .bool (decide (N ≤ most)) := hdep 9 (by decide +kernel)
      obtain ⟨T, df⟩ := a
      obtain rfl : df = [] := hS.defers
      have hT : T = #[T.getD 0 undef, T.getD 1 undef, T.getD 2 undef, T.getD 3 undef, T.getD 4 undef, T.getD 5 undef, T.getD 6 undef, T.getD 7 undef, T.getD 8 undef, T.getD 9 undef, T.getD 10 undef, T.getD 11 undef, T.getD 12 undef, T.getD 13 undef, T.getD 14 undef, T.getD 15 undef, T.getD 16 undef, T.getD 17 undef, T.getD 18 undef, T.getD 19 undef, T.getD 20 undef, T.getD 21 undef, T.getD 22 undef, T.getD 23 undef, T.getD 24 undef, T.getD 25 undef, T.getD 26 undef, T.getD 27 undef, T.getD 28 undef, T.getD 29 undef, T.getD 30 undef, T.getD 31 undef, T.getD 32 undef, T.getD 33 undef, T.getD 34 undef, T.getD 35 undef, T.getD 36 undef, T.getD 37 undef, T.getD 38 undef, T.getD 39 undef, T.getD 40 undef, T.getD 41 undef, T.getD 42 undef, T.getD 43 undef, T.getD 44 undef, T.getD 45 undef, T.getD 46 undef, T.getD 47 undef, T.getD 48 undef, T.getD 49 undef, T.getD 50 undef, T.getD 51 undef, T.getD 52 undef, T.getD 53 undef, T.getD 54 undef, T.getD 55 undef, T.getD 56 undef, T.getD 57 undef, T.getD 58 undef, T.getD 59 undef, T.getD 60 undef, T.getD 61 undef, T.getD 62 undef, T.getD 63 undef, T.getD 64 undef, T.getD 65 undef] := arr_eta T 66 hS.size
      have k31 : T.getD 31 undef = .bool (decide (N ≤ most)) := e31
      clear hS hdep
      rw [hT]
      rw [k31]
      clear k31 e31
      clear hT
      generalize T.getD 0 undef = u0
      generalize T.getD 1 undef = u1
      generalize T.getD 2 undef = u2
      generalize T.getD 3 undef = u3
      generalize T.getD 4 undef = u4
      generalize T.getD 5 undef = u5
      generalize T.getD 6 undef = u6
      generalize T.getD 7 undef = u7
      generalize T.getD 8 undef = u8
      generalize T.getD 9 undef = u9
      generalize T.getD 10 undef = u10
      generalize T.getD 11 undef = u11
      generalize T.getD 12 undef = u12
      generalize T.getD 13 undef = u13
      generalize T.getD 14 undef = u14
      generalize T.getD 15 undef = u15
      generalize T.getD 16 undef = u16
      generalize T.getD 17 undef = u17
      generalize T.getD 18 undef = u18
      generalize T.getD 19 undef = u19
      generalize T.getD 20 undef = u20
      generalize T.getD 21 undef = u21
      generalize T.getD 22 undef = u22
      generalize T.getD 23 undef = u23
      generalize T.getD 24 undef = u24
      generalize T.getD 25 undef = u25
      generalize T.getD 26 undef = u26
      generalize T.getD 27 undef = u27
      generalize T.getD 28 undef = u28
      generalize T.getD 29 undef = u29
      generalize T.getD 30 undef = u30
      generalize T.getD 32 undef = u32
      generalize T.getD 33 undef = u33
      generalize T.getD 34 undef = u34
      generalize T.getD 35 undef = u35
      generalize T.getD 36 undef = u36
      generalize T.getD 37 undef = u37
      generalize T.getD 38 undef = u38
      generalize T.getD 39 undef = u39
      generalize T.getD 40 undef = u40
      generalize T.getD 41 undef = u41
      generalize T.getD 42 undef = u42
      generalize T.getD 43 undef = u43
      generalize T.getD 44 undef = u44
      generalize T.getD 45 undef = u45
      generalize T.getD 46 undef = u46
      generalize T.getD 47 undef = u47
      generalize T.getD 48 undef = u48
      generalize T.getD 49 undef = u49
      generalize T.getD 50 undef = u50
      generalize T.getD 51 undef = u51
      generalize T.getD 52 undef = u52
      generalize T.getD 53 undef = u53
      generalize T.getD 54 undef = u54
      generalize T.getD 55 undef = u55
      generalize T.getD 56 undef = u56
      generalize T.getD 57 undef = u57
      generalize T.getD 58 undef = u58
      generalize T.getD 59 undef = u59
      generalize T.getD 60 undef = u60
      generalize T.getD 61 undef = u61
      generalize T.getD 62 undef = u62
      generalize T.getD 63 undef = u63
      generalize T.getD 64 undef = u64
      generalize T.getD 65 undef = u65
      have hbx := below_on (B := W5.heap.size) (Below.drew (Below.refl _ _)) hR (Nat.le_refl _)
      have HT := Lib.hid (show decide (N ≤ most) = true from decide_eq_true HNM.out)
      clear hR
      rw [HT.out]
      have HFW5 := Lib.hid hbx
      clear hbx
      go_wp2_with fail
      refine bodyPost_ret (results_none rfl _ _ _) rfl ?_
      exact ⟨rfl, X, kk, HFIN.out.1.on HFW5.out, HFIN.out.2.trans (Left.below HFW5.out (by have := HFIN.out.1.base; have := HQ2.out; have := HCC.out.base; have := HFIN.out.2.bel.size; have := HMM.out.1.lt; omega))⟩
    refine soup_cons rfl rfl (fun a W hR hS hdep K hK => ?_) ?_
    · have e0 : a.tmps[0]?.getD undef = .pointer (some ⟨C, 0, none⟩) := slot_of (hS.keep 0 (by kernel_rfl))
      go_simp
      exact hK _ _ (Below.refl _ _) (by first | rfl | simp)
    refine soup_cons rfl rfl (fun a W hR hS hdep K hK => ?_) ?_
    · have e22 : a.tmps[22]?.getD undef = .pointer (some ⟨C, 0, none⟩) := slot_of (hdep 0 (by decide +kernel))
      go_simp
      exact hK _ _ (Below.refl _ _) (by first | rfl | simp)
    refine soup_cons rfl rfl (fun a W hR hS hdep K hK => ?_) ?_
    · have e23 : a.tmps[23]?.getD undef = .pointer (some ⟨C, 0, none⟩) := slot_of (hdep 1 (by decide +kernel))
      go_simp
      exact hK _ _ (Below.refl _ _) (by first | rfl | simp)
    refine soup_cons rfl rfl (fun a W hR hS hdep K hK => ?_) ?_
    · have e24 : a.tmps[24]?.getD undef = .pointer (some ⟨C, 2, none⟩) := slot_of (hdep 2 (by decide +kernel))
      have m0 := cell_keep hR HQ2.out
      go_simp
      exact hK _ _ (Below.refl _ _) (by first | rfl | simp)
    refine soup_cons rfl rfl (fun a W hR hS hdep K hK => ?_) ?_
    · have e25 : a.tmps[25]?.getD undef = .map (some M) := slot_of (hdep 3 (by decide +kernel))
      go_simp
      have hbx := below_on (B := W5.heap.size) (Below.drew (Below.refl _ _)) hR (Nat.le_refl _)
      rw [HLN.out _ hbx]
      exact hK _ _ (Below.refl _ _) rfl
    refine soup_cons rfl rfl (fun a W hR hS hdep K hK => ?_) ?_
    · have e0 : a.tmps[0]?.getD undef = .pointer (some ⟨C, 0, none⟩) := slot_of (hS.keep 0 (by kernel_rfl))
      go_simp
      exact hK _ _ (Below.refl _ _) (by first | rfl | simp)
    refine soup_cons rfl rfl (fun a W hR hS hdep K hK => ?_) ?_
    · have e27 : a.tmps[27]?.getD undef = .pointer (some ⟨C, 0, none⟩) := slot_of (hdep 5 (by decide +kernel))
      go_simp
      exact hK _ _ (Below.refl _ _) (by first | rfl | simp)
    refine soup_cons rfl rfl (fun a W hR hS hdep K hK => ?_) ?_
    · have e28 : a.tmps[28]?.getD undef = .pointer (some ⟨C, 0, none⟩) := slot_of (hdep 6 (by decide +kernel))
      go_simp
      exact hK _ _ (Below.refl _ _) (by first | rfl | simp)
    refine soup_cons rfl rfl (fun a W hR hS hdep K hK => ?_) ?_
    · have e29 : a.tmps[29]?.getD undef = .pointer (some ⟨C, 0, none⟩) := slot_of (hdep 7 (by decide +kernel))
      have m0 := cell_keep hR HQ0.out
      go_simp
      exact hK _ _ (Below.refl _ _) (by first | rfl | simp)
    refine soup_cons rfl rfl (fun a W hR hS hdep K hK => ?_) ?_
    · have e26 : a.tmps[26]?.getD undef = .int .i64 N := slot_of (hdep 4 (by decide +kernel))
      have e30 : a.tmps[30]?.getD undef = .int .i64 most := slot_of (hdep 8 (by decide +kernel))
      go_simp
      exact hK _ _ (Below.refl _ _) (by first | rfl | simp)
    exact fun j h1 h2 => absurd h1 (by simp only [List.size_toArray, List.length_cons, List.length_nil]; omega)
  refine soup_cons rfl rfl (fun a W hR hS hdep K hK => ?_) ?_
  · have e0 : a.tmps[0]?.getD undef = .pointer (some ⟨C, 0, none⟩) := slot_of (hS.keep 0 (by kernel_rfl))
    go_simp
    exact hK _ _ (Below.refl _ _) (by first | rfl | simp)
  refine soup_cons rfl rfl (fun a W hR hS hdep K hK => ?_) ?_
  · have e12 : a.tmps[12]?.getD undef = .pointer (some ⟨C, 0, none⟩) := slot_of (hdep 0 (by decide +kernel))
    go_simp
    exact hK _ _ (Below.refl _ _) (by first | rfl | simp)
  refine soup_cons rfl rfl (fun a W hR hS hdep K hK => ?_) ?_
  · have e13 : a.tmps[13]?.getD undef = .pointer (some ⟨C, 0, none⟩) := slot_of (hdep 1 (by decide +kernel))
    go_simp
    exact hK _ _ (Below.refl _ _) (by first | rfl | simp)
  refine soup_cons rfl rfl (fun a W hR hS hdep K hK => ?_) ?_
  · have e14 : a.tmps[14]?.getD undef = .pointer (some ⟨C, 2, none⟩) := slot_of (hdep 2 (by decide +kernel))
    have m0 := cell_keep hR HMC.out
    go_simp
    exact hK _ _ (Below.refl _ _) (by first | rfl | simp)
  refine soup_cons rfl rfl (fun a W hR hS hdep K hK => ?_) ?_
  · have e3 : a.tmps[3]?.getD undef = .pointer (some ⟨w.heap.size, 0, none⟩) := slot_of (hS.keep 3 (by kernel_rfl))
    have m0 := cell_keep hR HM0.out
    have m1 := cell_keep hR HM1.out
    have m2 := cell_keep hR HM2.out
    have m3 := cell_keep hR HM3.out
    have m4 := cell_keep hR HM4.out
    have m5 := cell_keep hR HM5.out
    have m6 := cell_keep hR HM6.out
    have m7 := cell_keep hR HM7.out
    have m8 := cell_keep hR HM8.out
    have m9 := cell_keep hR HM9.out
    have m10 := cell_keep hR HM10.out
    have m11 := cell_keep hR HM11.out
    have m12 := cell_keep hR HM12.out
    go_simp
    exact hK _ _ (Below.refl _ _) (by first | rfl | simp)
  refine soup_cons rfl rfl (fun a W hR hS hdep K hK => ?_) ?_
  · have e16 : a.tmps[16]?.getD undef = .agg #[.slice h.na h.nl h.nc, .int .i64 f.typ, .int .i64 f.kind, .int .i64 f.rank, .int .i64 f.got, .int .i64 f.ttl, .slice h.sa h.sl h.sc, .slice h.za h.zl h.zc, .slice h.d.ba h.d.bl h.d.bc, .slice h.d.ha h.d.hl h.d.hc, .slice h.d.ma h.d.ml h.d.mc, .slice h.d.na h.d.nl h.d.nc, .slice h.d.ta h.d.tl h.d.tc] := slot_of (hdep 4 (by decide +kernel))
    go_simp
    have hbx := below_on (B := Y.heap.size) (Below.drew (Below.refl _ _)) hR (Nat.le_refl _)
    refine (HKY.out _ hbx).mono ?_
    rintro e W' ⟨rfl, hb⟩
    exact hK _ _ hb rfl
  refine soup_cons rfl rfl (fun a W hR hS hdep K hK => ?_) ?_
  · have e4 : a.tmps[4]?.getD undef = .pointer (some ⟨X, 0, none⟩) := slot_of (hS.keep 4 (by kernel_rfl))
    go_simp
    exact hK _ _ (Below.refl _ _) (by first | rfl | simp)
  exact fun j h1 h2 => absurd h1 (by omega)
end Go.Proofs.YtpemdieejgldiaaGreat

/- Packed: Cputf, Kkput, Kaddr, Kback, Ksealo, Kdlaw, Klpart, Kloglaw, Kloglaw2, Kloglaw3, Kscan, Kloglaw4, Kdrop, Kbd, Kborn, Ccopyl. -/
import Derived.Laws.Rows
import Derived.Deep.RegionLaw
import Derived.Deep.RegionHeld3
import Derived.Deep.CutBlock
import Derived.Deep.DeepCutAuto
import Derived.Deep.RegionWith
import Derived.Test.YtjbaohcofdoinaaGreatPk4
namespace Go.Proofs.YtjbaohcofdoinaaGreat
section
open Go.ChangeShapes Go.WideShapes Go.ChangeAt Go.RowKit
/-- what a put leaves -/
structure PutFull (B : Nat) (w' : World) (C : Nat) (most stale : Int) (k : Nat) (L : List Slot) (f : FactP) (b : Bool) : Prop where
  yes : b = true → ∃ b kk, IsCache B w' C most stale (k + 1) (trimL most (offL L (keyF f) ++ [⟨b, kk, f, k + 1⟩]))
  no : b = false → IsCache B w' C most stale k L
set_option maxHeartbeats 16000000 in
set_option maxRecDepth 100000 in
theorem put_full (w : World) (S : Nat → Prop) (B C : Nat) (most stale : Int) (k : Nat) (L : List Slot) (hC : IsCache B w C most stale k L) (hk : k < 4000000000000000000) (hL : L.length < 100000) (h : FactH) (f : FactP) (hf : IsFact S w h f) (hl : FLen f) (now : Int) :
    Calls Tryz.prog 45 #[.pointer (some ⟨C, 0, none⟩), .agg (factC h f), .int .i64 now] w fun e w' => e = .returned (.bool (putB L f now)) ∧ Left B w w' ∧ PutFull B w' C most stale k L f (putB L f now) := by
  have hb1 : Below w.heap.size w (w.alloc (.cells (factC h f) 57)) := (Below.refl _ _).alloc (Nat.le_refl _) _
  have hA : Blk (w.alloc (.cells (factC h f) 57)) w.heap.size (factC h f) 57 := heap_alloc_new w _
  have HA := Lib.hid hA
  have hBw : B ≤ w.heap.size := by
    obtain ⟨M, h1, _⟩ := hC.ex
    have := hC.base
    have := h1.lt
    omega
  have HB := Lib.hid (And.intro hb1 hBw)
  have HCC := Lib.hid hC
  have HF1 := Lib.hid (hf.on hb1)
  have HV := Lib.hid (And.intro hl (And.intro hk hL))
  have m0 : (w.alloc (.cells (factC h f) 57)).cell? ⟨w.heap.size, 0, none⟩ = some (.slice h.na h.nl h.nc) := hA.cell 0
  have m1 : (w.alloc (.cells (factC h f) 57)).cell? ⟨w.heap.size, 1, none⟩ = some (.int .i64 f.typ) := hA.cell 1
  have m2 : (w.alloc (.cells (factC h f) 57)).cell? ⟨w.heap.size, 2, none⟩ = some (.int .i64 f.kind) := hA.cell 2
  have m3 : (w.alloc (.cells (factC h f) 57)).cell? ⟨w.heap.size, 3, none⟩ = some (.int .i64 f.rank) := hA.cell 3
  have m4 : (w.alloc (.cells (factC h f) 57)).cell? ⟨w.heap.size, 4, none⟩ = some (.int .i64 f.got) := hA.cell 4
  have m5 : (w.alloc (.cells (factC h f) 57)).cell? ⟨w.heap.size, 5, none⟩ = some (.int .i64 f.ttl) := hA.cell 5
  have m6 : (w.alloc (.cells (factC h f) 57)).cell? ⟨w.heap.size, 6, none⟩ = some (.slice h.sa h.sl h.sc) := hA.cell 6
  have m7 : (w.alloc (.cells (factC h f) 57)).cell? ⟨w.heap.size, 7, none⟩ = some (.slice h.za h.zl h.zc) := hA.cell 7
  have m8 : (w.alloc (.cells (factC h f) 57)).cell? ⟨w.heap.size, 8, none⟩ = some (.slice h.d.ba h.d.bl h.d.bc) := hA.cell 8
  have m9 : (w.alloc (.cells (factC h f) 57)).cell? ⟨w.heap.size, 9, none⟩ = some (.slice h.d.ha h.d.hl h.d.hc) := hA.cell 9
  have m10 : (w.alloc (.cells (factC h f) 57)).cell? ⟨w.heap.size, 10, none⟩ = some (.slice h.d.ma h.d.ml h.d.mc) := hA.cell 10
  have m11 : (w.alloc (.cells (factC h f) 57)).cell? ⟨w.heap.size, 11, none⟩ = some (.slice h.d.na h.d.nl h.d.nc) := hA.cell 11
  have m12 : (w.alloc (.cells (factC h f) 57)).cell? ⟨w.heap.size, 12, none⟩ = some (.slice h.d.ta h.d.tl h.d.tc) := hA.cell 12
  have HS := Lib.hid (fsound_any _ S _ _ HF1.out)
  have HT := Lib.hid (fun w' => time_any now w')
  clear hA hC hf hl hb1 hk hL hBw
  cases hFB : factB f with
  | false =>
    have hput : putB L f now = false := by rw [putB, hFB]; rfl
    rw [hput]
    rw [hFB] at HS
    go_enter Tryz.func45, Tryz.ntmps45
    simp only [factC]
    go_wp2_with (go_at_call 65; refine HS.out.mono ?_; rintro e W ⟨rfl, hb⟩; have HW := Lib.hid (below_on HB.out.1 hb (Nat.le_refl _)); clear hb)
    go_ret
    exact ⟨rfl, Left.below HW.out HB.out.2, ⟨fun e => absurd e (by simp), fun _ => HCC.out.on HW.out⟩⟩
  | true =>
    rw [hFB] at HS
    cases hTB : timeB now with
    | false =>
      have hput : putB L f now = false := by rw [putB, hTB]; simp
      rw [hput]
      rw [hTB] at HT
      go_enter Tryz.func45, Tryz.ntmps45
      simp only [factC]
      go_wp2_with (first | (go_at_call 65; refine HS.out.mono ?_; rintro e W ⟨rfl, hb⟩; have HW := Lib.hid (below_on HB.out.1 hb (Nat.le_refl _)); clear hb) | (go_at_call 28; refine (HT.out _).mono ?_; rintro e w' ⟨rfl, rfl⟩))
      go_ret
      exact ⟨rfl, Left.below HW.out HB.out.2, ⟨fun e => absurd e (by simp), fun _ => HCC.out.on HW.out⟩⟩
    | true =>
      have hput : putB L f now = freeB L f now := by rw [putB, hFB, hTB]; simp
      rw [hput]
      rw [hTB] at HT
      have hfree : freeB L f now = (match atL L (keyF f) with | some s => beatsB s.f f now | none => true) := rfl
      have HZ := Lib.hid (fact_small hFB)
      cases hat : atL L (keyF f) with
      | none =>
        rw [hat] at hfree
        simp only at hfree
        rw [hfree]
        clear hput hfree
        go_enter Tryz.func45, Tryz.ntmps45
        simp only [factC]
        go_wp2_with (first | (go_at_call 65; refine HS.out.mono ?_; rintro e Y ⟨rfl, hb⟩; have hA := HA.out.on hb; have HW := Lib.hid (below_on HB.out.1 hb (Nat.le_refl _)); have HFY := Lib.hid (HF1.out.on hb); clear hb m0 m1 m2 m3 m4 m5 m6 m7 m8 m9 m10 m11 m12) | (go_at_call 28; refine (HT.out _).mono ?_; rintro e w' ⟨rfl, rfl⟩))
        obtain ⟨M, hCb, hMB, hML⟩ := HCC.out.ex
        have HMC := Lib.hid (show Y.drew.cell? ⟨C, 2, none⟩ = some (.map (some M)) from (hCb.on HW.out).cell 2)
        have HM0 := Lib.hid (show Y.drew.cell? ⟨w.heap.size, 0, none⟩ = some (.slice h.na h.nl h.nc) from hA.cell 0)
        have HM1 := Lib.hid (show Y.drew.cell? ⟨w.heap.size, 1, none⟩ = some (.int .i64 f.typ) from hA.cell 1)
        have HM2 := Lib.hid (show Y.drew.cell? ⟨w.heap.size, 2, none⟩ = some (.int .i64 f.kind) from hA.cell 2)
        have HM3 := Lib.hid (show Y.drew.cell? ⟨w.heap.size, 3, none⟩ = some (.int .i64 f.rank) from hA.cell 3)
        have HM4 := Lib.hid (show Y.drew.cell? ⟨w.heap.size, 4, none⟩ = some (.int .i64 f.got) from hA.cell 4)
        have HM5 := Lib.hid (show Y.drew.cell? ⟨w.heap.size, 5, none⟩ = some (.int .i64 f.ttl) from hA.cell 5)
        have HM6 := Lib.hid (show Y.drew.cell? ⟨w.heap.size, 6, none⟩ = some (.slice h.sa h.sl h.sc) from hA.cell 6)
        have HM7 := Lib.hid (show Y.drew.cell? ⟨w.heap.size, 7, none⟩ = some (.slice h.za h.zl h.zc) from hA.cell 7)
        have HM8 := Lib.hid (show Y.drew.cell? ⟨w.heap.size, 8, none⟩ = some (.slice h.d.ba h.d.bl h.d.bc) from hA.cell 8)
        have HM9 := Lib.hid (show Y.drew.cell? ⟨w.heap.size, 9, none⟩ = some (.slice h.d.ha h.d.hl h.d.hc) from hA.cell 9)
        have HM10 := Lib.hid (show Y.drew.cell? ⟨w.heap.size, 10, none⟩ = some (.slice h.d.ma h.d.ml h.d.mc) from hA.cell 10)
        have HM11 := Lib.hid (show Y.drew.cell? ⟨w.heap.size, 11, none⟩ = some (.slice h.d.na h.d.nl h.d.nc) from hA.cell 11)
        have HM12 := Lib.hid (show Y.drew.cell? ⟨w.heap.size, 12, none⟩ = some (.slice h.d.ta h.d.tl h.d.tc) from hA.cell 12)
        have HKY := Lib.hid (fun w' (p : Below Y.heap.size Y w') => fkey_any w' h f ((HFY.out).on p).name (Nat.le_trans HZ.out (by decide)))
        simp only [factC] at HKY
        have HLK := Lib.hid (fun w' (p : Below Y.heap.size Y w') => ((hML.on (HW.out.block M hML.lt)).on (p.block M (Nat.lt_of_lt_of_le hML.lt HW.out.size))).look_ok (key := keyF f) (by rw [keyF, keyP_size]; have := HZ.out; omega))
        simp only [hat] at HLK
        have HAY := Lib.hid hA
        clear hCb hMB hML hA
        refine wp_soup0 (m := 45) (by kernel_rfl) (fun x y => Below x.heap.size x y) (fun i v xw => match i with | 0 => v = .pointer (some ⟨C, 0, none⟩) | 1 => v = .pointer (some ⟨C, 0, none⟩) | 2 => v = .pointer (some ⟨C, 2, none⟩) | 3 => v = .map (some M) | 4 => v = .agg #[.slice h.na h.nl h.nc, .int .i64 f.typ, .int .i64 f.kind, .int .i64 f.rank, .int .i64 f.got, .int .i64 f.ttl, .slice h.sa h.sl h.sc, .slice h.za h.zl h.zc, .slice h.d.ba h.d.bl h.d.bc, .slice h.d.ha h.d.hl h.d.hc, .slice h.d.ma h.d.ml h.d.mc, .slice h.d.na h.d.nl h.d.nc, .slice h.d.ta h.d.tl h.d.tc] | 5 => v = .string (⟨(keyF f).toArray⟩) | 6 => v = .tuple #[.pointer none, .bool false] | 7 => v = .tuple #[.pointer none, .bool false] | 8 => v = .pointer none | 9 => v = .bool false | 10 => v = .pointer none | 11 => v = .bool false | _ => True) rfl (by kernel_rfl) (fun _ _ _ h1 h2 => below_on h1 h2 (Nat.le_refl _)) (Below.refl _ _) (fun _ _ _ _ h _ => h) (dst_but 12 (by kernel_rfl) (fun _ _ h => h)) ?_ ?_
        rotate_left
        · intro a Z hR hS hdep
          have e0 : a.tmps.getD 0 undef = .pointer (some ⟨C, 0, none⟩) := hS.keep 0 (by kernel_rfl)
          have e2 : a.tmps.getD 2 undef = .int .i64 now := hS.keep 2 (by kernel_rfl)
          have e4 : a.tmps.getD 4 undef = .pointer (some ⟨w.heap.size, 0, none⟩) := hS.keep 4 (by kernel_rfl)
          have e7 : a.tmps.getD 7 undef = .pointer none := hdep 10 (by decide +kernel)
          have e8 : a.tmps.getD 8 undef = .bool false := hdep 11 (by decide +kernel)
          obtain ⟨T, df⟩ := a
          obtain rfl : df = [] := hS.defers
          have hT : T = #[T.getD 0 undef, T.getD 1 undef, T.getD 2 undef, T.getD 3 undef, T.getD 4 undef, T.getD 5 undef, T.getD 6 undef, T.getD 7 undef, T.getD 8 undef, T.getD 9 undef, T.getD 10 undef, T.getD 11 undef, T.getD 12 undef, T.getD 13 undef, T.getD 14 undef, T.getD 15 undef, T.getD 16 undef, T.getD 17 undef, T.getD 18 undef, T.getD 19 undef, T.getD 20 undef, T.getD 21 undef, T.getD 22 undef, T.getD 23 undef, T.getD 24 undef, T.getD 25 undef, T.getD 26 undef, T.getD 27 undef, T.getD 28 undef, T.getD 29 undef, T.getD 30 undef, T.getD 31 undef, T.getD 32 undef, T.getD 33 undef, T.getD 34 undef, T.getD 35 undef, T.getD 36 undef, T.getD 37 undef, T.getD 38 undef, T.getD 39 undef, T.getD 40 undef, T.getD 41 undef, T.getD 42 undef, T.getD 43 undef, T.getD 44 undef] := arr_eta T 45 hS.size
          have k0 : T.getD 0 undef = .pointer (some ⟨C, 0, none⟩) := e0
          have k2 : T.getD 2 undef = .int .i64 now := e2
          have k4 : T.getD 4 undef = .pointer (some ⟨w.heap.size, 0, none⟩) := e4
          have k7 : T.getD 7 undef = .pointer none := e7
          have k8 : T.getD 8 undef = .bool false := e8
          clear hS hdep
          rw [hT]
          rw [k0]
          clear k0 e0
          rw [k2]
          clear k2 e2
          rw [k4]
          clear k4 e4
          rw [k7]
          clear k7 e7
          rw [k8]
          clear k8 e8
          clear hT
          generalize T.getD 1 undef = u1
          generalize T.getD 3 undef = u3
          generalize T.getD 5 undef = u5
          generalize T.getD 6 undef = u6
          generalize T.getD 9 undef = u9
          generalize T.getD 10 undef = u10
          generalize T.getD 11 undef = u11
          generalize T.getD 12 undef = u12
          generalize T.getD 13 undef = u13
          generalize T.getD 14 undef = u14
          generalize T.getD 15 undef = u15
          generalize T.getD 16 undef = u16
          generalize T.getD 17 undef = u17
          generalize T.getD 18 undef = u18
          generalize T.getD 19 undef = u19
          generalize T.getD 20 undef = u20
          generalize T.getD 21 undef = u21
          generalize T.getD 22 undef = u22
          generalize T.getD 23 undef = u23
          generalize T.getD 24 undef = u24
          generalize T.getD 25 undef = u25
          generalize T.getD 26 undef = u26
          generalize T.getD 27 undef = u27
          generalize T.getD 28 undef = u28
          generalize T.getD 29 undef = u29
          generalize T.getD 30 undef = u30
          generalize T.getD 31 undef = u31
          generalize T.getD 32 undef = u32
          generalize T.getD 33 undef = u33
          generalize T.getD 34 undef = u34
          generalize T.getD 35 undef = u35
          generalize T.getD 36 undef = u36
          generalize T.getD 37 undef = u37
          generalize T.getD 38 undef = u38
          generalize T.getD 39 undef = u39
          generalize T.getD 40 undef = u40
          generalize T.getD 41 undef = u41
          generalize T.getD 42 undef = u42
          generalize T.getD 43 undef = u43
          generalize T.getD 44 undef = u44
          have hbx := below_on (B := Y.heap.size) (Below.drew (Below.refl _ _)) hR (Nat.le_refl _)
          clear hR
          have hAZ := HAY.out.on hbx
          have HWZ := Lib.hid (below_on HW.out hbx (Nat.le_refl _))
          have HFZ := Lib.hid (HFY.out.on hbx)
          clear hbx
          have HAZ := Lib.hid hAZ
          clear hAZ
          go_wp2_with fail
          refine wp_soup0 (m := 45) (by kernel_rfl) (fun x y => Below x.heap.size x y) (fun i v xw => match i with | 0 => v = .bool false | 1 => v = .bool false | 2 => v = undef | 3 => v = undef | 4 => v = undef | 5 => v = undef | 6 => v = undef | 7 => v = undef | 8 => v = undef | 9 => v = undef | 10 => v = .bool false | _ => True) rfl (by kernel_rfl) (fun _ _ _ h1 h2 => below_on h1 h2 (Nat.le_refl _)) (Below.refl _ _) (fun _ _ _ _ h _ => h) (dst_but 11 (by kernel_rfl) (fun _ _ h => h)) ?_ ?_
          rotate_left
          · intro a V hR hS hdep
            have e0 : a.tmps.getD 0 undef = .pointer (some ⟨C, 0, none⟩) := hS.keep 0 (by kernel_rfl)
            have e4 : a.tmps.getD 4 undef = .pointer (some ⟨w.heap.size, 0, none⟩) := hS.keep 4 (by kernel_rfl)
            have e41 : a.tmps.getD 41 undef = .bool false := hdep 10 (by decide +kernel)
            obtain ⟨T, df⟩ := a
            obtain rfl : df = [] := hS.defers
            have hT : T = #[T.getD 0 undef, T.getD 1 undef, T.getD 2 undef, T.getD 3 undef, T.getD 4 undef, T.getD 5 undef, T.getD 6 undef, T.getD 7 undef, T.getD 8 undef, T.getD 9 undef, T.getD 10 undef, T.getD 11 undef, T.getD 12 undef, T.getD 13 undef, T.getD 14 undef, T.getD 15 undef, T.getD 16 undef, T.getD 17 undef, T.getD 18 undef, T.getD 19 undef, T.getD 20 undef, T.getD 21 undef, T.getD 22 undef, T.getD 23 undef, T.getD 24 undef, T.getD 25 undef, T.getD 26 undef, T.getD 27 undef, T.getD 28 undef, T.getD 29 undef, T.getD 30 undef, T.getD 31 undef, T.getD 32 undef, T.getD 33 undef, T.getD 34 undef, T.getD 35 undef, T.getD 36 undef, T.getD 37 undef, T.getD 38 undef, T.getD 39 undef, T.getD 40 undef, T.getD 41 undef, T.getD 42 undef, T.getD 43 undef, T.getD 44 undef] := arr_eta T 45 hS.size
            have k0 : T.getD 0 undef = .pointer (some ⟨C, 0, none⟩) := e0
            have k4 : T.getD 4 undef = .pointer (some ⟨w.heap.size, 0, none⟩) := e4
            have k41 : T.getD 41 undef = .bool false := e41
            clear hS hdep
            rw [hT]
            rw [k0]
            clear k0 e0
            rw [k4]
            clear k4 e4
            rw [k41]
            clear k41 e41
            clear hT
            generalize T.getD 1 undef = u1
            generalize T.getD 2 undef = u2
            generalize T.getD 3 undef = u3
            generalize T.getD 5 undef = u5
            generalize T.getD 6 undef = u6
            generalize T.getD 7 undef = u7
            generalize T.getD 8 undef = u8
            generalize T.getD 9 undef = u9
            generalize T.getD 10 undef = u10
            generalize T.getD 11 undef = u11
            generalize T.getD 12 undef = u12
            generalize T.getD 13 undef = u13
            generalize T.getD 14 undef = u14
            generalize T.getD 15 undef = u15
            generalize T.getD 16 undef = u16
            generalize T.getD 17 undef = u17
            generalize T.getD 18 undef = u18
            generalize T.getD 19 undef = u19
            generalize T.getD 20 undef = u20
            generalize T.getD 21 undef = u21
            generalize T.getD 22 undef = u22
            generalize T.getD 23 undef = u23
            generalize T.getD 24 undef = u24
            generalize T.getD 25 undef = u25
            generalize T.getD 26 undef = u26
            generalize T.getD 27 undef = u27
            generalize T.getD 28 undef = u28
            generalize T.getD 29 undef = u29
            generalize T.getD 30 undef = u30
            generalize T.getD 31 undef = u31
            generalize T.getD 32 undef = u32
            generalize T.getD 33 undef = u33
            generalize T.getD 34 undef = u34
            generalize T.getD 35 undef = u35
            generalize T.getD 36 undef = u36
            generalize T.getD 37 undef = u37
            generalize T.getD 38 undef = u38
            generalize T.getD 39 undef = u39
            generalize T.getD 40 undef = u40
            generalize T.getD 42 undef = u42
            generalize T.getD 43 undef = u43
            generalize T.getD 44 undef = u44
            have hbx := below_on (B := Z.heap.size) (Below.drew (Below.refl _ _)) hR (Nat.le_refl _)
            clear hR
            have hAV := HAZ.out.on hbx
            have HWV := Lib.hid (below_on HWZ.out hbx (Nat.le_refl _))
            have HFV := Lib.hid (HFZ.out.on hbx)
            clear hbx
            have n0 : V.cell? ⟨w.heap.size, 0, none⟩ = some (.slice h.na h.nl h.nc) := hAV.cell 0
            have n1 : V.cell? ⟨w.heap.size, 1, none⟩ = some (.int .i64 f.typ) := hAV.cell 1
            have n2 : V.cell? ⟨w.heap.size, 2, none⟩ = some (.int .i64 f.kind) := hAV.cell 2
            have n3 : V.cell? ⟨w.heap.size, 3, none⟩ = some (.int .i64 f.rank) := hAV.cell 3
            have n4 : V.cell? ⟨w.heap.size, 4, none⟩ = some (.int .i64 f.got) := hAV.cell 4
            have n5 : V.cell? ⟨w.heap.size, 5, none⟩ = some (.int .i64 f.ttl) := hAV.cell 5
            have n6 : V.cell? ⟨w.heap.size, 6, none⟩ = some (.slice h.sa h.sl h.sc) := hAV.cell 6
            have n7 : V.cell? ⟨w.heap.size, 7, none⟩ = some (.slice h.za h.zl h.zc) := hAV.cell 7
            have n8 : V.cell? ⟨w.heap.size, 8, none⟩ = some (.slice h.d.ba h.d.bl h.d.bc) := hAV.cell 8
            have n9 : V.cell? ⟨w.heap.size, 9, none⟩ = some (.slice h.d.ha h.d.hl h.d.hc) := hAV.cell 9
            have n10 : V.cell? ⟨w.heap.size, 10, none⟩ = some (.slice h.d.ma h.d.ml h.d.mc) := hAV.cell 10
            have n11 : V.cell? ⟨w.heap.size, 11, none⟩ = some (.slice h.d.na h.d.nl h.d.nc) := hAV.cell 11
            have n12 : V.cell? ⟨w.heap.size, 12, none⟩ = some (.slice h.d.ta h.d.tl h.d.tc) := hAV.cell 12
            clear hAV
            go_wp2_with (go_at_call 73; refine (lay_full V S B C most stale k L (HCC.out.on HWV.out) HV.out.2.1 HV.out.2.2 h f HFV.out hFB HV.out.1).mono ?_; rintro e V2 ⟨rfl, b, kk, hI, hL⟩)
            go_ret
            exact ⟨rfl, (Left.below HWV.out HB.out.2).trans hL, ⟨fun _ => ⟨b, kk, hI⟩, fun e => absurd e (by simp)⟩⟩
          refine soup_cons rfl rfl (fun a V hR hS hdep K hK => ?_) ?_
          · have e8 : a.tmps[8]?.getD undef = .bool false := slot_of (hS.keep 8 (by kernel_rfl))
            go_simp
            exact hK _ _ (Below.refl _ _) (by first | rfl | simp)
          refine soup_cons rfl rfl (fun a V hR hS hdep K hK => ?_) ?_
          · have e31 : a.tmps[31]?.getD undef = .bool false := slot_of (hdep 0 (by decide +kernel))
            go_simp
            exact hK _ _ (Below.refl _ _) (by first | rfl | simp)
          refine soup_cons rfl rfl (fun a V hR hS hdep K hK => ?_) ?_
          · have e32 : a.tmps[32]?.getD undef = .bool false := slot_of (hdep 1 (by decide +kernel))
            have g32 : a.tmps[32]? = some (.bool false) := slot_at (show _ = 45 from hS.size) (by decide) (hdep 1 (by decide +kernel))
            go_simp
            exact hK _ _ (Below.refl _ _) (by first | rfl | simp)
          refine soup_cons rfl rfl (fun a V hR hS hdep K hK => ?_) ?_
          · have e32 : a.tmps[32]?.getD undef = .bool false := slot_of (hdep 1 (by decide +kernel))
            have g32 : a.tmps[32]? = some (.bool false) := slot_at (show _ = 45 from hS.size) (by decide) (hdep 1 (by decide +kernel))
            go_simp
            exact hK _ _ (Below.refl _ _) (by first | rfl | simp)
          refine soup_cons rfl rfl (fun a V hR hS hdep K hK => ?_) ?_
          · have e32 : a.tmps[32]?.getD undef = .bool false := slot_of (hdep 1 (by decide +kernel))
            have g32 : a.tmps[32]? = some (.bool false) := slot_at (show _ = 45 from hS.size) (by decide) (hdep 1 (by decide +kernel))
            go_simp
            exact hK _ _ (Below.refl _ _) (by first | rfl | simp)
          refine soup_cons rfl rfl (fun a V hR hS hdep K hK => ?_) ?_
          · have e32 : a.tmps[32]?.getD undef = .bool false := slot_of (hdep 1 (by decide +kernel))
            have g32 : a.tmps[32]? = some (.bool false) := slot_at (show _ = 45 from hS.size) (by decide) (hdep 1 (by decide +kernel))
            go_simp
            exact hK _ _ (Below.refl _ _) (by first | rfl | simp)
          refine soup_cons rfl rfl (fun a V hR hS hdep K hK => ?_) ?_
          · have e32 : a.tmps[32]?.getD undef = .bool false := slot_of (hdep 1 (by decide +kernel))
            have g32 : a.tmps[32]? = some (.bool false) := slot_at (show _ = 45 from hS.size) (by decide) (hdep 1 (by decide +kernel))
            go_simp
            exact hK _ _ (Below.refl _ _) (by first | rfl | simp)
          refine soup_cons rfl rfl (fun a V hR hS hdep K hK => ?_) ?_
          · have e32 : a.tmps[32]?.getD undef = .bool false := slot_of (hdep 1 (by decide +kernel))
            have g32 : a.tmps[32]? = some (.bool false) := slot_at (show _ = 45 from hS.size) (by decide) (hdep 1 (by decide +kernel))
            go_simp
            exact hK _ _ (Below.refl _ _) (by first | rfl | simp)
          refine soup_cons rfl rfl (fun a V hR hS hdep K hK => ?_) ?_
          · have e32 : a.tmps[32]?.getD undef = .bool false := slot_of (hdep 1 (by decide +kernel))
            have g32 : a.tmps[32]? = some (.bool false) := slot_at (show _ = 45 from hS.size) (by decide) (hdep 1 (by decide +kernel))
            go_simp
            exact hK _ _ (Below.refl _ _) (by first | rfl | simp)
          refine soup_cons rfl rfl (fun a V hR hS hdep K hK => ?_) ?_
          · have e32 : a.tmps[32]?.getD undef = .bool false := slot_of (hdep 1 (by decide +kernel))
            have g32 : a.tmps[32]? = some (.bool false) := slot_at (show _ = 45 from hS.size) (by decide) (hdep 1 (by decide +kernel))
            go_simp
            exact hK _ _ (Below.refl _ _) (by first | rfl | simp)
          refine soup_cons rfl rfl (fun a V hR hS hdep K hK => ?_) ?_
          · have e32 : a.tmps[32]?.getD undef = .bool false := slot_of (hdep 1 (by decide +kernel))
            have e40 : a.tmps[40]?.getD undef = undef := slot_of (hdep 9 (by decide +kernel))
            go_simp
            exact hK _ _ (Below.refl _ _) rfl
          exact fun j h1 h2 => absurd h1 (by simp only [List.size_toArray, List.length_cons, List.length_nil]; omega)
        refine soup_cons rfl rfl (fun a Z hR hS hdep K hK => ?_) ?_
        · have e0 : a.tmps[0]?.getD undef = .pointer (some ⟨C, 0, none⟩) := slot_of (hS.keep 0 (by kernel_rfl))
          go_simp
          exact hK _ _ (Below.refl _ _) (by first | rfl | simp)
        refine soup_cons rfl rfl (fun a Z hR hS hdep K hK => ?_) ?_
        · have e22 : a.tmps[22]?.getD undef = .pointer (some ⟨C, 0, none⟩) := slot_of (hdep 0 (by decide +kernel))
          go_simp
          exact hK _ _ (Below.refl _ _) (by first | rfl | simp)
        refine soup_cons rfl rfl (fun a Z hR hS hdep K hK => ?_) ?_
        · have e23 : a.tmps[23]?.getD undef = .pointer (some ⟨C, 0, none⟩) := slot_of (hdep 1 (by decide +kernel))
          go_simp
          exact hK _ _ (Below.refl _ _) (by first | rfl | simp)
        refine soup_cons rfl rfl (fun a Z hR hS hdep K hK => ?_) ?_
        · have e24 : a.tmps[24]?.getD undef = .pointer (some ⟨C, 2, none⟩) := slot_of (hdep 2 (by decide +kernel))
          have m0 := cell_keep hR HMC.out
          go_simp
          exact hK _ _ (Below.refl _ _) (by first | rfl | simp)
        refine soup_cons rfl rfl (fun a Z hR hS hdep K hK => ?_) ?_
        · have e4 : a.tmps[4]?.getD undef = .pointer (some ⟨w.heap.size, 0, none⟩) := slot_of (hS.keep 4 (by kernel_rfl))
          have m0 := cell_keep hR HM0.out
          have m1 := cell_keep hR HM1.out
          have m2 := cell_keep hR HM2.out
          have m3 := cell_keep hR HM3.out
          have m4 := cell_keep hR HM4.out
          have m5 := cell_keep hR HM5.out
          have m6 := cell_keep hR HM6.out
          have m7 := cell_keep hR HM7.out
          have m8 := cell_keep hR HM8.out
          have m9 := cell_keep hR HM9.out
          have m10 := cell_keep hR HM10.out
          have m11 := cell_keep hR HM11.out
          have m12 := cell_keep hR HM12.out
          go_simp
          exact hK _ _ (Below.refl _ _) (by first | rfl | simp)
        refine soup_cons rfl rfl (fun a Z hR hS hdep K hK => ?_) ?_
        · have e26 : a.tmps[26]?.getD undef = .agg #[.slice h.na h.nl h.nc, .int .i64 f.typ, .int .i64 f.kind, .int .i64 f.rank, .int .i64 f.got, .int .i64 f.ttl, .slice h.sa h.sl h.sc, .slice h.za h.zl h.zc, .slice h.d.ba h.d.bl h.d.bc, .slice h.d.ha h.d.hl h.d.hc, .slice h.d.ma h.d.ml h.d.mc, .slice h.d.na h.d.nl h.d.nc, .slice h.d.ta h.d.tl h.d.tc] := slot_of (hdep 4 (by decide +kernel))
          go_simp
          have hbx := below_on (B := Y.heap.size) (Below.drew (Below.refl _ _)) hR (Nat.le_refl _)
          refine (HKY.out _ hbx).mono ?_
          rintro e W' ⟨rfl, hb⟩
          exact hK _ _ hb rfl
        refine soup_cons rfl rfl (fun a Z hR hS hdep K hK => ?_) ?_
        · have e25 : a.tmps[25]?.getD undef = .map (some M) := slot_of (hdep 3 (by decide +kernel))
          have e27 : a.tmps[27]?.getD undef = .string (⟨(keyF f).toArray⟩) := slot_of (hdep 5 (by decide +kernel))
          go_simp
          have hbx := below_on (B := Y.heap.size) (Below.drew (Below.refl _ _)) hR (Nat.le_refl _)
          rw [HLK.out _ hbx]
          exact hK _ _ (Below.refl _ _) rfl
        refine soup_cons rfl rfl (fun a Z hR hS hdep K hK => ?_) ?_
        · have e28 : a.tmps[28]?.getD undef = .tuple #[.pointer none, .bool false] := slot_of (hdep 6 (by decide +kernel))
          go_simp
          exact hK _ _ (Below.refl _ _) (by first | rfl | simp)
        refine soup_cons rfl rfl (fun a Z hR hS hdep K hK => ?_) ?_
        · have e21 : a.tmps[21]?.getD undef = .tuple #[.pointer none, .bool false] := slot_of (hdep 7 (by decide +kernel))
          go_simp
          exact hK _ _ (Below.refl _ _) rfl
        refine soup_cons rfl rfl (fun a Z hR hS hdep K hK => ?_) ?_
        · have e21 : a.tmps[21]?.getD undef = .tuple #[.pointer none, .bool false] := slot_of (hdep 7 (by decide +kernel))
          go_simp
          exact hK _ _ (Below.refl _ _) rfl
        refine soup_cons rfl rfl (fun a Z hR hS hdep K hK => ?_) ?_
        · have e29 : a.tmps[29]?.getD undef = .pointer none := slot_of (hdep 8 (by decide +kernel))
          go_simp
          exact hK _ _ (Below.refl _ _) (by first | rfl | simp)
        refine soup_cons rfl rfl (fun a Z hR hS hdep K hK => ?_) ?_
        · have e30 : a.tmps[30]?.getD undef = .bool false := slot_of (hdep 9 (by decide +kernel))
          go_simp
          exact hK _ _ (Below.refl _ _) (by first | rfl | simp)
        exact fun j h1 h2 => absurd h1 (by simp only [List.size_toArray, List.length_cons, List.length_nil]; omega)
      | some s =>
        rw [hat] at hfree
        simp only at hfree
        rw [hfree]
        clear hput hfree
        obtain ⟨BT, hBT⟩ : ∃ q : Bool, q = beatsB s.f f now := ⟨_, rfl⟩
        rw [← hBT]
        go_enter Tryz.func45, Tryz.ntmps45
        simp only [factC]
        go_wp2_with (first | (go_at_call 65; refine HS.out.mono ?_; rintro e Y ⟨rfl, hb⟩; have hA := HA.out.on hb; have HW := Lib.hid (below_on HB.out.1 hb (Nat.le_refl _)); have HFY := Lib.hid (HF1.out.on hb); clear hb m0 m1 m2 m3 m4 m5 m6 m7 m8 m9 m10 m11 m12) | (go_at_call 28; refine (HT.out _).mono ?_; rintro e w' ⟨rfl, rfl⟩))
        obtain ⟨M, hCb, hMB, hML⟩ := HCC.out.ex
        have HMC := Lib.hid (show Y.drew.cell? ⟨C, 2, none⟩ = some (.map (some M)) from (hCb.on HW.out).cell 2)
        have HM0 := Lib.hid (show Y.drew.cell? ⟨w.heap.size, 0, none⟩ = some (.slice h.na h.nl h.nc) from hA.cell 0)
        have HM1 := Lib.hid (show Y.drew.cell? ⟨w.heap.size, 1, none⟩ = some (.int .i64 f.typ) from hA.cell 1)
        have HM2 := Lib.hid (show Y.drew.cell? ⟨w.heap.size, 2, none⟩ = some (.int .i64 f.kind) from hA.cell 2)
        have HM3 := Lib.hid (show Y.drew.cell? ⟨w.heap.size, 3, none⟩ = some (.int .i64 f.rank) from hA.cell 3)
        have HM4 := Lib.hid (show Y.drew.cell? ⟨w.heap.size, 4, none⟩ = some (.int .i64 f.got) from hA.cell 4)
        have HM5 := Lib.hid (show Y.drew.cell? ⟨w.heap.size, 5, none⟩ = some (.int .i64 f.ttl) from hA.cell 5)
        have HM6 := Lib.hid (show Y.drew.cell? ⟨w.heap.size, 6, none⟩ = some (.slice h.sa h.sl h.sc) from hA.cell 6)
        have HM7 := Lib.hid (show Y.drew.cell? ⟨w.heap.size, 7, none⟩ = some (.slice h.za h.zl h.zc) from hA.cell 7)
        have HM8 := Lib.hid (show Y.drew.cell? ⟨w.heap.size, 8, none⟩ = some (.slice h.d.ba h.d.bl h.d.bc) from hA.cell 8)
        have HM9 := Lib.hid (show Y.drew.cell? ⟨w.heap.size, 9, none⟩ = some (.slice h.d.ha h.d.hl h.d.hc) from hA.cell 9)
        have HM10 := Lib.hid (show Y.drew.cell? ⟨w.heap.size, 10, none⟩ = some (.slice h.d.ma h.d.ml h.d.mc) from hA.cell 10)
        have HM11 := Lib.hid (show Y.drew.cell? ⟨w.heap.size, 11, none⟩ = some (.slice h.d.na h.d.nl h.d.nc) from hA.cell 11)
        have HM12 := Lib.hid (show Y.drew.cell? ⟨w.heap.size, 12, none⟩ = some (.slice h.d.ta h.d.tl h.d.tc) from hA.cell 12)
        have HKY := Lib.hid (fun w' (p : Below Y.heap.size Y w') => fkey_any w' h f ((HFY.out).on p).name (Nat.le_trans HZ.out (by decide)))
        simp only [factC] at HKY
        have HLK := Lib.hid (fun w' (p : Below Y.heap.size Y w') => ((hML.on (HW.out.block M hML.lt)).on (p.block M (Nat.lt_of_lt_of_le hML.lt HW.out.size))).look_ok (key := keyF f) (by rw [keyF, keyP_size]; have := HZ.out; omega))
        simp only [hat] at HLK
        have HAY := Lib.hid hA
        clear hCb hMB hML hA
        refine wp_soup0 (m := 45) (by kernel_rfl) (fun x y => Below x.heap.size x y) (fun i v xw => match i with | 0 => v = .pointer (some ⟨C, 0, none⟩) | 1 => v = .pointer (some ⟨C, 0, none⟩) | 2 => v = .pointer (some ⟨C, 2, none⟩) | 3 => v = .map (some M) | 4 => v = .agg #[.slice h.na h.nl h.nc, .int .i64 f.typ, .int .i64 f.kind, .int .i64 f.rank, .int .i64 f.got, .int .i64 f.ttl, .slice h.sa h.sl h.sc, .slice h.za h.zl h.zc, .slice h.d.ba h.d.bl h.d.bc, .slice h.d.ha h.d.hl h.d.hc, .slice h.d.ma h.d.ml h.d.mc, .slice h.d.na h.d.nl h.d.nc, .slice h.d.ta h.d.tl h.d.tc] | 5 => v = .string (⟨(keyF f).toArray⟩) | 6 => v = .tuple #[.pointer (some ⟨s.b, 0, none⟩), .bool true] | 7 => v = .tuple #[.pointer (some ⟨s.b, 0, none⟩), .bool true] | 8 => v = .pointer (some ⟨s.b, 0, none⟩) | 9 => v = .bool true | 10 => v = .pointer (some ⟨s.b, 0, none⟩) | 11 => v = .bool true | _ => True) rfl (by kernel_rfl) (fun _ _ _ h1 h2 => below_on h1 h2 (Nat.le_refl _)) (Below.refl _ _) (fun _ _ _ _ h _ => h) (dst_but 12 (by kernel_rfl) (fun _ _ h => h)) ?_ ?_
        rotate_left
        · intro a Z hR hS hdep
          have e0 : a.tmps.getD 0 undef = .pointer (some ⟨C, 0, none⟩) := hS.keep 0 (by kernel_rfl)
          have e2 : a.tmps.getD 2 undef = .int .i64 now := hS.keep 2 (by kernel_rfl)
          have e4 : a.tmps.getD 4 undef = .pointer (some ⟨w.heap.size, 0, none⟩) := hS.keep 4 (by kernel_rfl)
          have e7 : a.tmps.getD 7 undef = .pointer (some ⟨s.b, 0, none⟩) := hdep 10 (by decide +kernel)
          have e8 : a.tmps.getD 8 undef = .bool true := hdep 11 (by decide +kernel)
          obtain ⟨T, df⟩ := a
          obtain rfl : df = [] := hS.defers
          have hT : T = #[T.getD 0 undef, T.getD 1 undef, T.getD 2 undef, T.getD 3 undef, T.getD 4 undef, T.getD 5 undef, T.getD 6 undef, T.getD 7 undef, T.getD 8 undef, T.getD 9 undef, T.getD 10 undef, T.getD 11 undef, T.getD 12 undef, T.getD 13 undef, T.getD 14 undef, T.getD 15 undef, T.getD 16 undef, T.getD 17 undef, T.getD 18 undef, T.getD 19 undef, T.getD 20 undef, T.getD 21 undef, T.getD 22 undef, T.getD 23 undef, T.getD 24 undef, T.getD 25 undef, T.getD 26 undef, T.getD 27 undef, T.getD 28 undef, T.getD 29 undef, T.getD 30 undef, T.getD 31 undef, T.getD 32 undef, T.getD 33 undef, T.getD 34 undef, T.getD 35 undef, T.getD 36 undef, T.getD 37 undef, T.getD 38 undef, T.getD 39 undef, T.getD 40 undef, T.getD 41 undef, T.getD 42 undef, T.getD 43 undef, T.getD 44 undef] := arr_eta T 45 hS.size
          have k0 : T.getD 0 undef = .pointer (some ⟨C, 0, none⟩) := e0
          have k2 : T.getD 2 undef = .int .i64 now := e2
          have k4 : T.getD 4 undef = .pointer (some ⟨w.heap.size, 0, none⟩) := e4
          have k7 : T.getD 7 undef = .pointer (some ⟨s.b, 0, none⟩) := e7
          have k8 : T.getD 8 undef = .bool true := e8
          clear hS hdep
          rw [hT]
          rw [k0]
          clear k0 e0
          rw [k2]
          clear k2 e2
          rw [k4]
          clear k4 e4
          rw [k7]
          clear k7 e7
          rw [k8]
          clear k8 e8
          clear hT
          generalize T.getD 1 undef = u1
          generalize T.getD 3 undef = u3
          generalize T.getD 5 undef = u5
          generalize T.getD 6 undef = u6
          generalize T.getD 9 undef = u9
          generalize T.getD 10 undef = u10
          generalize T.getD 11 undef = u11
          generalize T.getD 12 undef = u12
          generalize T.getD 13 undef = u13
          generalize T.getD 14 undef = u14
          generalize T.getD 15 undef = u15
          generalize T.getD 16 undef = u16
          generalize T.getD 17 undef = u17
          generalize T.getD 18 undef = u18
          generalize T.getD 19 undef = u19
          generalize T.getD 20 undef = u20
          generalize T.getD 21 undef = u21
          generalize T.getD 22 undef = u22
          generalize T.getD 23 undef = u23
          generalize T.getD 24 undef = u24
          generalize T.getD 25 undef = u25
          generalize T.getD 26 undef = u26
          generalize T.getD 27 undef = u27
          generalize T.getD 28 undef = u28
          generalize T.getD 29 undef = u29
          generalize T.getD 30 undef = u30
          generalize T.getD 31 undef = u31
          generalize T.getD 32 undef = u32
          generalize T.getD 33 undef = u33
          generalize T.getD 34 undef = u34
          generalize T.getD 35 undef = u35
          generalize T.getD 36 undef = u36
          generalize T.getD 37 undef = u37
          generalize T.getD 38 undef = u38
          generalize T.getD 39 undef = u39
          generalize T.getD 40 undef = u40
          generalize T.getD 41 undef = u41
          generalize T.getD 42 undef = u42
          generalize T.getD 43 undef = u43
          generalize T.getD 44 undef = u44
          have hbx := below_on (B := Y.heap.size) (Below.drew (Below.refl _ _)) hR (Nat.le_refl _)
          clear hR
          have hAZ := HAY.out.on hbx
          have HWZ := Lib.hid (below_on HW.out hbx (Nat.le_refl _))
          have HFZ := Lib.hid (HFY.out.on hbx)
          clear hbx
          have HAZ := Lib.hid hAZ
          have hsl := HCC.out.slot s (atL_mem hat).1
          have hiZ := hsl.2.1.on HWZ.out
          have HBT := Lib.hid (fun w' (p : Below Z.heap.size Z w') => beats_small w' _ S s.h h s.f f now BT hBT ((hsl.2.2.1.on HWZ.out).on p) (HFZ.out.on p))
          simp only [factC] at HBT
          have HP0 := Lib.hid (show Z.drew.cell? ⟨w.heap.size, 0, none⟩ = some (.slice h.na h.nl h.nc) from hAZ.cell 0)
          have HP1 := Lib.hid (show Z.drew.cell? ⟨w.heap.size, 1, none⟩ = some (.int .i64 f.typ) from hAZ.cell 1)
          have HP2 := Lib.hid (show Z.drew.cell? ⟨w.heap.size, 2, none⟩ = some (.int .i64 f.kind) from hAZ.cell 2)
          have HP3 := Lib.hid (show Z.drew.cell? ⟨w.heap.size, 3, none⟩ = some (.int .i64 f.rank) from hAZ.cell 3)
          have HP4 := Lib.hid (show Z.drew.cell? ⟨w.heap.size, 4, none⟩ = some (.int .i64 f.got) from hAZ.cell 4)
          have HP5 := Lib.hid (show Z.drew.cell? ⟨w.heap.size, 5, none⟩ = some (.int .i64 f.ttl) from hAZ.cell 5)
          have HP6 := Lib.hid (show Z.drew.cell? ⟨w.heap.size, 6, none⟩ = some (.slice h.sa h.sl h.sc) from hAZ.cell 6)
          have HP7 := Lib.hid (show Z.drew.cell? ⟨w.heap.size, 7, none⟩ = some (.slice h.za h.zl h.zc) from hAZ.cell 7)
          have HP8 := Lib.hid (show Z.drew.cell? ⟨w.heap.size, 8, none⟩ = some (.slice h.d.ba h.d.bl h.d.bc) from hAZ.cell 8)
          have HP9 := Lib.hid (show Z.drew.cell? ⟨w.heap.size, 9, none⟩ = some (.slice h.d.ha h.d.hl h.d.hc) from hAZ.cell 9)
          have HP10 := Lib.hid (show Z.drew.cell? ⟨w.heap.size, 10, none⟩ = some (.slice h.d.ma h.d.ml h.d.mc) from hAZ.cell 10)
          have HP11 := Lib.hid (show Z.drew.cell? ⟨w.heap.size, 11, none⟩ = some (.slice h.d.na h.d.nl h.d.nc) from hAZ.cell 11)
          have HP12 := Lib.hid (show Z.drew.cell? ⟨w.heap.size, 12, none⟩ = some (.slice h.d.ta h.d.tl h.d.tc) from hAZ.cell 12)
          have HI0 := Lib.hid (show Z.drew.cell? ⟨s.b, 0, none⟩ = some (.slice s.h.na s.h.nl s.h.nc) from hiZ.cell 0)
          have HI1 := Lib.hid (show Z.drew.cell? ⟨s.b, 1, none⟩ = some (.int .i64 s.f.typ) from hiZ.cell 1)
          have HI2 := Lib.hid (show Z.drew.cell? ⟨s.b, 2, none⟩ = some (.int .i64 s.f.kind) from hiZ.cell 2)
          have HI3 := Lib.hid (show Z.drew.cell? ⟨s.b, 3, none⟩ = some (.int .i64 s.f.rank) from hiZ.cell 3)
          have HI4 := Lib.hid (show Z.drew.cell? ⟨s.b, 4, none⟩ = some (.int .i64 s.f.got) from hiZ.cell 4)
          have HI5 := Lib.hid (show Z.drew.cell? ⟨s.b, 5, none⟩ = some (.int .i64 s.f.ttl) from hiZ.cell 5)
          have HI6 := Lib.hid (show Z.drew.cell? ⟨s.b, 6, none⟩ = some (.slice s.h.sa s.h.sl s.h.sc) from hiZ.cell 6)
          have HI7 := Lib.hid (show Z.drew.cell? ⟨s.b, 7, none⟩ = some (.slice s.h.za s.h.zl s.h.zc) from hiZ.cell 7)
          have HI8 := Lib.hid (show Z.drew.cell? ⟨s.b, 8, none⟩ = some (.slice s.h.d.ba s.h.d.bl s.h.d.bc) from hiZ.cell 8)
          have HI9 := Lib.hid (show Z.drew.cell? ⟨s.b, 9, none⟩ = some (.slice s.h.d.ha s.h.d.hl s.h.d.hc) from hiZ.cell 9)
          have HI10 := Lib.hid (show Z.drew.cell? ⟨s.b, 10, none⟩ = some (.slice s.h.d.ma s.h.d.ml s.h.d.mc) from hiZ.cell 10)
          have HI11 := Lib.hid (show Z.drew.cell? ⟨s.b, 11, none⟩ = some (.slice s.h.d.na s.h.d.nl s.h.d.nc) from hiZ.cell 11)
          have HI12 := Lib.hid (show Z.drew.cell? ⟨s.b, 12, none⟩ = some (.slice s.h.d.ta s.h.d.tl s.h.d.tc) from hiZ.cell 12)
          clear hAZ hiZ hsl hBT
          go_wp2_with fail
          obtain ⟨X10, hX10⟩ : ∃ q : Bool, q = (true && (!BT)) := ⟨_, rfl⟩
          have HX10 := Lib.hid hX10
          clear hX10
          refine wp_soup0 (m := 45) (by kernel_rfl) (fun x y => Below x.heap.size x y) (fun i v xw => match i with | 0 => v = .bool true | 1 => v = .bool true | 2 => v = .pointer (some ⟨s.b, 0, none⟩) | 3 => v = .pointer (some ⟨s.b, 0, none⟩) | 4 => v = .pointer (some ⟨s.b, 0, none⟩) | 5 => v = .agg #[.slice s.h.na s.h.nl s.h.nc, .int .i64 s.f.typ, .int .i64 s.f.kind, .int .i64 s.f.rank, .int .i64 s.f.got, .int .i64 s.f.ttl, .slice s.h.sa s.h.sl s.h.sc, .slice s.h.za s.h.zl s.h.zc, .slice s.h.d.ba s.h.d.bl s.h.d.bc, .slice s.h.d.ha s.h.d.hl s.h.d.hc, .slice s.h.d.ma s.h.d.ml s.h.d.mc, .slice s.h.d.na s.h.d.nl s.h.d.nc, .slice s.h.d.ta s.h.d.tl s.h.d.tc] | 6 => v = .agg #[.slice h.na h.nl h.nc, .int .i64 f.typ, .int .i64 f.kind, .int .i64 f.rank, .int .i64 f.got, .int .i64 f.ttl, .slice h.sa h.sl h.sc, .slice h.za h.zl h.zc, .slice h.d.ba h.d.bl h.d.bc, .slice h.d.ha h.d.hl h.d.hc, .slice h.d.ma h.d.ml h.d.mc, .slice h.d.na h.d.nl h.d.nc, .slice h.d.ta h.d.tl h.d.tc] | 7 => v = .int .i64 now | 8 => v = .bool BT | 9 => v = .bool (!BT) | 10 => v = .bool X10 | _ => True) rfl (by kernel_rfl) (fun _ _ _ h1 h2 => below_on h1 h2 (Nat.le_refl _)) (Below.refl _ _) (fun _ _ _ _ h _ => h) (dst_but 11 (by kernel_rfl) (fun _ _ h => h)) ?_ ?_
          rotate_left
          · intro a V hR hS hdep
            have e0 : a.tmps.getD 0 undef = .pointer (some ⟨C, 0, none⟩) := hS.keep 0 (by kernel_rfl)
            have e4 : a.tmps.getD 4 undef = .pointer (some ⟨w.heap.size, 0, none⟩) := hS.keep 4 (by kernel_rfl)
            have e41 : a.tmps.getD 41 undef = .bool X10 := hdep 10 (by decide +kernel)
            obtain ⟨T, df⟩ := a
            obtain rfl : df = [] := hS.defers
            have hT : T = #[T.getD 0 undef, T.getD 1 undef, T.getD 2 undef, T.getD 3 undef, T.getD 4 undef, T.getD 5 undef, T.getD 6 undef, T.getD 7 undef, T.getD 8 undef, T.getD 9 undef, T.getD 10 undef, T.getD 11 undef, T.getD 12 undef, T.getD 13 undef, T.getD 14 undef, T.getD 15 undef, T.getD 16 undef, T.getD 17 undef, T.getD 18 undef, T.getD 19 undef, T.getD 20 undef, T.getD 21 undef, T.getD 22 undef, T.getD 23 undef, T.getD 24 undef, T.getD 25 undef, T.getD 26 undef, T.getD 27 undef, T.getD 28 undef, T.getD 29 undef, T.getD 30 undef, T.getD 31 undef, T.getD 32 undef, T.getD 33 undef, T.getD 34 undef, T.getD 35 undef, T.getD 36 undef, T.getD 37 undef, T.getD 38 undef, T.getD 39 undef, T.getD 40 undef, T.getD 41 undef, T.getD 42 undef, T.getD 43 undef, T.getD 44 undef] := arr_eta T 45 hS.size
            have k0 : T.getD 0 undef = .pointer (some ⟨C, 0, none⟩) := e0
            have k4 : T.getD 4 undef = .pointer (some ⟨w.heap.size, 0, none⟩) := e4
            have k41 : T.getD 41 undef = .bool X10 := e41
            clear hS hdep
            rw [hT]
            rw [k0]
            clear k0 e0
            rw [k4]
            clear k4 e4
            rw [k41]
            clear k41 e41
            clear hT
            generalize T.getD 1 undef = u1
            generalize T.getD 2 undef = u2
            generalize T.getD 3 undef = u3
            generalize T.getD 5 undef = u5
            generalize T.getD 6 undef = u6
            generalize T.getD 7 undef = u7
            generalize T.getD 8 undef = u8
            generalize T.getD 9 undef = u9
            generalize T.getD 10 undef = u10
            generalize T.getD 11 undef = u11
            generalize T.getD 12 undef = u12
            generalize T.getD 13 undef = u13
            generalize T.getD 14 undef = u14
            generalize T.getD 15 undef = u15
            generalize T.getD 16 undef = u16
            generalize T.getD 17 undef = u17
            generalize T.getD 18 undef = u18
            generalize T.getD 19 undef = u19
            generalize T.getD 20 undef = u20
            generalize T.getD 21 undef = u21
            generalize T.getD 22 undef = u22
            generalize T.getD 23 undef = u23
            generalize T.getD 24 undef = u24
            generalize T.getD 25 undef = u25
            generalize T.getD 26 undef = u26
            generalize T.getD 27 undef = u27
            generalize T.getD 28 undef = u28
            generalize T.getD 29 undef = u29
            generalize T.getD 30 undef = u30
            generalize T.getD 31 undef = u31
            generalize T.getD 32 undef = u32
            generalize T.getD 33 undef = u33
            generalize T.getD 34 undef = u34
            generalize T.getD 35 undef = u35
            generalize T.getD 36 undef = u36
            generalize T.getD 37 undef = u37
            generalize T.getD 38 undef = u38
            generalize T.getD 39 undef = u39
            generalize T.getD 40 undef = u40
            generalize T.getD 42 undef = u42
            generalize T.getD 43 undef = u43
            generalize T.getD 44 undef = u44
            cases BT with
            | false =>
              have HB5 := Lib.hid (show X10 = true by simp [HX10.out])
              rw [HB5.out]
              have HRZ := Lib.hid (below_on (B := Z.heap.size) (Below.drew (Below.refl _ _)) hR (Nat.le_refl _))
              clear hR
              go_wp2_with fail
              go_ret
              have hb := below_on HWZ.out HRZ.out (Nat.le_refl _)
              exact ⟨rfl, Left.below hb HB.out.2, ⟨fun e => absurd e (by simp), fun _ => HCC.out.on hb⟩⟩
            | true =>
              have HB5 := Lib.hid (show X10 = false by simp [HX10.out])
              rw [HB5.out]
              have hbx := below_on (B := Z.heap.size) (Below.drew (Below.refl _ _)) hR (Nat.le_refl _)
              clear hR
              have hAV := HAZ.out.on hbx
              have HWV := Lib.hid (below_on HWZ.out hbx (Nat.le_refl _))
              have HFV := Lib.hid (HFZ.out.on hbx)
              clear hbx
              have n0 : V.cell? ⟨w.heap.size, 0, none⟩ = some (.slice h.na h.nl h.nc) := hAV.cell 0
              have n1 : V.cell? ⟨w.heap.size, 1, none⟩ = some (.int .i64 f.typ) := hAV.cell 1
              have n2 : V.cell? ⟨w.heap.size, 2, none⟩ = some (.int .i64 f.kind) := hAV.cell 2
              have n3 : V.cell? ⟨w.heap.size, 3, none⟩ = some (.int .i64 f.rank) := hAV.cell 3
              have n4 : V.cell? ⟨w.heap.size, 4, none⟩ = some (.int .i64 f.got) := hAV.cell 4
              have n5 : V.cell? ⟨w.heap.size, 5, none⟩ = some (.int .i64 f.ttl) := hAV.cell 5
              have n6 : V.cell? ⟨w.heap.size, 6, none⟩ = some (.slice h.sa h.sl h.sc) := hAV.cell 6
              have n7 : V.cell? ⟨w.heap.size, 7, none⟩ = some (.slice h.za h.zl h.zc) := hAV.cell 7
              have n8 : V.cell? ⟨w.heap.size, 8, none⟩ = some (.slice h.d.ba h.d.bl h.d.bc) := hAV.cell 8
              have n9 : V.cell? ⟨w.heap.size, 9, none⟩ = some (.slice h.d.ha h.d.hl h.d.hc) := hAV.cell 9
              have n10 : V.cell? ⟨w.heap.size, 10, none⟩ = some (.slice h.d.ma h.d.ml h.d.mc) := hAV.cell 10
              have n11 : V.cell? ⟨w.heap.size, 11, none⟩ = some (.slice h.d.na h.d.nl h.d.nc) := hAV.cell 11
              have n12 : V.cell? ⟨w.heap.size, 12, none⟩ = some (.slice h.d.ta h.d.tl h.d.tc) := hAV.cell 12
              clear hAV
              go_wp2_with (go_at_call 73; refine (lay_full V S B C most stale k L (HCC.out.on HWV.out) HV.out.2.1 HV.out.2.2 h f HFV.out hFB HV.out.1).mono ?_; rintro e V2 ⟨rfl, b, kk, hI, hL⟩)
              go_ret
              exact ⟨rfl, (Left.below HWV.out HB.out.2).trans hL, ⟨fun _ => ⟨b, kk, hI⟩, fun e => absurd e (by simp)⟩⟩
          refine soup_cons rfl rfl (fun a V hR hS hdep K hK => ?_) ?_
          · have e8 : a.tmps[8]?.getD undef = .bool true := slot_of (hS.keep 8 (by kernel_rfl))
            go_simp
            exact hK _ _ (Below.refl _ _) (by first | rfl | simp)
          refine soup_cons rfl rfl (fun a V hR hS hdep K hK => ?_) ?_
          · have e31 : a.tmps[31]?.getD undef = .bool true := slot_of (hdep 0 (by decide +kernel))
            go_simp
            exact hK _ _ (Below.refl _ _) (by first | rfl | simp)
          refine soup_cons rfl rfl (fun a V hR hS hdep K hK => ?_) ?_
          · have e7 : a.tmps[7]?.getD undef = .pointer (some ⟨s.b, 0, none⟩) := slot_of (hS.keep 7 (by kernel_rfl))
            have e32 : a.tmps[32]?.getD undef = .bool true := slot_of (hdep 1 (by decide +kernel))
            have g32 : a.tmps[32]? = some (.bool true) := slot_at (show _ = 45 from hS.size) (by decide) (hdep 1 (by decide +kernel))
            go_simp
            exact hK _ _ (Below.refl _ _) (by first | rfl | simp)
          refine soup_cons rfl rfl (fun a V hR hS hdep K hK => ?_) ?_
          · have e33 : a.tmps[33]?.getD undef = .pointer (some ⟨s.b, 0, none⟩) := slot_of (hdep 2 (by decide +kernel))
            have e32 : a.tmps[32]?.getD undef = .bool true := slot_of (hdep 1 (by decide +kernel))
            have g32 : a.tmps[32]? = some (.bool true) := slot_at (show _ = 45 from hS.size) (by decide) (hdep 1 (by decide +kernel))
            go_simp
            exact hK _ _ (Below.refl _ _) (by first | rfl | simp)
          refine soup_cons rfl rfl (fun a V hR hS hdep K hK => ?_) ?_
          · have e34 : a.tmps[34]?.getD undef = .pointer (some ⟨s.b, 0, none⟩) := slot_of (hdep 3 (by decide +kernel))
            have e32 : a.tmps[32]?.getD undef = .bool true := slot_of (hdep 1 (by decide +kernel))
            have g32 : a.tmps[32]? = some (.bool true) := slot_at (show _ = 45 from hS.size) (by decide) (hdep 1 (by decide +kernel))
            go_simp
            exact hK _ _ (Below.refl _ _) (by first | rfl | simp)
          refine soup_cons rfl rfl (fun a V hR hS hdep K hK => ?_) ?_
          · have e35 : a.tmps[35]?.getD undef = .pointer (some ⟨s.b, 0, none⟩) := slot_of (hdep 4 (by decide +kernel))
            have e32 : a.tmps[32]?.getD undef = .bool true := slot_of (hdep 1 (by decide +kernel))
            have g32 : a.tmps[32]? = some (.bool true) := slot_at (show _ = 45 from hS.size) (by decide) (hdep 1 (by decide +kernel))
            have m0 := cell_keep hR HI0.out
            have m1 := cell_keep hR HI1.out
            have m2 := cell_keep hR HI2.out
            have m3 := cell_keep hR HI3.out
            have m4 := cell_keep hR HI4.out
            have m5 := cell_keep hR HI5.out
            have m6 := cell_keep hR HI6.out
            have m7 := cell_keep hR HI7.out
            have m8 := cell_keep hR HI8.out
            have m9 := cell_keep hR HI9.out
            have m10 := cell_keep hR HI10.out
            have m11 := cell_keep hR HI11.out
            have m12 := cell_keep hR HI12.out
            go_simp
            exact hK _ _ (Below.refl _ _) (by first | rfl | simp)
          refine soup_cons rfl rfl (fun a V hR hS hdep K hK => ?_) ?_
          · have e4 : a.tmps[4]?.getD undef = .pointer (some ⟨w.heap.size, 0, none⟩) := slot_of (hS.keep 4 (by kernel_rfl))
            have e32 : a.tmps[32]?.getD undef = .bool true := slot_of (hdep 1 (by decide +kernel))
            have g32 : a.tmps[32]? = some (.bool true) := slot_at (show _ = 45 from hS.size) (by decide) (hdep 1 (by decide +kernel))
            have m0 := cell_keep hR HP0.out
            have m1 := cell_keep hR HP1.out
            have m2 := cell_keep hR HP2.out
            have m3 := cell_keep hR HP3.out
            have m4 := cell_keep hR HP4.out
            have m5 := cell_keep hR HP5.out
            have m6 := cell_keep hR HP6.out
            have m7 := cell_keep hR HP7.out
            have m8 := cell_keep hR HP8.out
            have m9 := cell_keep hR HP9.out
            have m10 := cell_keep hR HP10.out
            have m11 := cell_keep hR HP11.out
            have m12 := cell_keep hR HP12.out
            go_simp
            exact hK _ _ (Below.refl _ _) (by first | rfl | simp)
          refine soup_cons rfl rfl (fun a V hR hS hdep K hK => ?_) ?_
          · have e2 : a.tmps[2]?.getD undef = .int .i64 now := slot_of (hS.keep 2 (by kernel_rfl))
            have e32 : a.tmps[32]?.getD undef = .bool true := slot_of (hdep 1 (by decide +kernel))
            have g32 : a.tmps[32]? = some (.bool true) := slot_at (show _ = 45 from hS.size) (by decide) (hdep 1 (by decide +kernel))
            go_simp
            exact hK _ _ (Below.refl _ _) (by first | rfl | simp)
          refine soup_cons rfl rfl (fun a V hR hS hdep K hK => ?_) ?_
          · have e36 : a.tmps[36]?.getD undef = .agg #[.slice s.h.na s.h.nl s.h.nc, .int .i64 s.f.typ, .int .i64 s.f.kind, .int .i64 s.f.rank, .int .i64 s.f.got, .int .i64 s.f.ttl, .slice s.h.sa s.h.sl s.h.sc, .slice s.h.za s.h.zl s.h.zc, .slice s.h.d.ba s.h.d.bl s.h.d.bc, .slice s.h.d.ha s.h.d.hl s.h.d.hc, .slice s.h.d.ma s.h.d.ml s.h.d.mc, .slice s.h.d.na s.h.d.nl s.h.d.nc, .slice s.h.d.ta s.h.d.tl s.h.d.tc] := slot_of (hdep 5 (by decide +kernel))
            have e37 : a.tmps[37]?.getD undef = .agg #[.slice h.na h.nl h.nc, .int .i64 f.typ, .int .i64 f.kind, .int .i64 f.rank, .int .i64 f.got, .int .i64 f.ttl, .slice h.sa h.sl h.sc, .slice h.za h.zl h.zc, .slice h.d.ba h.d.bl h.d.bc, .slice h.d.ha h.d.hl h.d.hc, .slice h.d.ma h.d.ml h.d.mc, .slice h.d.na h.d.nl h.d.nc, .slice h.d.ta h.d.tl h.d.tc] := slot_of (hdep 6 (by decide +kernel))
            have e38 : a.tmps[38]?.getD undef = .int .i64 now := slot_of (hdep 7 (by decide +kernel))
            have e32 : a.tmps[32]?.getD undef = .bool true := slot_of (hdep 1 (by decide +kernel))
            have g32 : a.tmps[32]? = some (.bool true) := slot_at (show _ = 45 from hS.size) (by decide) (hdep 1 (by decide +kernel))
            go_simp
            have hbx := below_on (B := Z.heap.size) (Below.drew (Below.refl _ _)) hR (Nat.le_refl _)
            refine (HBT.out _ hbx).mono ?_
            rintro e W' ⟨rfl, hb⟩
            exact hK _ _ hb rfl
          refine soup_cons rfl rfl (fun a V hR hS hdep K hK => ?_) ?_
          · have e39 : a.tmps[39]?.getD undef = .bool BT := slot_of (hdep 8 (by decide +kernel))
            have e32 : a.tmps[32]?.getD undef = .bool true := slot_of (hdep 1 (by decide +kernel))
            have g32 : a.tmps[32]? = some (.bool true) := slot_at (show _ = 45 from hS.size) (by decide) (hdep 1 (by decide +kernel))
            go_simp
            exact hK _ _ (Below.refl _ _) (by first | rfl | simp)
          refine soup_cons rfl rfl (fun a V hR hS hdep K hK => ?_) ?_
          · have e32 : a.tmps[32]?.getD undef = .bool true := slot_of (hdep 1 (by decide +kernel))
            have e40 : a.tmps[40]?.getD undef = .bool (!BT) := slot_of (hdep 9 (by decide +kernel))
            go_simp
            exact hK _ _ (Below.refl _ _) (by first | rfl | (rw [HX10.out]; rfl) | (rw [HX10.out]; simp) | simp [HX10.out])
          exact fun j h1 h2 => absurd h1 (by simp only [List.size_toArray, List.length_cons, List.length_nil]; omega)
        refine soup_cons rfl rfl (fun a Z hR hS hdep K hK => ?_) ?_
        · have e0 : a.tmps[0]?.getD undef = .pointer (some ⟨C, 0, none⟩) := slot_of (hS.keep 0 (by kernel_rfl))
          go_simp
          exact hK _ _ (Below.refl _ _) (by first | rfl | simp)
        refine soup_cons rfl rfl (fun a Z hR hS hdep K hK => ?_) ?_
        · have e22 : a.tmps[22]?.getD undef = .pointer (some ⟨C, 0, none⟩) := slot_of (hdep 0 (by decide +kernel))
          go_simp
          exact hK _ _ (Below.refl _ _) (by first | rfl | simp)
        refine soup_cons rfl rfl (fun a Z hR hS hdep K hK => ?_) ?_
        · have e23 : a.tmps[23]?.getD undef = .pointer (some ⟨C, 0, none⟩) := slot_of (hdep 1 (by decide +kernel))
          go_simp
          exact hK _ _ (Below.refl _ _) (by first | rfl | simp)
        refine soup_cons rfl rfl (fun a Z hR hS hdep K hK => ?_) ?_
        · have e24 : a.tmps[24]?.getD undef = .pointer (some ⟨C, 2, none⟩) := slot_of (hdep 2 (by decide +kernel))
          have m0 := cell_keep hR HMC.out
          go_simp
          exact hK _ _ (Below.refl _ _) (by first | rfl | simp)
        refine soup_cons rfl rfl (fun a Z hR hS hdep K hK => ?_) ?_
        · have e4 : a.tmps[4]?.getD undef = .pointer (some ⟨w.heap.size, 0, none⟩) := slot_of (hS.keep 4 (by kernel_rfl))
          have m0 := cell_keep hR HM0.out
          have m1 := cell_keep hR HM1.out
          have m2 := cell_keep hR HM2.out
          have m3 := cell_keep hR HM3.out
          have m4 := cell_keep hR HM4.out
          have m5 := cell_keep hR HM5.out
          have m6 := cell_keep hR HM6.out
          have m7 := cell_keep hR HM7.out
          have m8 := cell_keep hR HM8.out
          have m9 := cell_keep hR HM9.out
          have m10 := cell_keep hR HM10.out
          have m11 := cell_keep hR HM11.out
          have m12 := cell_keep hR HM12.out
          go_simp
          exact hK _ _ (Below.refl _ _) (by first | rfl | simp)
        refine soup_cons rfl rfl (fun a Z hR hS hdep K hK => ?_) ?_
        · have e26 : a.tmps[26]?.getD undef = .agg #[.slice h.na h.nl h.nc, .int .i64 f.typ, .int .i64 f.kind, .int .i64 f.rank, .int .i64 f.got, .int .i64 f.ttl, .slice h.sa h.sl h.sc, .slice h.za h.zl h.zc, .slice h.d.ba h.d.bl h.d.bc, .slice h.d.ha h.d.hl h.d.hc, .slice h.d.ma h.d.ml h.d.mc, .slice h.d.na h.d.nl h.d.nc, .slice h.d.ta h.d.tl h.d.tc] := slot_of (hdep 4 (by decide +kernel))
          go_simp
          have hbx := below_on (B := Y.heap.size) (Below.drew (Below.refl _ _)) hR (Nat.le_refl _)
          refine (HKY.out _ hbx).mono ?_
          rintro e W' ⟨rfl, hb⟩
          exact hK _ _ hb rfl
        refine soup_cons rfl rfl (fun a Z hR hS hdep K hK => ?_) ?_
        · have e25 : a.tmps[25]?.getD undef = .map (some M) := slot_of (hdep 3 (by decide +kernel))
          have e27 : a.tmps[27]?.getD undef = .string (⟨(keyF f).toArray⟩) := slot_of (hdep 5 (by decide +kernel))
          go_simp
          have hbx := below_on (B := Y.heap.size) (Below.drew (Below.refl _ _)) hR (Nat.le_refl _)
          rw [HLK.out _ hbx]
          exact hK _ _ (Below.refl _ _) rfl
        refine soup_cons rfl rfl (fun a Z hR hS hdep K hK => ?_) ?_
        · have e28 : a.tmps[28]?.getD undef = .tuple #[.pointer (some ⟨s.b, 0, none⟩), .bool true] := slot_of (hdep 6 (by decide +kernel))
          go_simp
          exact hK _ _ (Below.refl _ _) (by first | rfl | simp)
        refine soup_cons rfl rfl (fun a Z hR hS hdep K hK => ?_) ?_
        · have e21 : a.tmps[21]?.getD undef = .tuple #[.pointer (some ⟨s.b, 0, none⟩), .bool true] := slot_of (hdep 7 (by decide +kernel))
          go_simp
          exact hK _ _ (Below.refl _ _) rfl
        refine soup_cons rfl rfl (fun a Z hR hS hdep K hK => ?_) ?_
        · have e21 : a.tmps[21]?.getD undef = .tuple #[.pointer (some ⟨s.b, 0, none⟩), .bool true] := slot_of (hdep 7 (by decide +kernel))
          go_simp
          exact hK _ _ (Below.refl _ _) rfl
        refine soup_cons rfl rfl (fun a Z hR hS hdep K hK => ?_) ?_
        · have e29 : a.tmps[29]?.getD undef = .pointer (some ⟨s.b, 0, none⟩) := slot_of (hdep 8 (by decide +kernel))
          go_simp
          exact hK _ _ (Below.refl _ _) (by first | rfl | simp)
        refine soup_cons rfl rfl (fun a Z hR hS hdep K hK => ?_) ?_
        · have e30 : a.tmps[30]?.getD undef = .bool true := slot_of (hdep 9 (by decide +kernel))
          go_simp
          exact hK _ _ (Below.refl _ _) (by first | rfl | simp)
        exact fun j h1 h2 => absurd h1 (by simp only [List.size_toArray, List.length_cons, List.length_nil]; omega)
end
section
open Go.ChangeShapes Go.WideShapes Go.ChangeAt Go.RowKit
theorem cache_low {B B' : Nat} {w : World} {C k : Nat} {most stale : Int} {L : List Slot} (h : IsCache B w C most stale k L) (hB : B' ≤ B) : IsCache B' w C most stale k L := by
  obtain ⟨M, a, b, c⟩ := h.ex
  exact ⟨⟨M, a, by omega, c⟩, by have := h.base; omega, fun s hs => by
    obtain ⟨p, q⟩ := h.slot s hs
    exact ⟨by omega, q⟩, h.apart, h.keys, h.used, h.order⟩
theorem blk_same {T : List TypeId} {w w' : World} {g : Nat} {cs : Array Value} {t : TypeId} (h : Blk w g cs t) (hs : Same (tagged T w) w w') (ht : t ∈ T) : Blk w' g cs t := by
  unfold Blk at h ⊢
  rw [hs g (Array.getElem?_eq_some_iff.1 h).1 ⟨cs, t, h, ht⟩, h]
theorem same_sub {T T' : List TypeId} {w w' : World} (h : Same (tagged T w) w w') (hs : ∀ t ∈ T', t ∈ T) : Same (tagged T' w) w w' := h.mono fun _ _ ht => tagged_mono ht hs
theorem dev_left {B B' : Nat} {w w' : World} {D : Nat} {d : DevP} (hd : IsDev B w D d) (ho : Left B' w w') : IsDev B w' D d := by
  obtain ⟨SU, v, k1, k2, k3, k4⟩ := hd.ex
  exact ⟨⟨SU, v, blk_same k1 ho.same (by decide), blk_same k2 ho.same (by decide), k3, k4.step (same_sub ho.same (by decide))⟩, hd.base, hd.pos, hd.le, hd.lens, hd.ulens, hd.lim, hd.cnt⟩
theorem log_left {B B' : Nat} {w w' : World} {L D : Nat} {l : LogP} (h : IsLog B w L D l) (ho : Left B' w w') : IsLog B w' L D l := by
  obtain ⟨v, a, b⟩ := h.ex
  exact ⟨⟨v, blk_same a ho.same (by decide), b.step (same_sub ho.same (by decide))⟩, h.base, h.fits, h.cnt⟩
/-- what a keep's steps leave -/
def qT : List TypeId := [5, 9, 3, 55, 57]
structure Kfr (B : Nat) (w w' : World) : Prop where
  bel : Below B w w'
  same : Same (tagged qT w) w w'
theorem Kfr.trans {B : Nat} {a b c : World} (h : Kfr B a b) (k : Kfr B b c) : Kfr B a c := ⟨h.bel.trans k.bel, h.same.step k.same⟩
theorem Kfr.below {B : Nat} {w w' : World} (h : Below w.heap.size w w') (hB : B ≤ w.heap.size) : Kfr B w w' := ⟨h.mono hB, Same.below h _⟩
theorem Kfr.left {B B' : Nat} {w w' : World} (h : Left B' w w') (hB : B ≤ B') : Kfr B w w' := ⟨h.bel.mono hB, same_sub h.same (by decide)⟩
theorem Kfr.only {S : List TypeId} {B : Nat} {w w' : World} (h : Only S B w w') (hd : ∀ t ∈ qT, t ∉ S) : Kfr B w w' := ⟨h.bel, h.same hd⟩
theorem Kfr.fact {B : Nat} {w w' : World} (h : Kfr B w w') : Same (tagged fT w) w w' := same_sub h.same (by decide)
theorem putC_all (h : FactH) (f : FactP) : (putC h f).all (·.oneCell') = true := by simp [putC, Value.oneCell']
/-- the state behind a put -/
structure PutAt (B : Nat) (w W : World) (K C L D : Nat) (pl no te : Int) (l : LogP) (d : DevP) (h : FactH) (f : FactP) (most stale : Int) (kk : Nat) (Ls : List Slot) : Prop where
  fr : Kfr B w W
  blk : Blk W K (keepC C L pl no te false false) 48
  log : IsLog B W L D l
  dev : IsDev B W D d
  rc : RecIs W (putC h f) (putW f)
  ca : ∃ b k2, IsCache B W C most stale (kk + 1) (trimL most (offL Ls (keyF f) ++ [⟨b, k2, f, kk + 1⟩]))
set_option maxHeartbeats 16000000 in
set_option maxRecDepth 100000 in
theorem kput_yes (w : World) (B K C L D : Nat) (pl no te : Int) (hK : Blk w K (keepC C L pl no te false false) 48) (hB : B ≤ K) (hBw : B ≤ w.heap.size) (l : LogP) (d : DevP) (hl : IsLog B w L D l) (hd : IsDev B w D d)
    (most stale : Int) (kk : Nat) (Ls : List Slot) (hC : IsCache B w C most stale kk Ls) (hkk : kk < 4000000000000000000) (hL : Ls.length < 100000) (h : FactH) (f : FactP) (hf : IsFact (tagged fT w) w h f) (hfl : FLen f) (now : Int) (he : encE f = 0) (hpb : putB Ls f (atT no now) = true) (Q : World → Prop)
    (hwr : ∀ W, PutAt B w W K C L D pl (atT no now) te l d h f most stale kk Ls → Calls Tryz.prog 24 #[.pointer (some ⟨K, 0, none⟩), .agg (putC h f)] W fun e w' => (∃ e0, e = .returned (.int .i64 e0)) ∧ Q w') :
    Calls Tryz.prog 19 #[.pointer (some ⟨K, 0, none⟩), .agg (factC h f), .int .i64 now] w fun e w' => e = .returned (.bool true) ∧ Q w' := by
  have hb1 : Below w.heap.size w (w.alloc (.cells (factC h f) 57)) := (Below.refl _ _).alloc (Nat.le_refl _) _
  have a1 : Blk (w.alloc (.cells (factC h f) 57)) w.heap.size (factC h f) 57 := heap_alloc_new w _
  obtain ⟨nn, hnn⟩ : ∃ nn, nn = atT no now := ⟨_, rfl⟩
  rw [← hnn] at hpb hwr
  have H0 := Lib.hid (And.intro hK (And.intro hB (And.intro hBw (And.intro hl (And.intro hd (And.intro hC (And.intro hkk (And.intro hL (And.intro hf (And.intro hfl (And.intro he (And.intro hpb hwr))))))))))))
  have HN := Lib.hid hnn
  clear hK hB hBw hl hd hC hkk hL hf hfl he hpb hwr hnn
  go_enter Tryz.func19, Tryz.ntmps19
  go_upto_region 1 with fail
  simp only [factC] at a1 hb1 ⊢
  generalize w.alloc (.cells #[.slice h.na h.nl h.nc, .int .i64 f.typ, .int .i64 f.kind, .int .i64 f.rank, .int .i64 f.got, .int .i64 f.ttl, .slice h.sa h.sl h.sc, .slice h.za h.zl h.zc, .slice h.d.ba h.d.bl h.d.bc, .slice h.d.ha h.d.hl h.d.hc, .slice h.d.ma h.d.ml h.d.mc, .slice h.d.na h.d.nl h.d.nc, .slice h.d.ta h.d.tl h.d.tc] 57) = A1 at a1 hb1 ⊢
  have m0 : A1.cell? ⟨w.heap.size, 0, none⟩ = some (.slice h.na h.nl h.nc) := a1.cell 0
  have m1 : A1.cell? ⟨w.heap.size, 1, none⟩ = some (.int .i64 f.typ) := a1.cell 1
  have m2 : A1.cell? ⟨w.heap.size, 2, none⟩ = some (.int .i64 f.kind) := a1.cell 2
  have m3 : A1.cell? ⟨w.heap.size, 3, none⟩ = some (.int .i64 f.rank) := a1.cell 3
  have m4 : A1.cell? ⟨w.heap.size, 4, none⟩ = some (.int .i64 f.got) := a1.cell 4
  have m5 : A1.cell? ⟨w.heap.size, 5, none⟩ = some (.int .i64 f.ttl) := a1.cell 5
  have m6 : A1.cell? ⟨w.heap.size, 6, none⟩ = some (.slice h.sa h.sl h.sc) := a1.cell 6
  have m7 : A1.cell? ⟨w.heap.size, 7, none⟩ = some (.slice h.za h.zl h.zc) := a1.cell 7
  have m8 : A1.cell? ⟨w.heap.size, 8, none⟩ = some (.slice h.d.ba h.d.bl h.d.bc) := a1.cell 8
  have m9 : A1.cell? ⟨w.heap.size, 9, none⟩ = some (.slice h.d.ha h.d.hl h.d.hc) := a1.cell 9
  have m10 : A1.cell? ⟨w.heap.size, 10, none⟩ = some (.slice h.d.ma h.d.ml h.d.mc) := a1.cell 10
  have m11 : A1.cell? ⟨w.heap.size, 11, none⟩ = some (.slice h.d.na h.d.nl h.d.nc) := a1.cell 11
  have m12 : A1.cell? ⟨w.heap.size, 12, none⟩ = some (.slice h.d.ta h.d.tl h.d.tc) := a1.cell 12
  have hA : Blk (A1.alloc (.cells (blankC 0 0 (.slice none 0 0)) 59)) A1.heap.size (blankC 0 0 (.slice none 0 0)) 59 := heap_alloc_new A1 _
  have hal : Below A1.heap.size A1 (A1.alloc (.cells (blankC 0 0 (.slice none 0 0)) 59)) := (Below.refl _ _).alloc (Nat.le_refl _) _
  have hq := blk_setRow hA (putC h f)
  have hqg := but_setRow (A1.alloc (.cells (blankC 0 0 (.slice none 0 0)) 59)) A1.heap.size (putC h f)
  have hbq := hal.trans (below_of_but hqg (Nat.le_refl _) hal.size)
  have HA := Lib.hid (And.intro hA (And.intro hq (And.intro (below_on hb1 hbq (Nat.le_refl _)) (Blk.on a1 hbq))))
  have HZ := Lib.hid hb1.size
  clear hA hal hq hqg hbq a1 hb1
  go_upto_region 2 with (refine wpList_store_row rfl 59 _ _ rfl A1.heap.size (putC h f) rfl rfl 59 (blankC 0 0 (.slice none 0 0)) HA.out.1 entSize rfl (putC_all h f) ?_; (try change wpList _ _ _ _ _ ((A1.alloc (.cells (blankC 0 0 (.slice none 0 0)) 59)).setRow A1.heap.size (putC h f))); have hz := HA.out.2; generalize (A1.alloc (.cells (blankC 0 0 (.slice none 0 0)) 59)).setRow A1.heap.size (putC h f) = W1 at hz ⊢; have HY := Lib.hid hz; clear hz)
  have hz := HY.out
  obtain ⟨g, hg⟩ : ∃ g, g = A1.heap.size := ⟨_, rfl⟩
  rw [← hg] at hz HZ ⊢
  have hk1 := Blk.on H0.out.1 hz.2.1
  have k6 : W1.cell? ⟨K, 6, none⟩ = some (.bool false) := hk1.cell 6
  have hf1 := H0.out.2.2.2.2.2.2.2.2.1.step (Same.below hz.2.1 _)
  have hen := encode_put W1 h f (hf1.mono (fun _ _ ht => tagged_lt ht))
  rw [H0.out.2.2.2.2.2.2.2.2.2.2.1] at hen
  have HE := Lib.hid hen
  have H1 := Lib.hid (And.intro hz (And.intro hk1 hf1))
  clear hz hk1 hf1 hen hg m0 m1 m2 m3 m4 m5 m6 m7 m8 m9 m10 m11 m12
  go_upto_region 5 with (first
    | (refine wpList_load_row rfl 59 _ rfl g rfl 59 (putC h f) (0, 0) _ H1.out.1.1 Tryz.underlying59 rfl entSize ?_)
    | (go_at_call 44; refine HE.out.mono ?_; rintro e W2 ⟨⟨v, rfl, hv⟩, hb⟩; obtain ⟨ao, c, rfl, -⟩ := hv rfl; have H2 := Lib.hid hb; clear hv hb))
  have hbd := Below.drew (Below.refl W2.heap.size W2)
  have hb12 := below_on H2.out hbd (Nat.le_refl _)
  have k2 := Blk.on H1.out.2.1 hb12
  have f2 := Blk.on H1.out.1.2.2 hb12
  have hbw := below_on H1.out.1.2.1 hb12 (Nat.le_refl _)
  have D0 := Lib.hid (show W2.drew.cell? ⟨K, 0, none⟩ = some (.pointer (some ⟨C, 0, none⟩)) ∧ W2.drew.cell? ⟨w.heap.size, 0, none⟩ = some (.slice h.na h.nl h.nc) ∧ W2.drew.cell? ⟨w.heap.size, 1, none⟩ = some (.int .i64 f.typ) ∧ W2.drew.cell? ⟨w.heap.size, 2, none⟩ = some (.int .i64 f.kind) ∧ W2.drew.cell? ⟨w.heap.size, 3, none⟩ = some (.int .i64 f.rank) ∧ W2.drew.cell? ⟨w.heap.size, 4, none⟩ = some (.int .i64 f.got) ∧ W2.drew.cell? ⟨w.heap.size, 5, none⟩ = some (.int .i64 f.ttl) ∧ W2.drew.cell? ⟨w.heap.size, 6, none⟩ = some (.slice h.sa h.sl h.sc) ∧ W2.drew.cell? ⟨w.heap.size, 7, none⟩ = some (.slice h.za h.zl h.zc) ∧ W2.drew.cell? ⟨w.heap.size, 8, none⟩ = some (.slice h.d.ba h.d.bl h.d.bc) ∧ W2.drew.cell? ⟨w.heap.size, 9, none⟩ = some (.slice h.d.ha h.d.hl h.d.hc) ∧ W2.drew.cell? ⟨w.heap.size, 10, none⟩ = some (.slice h.d.ma h.d.ml h.d.mc) ∧ W2.drew.cell? ⟨w.heap.size, 11, none⟩ = some (.slice h.d.na h.d.nl h.d.nc) ∧ W2.drew.cell? ⟨w.heap.size, 12, none⟩ = some (.slice h.d.ta h.d.tl h.d.tc) from ⟨k2.cell 0, f2.cell 0, f2.cell 1, f2.cell 2, f2.cell 3, f2.cell 4, f2.cell 5, f2.cell 6, f2.cell 7, f2.cell 8, f2.cell 9, f2.cell 10, f2.cell 11, f2.cell 12⟩)
  have HAT := Lib.hid (kat_any W2.drew B K C L pl no te false false k2 H0.out.2.1 now)
  rw [← HN.out] at HAT
  have HC2 := Lib.hid (And.intro (H0.out.2.2.2.2.2.1.on hbw) (And.intro f2 (And.intro hbw (And.intro (Blk.on H1.out.1.1 hb12) (H0.out.2.2.2.2.2.2.2.2.1.step (Same.below hbw _))))))
  clear hbd hb12 k2 f2 hbw
  go_region_held3 (fun w' => w'.cell? ⟨K, 0, none⟩ = some (.pointer (some ⟨C, 0, none⟩)) ∧ w'.cell? ⟨w.heap.size, 0, none⟩ = some (.slice h.na h.nl h.nc) ∧ w'.cell? ⟨w.heap.size, 1, none⟩ = some (.int .i64 f.typ) ∧ w'.cell? ⟨w.heap.size, 2, none⟩ = some (.int .i64 f.kind) ∧ w'.cell? ⟨w.heap.size, 3, none⟩ = some (.int .i64 f.rank) ∧ w'.cell? ⟨w.heap.size, 4, none⟩ = some (.int .i64 f.got) ∧ w'.cell? ⟨w.heap.size, 5, none⟩ = some (.int .i64 f.ttl) ∧ w'.cell? ⟨w.heap.size, 6, none⟩ = some (.slice h.sa h.sl h.sc) ∧ w'.cell? ⟨w.heap.size, 7, none⟩ = some (.slice h.za h.zl h.zc) ∧ w'.cell? ⟨w.heap.size, 8, none⟩ = some (.slice h.d.ba h.d.bl h.d.bc) ∧ w'.cell? ⟨w.heap.size, 9, none⟩ = some (.slice h.d.ha h.d.hl h.d.hc) ∧ w'.cell? ⟨w.heap.size, 10, none⟩ = some (.slice h.d.ma h.d.ml h.d.mc) ∧ w'.cell? ⟨w.heap.size, 11, none⟩ = some (.slice h.d.na h.d.nl h.d.nc) ∧ w'.cell? ⟨w.heap.size, 12, none⟩ = some (.slice h.d.ta h.d.tl h.d.tc))
    (first | exact D0.out | exact D3.out | exact D5.out | go_keep)
    (first
      | (go_at_call 45; have hpf := put_full W3 _ B C most stale kk Ls H3.out.2.2.2.1 H0.out.2.2.2.2.2.2.1 H0.out.2.2.2.2.2.2.2.1 h f H3.out.2.2.2.2.1 H0.out.2.2.2.2.2.2.2.2.2.1 nn; rw [H0.out.2.2.2.2.2.2.2.2.2.2.2.1] at hpf; refine hpf.mono ?_; rintro e W5 ⟨rfl, hl5, hp5⟩; have k5 := blk_same H3.out.1 hl5.same (by decide); have f5 := blk_same H3.out.2.2.1 hl5.same (by decide); have D5 := Lib.hid (show W5.cell? ⟨K, 0, none⟩ = some (.pointer (some ⟨C, 0, none⟩)) ∧ W5.cell? ⟨w.heap.size, 0, none⟩ = some (.slice h.na h.nl h.nc) ∧ W5.cell? ⟨w.heap.size, 1, none⟩ = some (.int .i64 f.typ) ∧ W5.cell? ⟨w.heap.size, 2, none⟩ = some (.int .i64 f.kind) ∧ W5.cell? ⟨w.heap.size, 3, none⟩ = some (.int .i64 f.rank) ∧ W5.cell? ⟨w.heap.size, 4, none⟩ = some (.int .i64 f.got) ∧ W5.cell? ⟨w.heap.size, 5, none⟩ = some (.int .i64 f.ttl) ∧ W5.cell? ⟨w.heap.size, 6, none⟩ = some (.slice h.sa h.sl h.sc) ∧ W5.cell? ⟨w.heap.size, 7, none⟩ = some (.slice h.za h.zl h.zc) ∧ W5.cell? ⟨w.heap.size, 8, none⟩ = some (.slice h.d.ba h.d.bl h.d.bc) ∧ W5.cell? ⟨w.heap.size, 9, none⟩ = some (.slice h.d.ha h.d.hl h.d.hc) ∧ W5.cell? ⟨w.heap.size, 10, none⟩ = some (.slice h.d.ma h.d.ml h.d.mc) ∧ W5.cell? ⟨w.heap.size, 11, none⟩ = some (.slice h.d.na h.d.nl h.d.nc) ∧ W5.cell? ⟨w.heap.size, 12, none⟩ = some (.slice h.d.ta h.d.tl h.d.tc) from ⟨k5.cell 0, f5.cell 0, f5.cell 1, f5.cell 2, f5.cell 3, f5.cell 4, f5.cell 5, f5.cell 6, f5.cell 7, f5.cell 8, f5.cell 9, f5.cell 10, f5.cell 11, f5.cell 12⟩); have e5 := blk_same H3.out.2.2.2.2.2 hl5.same (by decide); have H5 := Lib.hid (And.intro hl5 (And.intro hp5 (And.intro k5 e5))); clear hpf hl5 hp5 k5 f5 e5)
      | (go_at_call 23; refine HAT.out.mono ?_; rintro e W3 ⟨rfl, hk3, ho3⟩; have f3 := ho3.blk HC2.out.2.1 (by decide); have D3 := Lib.hid (show W3.cell? ⟨K, 0, none⟩ = some (.pointer (some ⟨C, 0, none⟩)) ∧ W3.cell? ⟨w.heap.size, 0, none⟩ = some (.slice h.na h.nl h.nc) ∧ W3.cell? ⟨w.heap.size, 1, none⟩ = some (.int .i64 f.typ) ∧ W3.cell? ⟨w.heap.size, 2, none⟩ = some (.int .i64 f.kind) ∧ W3.cell? ⟨w.heap.size, 3, none⟩ = some (.int .i64 f.rank) ∧ W3.cell? ⟨w.heap.size, 4, none⟩ = some (.int .i64 f.got) ∧ W3.cell? ⟨w.heap.size, 5, none⟩ = some (.int .i64 f.ttl) ∧ W3.cell? ⟨w.heap.size, 6, none⟩ = some (.slice h.sa h.sl h.sc) ∧ W3.cell? ⟨w.heap.size, 7, none⟩ = some (.slice h.za h.zl h.zc) ∧ W3.cell? ⟨w.heap.size, 8, none⟩ = some (.slice h.d.ba h.d.bl h.d.bc) ∧ W3.cell? ⟨w.heap.size, 9, none⟩ = some (.slice h.d.ha h.d.hl h.d.hc) ∧ W3.cell? ⟨w.heap.size, 10, none⟩ = some (.slice h.d.ma h.d.ml h.d.mc) ∧ W3.cell? ⟨w.heap.size, 11, none⟩ = some (.slice h.d.na h.d.nl h.d.nc) ∧ W3.cell? ⟨w.heap.size, 12, none⟩ = some (.slice h.d.ta h.d.tl h.d.tc) from ⟨hk3.cell 0, f3.cell 0, f3.cell 1, f3.cell 2, f3.cell 3, f3.cell 4, f3.cell 5, f3.cell 6, f3.cell 7, f3.cell 8, f3.cell 9, f3.cell 10, f3.cell 11, f3.cell 12⟩); have hc3 := HC2.out.1.only ho3 (by decide) (by decide) (by decide); have hf3 := HC2.out.2.2.2.2.step (ho3.same (T := fT) (by decide)); have e3 := ho3.blk HC2.out.2.2.2.1 (by decide); have H3 := Lib.hid (And.intro hk3 (And.intro ho3 (And.intro f3 (And.intro hc3 (And.intro hf3 e3))))); clear hk3 ho3 f3 hc3 hf3 e3))
  all_goals
    go_split_ands
    have HPA : Hid (PutAt B w W5 K C L D pl nn te l d h f most stale kk Ls) := by
      have hfr : Kfr B w W5 := ((Kfr.below HC2.out.2.2.1 H0.out.2.2.1).trans (Kfr.only H3.out.2.1 (by decide))).trans (Kfr.left H5.out.1 (Nat.le_refl _))
      have hl3 := (H0.out.2.2.2.1.on HC2.out.2.2.1).only H3.out.2.1 (by decide) (by decide)
      have hd3 := lg_dv (H0.out.2.2.2.2.1.on HC2.out.2.2.1) H3.out.2.1 (by decide) (by decide) (by decide) (by decide)
      exact Lib.hid ⟨hfr, H5.out.2.2.1, log_left hl3 H5.out.1, dev_left hd3 H5.out.1, rec_put W5 h f (fact_eT (H3.out.2.2.2.2.1.step (same_sub H5.out.1.same (by decide)))) H0.out.2.2.2.2.2.2.2.2.2.2.1, H5.out.2.1.yes rfl⟩
    go_wp2_with (first
      | (go_at_call 24; refine (H0.out.2.2.2.2.2.2.2.2.2.2.2.2 W5 HPA.out).mono ?_; rintro e W6 ⟨⟨e0, rfl⟩, hq⟩; have H6 := Lib.hid hq; clear hq)
      | (refine wpList_load_row rfl 59 _ rfl g rfl 59 (putC h f) (0, 0) _ H5.out.2.2.2 Tryz.underlying59 rfl entSize ?_))
    go_ret
    exact ⟨rfl, H6.out⟩
end
section
open Go.ChangeShapes Go.WideShapes Go.ChangeAt Go.RowKit
def nilP : DataP := ⟨[], [], [], [], []⟩
def adD (b : UInt8) : DataP := ⟨[1, 2, 3, b], [], [], [], []⟩
def adF (nm : List ByteArray) (b : UInt8) : FactP := ⟨nm, 1, 1, 4, 0, 100, [adD b], [], nilP⟩
def adH (na : Option Addr) (nl nc Y : Nat) : FactH := ⟨na, nl, nc, some ⟨Y, 0, none⟩, 1, 1, none, 0, 0, ⟨none, 0, 0, none, 0, 0, none, 0, 0, none, 0, 0, none, 0, 0⟩⟩
theorem ad_is (w : World) (X Y : Nat) (na : Option Addr) (nl nc : Nat) (nm : List ByteArray) (hn : Strs w na nl nc nm) (hni : rowIn (tagged fT w) na nl) (b : UInt8) (hX : Blk w X #[.int .u8 1, .int .u8 2, .int .u8 3, .int .u8 (b.toNat : Int)] 5) (hY : Blk w Y #[.slice (some ⟨X, 0, none⟩) 4 4, .slice none 0 0, .slice none 0 0, .slice none 0 0, .slice none 0 0] 55) : IsFact (tagged fT w) w (adH na nl nc Y) (adF nm b) := by
  have hr : Row w none 0 0 [] := Row.empty (by decide) (fun _ => rfl)
  have hs : Strs w none 0 0 [] := ⟨hr, by simp⟩
  have hi : ∀ {S : Nat → Prop}, rowIn S none 0 := fun h => absurd h (by omega)
  refine ⟨hn, hni, (show wfi 1 by decide), (show wfi 1 by decide), (show wfi 4 by decide), (show wfi 0 by decide), (show wfi 100 by decide), ⟨rfl, Nat.le_refl _, show (1 : Nat) ≤ _ by decide, (fun h => nomatch h), (fun _ => ⟨Y, 0, rfl, ⟨_, _, hY, by decide⟩, ?_⟩)⟩, hs, hi, ⟨hr, hs, hs, hr, hs, by simp [adF, nilP]⟩, ⟨hi, hi, hi, hi, hi⟩⟩
  intro i hi'
  obtain rfl : i = 0 := by simp [adF] at hi'; omega
  refine ⟨⟨some ⟨X, 0, none⟩, 4, 4, none, 0, 0, none, 0, 0, none, 0, 0, none, 0, 0⟩, ?_, ?_, ?_⟩
  · intro q hq
    rw [hY.cell]
    simp [dataK, dataC]
  · refine ⟨⟨rfl, Nat.le_refl _, show (4 : Nat) ≤ _ by decide, show (4 : Nat) ≤ _ by decide, (fun h => nomatch h), (fun _ => ⟨X, 0, rfl, ?_⟩)⟩, hs, hs, hr, hs, by simp [adF, adD]⟩
    intro q hq
    rw [hX.cell]
    have h4 : q < 4 := by simpa [adF, adD] using hq
    obtain rfl | rfl | rfl | rfl : q = 0 ∨ q = 1 ∨ q = 2 ∨ q = 3 := by omega
    all_goals rfl
  · exact ⟨fun _ a e => by cases e; exact ⟨_, _, hX, by decide⟩, hi, hi, hi, hi⟩
theorem two_blk2 (W : World) (A B : Array Value) (T U : TypeId) : Blk ((W.alloc (.cells A T)).alloc (.cells B U)) W.heap.size A T ∧ Blk ((W.alloc (.cells A T)).alloc (.cells B U)) (W.heap.size + 1) B U ∧ Below W.heap.size W ((W.alloc (.cells A T)).alloc (.cells B U)) := by
  have h1 : Blk (W.alloc (.cells A T)) W.heap.size A T := heap_alloc_new W _
  refine ⟨h1.on ((Below.refl _ _).alloc (Nat.le_refl _) _), ?_, ((Below.refl _ _).alloc (Nat.le_refl _) _).alloc (by simp) _⟩
  have := heap_alloc_new (W.alloc (.cells A T)) (.cells B U)
  simpa [Blk] using this
theorem adF_ok {nm : List ByteArray} (h : soundB nm = true) (b : UInt8) : factB (adF nm b) = true := by
  simp [factB, headB, hasB, adF, h, timeB, typedB, distinctB, dataB, emptyB, sameAny, noneB, nilP, adD]
theorem adF_len {nm : List ByteArray} (h : soundB nm = true) (b : UInt8) : FLen (adF nm b) := by
  have h1 : DLen nilP := ⟨by decide, by decide, by decide, by decide⟩
  have h2 : DLen (adD b) := ⟨by show (0 : Nat) ≤ _; decide, by show (0 : Nat) ≤ _; decide, by show (0 : Nat) ≤ _; decide, by show (0 : Nat) ≤ _; decide⟩
  have hl := sizeN_len nm
  have hl2 := (sound_small h).1
  exact ⟨by show nm.length ≤ _; omega, by show (0 : Nat) ≤ _; decide, by show (1 : Nat) ≤ _; decide, h1, fun d hd => by rw [List.mem_singleton.1 hd]; exact h2⟩
theorem adD_w (b : UInt8) : cdW 1 (adD b) = [1, 2, 3, b] := by rfl
theorem adF_enc {nm : List ByteArray} (h : soundB nm = true) (b : UInt8) : encE (adF nm b) = 0 ∧ 1 ≤ (putW (adF nm b)).length ∧ (putW (adF nm b)).length ≤ 496 := by
  have hf := adF_ok h b
  have hff := fits_of hf
  have h1 := putW_len hff
  have h2 : (putW (adF nm b)).length ≤ 496 := by
    have hn1 := nameW_len false nm [] ([] ++ putN 1 1)
    have hn2 := (sound_small h).1
    have e1 : ([] ++ putN 1 1 : List UInt8).length = 1 := by simp [putB_len]
    rw [e1] at hn1
    have hd : (setW 1 [adD b]).length = 6 := by
      simp [setW, dataL, adD_w, putB_len]
    unfold putW factW
    rw [if_pos (show (adF nm b).kind = 1 from rfl)]
    show (((factHead (adF nm b) [] ([] ++ putN 1 1)).2 ++ putN _ 1) ++ setW 1 [adD b]).length ≤ 496
    simp only [List.length_append, putB_len, hd, factHead]
    show (((((((nameW false nm [] ([] ++ putN 1 1)).2.length + 2) + 1) + 1) + 7) + 4) + 1) + 6 ≤ 496
    omega
  exact ⟨by rw [encE, if_pos hf, if_pos (by omega)], h1.2, h2⟩
set_option maxHeartbeats 8000000 in
set_option maxRecDepth 100000 in
theorem address_any (w : World) (na : Option Addr) (nl nc : Nat) (nm : List ByteArray) (hn : Strs w na nl nc nm) (hni : rowIn (tagged fT w) na nl) (b : UInt8) :
    Calls Tryz.prog 20 #[.slice na nl nc, .int .u8 (b.toNat : Int)] w fun e w' => (∃ h, e = .returned (.agg (factC h (adF nm b))) ∧ IsFact (tagged fT w') w' h (adF nm b)) ∧ Below w.heap.size w w' := by
  obtain ⟨z, hz⟩ : ∃ z : Int, z = (b.toNat : Int) := ⟨_, rfl⟩
  rw [← hz]
  have HZ := Lib.hid hz
  have HN := Lib.hid (And.intro hn hni)
  clear hz hn hni
  go_enter Tryz.func20, Tryz.ntmps20
  go_wp2_with fail
  rw [HZ.out]
  have hb1 : Below w.heap.size w (w.alloc (.cells (factC (adH na nl nc (w.heap.size + 1 + 1)) (adF nm b)) 57)) := (Below.refl _ _).alloc (Nat.le_refl _) _
  have a1 : Blk (w.alloc (.cells (factC (adH na nl nc (w.heap.size + 1 + 1)) (adF nm b)) 57)) w.heap.size (factC (adH na nl nc (w.heap.size + 1 + 1)) (adF nm b)) 57 := heap_alloc_new w _
  have hz1 : (w.alloc (.cells (factC (adH na nl nc (w.heap.size + 1 + 1)) (adF nm b)) 57)).heap.size = w.heap.size + 1 := by simp
  change bodyPost _ _ _ _ _ (((w.alloc (.cells (factC (adH na nl nc (w.heap.size + 1 + 1)) (adF nm b)) 57)).alloc (.cells #[.int .u8 1, .int .u8 2, .int .u8 3, .int .u8 (b.toNat : Int)] 5)).alloc (.cells #[.slice (some ⟨w.heap.size + 1, 0, none⟩) 4 4, .slice none 0 0, .slice none 0 0, .slice none 0 0, .slice none 0 0] 55))
  generalize w.alloc (.cells (factC (adH na nl nc (w.heap.size + 1 + 1)) (adF nm b)) 57) = X1 at hb1 a1 hz1 ⊢
  have h2 := two_blk2 X1 #[.int .u8 1, .int .u8 2, .int .u8 3, .int .u8 (b.toNat : Int)] #[.slice (some ⟨w.heap.size + 1, 0, none⟩) 4 4, .slice none 0 0, .slice none 0 0, .slice none 0 0, .slice none 0 0] 5 55
  rw [hz1] at h2
  generalize (X1.alloc (.cells #[.int .u8 1, .int .u8 2, .int .u8 3, .int .u8 (b.toNat : Int)] 5)).alloc (.cells #[.slice (some ⟨w.heap.size + 1, 0, none⟩) 4 4, .slice none 0 0, .slice none 0 0, .slice none 0 0, .slice none 0 0] 55) = X3 at h2 ⊢
  have hb3 := below_on hb1 (hz1 ▸ h2.2.2) (Nat.le_refl _)
  have hN3 := HN.out.1.below hb3 (Nat.le_refl _)
  have hni3 : rowIn (tagged fT X3) na nl := fun h0 a ha => by
    have ht := HN.out.2 h0 a ha
    exact tagged_keep ht (hb3.block _ (tagged_lt ht))
  have hi := ad_is X3 (w.heap.size + 1) (w.heap.size + 1 + 1) na nl nc nm hN3 hni3 b h2.1 h2.2.1
  have ha3 : Blk X3 w.heap.size (factC (adH na nl nc (w.heap.size + 1 + 1)) (adF nm b)) 57 := a1.on (hz1 ▸ h2.2.2)
  refine bodyPost_ret (v := .agg (factC (adH na nl nc (w.heap.size + 1 + 1)) (adF nm b))) (results_cell_row (p := 4) (ty := 57) rfl _ _ w.heap.size 57 (factC (adH na nl nc (w.heap.size + 1 + 1)) (adF nm b)) (0, 0) _ rfl ha3 Tryz.underlying57 rfl factSize) rfl ?_
  exact ⟨⟨_, rfl, hi⟩, hb3⟩
end
section
theorem putB_snoc (n size : Nat) : putN (n : Int) (size + 1) = putN ((n / 256 : Nat) : Int) size ++ [UInt8.ofNat (n % 256)] := by
  simp only [putN, List.range_succ, List.map_append, List.map_cons, List.map_nil, Int.toNat_natCast]
  congr 1
  · apply List.map_congr_left
    intro t ht
    have ht := List.mem_range.1 ht
    rw [show size + 1 - 1 - t = (size - 1 - t) + 1 by omega, Nat.pow_succ, Nat.mul_comm, ← Nat.div_div_eq_div_mul]
  · rw [show size + 1 - 1 - size = 0 by omega, Nat.pow_zero, Nat.div_one]
theorem beN_putB : ∀ (size n : Nat), n < 256 ^ size → beN (putN (n : Int) size) = n
  | 0, n, h => by
    have : n = 0 := by simpa using h
    subst this
    rfl
  | size + 1, n, h => by
    have hq : n / 256 < 256 ^ size := by rw [Nat.pow_succ] at h; omega
    rw [putB_snoc, beN_snoc, beN_putB size _ hq]
    have : (UInt8.ofNat (n % 256)).toNat = n % 256 := by simp
    rw [this]
    omega
end
section
theorem preB_off (h : HeadP) (n : Nat) {t : Nat} (ht : t ≤ 6) : (preB h n t).length = offAt t := by
  have h7 : t = 0 ∨ t = 1 ∨ t = 2 ∨ t = 3 ∨ t = 4 ∨ t = 5 ∨ t = 6 := by omega
  rcases h7 with rfl | rfl | rfl | rfl | rfl | rfl | rfl <;> simp [preB, putB_len, sizeAt, offAt]
theorem preB_mono (h : HeadP) (n : Nat) (t k : Nat) : ∃ r, preB h n (t + k) = preB h n t ++ r := by
  induction k with
  | zero => exact ⟨[], by simp⟩
  | succ k ih =>
    obtain ⟨r, hr⟩ := ih
    exact ⟨r ++ putN (numAt h n (t + k)) (sizeAt (t + k)), by rw [← Nat.add_assoc, preB, hr, List.append_assoc]⟩
theorem seal_part (h : HeadP) (l : List UInt8) {t : Nat} (ht : t < 6) : ((sealB h l).drop (offAt t)).take (sizeAt t) = putN (numAt h l.length t) (sizeAt t) := by
  obtain ⟨r, hr⟩ := preB_mono h l.length (t + 1) (6 - (t + 1))
  rw [show t + 1 + (6 - (t + 1)) = 6 by omega, show preB h l.length (t + 1) = preB h l.length t ++ putN (numAt h l.length t) (sizeAt t) from rfl] at hr
  have hl := putB_len (numAt h l.length t) (sizeAt t)
  rw [sealB, hr]
  simp only [List.append_assoc]
  rw [← preB_off h l.length (Nat.le_of_lt ht), List.drop_left, List.take_append_of_le_length (by omega), List.take_of_length_le (by omega)]
theorem seal_num (h : HeadP) (l : List UInt8) {t : Nat} (ht : t < 6) (hf : fitK (numAt h l.length t) (sizeAt t) = true) : numOf (sealB h l) t = numAt h l.length t := by
  rw [numOf, seal_part h l ht]
  simp only [fitK, Bool.and_eq_true, decide_eq_true_eq] at hf
  obtain ⟨m, hm⟩ : ∃ m : Nat, numAt h l.length t = (m : Int) := ⟨(numAt h l.length t).toNat, by omega⟩
  rw [hm] at hf ⊢
  have h2 : m < 256 ^ sizeAt t := by
    have := hf.2
    rw [show (256 : Int) = ((256 : Nat) : Int) from rfl, ← Int.natCast_pow] at this
    exact Int.ofNat_lt.1 this
  rw [beN_putB _ _ h2]
theorem seal_open {h : HeadP} {l : List UInt8} (he : sealE h l = 0) : openE (sealB h l) = 0 ∧ openH (sealB h l) = h ∧ openD (sealB h l) = l := by
  have hl : l.length ≤ 496 := by
    rw [sealE] at he
    split at he
    · cases he
    · split at he
      · cases he
      · split at he
        · cases he
        · omega
  have hf : fitsH h = true := by
    rw [sealE] at he
    split at he
    · cases he
    · rename_i hx
      simpa using hx
  simp only [fitsH, Bool.and_eq_true] at hf
  obtain ⟨⟨⟨⟨f0, f1⟩, f2⟩, f3⟩, f4⟩ := hf
  have n0 := seal_num h l (t := 0) (by omega) f0
  have n1 := seal_num h l (t := 1) (by omega) f1
  have n2 := seal_num h l (t := 2) (by omega) f2
  have n3 := seal_num h l (t := 3) (by omega) f3
  have n4 := seal_num h l (t := 4) (by omega) f4
  have n5 := seal_num h l (t := 5) (by omega) (by simp only [fitK, numAt, sizeAt, Bool.and_eq_true, decide_eq_true_eq]; omega)
  simp only [numAt] at n0 n1 n2 n3 n4 n5
  have hH : openH (sealB h l) = h := by rw [openH, n0, n1, n2, n3, n4]
  have hD : openD (sealB h l) = l := by
    rw [openD, n5, Int.toNat_natCast, sealB, List.append_assoc, ← preB_len h l.length, List.drop_left, List.take_left]
  refine ⟨?_, hH, hD⟩
  rw [openE, if_neg (by rw [sealB_len hl]; omega), if_neg (by rw [n5]; omega), hH, hD, if_neg (by simp [he])]
end
section
/-- the power stays -/
structure Calm (d : DevP) : Prop where
  dn : d.down = false
  lim : d.limit = 0
  us : ∀ u ∈ d.unsure, u.1 < d.sure.length
theorem Calm.ok {d : DevP} (h : Calm d) : spendOk d = true := by simp [spendOk, h.lim]
theorem Calm.spend {d : DevP} (h : Calm d) : spendP d = d := by simp [spendP, h.lim]
theorem Calm.writeE {d : DevP} (h : Calm d) : writeE d = 0 := by simp [Go.Proofs.YtjbaohcofdoinaaGreat.writeE, h.dn, h.ok]
theorem Calm.writeP {d : DevP} (h : Calm d) (p : Nat) (b : List UInt8) : writeP d p b = { d with unsure := d.unsure ++ [(p, b)] } := by simp [Go.Proofs.YtjbaohcofdoinaaGreat.writeP, h.dn, h.ok, h.spend]
theorem Calm.write {d : DevP} (h : Calm d) {p : Nat} (hp : p < d.sure.length) (b : List UInt8) : Calm (Go.Proofs.YtjbaohcofdoinaaGreat.writeP d p b) := by
  rw [h.writeP]
  refine ⟨h.dn, h.lim, fun u hu => ?_⟩
  rcases List.mem_append.1 hu with hu | hu
  · exact h.us u hu
  · rw [List.mem_singleton.1 hu]; exact hp
theorem last_snoc (us : List (Nat × List UInt8)) (p : Nat) (b : List UInt8) (t : Nat) : lastW (us ++ [(p, b)]) t = if p = t then some b else lastW us t := by
  unfold lastW
  rw [List.reverse_append, List.reverse_singleton, List.singleton_append]
  by_cases he : p = t
  · rw [if_pos he, List.find?_cons_of_pos (by simpa using he)]; rfl
  · rw [if_neg he, List.find?_cons_of_neg (by simpa using he)]
theorem Calm.read_write {d : DevP} (h : Calm d) (p : Nat) (b : List UInt8) (t : Nat) : readP (Go.Proofs.YtjbaohcofdoinaaGreat.writeP d p b) t = if p = t then some b else readP d t := by
  rw [h.writeP]
  unfold readP
  rw [show ({ d with unsure := d.unsure ++ [(p, b)] } : DevP).unsure = d.unsure ++ [(p, b)] from rfl, last_snoc]
  by_cases he : p = t
  · rw [if_pos he, if_pos he]
  · rw [if_neg he, if_neg he]
theorem Calm.syncE {d : DevP} (h : Calm d) : syncE d = 0 := by simp [Go.Proofs.YtjbaohcofdoinaaGreat.syncE, h.dn, h.ok]
theorem Calm.syncP {d : DevP} (h : Calm d) : syncP d = { d with sure := setN (fun _ => some false) d.unsure d.sure d.unsure.length, unsure := [] } := by simp [Go.Proofs.YtjbaohcofdoinaaGreat.syncP, h.dn, h.ok, h.spend]
theorem Calm.sync {d : DevP} (h : Calm d) : Calm (Go.Proofs.YtjbaohcofdoinaaGreat.syncP d) := by
  rw [h.syncP]
  exact ⟨h.dn, h.lim, fun u hu => by cases hu⟩
theorem Calm.sync_len {d : DevP} (h : Calm d) : (Go.Proofs.YtjbaohcofdoinaaGreat.syncP d).sure.length = d.sure.length := by
  rw [h.syncP]
  exact setN_len _ _ _ _
theorem Calm.sync_none {d : DevP} (h : Calm d) : (Go.Proofs.YtjbaohcofdoinaaGreat.syncP d).unsure = [] := by rw [h.syncP]
theorem setN_get (us : List (Nat × List UInt8)) (s : List (List UInt8 × Bool)) (hu : ∀ u ∈ us, u.1 < s.length) (t : Nat) : ∀ k, k ≤ us.length → (setN (fun _ => some false) us s k)[t]? = match lastW (us.take k) t with
    | some b => some (b, false)
    | none => s[t]?
  | 0, _ => rfl
  | k + 1, hk => by
    have hlt : k < us.length := hk
    have ih := setN_get us s hu t k (by omega)
    rw [lastW_step hlt, setN, List.getElem?_eq_getElem hlt]
    show ((setN (fun _ => some false) us s k).set (us[k]).1 ((us[k]).2, false))[t]? = _
    by_cases he : (us[k]).1 = t
    · rw [if_pos he, he, List.getElem?_set_self (by rw [setN_len, ← he]; exact hu _ (List.getElem_mem hlt))]
    · rw [if_neg he, List.getElem?_set_ne he]
      exact ih
theorem Calm.read_sync {d : DevP} (h : Calm d) (t : Nat) : readP (Go.Proofs.YtjbaohcofdoinaaGreat.syncP d) t = readP d t := by
  rw [h.syncP]
  unfold readP
  have hg := setN_get d.unsure d.sure h.us t d.unsure.length (Nat.le_refl _)
  rw [List.take_length] at hg
  show (match lastW [] t with
    | some b => some b
    | none => match (setN (fun _ => some false) d.unsure d.sure d.unsure.length)[t]? with
      | some s => if s.2 = true then none else some s.1
      | none => none) = _
  rw [show lastW [] t = none from rfl, hg]
  cases lastW d.unsure t with
  | some b => rfl
  | none => rfl
/-- a crash behind a sync changes nothing -/
theorem Calm.crash {d : DevP} (h : Calm d) (hu : d.unsure = []) (m tn : Nat) : crashP d m tn = d := by
  unfold crashP
  rw [hu]
  have e1 := h.dn
  have e2 := h.lim
  cases d
  simp_all [setN]
/- the super block -/
theorem supData_get (s : SupP) : ∀ k t, t < k → k ≤ 5 → ((supData s k).drop (t * 7)).take 7 = putN (supNum s t) 7
  | 0, t, h, _ => by omega
  | k + 1, t, h, hk => by
    rw [supData]
    have hl := supData_len s k
    rcases Nat.lt_succ_iff_lt_or_eq.1 h with h | rfl
    · have h7 : t * 7 + 7 ≤ k * 7 := by omega
      rw [List.drop_append_of_le_length (by omega), List.take_append_of_le_length (by rw [List.length_drop]; omega)]
      exact supData_get s k t h (by omega)
    · rw [← hl, List.drop_left, List.take_of_length_le (by rw [putB_len]; omega)]
theorem beN_fit {n : Int} {k : Nat} (h : fitK n k = true) : (beN (putN n k) : Int) = n := by
  simp only [fitK, Bool.and_eq_true, decide_eq_true_eq] at h
  obtain ⟨m, hm⟩ : ∃ m : Nat, n = (m : Int) := ⟨n.toNat, by omega⟩
  subst hm
  have h2 : m < 256 ^ k := by
    have := h.2
    rw [show (256 : Int) = ((256 : Nat) : Int) from rfl, ← Int.natCast_pow] at this
    exact Int.ofNat_lt.1 this
  rw [beN_putB _ _ h2]
theorem sup_back {b : SupP} (h : supFits b = true) : supOk (supRaw b) = true ∧ supOf (openD (supRaw b)) = b := by
  have hlen : (supData b 5).length = 35 := supData_len b 5
  obtain ⟨h1, h2, h3⟩ := seal_open (seal_sup (supData b 5) hlen)
  refine ⟨?_, ?_⟩
  · unfold supOk supRaw
    rw [h1, h2, h3, hlen]
    decide
  · unfold supRaw
    rw [h3, supOf]
    have e : ∀ t, t < 5 → supAt (supData b 5) t = supNum b t := fun t ht => by
      rw [supAt, supData_get b 5 t ht (Nat.le_refl _)]
      exact beN_fit (supFits_at h ht)
    rw [e 0 (by omega), e 1 (by omega), e 2 (by omega), e 3 (by omega), e 4 (by omega)]
    rfl
theorem supRead_calm {d : DevP} (h : d.down = false) (t : Nat) : supRead d t = match readP d t with
    | none => (zeroSup, false, 0)
    | some raw => if supOk raw = true then (supOf (openD raw), decide ((supOf (openD raw)).gen % 2 = (t : Int)), 0) else (zeroSup, false, 0) := by
  rw [supRead, if_neg (by rw [h]; decide)]
  rfl
theorem supRead_eq {d d' : DevP} (h : d.down = false) (h' : d'.down = false) {t : Nat} (hr : readP d' t = readP d t) : supRead d' t = supRead d t := by
  rw [supRead_calm h, supRead_calm h', hr]
theorem loadN_eq {d d' : DevP} (h : d.down = false) (h' : d'.down = false) (hr : ∀ t, t < 2 → readP d' t = readP d t) : loadN d' 2 = loadN d 2 := by
  have e0 := supRead_eq h h' (hr 0 (by omega))
  have e1 := supRead_eq h h' (hr 1 (by omega))
  simp only [loadN, e0, e1]
  rfl
theorem save_calm {d : DevP} (h : Calm d) {b : SupP} (hf : supFits b = true) (hn : supNext d b = true) : saveP d b = (syncP (writeP (syncP d) (b.gen % 2).toNat (supRaw b)), 0) := by
  have hs := h.sync
  have hw : ∀ p, p < 2 ∨ True → writeE (syncP d) = 0 := fun _ _ => hs.writeE
  have hc : (writeP (syncP d) (b.gen % 2).toNat (supRaw b)).down = false ∧ spendOk (writeP (syncP d) (b.gen % 2).toNat (supRaw b)) = true := by
    rw [hs.writeP]
    exact ⟨hs.dn, hs.ok⟩
  have he : syncE (writeP (syncP d) (b.gen % 2).toNat (supRaw b)) = 0 := by
    rw [Go.Proofs.YtjbaohcofdoinaaGreat.syncE, if_neg (by rw [hc.1]; decide), if_pos hc.2]
  rw [saveP, if_neg (by rw [h.dn]; decide), if_neg (by rw [hf]; decide), if_neg (by rw [hn]; decide), if_neg (by rw [h.syncE]; decide), if_neg (by rw [hs.writeE]; decide), he]
theorem slot_lt (n : Int) : (n % 2).toNat < 2 := by omega
structure Saved (d : DevP) (b : SupP) (d' : DevP) : Prop where
  calm : Calm d'
  read : ∀ t, readP d' t = if t = (b.gen % 2).toNat then some (supRaw b) else readP d t
  len : d'.sure.length = d.sure.length
  none : d'.unsure = []
  load : loadN d' 2 = some b
theorem load_max {d : DevP} {o : SupP} (h : loadN d 2 = some o) {t : Nat} (ht : t < 2) (hok : (supRead d t).2.1 = true) : (supRead d t).1.gen ≤ o.gen := by
  simp only [loadN] at h
  have h2 : t = 0 ∨ t = 1 := by omega
  by_cases h0 : (supRead d 0).2.1 = true <;> by_cases h1 : (supRead d 1).2.1 = true <;> rcases h2 with rfl | rfl
  all_goals simp_all
  all_goals split at h <;> simp_all <;> first | omega | (subst h; omega) | (subst h; exact Int.le_refl _)
theorem save_sup {d : DevP} (h : Calm d) (h2 : 2 ≤ d.sure.length) {b : SupP} (hf : supFits b = true) (hn : supNext d b = true) : (saveP d b).2 = 0 ∧ Saved d b (saveP d b).1 := by
  rw [save_calm h hf hn]
  have hs := h.sync
  have hp : (b.gen % 2).toNat < (syncP d).sure.length := by rw [h.sync_len]; have := slot_lt b.gen; omega
  have hw := hs.write hp (supRaw b)
  have hd := hw.sync
  have hread : ∀ t, readP (syncP (writeP (syncP d) (b.gen % 2).toNat (supRaw b))) t = if t = (b.gen % 2).toNat then some (supRaw b) else readP d t := fun t => by
    rw [hw.read_sync, hs.read_write, h.read_sync]
    by_cases e : (b.gen % 2).toNat = t
    · rw [if_pos e, if_pos e.symm]
    · rw [if_neg e, if_neg (fun x => e x.symm)]
  refine ⟨rfl, hd, hread, ?_, hw.sync_none, ?_⟩
  · rw [hw.sync_len, hs.writeP]
    exact h.sync_len
  · have hb := sup_back hf
    obtain ⟨d', hd'⟩ : ∃ d', d' = syncP (writeP (syncP d) (b.gen % 2).toNat (supRaw b)) := ⟨_, rfl⟩
    rw [← hd'] at hread hd ⊢
    have hslot : supRead d' (b.gen % 2).toNat = (b, true, 0) := by
      rw [supRead_calm hd.dn, hread, if_pos rfl]
      simp only [hb.1, if_true, hb.2]
      congr
      simp
      omega
    have hoth : ∀ t, t < 2 → t ≠ (b.gen % 2).toNat → supRead d' t = supRead d t := fun t _ hne => supRead_eq h.dn hd.dn (by rw [hread, if_neg hne])
    have hle : ∀ t, t < 2 → t ≠ (b.gen % 2).toNat → (supRead d' t).2.1 = true → (supRead d' t).1.gen < b.gen := fun t ht hne hok => by
      rw [hoth t ht hne] at hok ⊢
      unfold supNext at hn
      cases hl : loadN d 2 with
      | none =>
        exfalso
        simp only [loadN] at hl
        have h2 : t = 0 ∨ t = 1 := by omega
        rcases h2 with rfl | rfl <;> by_cases h0 : (supRead d 0).2.1 = true <;> by_cases h1 : (supRead d 1).2.1 = true <;> simp_all
        all_goals (split at hl <;> simp_all)
      | some o =>
        have hm := load_max hl ht hok
        rw [hl] at hn
        simp at hn
        omega
    have hs2 := slot_lt b.gen
    have hcase : (b.gen % 2).toNat = 0 ∨ (b.gen % 2).toNat = 1 := by omega
    rcases hcase with e | e
    · rw [e] at hslot hle
      have h1 := hle 1 (by omega) (by omega)
      simp only [loadN, hslot]
      simp
      intro h3
      have := h1 h3
      omega
    · rw [e] at hslot hle
      have h0 := hle 0 (by omega) (by omega)
      simp only [loadN, hslot]
      simp
      intro h3 h4
      have := h0 h3
      omega
end
section
open Go.ChangeShapes Go.WideShapes Go.ChangeAt Go.RowKit
def partO (d : DevP) (p : Nat) : HeadP × List UInt8 × Int := match readP d (atN d p) with
  | none => (zeroH, [], 9)
  | some b => if openE b = 0 then (openH b, openD b, 0) else (zeroH, [], openE b)
structure PartRes (w : World) (d : DevP) (p : Nat) (e : Ending) (w' : World) : Prop where
  out : ∃ ao c, e = .returned (.tuple #[.agg (headC (partO d p).1), .slice ao (partO d p).2.1.length c, .int .i64 (partO d p).2.2]) ∧ Own1 [5] w.heap.size w' ao (partO d p).2.1.length c ((partO d p).2.1.map u8V)
  bel : Below w.heap.size w w'
theorem own_none (T : List TypeId) (B : Nat) (w : World) : Own1 T B w none 0 0 [] := ⟨Row.empty (by omega) (fun _ => rfl), rowIn_zero _ _⟩
theorem part_results {tmps : Array Value} {w : World} {R : Nat} {h : HeadP} {v : Value} {k : Int} (h2 : tmps[4]? = some (.pointer (some ⟨R, 0, none⟩))) (h3 : tmps[5]? = some v) (h4 : tmps[6]? = some (.int .i64 k)) (hB : Blk w R (headC h) 90) :
    (results Tryz.f35 tmps).run Tryz.prog w = .ok (.tuple #[.agg (headC h), v, .int .i64 k]) w := by
  have c0 := hB.cell 0
  have c1 := hB.cell 1
  have c2 := hB.cell 2
  have c3 := hB.cell 3
  have c4 := hB.cell 4
  simp [headC] at c0 c1 c2 c3 c4
  simp [results, go_sem, h2, h3, h4, c0, c1, c2, c3, c4, headC]
set_option maxHeartbeats 16000000 in
set_option maxRecDepth 100000 in
theorem lpart_any (w : World) (B L D : Nat) (l : LogP) (d : DevP) (hl : IsLog B w L D l) (hd : IsDev B w D d) (hdn : d.down = false) (h3 : 3 ≤ d.sure.length) (p : Nat) (hp : p ≤ 1000000000) :
    Calls Tryz.prog 35 #[.pointer (some ⟨L, 0, none⟩), .int .i64 (p : Int)] w fun e w' => PartRes w d p e w' := by
  have hal : Below w.heap.size w (w.alloc (.cells (headC zeroH) 90)) := (Below.refl _ _).alloc (Nat.le_refl _) _
  have hA : Blk (w.alloc (.cells (headC zeroH) 90)) w.heap.size (headC zeroH) 90 := heap_alloc_new w _
  have hbd : Below w.heap.size w (w.alloc (.cells (headC zeroH) 90)).drew := Below.drew hal
  have HAT := Lib.hid (lat_any _ B L D l d (hl.on hbd) (hd.on hbd) h3 p hp)
  have HRD := Lib.hid (dread_any _ B D d (hd.on hbd) (atN d p) (at_lt h3 p))
  obtain ⟨v, h1, _⟩ := hl.ex
  have c0 : (w.alloc (.cells (headC zeroH) 90)).drew.cell? ⟨L, 0, none⟩ = some (.pointer (some ⟨D, 0, none⟩)) := (h1.on hbd).cell 0
  have HA := Lib.hid (And.intro (hA.on (Below.drew (Below.refl _ _))) hbd)
  have HD := Lib.hid hdn
  obtain ⟨q, hq⟩ : ∃ q, q = atN d p := ⟨_, rfl⟩
  rw [← hq] at HAT HRD
  have HQ := Lib.hid hq
  have hsz : (w.alloc (.cells (headC zeroH) 90)).drew.heap.size = w.heap.size + 1 := Array.size_push _
  have HSZ := Lib.hid hsz
  clear hal hA hbd h1 hl hd hdn hq hsz
  simp only [headC, zeroH] at HAT HRD c0 HA HSZ
  cases hrp : readP d q with
  | none =>
    have HO := Lib.hid (show partO d p = (zeroH, [], 9) by rw [partO, ← HQ.out, hrp])
    have HRP := Lib.hid hrp
    clear hrp
    go_enter Tryz.func35, Tryz.ntmps35
    go_wp2_with fail
    go_region_held3 (fun w' => w'.cell? ⟨L, 0, none⟩ = some (.pointer (some ⟨D, 0, none⟩)))
      (first | go_keep | exact c0 | exact hc2)
      (first | (go_at_call 60; refine HAT.out.mono ?_; rintro e w2 ⟨rfl, rfl⟩) | (go_at_call 53; refine HRD.out.mono ?_; rintro e W2 hR; obtain rfl := hR.torn HD.out HRP.out; have hc2 := cell_keep hR.bel c0; have H2 := Lib.hid (And.intro (below_on HA.out.2 hR.bel (Nat.le_refl _)) (HA.out.1.on hR.bel)); clear hR))
    all_goals go_split_ands
    all_goals go_wp2_with (refine wpList_store_row rfl 90 _ _ rfl w.heap.size (headC zeroH) rfl rfl 90 (headC zeroH) H2.out.2 headSize rfl (headC_all _) ?_)
    have HF := open_out (show Blk W2 w.heap.size (headC zeroH) 90 from H2.out.2) H2.out.1 zeroH
    exact bodyPost_ret (v := .tuple #[.agg (headC zeroH), .slice none 0 0, .int .i64 9]) (part_results rfl rfl rfl HF.1) rfl ⟨⟨none, 0, by rw [HO.out]; rfl, by rw [HO.out]; exact own_none _ _ _⟩, HF.2⟩
  | some raw =>
    have HRP := Lib.hid hrp
    clear hrp
    by_cases he : openE raw = 0
    · have HO := Lib.hid (show partO d p = (openH raw, openD raw, 0) by rw [partO, ← HQ.out, HRP.out]; simp only [he, if_true])
      have HE := Lib.hid he
      clear he
      go_enter Tryz.func35, Tryz.ntmps35
      go_wp2_with fail
      go_region_held3 (fun w' => w'.cell? ⟨L, 0, none⟩ = some (.pointer (some ⟨D, 0, none⟩)))
        (first | go_keep | exact c0 | exact hc2)
        (first | (go_at_call 60; refine HAT.out.mono ?_; rintro e w2 ⟨rfl, rfl⟩) | (go_at_call 53; refine HRD.out.mono ?_; rintro e W2 hR; obtain ⟨ao, c, rfl, hown, h512⟩ := hR.ok HD.out raw HRP.out; have hc2 := cell_keep hR.bel c0; have H2 := Lib.hid (And.intro (below_on HA.out.2 hR.bel (Nat.le_refl _)) (And.intro (HA.out.1.on hR.bel) hown.row)); clear hR hown h512))
      all_goals go_split_ands
      go_wp2_with (first | (go_at_call 61; refine (sopen_any W2 ao 512 c raw H2.out.2.2).mono ?_; rintro e W3 hO; obtain ⟨da, dc, rfl, hda⟩ := hO.ok HE.out; have H3 := Lib.hid (And.intro (below_on H2.out.1 hO.bel (Nat.le_refl _)) (And.intro (H2.out.2.1.on hO.bel) (hda.mono (Nat.le_trans (Nat.le_refl _) H2.out.1.size)))); clear hO hda) | (refine wpList_store_row rfl 90 _ _ rfl w.heap.size (headC (openH raw)) rfl rfl 90 (headC zeroH) H3.out.2.1 headSize rfl (headC_all _) ?_))
      have HF := open_out (show Blk W3 w.heap.size (headC zeroH) 90 from H3.out.2.1) H3.out.1 (openH raw)
      have hk : Own1 [5] w.heap.size (W3.setRow w.heap.size (headC (openH raw))) da (openD raw).length dc ((openD raw).map u8V) := H3.out.2.2.step (Same.mono (Same.but (T := [5]) (but_setRow W3 w.heap.size (headC (openH raw))) H3.out.2.1 (by decide)) (fun _ _ h => h.1))
      exact bodyPost_ret (v := .tuple #[.agg (headC (openH raw)), .slice da (openD raw).length dc, .int .i64 0]) (part_results rfl rfl rfl HF.1) rfl ⟨⟨da, dc, by rw [HO.out], by rw [HO.out]; exact hk⟩, HF.2⟩
    · have HO := Lib.hid (show partO d p = (zeroH, [], openE raw) by rw [partO, ← HQ.out, HRP.out]; simp only [he, if_false])
      have HE := Lib.hid he
      clear he
      go_enter Tryz.func35, Tryz.ntmps35
      go_wp2_with fail
      go_region_held3 (fun w' => w'.cell? ⟨L, 0, none⟩ = some (.pointer (some ⟨D, 0, none⟩)))
        (first | go_keep | exact c0 | exact hc2)
        (first | (go_at_call 60; refine HAT.out.mono ?_; rintro e w2 ⟨rfl, rfl⟩) | (go_at_call 53; refine HRD.out.mono ?_; rintro e W2 hR; obtain ⟨ao, c, rfl, hown, h512⟩ := hR.ok HD.out raw HRP.out; have hc2 := cell_keep hR.bel c0; have H2 := Lib.hid (And.intro (below_on HA.out.2 hR.bel (Nat.le_refl _)) (And.intro (HA.out.1.on hR.bel) hown.row)); clear hR hown h512))
      all_goals go_split_ands
      go_wp2_with (first | (go_at_call 61; refine (sopen_any W2 ao 512 c raw H2.out.2.2).mono ?_; rintro e W3 hO; obtain rfl := hO.bad HE.out; have H3 := Lib.hid (And.intro (below_on H2.out.1 hO.bel (Nat.le_refl _)) (H2.out.2.1.on hO.bel)); clear hO) | (refine wpList_store_row rfl 90 _ _ rfl w.heap.size (headC zeroH) rfl rfl 90 (headC zeroH) H3.out.2 headSize rfl (headC_all _) ?_))
      have HF := open_out (show Blk W3 w.heap.size (headC zeroH) 90 from H3.out.2) H3.out.1 zeroH
      exact bodyPost_ret (v := .tuple #[.agg (headC zeroH), .slice none 0 0, .int .i64 (openE raw)]) (part_results rfl rfl rfl HF.1) rfl ⟨⟨none, 0, by rw [HO.out]; rfl, by rw [HO.out]; exact own_none _ _ _⟩, HF.2⟩
end
section
def pN (b : List UInt8) : Nat := partsN b.length
def layN : Nat → List (List UInt8) → List (Nat × Nat)
  | _, [] => []
  | p, b :: rs => (p, pN b) :: layN (p + pN b) rs
def endN : Nat → List (List UInt8) → Nat
  | p, [] => p
  | p, b :: rs => endN (p + pN b) rs
/-- the place of record i -/
def plN (p : Nat) (rs : List (List UInt8)) (i : Nat) : Nat := endN p (rs.take i)
theorem pN_pos (b : List UInt8) : 1 ≤ pN b := by unfold pN partsN; omega
theorem layN_len : ∀ (p : Nat) (rs : List (List UInt8)), (layN p rs).length = rs.length
  | _, [] => rfl
  | p, b :: rs => by rw [layN, List.length_cons, List.length_cons, layN_len]
theorem layN_app : ∀ (p : Nat) (rs : List (List UInt8)) (b : List UInt8), layN p (rs ++ [b]) = layN p rs ++ [(endN p rs, pN b)]
  | _, [], _ => rfl
  | p, a :: rs, b => by rw [List.cons_append, layN, layN_app, layN, endN]; rfl
theorem endN_app : ∀ (p : Nat) (rs qs : List (List UInt8)), endN p (rs ++ qs) = endN (endN p rs) qs
  | _, [], _ => rfl
  | p, a :: rs, qs => by rw [List.cons_append, endN, endN_app, endN]
theorem endN_ge : ∀ (p : Nat) (rs : List (List UInt8)), p + rs.length ≤ endN p rs
  | _, [] => by simp [endN]
  | p, b :: rs => by
    have h1 := endN_ge (p + pN b) rs
    have h2 := pN_pos b
    rw [endN, List.length_cons]
    omega
theorem plN_next (p : Nat) (rs : List (List UInt8)) {i : Nat} (h : i < rs.length) : plN p rs (i + 1) = plN p rs i + pN rs[i] := by
  rw [plN, List.take_succ_eq_append_getElem h, endN_app]
  rfl
theorem plN_zero (p : Nat) (rs : List (List UInt8)) : plN p rs 0 = p := rfl
theorem plN_len (p : Nat) (rs : List (List UInt8)) : plN p rs rs.length = endN p rs := by rw [plN, List.take_length]
theorem plN_mono (p : Nat) (rs : List (List UInt8)) {i k : Nat} (h : i ≤ k) : plN p rs i ≤ plN p rs k := by
  induction k with
  | zero => have : i = 0 := by omega
            subst this; exact Nat.le_refl _
  | succ k ih =>
    rcases Nat.lt_or_ge i (k + 1) with h1 | h1
    · have h2 := ih (by omega)
      by_cases h3 : k < rs.length
      · rw [plN_next p rs h3]; omega
      · have e : plN p rs (k + 1) = plN p rs k := by rw [plN, plN, List.take_of_length_le (by omega), List.take_of_length_le (by omega)]
        omega
    · have : i = k + 1 := by omega
      subst this; exact Nat.le_refl _
theorem plN_end (p : Nat) (rs : List (List UInt8)) {i : Nat} (h : i < rs.length) : plN p rs i + pN rs[i] ≤ endN p rs := by
  rw [← plN_next p rs h, ← plN_len]
  exact plN_mono p rs h
theorem plN_ge (p : Nat) (rs : List (List UInt8)) (i : Nat) : p ≤ plN p rs i := plN_mono p rs (Nat.zero_le i)
theorem layN_get : ∀ (p : Nat) (rs : List (List UInt8)) (i : Nat) (h : i < rs.length), (layN p rs)[i]? = some (plN p rs i, pN rs[i])
  | _, [], i, h => by simp at h
  | p, b :: rs, 0, _ => rfl
  | p, b :: rs, i + 1, h => by
    rw [layN, List.getElem?_cons_succ, layN_get (p + pN b) rs i (by simpa using h)]
    rfl
theorem layN_drop : ∀ (p : Nat) (rs : List (List UInt8)) (k : Nat), (layN p rs).drop k = layN (plN p rs k) (rs.drop k)
  | _, [], k => by simp [layN]
  | p, b :: rs, 0 => rfl
  | p, b :: rs, k + 1 => by
    rw [layN, List.drop_succ_cons, layN_drop (p + pN b) rs k]
    rfl
theorem plN_drop (p : Nat) (rs : List (List UInt8)) (k i : Nat) (_hk : k ≤ rs.length) : plN (plN p rs k) (rs.drop k) i = plN p rs (k + i) := by
  rw [plN, plN, plN, ← endN_app]
  congr 1
  rw [List.take_add]
theorem plN_take (p : Nat) (rs : List (List UInt8)) {k i : Nat} (h : i ≤ k) : plN p (rs.take k) i = plN p rs i := by
  rw [plN, plN, List.take_take, Nat.min_eq_left h]
theorem plN_app (p : Nat) (rs qs : List (List UInt8)) {i : Nat} (h : i ≤ rs.length) : plN p (rs ++ qs) i = plN p rs i := by
  rw [plN, plN, List.take_append_of_le_length h]
/-- places within one turn of the ring -/
theorem at_inj {d : DevP} (h : 3 ≤ d.sure.length) {p q f : Nat} (hp : f ≤ p) (hq : f ≤ q) (hp2 : p < f + ringN d) (hq2 : q < f + ringN d) (e : atN d p = atN d q) : p = q := by
  unfold atN at e
  have hr : 0 < ringN d := by unfold ringN; omega
  have e2 : p % ringN d = q % ringN d := by omega
  have h1 := Nat.div_add_mod p (ringN d)
  have h2 := Nat.div_add_mod q (ringN d)
  rw [e2] at h1
  have h3 : ringN d * (p / ringN d) = p - q % ringN d := by omega
  have h4 : ringN d * (q / ringN d) = q - q % ringN d := by omega
  rcases Nat.lt_trichotomy (p / ringN d) (q / ringN d) with hlt | heq | hgt
  · have := Nat.mul_le_mul_left (ringN d) (show p / ringN d + 1 ≤ q / ringN d from hlt)
    rw [Nat.mul_add] at this
    omega
  · rw [heq] at h1; omega
  · have := Nat.mul_le_mul_left (ringN d) (show q / ringN d + 1 ≤ p / ringN d from hgt)
    rw [Nat.mul_add] at this
    omega
theorem at_ge (d : DevP) (p : Nat) : 2 ≤ atN d p := by unfold atN; omega
theorem atN_eq {d d' : DevP} (h : d'.sure.length = d.sure.length) (p : Nat) : atN d' p = atN d p := by unfold atN ringN; rw [h]
/-- a record's part as it lies -/
def secW (ep first : Int) (i j : Nat) (b : List UInt8) : List UInt8 := sealB ⟨2, ep, first + (i : Int), j, pN b⟩ (pieceB b j)
/-- what a sector may be behind a crash -/
def Ver (d : DevP) (t : Nat) (raw : List UInt8) : Prop := d.sure[t]? = some (raw, false) ∨ (t, raw) ∈ d.unsure
theorem last_mem {us : List (Nat × List UInt8)} {t : Nat} {raw : List UInt8} (h : lastW us t = some raw) : (t, raw) ∈ us := by
  unfold lastW at h
  obtain ⟨x, hx, rfl⟩ := Option.map_eq_some_iff.1 h
  have h1 := List.find?_some hx
  have h2 := List.mem_of_find?_eq_some hx
  have h3 : x.1 = t := by simpa using h1
  rw [← h3]
  exact List.mem_reverse.1 h2
theorem last_none {us : List (Nat × List UInt8)} {t : Nat} (h : ∀ u ∈ us, u.1 ≠ t) : lastW us t = none := by
  unfold lastW
  rw [Option.map_eq_none_iff, List.find?_eq_none]
  intro x hx
  have := h x (List.mem_reverse.1 hx)
  simpa using this
theorem read_ver {d : DevP} {t : Nat} {raw : List UInt8} (h : readP d t = some raw) : Ver d t raw := by
  unfold readP at h
  cases hl : lastW d.unsure t with
  | some b =>
    rw [hl] at h
    have e : b = raw := by simpa using h
    subst e
    exact .inr (last_mem hl)
  | none =>
    rw [hl] at h
    cases hs : d.sure[t]? with
    | none => rw [hs] at h; simp at h
    | some s =>
      rw [hs] at h
      simp at h
      left
      obtain ⟨s1, s2⟩ := s
      obtain ⟨h1, h2⟩ := h
      simp at h1 h2
      rw [hs, h2, h1]
def Stale (l : LogP) (h : HeadP) : Prop := h.epoch < l.block.epoch ∨ (h.epoch = l.block.epoch ∧ h.seq < l.block.first)
structure Body (d : DevP) (l : LogP) (rs : List (List UInt8)) (sy f : Nat) (ep : Nat → Int) : Prop where
  frm : l.block.from' = (f : Int)
  lst : l.list = layN f rs
  fin : l.fin = endN f rs
  ring : endN f rs ≤ f + ringN d
  epf : ∀ i, fitK (ep i) 4 = true ∧ ep i ≤ l.block.epoch ∧ (l.block.count ≤ l.block.first + (i : Int) → ep i = l.block.epoch)
  live : ∀ i (h : i < rs.length) j, j < pN rs[i] → readP d (atN d (plN f rs i + j)) = some (secW (ep i) l.block.first i j rs[i])
  dur : ∀ i (h : i < rs.length) j, i < sy → j < pN rs[i] → d.sure[atN d (plN f rs i + j)]? = some (secW (ep i) l.block.first i j rs[i], false) ∧ ∀ u ∈ d.unsure, u.1 ≠ atN d (plN f rs i + j)
  uns : ∀ u ∈ d.unsure, ∃ i, ∃ h : i < rs.length, ∃ j, sy ≤ i ∧ j < pN rs[i] ∧ u = (atN d (plN f rs i + j), secW (ep i) l.block.first i j rs[i])
  old : ∀ t raw, 2 ≤ t → Ver d t raw → openE raw = 0 → (openH raw).kind = 2 → Stale l (openH raw) ∨ ∃ i, ∃ h : i < rs.length, ∃ j, j < pN rs[i] ∧ t = atN d (plN f rs i + j) ∧ raw = secW (ep i) l.block.first i j rs[i]
structure LogOK (d : DevP) (l : LogP) (rs : List (List UInt8)) (sy : Nat) : Prop where
  calm : Calm d
  off : l.down = false
  n4 : 4 ≤ d.sure.length
  le : d.sure.length ≤ 4096
  load : loadN d 2 = some l.block
  usup : ∀ u ∈ d.unsure, 2 ≤ u.1
  fits : supFits l.block = true
  epf : fitK l.block.epoch 4 = true
  ep1 : 1 ≤ l.block.epoch
  cnt : l.block.first ≤ l.block.count ∧ l.block.count ≤ l.block.first + (sy : Int) ∧ sy ≤ rs.length
  small : ∀ b ∈ rs, 1 ≤ b.length ∧ b.length ≤ 16384
  body : ∃ f ep, Body d l rs sy f ep
end
section
theorem last_append (us vs : List (Nat × List UInt8)) (t : Nat) : lastW (us ++ vs) t = match lastW vs t with
    | some b => some b
    | none => lastW us t := by
  unfold lastW
  rw [List.reverse_append, List.find?_append]
  cases List.find? (fun x => x.1 == t) vs.reverse <;> rfl
/-- the parts' writes -/
def partsW (d : DevP) (l : LogP) (b : List UInt8) (i : Nat) : List (Nat × List UInt8) := (List.range i).map fun j => (atN d (l.fin + j), recW l b j)
theorem partsW_succ (d : DevP) (l : LogP) (b : List UInt8) (i : Nat) : partsW d l b (i + 1) = partsW d l b i ++ [(atN d (l.fin + i), recW l b i)] := by
  unfold partsW
  rw [List.range_succ, List.map_append]
  rfl
theorem putParts_calm {d : DevP} (h : Calm d) (h3 : 3 ≤ d.sure.length) (l : LogP) (b : List UInt8) : ∀ i, Calm (putParts d l b i) ∧ putParts d l b i = { d with unsure := d.unsure ++ partsW d l b i }
  | 0 => ⟨h, by simp [putParts, partsW]⟩
  | i + 1 => by
    obtain ⟨h1, h2⟩ := putParts_calm h h3 l b i
    rw [putParts]
    refine ⟨h1.write (by rw [putParts_len]; exact at_lt h3 _) _, ?_⟩
    rw [h1.writeP, h2, partsW_succ]
    simp [List.append_assoc]
theorem partsW_last {d : DevP} (h3 : 3 ≤ d.sure.length) (l : LogP) (b : List UInt8) {i : Nat} (hi : i ≤ ringN d) {j : Nat} (hj : j < i) : lastW (partsW d l b i) (atN d (l.fin + j)) = some (recW l b j) := by
  induction i with
  | zero => omega
  | succ i ih =>
    rw [partsW_succ, last_snoc]
    by_cases e : i = j
    · subst e
      rw [if_pos rfl]
    · rw [if_neg ?_, ih (by omega) (by omega)]
      intro h
      have := at_inj h3 (f := l.fin) (by omega) (by omega) (by omega) (by omega) h
      omega
theorem partsW_none {d : DevP} (l : LogP) (b : List UInt8) (i : Nat) {t : Nat} (h : ∀ j, j < i → atN d (l.fin + j) ≠ t) : lastW (partsW d l b i) t = none := by
  apply last_none
  intro u hu
  obtain ⟨j, hj, rfl⟩ := List.mem_map.1 hu
  exact h j (List.mem_range.1 hj)
theorem body_off {d : DevP} {l : LogP} (hc : Calm d) (ho : l.down = false) : offB d l = false := by rw [offB, ho, hc.dn]; rfl
theorem fit_room {d : DevP} {l : LogP} {rs : List (List UInt8)} {sy f : Nat} {ep : Nat → Int} (hb : Body d l rs sy f ep) : roomL d l = (ringN d : Int) - ((endN f rs : Int) - (f : Int)) := by rw [roomL, hb.frm, hb.fin]
theorem next_len {d : DevP} {l : LogP} {rs : List (List UInt8)} {sy f : Nat} {ep : Nat → Int} (hb : Body d l rs sy f ep) : nextL l = l.block.first + (rs.length : Int) := by rw [nextL, hb.lst, layN_len]
/-- a record more -/
theorem LogOK.app {d : DevP} {l : LogP} {rs : List (List UInt8)} {sy : Nat} (h : LogOK d l rs sy) {b : List UInt8} (hb : 1 ≤ b.length ∧ b.length ≤ 16384) (hr : (pN b : Int) ≤ roomL d l) :
    appP d l b = (appD d l b, appL l b, nextL l, 0) ∧ LogOK (appD d l b) (appL l b) (rs ++ [b]) sy := by
  have h3 : 3 ≤ d.sure.length := by have := h.n4; omega
  obtain ⟨f, ep, hB⟩ := h.body
  obtain ⟨hc, hd⟩ := putParts_calm h.calm h3 l b (partsN b.length)
  have hd' : appD d l b = { d with unsure := d.unsure ++ partsW d l b (pN b) } := hd
  have hrm := fit_room hB
  have hpn : endN f rs + pN b ≤ f + ringN d := by rw [hrm] at hr; omega
  have hpr : pN b ≤ ringN d := by have := endN_ge f rs; omega
  refine ⟨?_, ?_⟩
  · unfold appP
    rw [if_neg (by rw [body_off h.calm h.off]; decide), if_neg (by omega), if_neg (by show ¬ roomL d l < (pN b : Int); omega), if_neg (by rw [show appD d l b = putParts d l b (partsN b.length) from rfl, hc.dn]; decide)]
  have hlen : (appD d l b).sure.length = d.sure.length := by rw [hd']
  have hat : ∀ p, atN (appD d l b) p = atN d p := fun p => atN_eq hlen p
  have hrec : ∀ j, recW l b j = secW l.block.epoch l.block.first rs.length j b := fun j => by rw [recW, recH, next_len hB]; rfl
  have hE : ∀ {i : Nat} (hi : i < rs.length) {j : Nat}, j < pN rs[i] → f ≤ plN f rs i + j ∧ plN f rs i + j < endN f rs := fun {i} hi {j} hj => by
    have h1 := plN_end f rs hi
    have h2 := plN_ge f rs i
    omega
  have hne : ∀ {i : Nat} (hi : i < rs.length) {j : Nat}, j < pN rs[i] → ∀ j', j' < pN b → atN d (l.fin + j') ≠ atN d (plN f rs i + j) := fun {i} hi {j} hj j' hj' e => by
    rw [hB.fin] at e
    have h1 := hE hi hj
    have h2 := endN_ge f rs
    have := at_inj h3 (f := f) (by omega) h1.1 (by omega) (by omega) e
    omega
  have hread : ∀ t, readP (appD d l b) t = match lastW (partsW d l b (pN b)) t with
      | some b => some b
      | none => readP d t := fun t => by
    rw [hd']
    unfold readP
    show (match lastW (d.unsure ++ partsW d l b (pN b)) t with
      | some b => some b
      | none => match d.sure[t]? with
        | some s => if s.2 = true then none else some s.1
        | none => none) = _
    rw [last_append]
    cases lastW (partsW d l b (pN b)) t <;> rfl
  have hget : ∀ i (hi : i < rs.length), (rs ++ [b])[i]'(by simp; omega) = rs[i] := fun i hi => List.getElem_append_left hi
  have hgl : (rs ++ [b])[rs.length]'(by simp) = b := by simp
  have hrd2 : ∀ t, t < 2 → readP (appD d l b) t = readP d t := fun t ht => by
    rw [hread, partsW_none l b (pN b) (fun j _ e => by have := at_ge d (l.fin + j); omega)]
  refine ⟨hc, h.off, by rw [hlen]; exact h.n4, by rw [hlen]; exact h.le, ?_, ?_, h.fits, h.epf, h.ep1, ⟨h.cnt.1, h.cnt.2.1, by have := h.cnt.2.2; simp; omega⟩, ?_, f, ep, hB.frm, ?_, ?_, ?_, hB.epf, ?_, ?_, ?_, ?_⟩
  · rw [loadN_eq h.calm.dn (by rw [hd']; exact h.calm.dn) hrd2]
    exact h.load
  · intro u hu
    rw [hd'] at hu
    rcases List.mem_append.1 hu with hu | hu
    · exact h.usup u hu
    · obtain ⟨j, _, rfl⟩ := List.mem_map.1 hu
      exact at_ge d _
  · intro c hcm
    rcases List.mem_append.1 hcm with hcm | hcm
    · exact h.small c hcm
    · rw [List.mem_singleton.1 hcm]; exact hb
  · show l.list ++ [(l.fin, partsN b.length)] = _
    rw [layN_app, hB.lst, hB.fin]
    rfl
  · show l.fin + partsN b.length = _
    rw [endN_app, hB.fin]
    rfl
  · rw [endN_app]
    show endN f rs + pN b ≤ f + ringN (appD d l b)
    unfold ringN at hpn ⊢
    rw [hlen]
    exact hpn
  · intro i hi j hj
    rw [hat, hread]
    rw [List.length_append, List.length_singleton] at hi
    by_cases hlt : i < rs.length
    · simp only [hget i hlt] at hj ⊢
      rw [plN_app f rs [b] (by omega), partsW_none l b (pN b) (fun j' hj' => hne hlt hj j' hj')]
      exact hB.live i hlt j hj
    · have e : i = rs.length := by omega
      subst e
      simp only [hgl] at hj ⊢
      rw [plN_app f rs [b] (Nat.le_refl _), plN_len, ← hB.fin, partsW_last h3 l b hpr hj]
      show some (recW l b j) = _
      rw [hrec, (hB.epf rs.length).2.2 (by have := h.cnt; omega)]
      rfl
  · intro i hi j hs hj
    have hlt : i < rs.length := by have := h.cnt; omega
    simp only [hget i hlt] at hj ⊢
    rw [hat, plN_app f rs [b] (by omega), hd']
    obtain ⟨h1, h2⟩ := hB.dur i hlt j hs hj
    refine ⟨h1, fun u hu => ?_⟩
    rcases List.mem_append.1 hu with hu | hu
    · exact h2 u hu
    · obtain ⟨j', hj', rfl⟩ := List.mem_map.1 hu
      exact hne hlt hj j' (List.mem_range.1 hj')
  · intro u hu
    rw [hd'] at hu
    rcases List.mem_append.1 hu with hu | hu
    · obtain ⟨i, hi, j, h1, h2, h4⟩ := hB.uns u hu
      refine ⟨i, by simp; omega, j, h1, by rw [hget i hi]; exact h2, ?_⟩
      rw [hat, plN_app f rs [b] (by omega), hget i hi]
      exact h4
    · obtain ⟨j, hj, rfl⟩ := List.mem_map.1 hu
      have hj := List.mem_range.1 hj
      refine ⟨rs.length, by simp, j, h.cnt.2.2, by rw [hgl]; exact hj, ?_⟩
      rw [hat, plN_app f rs [b] (Nat.le_refl _), plN_len, ← hB.fin, hgl, hrec, (hB.epf rs.length).2.2 (by have := h.cnt; omega)]
      rfl
  · intro t raw ht hv ho hk
    have hcase : Ver d t raw ∨ (t, raw) ∈ partsW d l b (pN b) := by
      rw [hd'] at hv
      rcases hv with hv | hv
      · exact .inl (.inl hv)
      · rcases List.mem_append.1 hv with hv | hv
        · exact .inl (.inr hv)
        · exact .inr hv
    rcases hcase with hv | hv
    · rcases hB.old t raw ht hv ho hk with h1 | ⟨i, hi, j, h1, h2, h4⟩
      · exact .inl h1
      · right
        refine ⟨i, by simp; omega, j, by rw [hget i hi]; exact h1, ?_, ?_⟩
        · rw [hat, plN_app f rs [b] (by omega)]; exact h2
        · rw [hget i hi]; exact h4
    · obtain ⟨j, hj, e⟩ := List.mem_map.1 hv
      have hj := List.mem_range.1 hj
      have e1 : atN d (l.fin + j) = t := (Prod.mk.inj e).1
      have e2 : recW l b j = raw := (Prod.mk.inj e).2
      right
      refine ⟨rs.length, by simp, j, by rw [hgl]; exact hj, ?_, ?_⟩
      · rw [hat, plN_app f rs [b] (Nat.le_refl _), plN_len, ← hB.fin]
        exact e1.symm
      · rw [← e2, hgl, hrec, (hB.epf rs.length).2.2 (by have := h.cnt; omega)]
        rfl
end
section
theorem sync_ver {d : DevP} (h : Calm d) {t : Nat} {raw : List UInt8} (hv : Ver (syncP d) t raw) : Ver d t raw := by
  rw [h.syncP] at hv
  rcases hv with hv | hv
  · have hg := setN_get d.unsure d.sure h.us t d.unsure.length (Nat.le_refl _)
    rw [List.take_length] at hg
    have hv' : (setN (fun _ => some false) d.unsure d.sure d.unsure.length)[t]? = some (raw, false) := hv
    rw [hg] at hv'
    cases hl : lastW d.unsure t with
    | some b =>
      rw [hl] at hv'
      have e : b = raw := by simpa using hv'
      subst e
      exact .inr (last_mem hl)
    | none =>
      rw [hl] at hv'
      exact .inl hv'
  · cases hv
theorem sync_read_sure {d : DevP} (h : Calm d) {t : Nat} {raw : List UInt8} (hr : readP d t = some raw) : (syncP d).sure[t]? = some (raw, false) := by
  have h2 := h.read_sync t
  rw [hr] at h2
  rcases read_ver h2 with h3 | h3
  · exact h3
  · rw [h.sync_none] at h3
    cases h3
/-- all is sure -/
theorem LogOK.sync {d : DevP} {l : LogP} {rs : List (List UInt8)} {sy : Nat} (h : LogOK d l rs sy) :
    lsyncE d l = 0 ∧ lsyncL d l = l ∧ lsyncD d l = syncP d ∧ (syncP d).unsure = [] ∧ LogOK (syncP d) l rs rs.length := by
  have ho := body_off h.calm h.off
  have hse := h.calm.syncE
  obtain ⟨f, ep, hB⟩ := h.body
  have hlen := h.calm.sync_len
  have hat : ∀ p, atN (syncP d) p = atN d p := fun p => atN_eq hlen p
  have hu := h.calm.sync_none
  refine ⟨by simp [lsyncE, ho, hse], ?_, by simp [lsyncD, ho], hu, h.calm.sync, h.off, by rw [hlen]; exact h.n4, by rw [hlen]; exact h.le, ?_, ?_, h.fits, h.epf, h.ep1, ⟨h.cnt.1, by have := h.cnt; omega, Nat.le_refl _⟩, h.small, f, ep, hB.frm, hB.lst, hB.fin, ?_, hB.epf, ?_, ?_, ?_, ?_⟩
  · have : lsyncL d l = { l with down := false } := by simp [lsyncL, ho, hse]
    rw [this]
    exact down_eq l false h.off
  · rw [loadN_eq h.calm.dn h.calm.sync.dn (fun t _ => h.calm.read_sync t)]
    exact h.load
  · rw [hu]
    intro u hu
    cases hu
  · have := hB.ring
    unfold ringN at this ⊢
    rw [hlen]
    exact this
  · intro i hi j hj
    rw [hat, h.calm.read_sync]
    exact hB.live i hi j hj
  · intro i hi j _ hj
    rw [hat, hu]
    exact ⟨sync_read_sure h.calm (hB.live i hi j hj), fun u hu => by cases hu⟩
  · rw [hu]
    intro u hu
    cases hu
  · intro t raw ht hv ho hk
    rcases hB.old t raw ht (sync_ver h.calm hv) ho hk with h1 | ⟨i, hi, j, h1, h2, h4⟩
    · exact .inl h1
    · exact .inr ⟨i, hi, j, h1, by rw [hat]; exact h2, h4⟩
/-- the block behind a Drop up to record k -/
def dropB (l : LogP) (k : Nat) : SupP := ⟨l.block.gen + 1, l.block.epoch, l.block.first + (k : Int), (if h : k < l.list.length then ((l.list[k]).1 : Int) else (l.fin : Int)), nextL l⟩
theorem saved_ver {d : DevP} (h : Calm d) {b : SupP} {t : Nat} (ht : 2 ≤ t) {raw : List UInt8} (hv : Ver (syncP (writeP (syncP d) (b.gen % 2).toNat (supRaw b))) t raw) : Ver d t raw := by
  have hs := h.sync
  have hsl := slot_lt b.gen
  have hw : ∀ u ∈ (writeP (syncP d) (b.gen % 2).toNat (supRaw b)).unsure, u.1 < 2 := fun u hu => by
    rw [hs.writeP, h.sync_none] at hu
    have := List.mem_singleton.1 hu
    rw [this]
    exact hsl
  -- only the slot turned
  have hc2 : (writeP (syncP d) (b.gen % 2).toNat (supRaw b)).down = false ∧ spendOk (writeP (syncP d) (b.gen % 2).toNat (supRaw b)) = true ∧ spendP (writeP (syncP d) (b.gen % 2).toNat (supRaw b)) = writeP (syncP d) (b.gen % 2).toNat (supRaw b) := by
    rw [hs.writeP]
    exact ⟨hs.dn, hs.ok, by simp [spendP, hs.lim]⟩
  have hv2 : Ver (syncP d) t raw := by
    rw [show syncP (writeP (syncP d) (b.gen % 2).toNat (supRaw b)) = { writeP (syncP d) (b.gen % 2).toNat (supRaw b) with sure := setN (fun _ => some false) (writeP (syncP d) (b.gen % 2).toNat (supRaw b)).unsure (writeP (syncP d) (b.gen % 2).toNat (supRaw b)).sure (writeP (syncP d) (b.gen % 2).toNat (supRaw b)).unsure.length, unsure := [] } from by
      rw [Go.Proofs.YtjbaohcofdoinaaGreat.syncP, if_neg (by rw [hc2.1]; decide), if_pos hc2.2.1, hc2.2.2]] at hv
    rcases hv with hv | hv
    · left
      have hv' : (setN (fun _ => some false) (writeP (syncP d) (b.gen % 2).toNat (supRaw b)).unsure (writeP (syncP d) (b.gen % 2).toNat (supRaw b)).sure (writeP (syncP d) (b.gen % 2).toNat (supRaw b)).unsure.length)[t]? = some (raw, false) := hv
      have hus : (writeP (syncP d) (b.gen % 2).toNat (supRaw b)).unsure = [((b.gen % 2).toNat, supRaw b)] := by rw [hs.writeP, h.sync_none]; rfl
      have hsu : (writeP (syncP d) (b.gen % 2).toNat (supRaw b)).sure = (syncP d).sure := by rw [hs.writeP]
      rw [hus, hsu] at hv'
      simp only [setN, List.length_singleton, List.getElem?_cons_zero] at hv'
      rwa [List.getElem?_set_ne (by omega)] at hv'
    · cases hv
  exact sync_ver h hv2
theorem LogOK.drop {d : DevP} {l : LogP} {rs : List (List UInt8)} {sy : Nat} (h : LogOK d l rs sy) {k : Nat} (hk : k ≤ rs.length) (hfit : supFits (dropB l k) = true) :
    supNext d (dropB l k) = true ∧ (saveP d (dropB l k)).2 = 0 ∧ (saveP d (dropB l k)).1.unsure = [] ∧ LogOK (saveP d (dropB l k)).1 { l with block := dropB l k, list := l.list.drop k } (rs.drop k) (rs.length - k) := by
  have hn : supNext d (dropB l k) = true := by
    unfold supNext
    rw [h.load]
    simp [dropB]
  have h3 : 3 ≤ d.sure.length := by have := h.n4; omega
  obtain ⟨hz, hS⟩ := save_sup h.calm (by have := h.n4; omega) hfit hn
  obtain ⟨f, ep, hB⟩ := h.body
  have hsv := save_calm h.calm hfit hn
  have hat : ∀ p, atN (saveP d (dropB l k)).1 p = atN d p := fun p => atN_eq hS.len p
  have hsl := slot_lt (dropB l k).gen
  have hrd : ∀ t, 2 ≤ t → readP (saveP d (dropB l k)).1 t = readP d t := fun t ht => by rw [hS.read, if_neg (by omega)]
  have hfrom : (dropB l k).from' = (plN f rs k : Int) := by
    show (if h : k < l.list.length then ((l.list[k]).1 : Int) else (l.fin : Int)) = _
    have hll : l.list.length = rs.length := by rw [hB.lst, layN_len]
    split
    · rename_i hlt
      have h1 := layN_get f rs k (by omega)
      rw [← hB.lst, List.getElem?_eq_getElem hlt] at h1
      have h2 : l.list[k] = (plN f rs k, pN (rs[k]'(by omega))) := Option.some.inj h1
      rw [h2]
    · have e : k = rs.length := by omega
      rw [hB.fin, e, plN_len]
  have hgd : ∀ i (hi : i < (rs.drop k).length), (rs.drop k)[i] = rs[k + i]'(by rw [List.length_drop] at hi; omega) := fun i hi => by rw [List.getElem_drop]
  have hpd : ∀ i, plN (plN f rs k) (rs.drop k) i = plN f rs (k + i) := fun i => plN_drop f rs k i hk
  have hsec : ∀ i j b, secW (ep (k + i)) (l.block.first + (k : Int)) i j b = secW (ep (k + i)) l.block.first (k + i) j b := fun i j b => by
    unfold secW
    rw [show l.block.first + (k : Int) + (i : Int) = l.block.first + ((k + i : Nat) : Int) by push_cast; omega]
  have hread : ∀ i (hi : i < (rs.drop k).length) j, j < pN (rs.drop k)[i] → readP (saveP d (dropB l k)).1 (atN (saveP d (dropB l k)).1 (plN (plN f rs k) (rs.drop k) i + j)) = some (secW (ep (k + i)) (l.block.first + (k : Int)) i j (rs.drop k)[i]) := fun i hi j hj => by
    rw [hgd i hi] at hj ⊢
    rw [hat, hpd, hrd _ (at_ge _ _), hsec]
    exact hB.live (k + i) _ j hj
  refine ⟨hn, hz, hS.none, hS.calm, h.off, by rw [hS.len]; exact h.n4, by rw [hS.len]; exact h.le, hS.load, ?_, hfit, h.epf, h.ep1, ⟨?_, ?_, ?_⟩, ?_, plN f rs k, fun i => ep (k + i), hfrom, ?_, ?_, ?_, ?_, hread, ?_, ?_, ?_⟩
  · rw [hS.none]
    intro u hu
    cases hu
  · show l.block.first + (k : Int) ≤ nextL l
    rw [next_len hB]
    omega
  · show nextL l ≤ l.block.first + (k : Int) + ((rs.length - k : Nat) : Int)
    rw [next_len hB]
    omega
  · rw [List.length_drop]; exact Nat.le_refl _
  · intro b hb
    exact h.small b (List.mem_of_mem_drop hb)
  · show l.list.drop k = _
    rw [hB.lst, layN_drop]
  · show l.fin = _
    rw [hB.fin, plN, ← endN_app, List.take_append_drop]
  · have h1 := hB.ring
    have h2 := plN_ge f rs k
    have e : endN (plN f rs k) (rs.drop k) = endN f rs := by rw [plN, ← endN_app, List.take_append_drop]
    rw [e]
    unfold ringN at h1 ⊢
    rw [hS.len]
    omega
  · intro i
    refine ⟨(hB.epf (k + i)).1, (hB.epf (k + i)).2.1, fun hc => (hB.epf (k + i)).2.2 ?_⟩
    have hc' : nextL l ≤ l.block.first + (k : Int) + (i : Int) := hc
    have h1 := h.cnt
    rw [next_len hB] at hc'
    push_cast
    omega
  · intro i hi j _ hj
    have h1 := hread i hi j hj
    refine ⟨?_, fun u hu => by rw [hS.none] at hu; cases hu⟩
    rcases read_ver h1 with h2 | h2
    · exact h2
    · rw [hS.none] at h2
      cases h2
  · rw [hS.none]
    intro u hu
    cases hu
  · intro t raw ht hv ho hkd
    have hv2 : Ver d t raw := by
      rw [hsv] at hv
      exact saved_ver h.calm ht hv
    rcases hB.old t raw ht hv2 ho hkd with h1 | ⟨i, hi, j, h1, h2, h4⟩
    · left
      rcases h1 with h1 | h1
      · exact .inl h1
      · right
        refine ⟨h1.1, ?_⟩
        show (openH raw).seq < l.block.first + (k : Int)
        have := h1.2
        omega
    · by_cases hik : k ≤ i
      · right
        have hi' : i - k < (rs.drop k).length := by rw [List.length_drop]; omega
        refine ⟨i - k, hi', j, ?_, ?_, ?_⟩
        · rw [hgd _ hi']
          simpa [show k + (i - k) = i by omega] using h1
        · rw [hat, hpd, show k + (i - k) = i by omega]
          exact h2
        · show raw = secW (ep (k + (i - k))) (l.block.first + (k : Int)) (i - k) j _
          rw [hsec, hgd _ hi']
          simpa [show k + (i - k) = i by omega] using h4
      · left
        rw [h4]
        have hsl : sealE ⟨2, ep i, l.block.first + (i : Int), (j : Int), (pN rs[i] : Int)⟩ (pieceB rs[i] j) = 0 := by
          have hs := h.small rs[i] (List.getElem_mem hi)
          have h34 : pN rs[i] ≤ 34 := by unfold pN partsN; omega
          have hf1 : fitK (j : Int) 1 = true := by simp only [fitK, Bool.and_eq_true, decide_eq_true_eq]; omega
          have hf2 : fitK (pN rs[i] : Int) 1 = true := by simp only [fitK, Bool.and_eq_true, decide_eq_true_eq]; omega
          have hf3 : fitK (l.block.first + (i : Int)) 7 = true := by
            have g1 := fit7 (supFits_at hfit (t := 4) (by omega))
            have g2 := fit7 (supFits_at h.fits (t := 2) (by omega))
            simp only [supNum] at g1 g2
            have g3 : (dropB l k).count = l.block.first + (rs.length : Int) := next_len hB
            rw [g3] at g1
            simp only [fitK, Bool.and_eq_true, decide_eq_true_eq]
            have h256 : (256 : Int) ^ 7 = 72057594037927936 := by decide
            omega
          have hff : fitsH ⟨2, ep i, l.block.first + (i : Int), (j : Int), (pN rs[i] : Int)⟩ = true := by
            simp only [fitsH, (hB.epf i).1, hf1, hf2, hf3, Bool.and_true]
            decide
          have hp1 := pN_pos rs[i]
          have hpl := piece_len (b := rs[i]) (t := j)
          rw [sealE, if_neg (by rw [hff]; decide), if_neg (by simp only; omega), if_neg (by omega)]
        obtain ⟨_, hh, _⟩ := seal_open hsl
        rw [secW, hh]
        have hep := (hB.epf i).2.1
        by_cases hlt : ep i < l.block.epoch
        · exact .inl hlt
        · exact .inr ⟨by show ep i = l.block.epoch; omega, by show l.block.first + (i : Int) < l.block.first + (k : Int); omega⟩
end
section
def okPart (d : DevP) (l : LogP) (i n : Nat) : Bool :=
  decide ((partO d (l.fin + i)).2.2 = 0) && (decide ((partO d (l.fin + i)).1.kind = 2) && (decide ((partO d (l.fin + i)).1.seq = nextL l) && (decide ((partO d (l.fin + i)).1.part = (i : Int)) &&
    (!(decide (0 < i) && decide ((partO d (l.fin + i)).1.parts ≠ (n : Int))) && (!(decide (l.block.count ≤ (partO d (l.fin + i)).1.seq) && decide ((partO d (l.fin + i)).1.epoch ≠ l.block.epoch)) &&
      decide ((l.fin : Int) + (partO d (l.fin + i)).1.parts - l.block.from' ≤ (ringN d : Int)))))))
def foundF (d : DevP) (l : LogP) : Nat → Nat → Nat → Nat
  | 0, _, n => n
  | f + 1, i, n => if i < n then (if okPart d l i n = true then foundF d l f (i + 1) (partO d (l.fin + i)).1.parts.toNat else 0) else n
def foundN (d : DevP) (l : LogP) : Nat := foundF d l 300 0 1
def scanF (d : DevP) : Nat → LogP → LogP
  | 0, l => l
  | f + 1, l => if foundN d l = 0 then l else scanF d f { l with list := l.list ++ [(l.fin, foundN d l)], fin := l.fin + foundN d l }
/-- the log that a block begins -/
def bornL (b : SupP) : LogP := ⟨b, [], b.from'.toNat, false⟩
def scanL (d : DevP) (b : SupP) : LogP := scanF d (ringN d + 1) (bornL b)
/-- the block behind a scan -/
def nextB (d : DevP) (b : SupP) : SupP := ⟨b.gen + 1, b.epoch + 1, b.first, b.from', nextL (scanL d b)⟩
end
section
theorem setN_ver {f : Nat → Option Bool} {us : List (Nat × List UInt8)} {s : List (List UInt8 × Bool)} {t : Nat} {raw : List UInt8} : ∀ k, (setN f us s k)[t]? = some (raw, false) → s[t]? = some (raw, false) ∨ (t, raw) ∈ us
  | 0, h => .inl h
  | k + 1, h => by
    rw [setN] at h
    split at h
    · rename_i u b hu hb
      by_cases e : u.1 = t
      · by_cases hl : t < (setN f us s k).length
        · rw [e, List.getElem?_set_self hl] at h
          have h2 : u.2 = raw := (Prod.mk.inj (Option.some.inj h)).1
          right
          rw [← e, ← h2]
          exact List.mem_of_getElem? hu
        · rw [List.getElem?_eq_none (by rw [List.length_set]; omega)] at h
          cases h
      · rw [List.getElem?_set_ne e] at h
        exact setN_ver k h
    · exact setN_ver k h
theorem setN_same {f : Nat → Option Bool} {us : List (Nat × List UInt8)} {s : List (List UInt8 × Bool)} {t : Nat} (hn : ∀ u ∈ us, u.1 ≠ t) : ∀ k, (setN f us s k)[t]? = s[t]?
  | 0 => rfl
  | k + 1 => by
    rw [setN]
    split
    · rename_i u b hu hb
      rw [List.getElem?_set_ne (hn u (List.mem_of_getElem? hu))]
      exact setN_same hn k
    · exact setN_same hn k
theorem crash_ver {d : DevP} {m tn t : Nat} {raw : List UInt8} (h : Ver (crashP d m tn) t raw) : Ver d t raw := by
  rcases h with h | h
  · exact setN_ver _ h
  · cases h
theorem crash_len (d : DevP) (m tn : Nat) : (crashP d m tn).sure.length = d.sure.length := setN_len _ _ _ _
theorem crash_calm (d : DevP) (m tn : Nat) : Calm (crashP d m tn) := ⟨rfl, rfl, fun u hu => by cases hu⟩
theorem crash_same {d : DevP} {m tn t : Nat} (hn : ∀ u ∈ d.unsure, u.1 ≠ t) : readP (crashP d m tn) t = readP d t := by
  unfold readP
  rw [last_none hn, show lastW (crashP d m tn).unsure t = none from rfl, show (crashP d m tn).sure[t]? = d.sure[t]? from setN_same hn _]
theorem read_sure {d : DevP} {t : Nat} {raw : List UInt8} (h : d.unsure = []) (hr : readP d t = some raw) : d.sure[t]? = some (raw, false) := by
  rcases read_ver hr with h1 | h1
  · exact h1
  · rw [h] at h1; cases h1
theorem sec_ok2 {f7 : Int} {b : List UInt8} {i j : Nat} {ep : Int} (he : fitK ep 4 = true) (hs : fitK (f7 + (i : Int)) 7 = true) (hb : 1 ≤ b.length ∧ b.length ≤ 16384) (hj : j < pN b) : openE (secW ep f7 i j b) = 0 ∧ openH (secW ep f7 i j b) = ⟨2, ep, f7 + (i : Int), j, pN b⟩ ∧ openD (secW ep f7 i j b) = pieceB b j := by
  have h34 : pN b ≤ 34 := by unfold pN partsN; omega
  have hf1 : fitK (j : Int) 1 = true := by simp only [fitK, Bool.and_eq_true, decide_eq_true_eq]; omega
  have hf2 : fitK (pN b : Int) 1 = true := by simp only [fitK, Bool.and_eq_true, decide_eq_true_eq]; omega
  have hff : fitsH ⟨2, ep, f7 + (i : Int), (j : Int), (pN b : Int)⟩ = true := by
    simp only [fitsH, he, hf1, hf2, hs, Bool.and_true]
    decide
  have hpl := piece_len (b := b) (t := j)
  have hsl : sealE ⟨2, ep, f7 + (i : Int), (j : Int), (pN b : Int)⟩ (pieceB b j) = 0 := by
    rw [sealE, if_neg (by rw [hff]; decide), if_neg (by simp only; omega), if_neg (by omega)]
  exact seal_open hsl
/-- the first that is not as it should be -/
theorem first_bad (P : Nat → Prop) (n s : Nat) (hs : s ≤ n) (h : ∀ i, i < s → P i) : ∃ k, s ≤ k ∧ k ≤ n ∧ (∀ i, i < k → P i) ∧ (k < n → ¬ P k) := by
  obtain ⟨m, hm⟩ : ∃ m, m = n - s := ⟨_, rfl⟩
  induction m generalizing s with
  | zero => exact ⟨s, Nat.le_refl _, hs, h, fun h2 => by omega⟩
  | succ m ih =>
    by_cases hp : P s
    · obtain ⟨k, h1, h2, h3, h4⟩ := ih (s + 1) (by omega) (fun i hi => by
        rcases Nat.lt_succ_iff_lt_or_eq.1 hi with h5 | rfl
        · exact h i h5
        · exact hp) (by omega)
      exact ⟨k, by omega, h2, h3, h4⟩
    · exact ⟨s, Nat.le_refl _, hs, h, fun _ => hp⟩
/-- a log of which the first i records were found -/
def preL (b : SupP) (f : Nat) (rs : List (List UInt8)) (i : Nat) : LogP := ⟨b, layN f (rs.take i), plN f rs i, false⟩
theorem preL_next (b : SupP) (f : Nat) (rs : List (List UInt8)) {i : Nat} (h : i ≤ rs.length) : nextL (preL b f rs i) = b.first + (i : Int) := by
  rw [nextL, preL, layN_len, List.length_take, Nat.min_eq_left h]
theorem preL_succ (b : SupP) (f : Nat) (rs : List (List UInt8)) {i : Nat} (h : i < rs.length) : preL b f rs (i + 1) = { preL b f rs i with list := (preL b f rs i).list ++ [((preL b f rs i).fin, pN rs[i])], fin := (preL b f rs i).fin + pN rs[i] } := by
  unfold preL
  rw [plN_next f rs h, List.take_succ_eq_append_getElem h, layN_app]
  rfl
/-- part j of record i lies there -/
def Lies (d : DevP) (l : LogP) (rs : List (List UInt8)) (f : Nat) (ep : Nat → Int) (i : Nat) (j : Nat) : Prop := ∀ (h : i < rs.length), j < pN rs[i] → readP d (atN d (plN f rs i + j)) = some (secW (ep i) l.block.first i j rs[i])
section
variable {d d' : DevP} {l : LogP} {rs : List (List UInt8)} {sy f : Nat} {ep : Nat → Int}
theorem part_lies (h : LogOK d l rs sy) (hB : Body d l rs sy f ep) {i : Nat} (hi : i < rs.length) {j : Nat} (hj : j < pN rs[i]) (hf : fitK (l.block.first + (i : Int)) 7 = true) (hl : Lies d' l rs f ep i j) : partO d' (plN f rs i + j) = (⟨2, ep i, l.block.first + (i : Int), j, pN rs[i]⟩, pieceB rs[i] j, 0) := by
  have hs := sec_ok2 (hB.epf i).1 hf (h.small _ (List.getElem_mem hi)) hj
  rw [partO, hl hi hj]
  simp only [hs.1, if_true, hs.2.1, hs.2.2]
theorem ok_lies (h : LogOK d l rs sy) (hB : Body d l rs sy f ep) (hlen : d'.sure.length = d.sure.length) {i : Nat} (hi : i < rs.length) {j : Nat} (hj : j < pN rs[i]) (hf : fitK (l.block.first + (i : Int)) 7 = true) (hl : Lies d' l rs f ep i j) (n : Nat) (hn : 0 < j → n = pN rs[i]) : okPart d' (preL l.block f rs i) j n = true ∧ (partO d' ((preL l.block f rs i).fin + j)).1.parts.toNat = pN rs[i] := by
  have hp := part_lies h hB hi hj hf hl
  have hnx := preL_next l.block f rs (Nat.le_of_lt hi)
  have he := plN_end f rs hi
  have hr := hB.ring
  have hfr := hB.frm
  have hrn : ringN d' = ringN d := by unfold ringN; rw [hlen]
  constructor
  · unfold okPart
    rw [show (preL l.block f rs i).fin = plN f rs i from rfl, hp, hnx]
    simp only [Bool.and_eq_true, decide_eq_true_eq, Bool.not_eq_true', Bool.and_eq_false_iff, decide_eq_false_iff_not]
    refine ⟨trivial, trivial, trivial, trivial, ?_, ?_, ?_⟩
    · by_cases h0 : 0 < j
      · right
        rw [hn h0]
        simp
      · exact .inl h0
    · by_cases hc : l.block.count ≤ l.block.first + (i : Int)
      · right
        rw [(hB.epf i).2.2 hc]
        simp [preL]
      · exact .inl hc
    · show ((plN f rs i : Nat) : Int) + (pN rs[i] : Int) - l.block.from' ≤ _
      rw [hfr, hrn]
      omega
  · rw [show (preL l.block f rs i).fin = plN f rs i from rfl, hp]
    simp
theorem found_go (h : LogOK d l rs sy) (hB : Body d l rs sy f ep) (hlen : d'.sure.length = d.sure.length) {i : Nat} (hi : i < rs.length) (hf : fitK (l.block.first + (i : Int)) 7 = true) (K : Nat) (hK : K ≤ pN rs[i]) (hl : ∀ j, j < K → Lies d' l rs f ep i j) : ∀ r j F n, j + r = K → (0 < j → n = pN rs[i]) → (j = 0 → n = 1) → foundF d' (preL l.block f rs i) (F + r) j n = foundF d' (preL l.block f rs i) F (j + r) (if 0 < j + r then pN rs[i] else n)
  | 0, j, F, n, hr, h1, h2 => by
    by_cases h0 : 0 < j
    · rw [Nat.add_zero, Nat.add_zero, if_pos h0, h1 h0]
    · rw [Nat.add_zero, Nat.add_zero, if_neg h0]
  | r + 1, j, F, n, hr, h1, h2 => by
    have hjn : j < n := by
      have hp := pN_pos rs[i]
      by_cases h0 : 0 < j
      · rw [h1 h0]; omega
      · rw [h2 (by omega)]; omega
    obtain ⟨g1, g2⟩ := ok_lies h hB hlen hi (show j < pN rs[i] by omega) hf (hl j (by omega)) n h1
    rw [← Nat.add_assoc, foundF, if_pos hjn, if_pos g1, g2, found_go h hB hlen hi hf K hK hl r (j + 1) F (pN rs[i]) (by omega) (fun _ => rfl) (fun h0 => by omega), if_pos (by omega), show j + 1 + r = j + (r + 1) by omega, if_pos (by omega)]
theorem found_whole (h : LogOK d l rs sy) (hB : Body d l rs sy f ep) (hlen : d'.sure.length = d.sure.length) {i : Nat} (hi : i < rs.length) (hf : fitK (l.block.first + (i : Int)) 7 = true) (hl : ∀ j, Lies d' l rs f ep i j) : foundN d' (preL l.block f rs i) = pN rs[i] := by
  have hp := pN_pos rs[i]
  have hs := h.small rs[i] (List.getElem_mem hi)
  have h34 : pN rs[i] ≤ 34 := by unfold pN partsN; omega
  have hg := found_go h hB hlen hi hf (pN rs[i]) (Nat.le_refl _) (fun j _ => hl j) (pN rs[i]) 0 (300 - pN rs[i]) 1 (by omega) (fun h0 => by omega) (fun _ => rfl)
  rw [show 300 - pN rs[i] + pN rs[i] = 300 by omega, Nat.zero_add, if_pos (by omega)] at hg
  rw [foundN, hg]
  obtain ⟨F, hF⟩ : ∃ F, 300 - pN rs[i] = F + 1 := ⟨300 - pN rs[i] - 1, by omega⟩
  rw [hF, foundF, if_neg (by omega)]
/-- what lies where nothing of this log lies is not taken -/
theorem not_ok (h : LogOK d l rs sy) (hB : Body d l rs sy f ep) (hv : ∀ t raw, Ver d' t raw → Ver d t raw) (hf : ∀ i, i < rs.length → fitK (l.block.first + (i : Int)) 7 = true) {k : Nat} (hk : sy ≤ k) (hkl : k ≤ rs.length) {j : Nat} (hbad : ∀ (hk : k < rs.length), j < pN rs[k] → ¬ readP d' (atN d' (plN f rs k + j)) = some (secW (ep k) l.block.first k j rs[k])) (n : Nat) (hjn : ∀ (hk : k < rs.length), j < pN rs[k]) : okPart d' (preL l.block f rs k) j n = false := by
  rw [Bool.eq_false_iff]
  intro hok
  unfold okPart at hok
  rw [preL_next l.block f rs hkl, show (preL l.block f rs k).fin = plN f rs k from rfl] at hok
  simp only [Bool.and_eq_true, decide_eq_true_eq, Bool.not_eq_true', Bool.and_eq_false_iff, decide_eq_false_iff_not] at hok
  obtain ⟨h0, h1, h2, h3, -, h5, -⟩ := hok
  unfold partO at h0 h1 h2 h3 h5
  cases hr : readP d' (atN d' (plN f rs k + j)) with
  | none => rw [hr] at h0; simp at h0
  | some raw =>
    rw [hr] at h0 h1 h2 h3 h5
    by_cases he : openE raw = 0
    · simp only [he, if_true] at h0 h1 h2 h3 h5
      have h6 : ¬ l.block.count ≤ (openH raw).seq ∨ (openH raw).epoch = l.block.epoch := by
        rcases h5 with h5 | h5
        · exact .inl h5
        · exact .inr (by simpa [preL] using h5)
      have hc : l.block.count ≤ l.block.first + (k : Int) := by have := h.cnt; omega
      rcases hB.old _ raw (at_ge _ _) (hv _ _ (read_ver hr)) he h1 with hs | ⟨i, hi, j', g1, g2, g3⟩
      · unfold Stale at hs
        rw [h2] at h6 hs
        rcases hs with hs | hs
        · rcases h6 with h6 | h6
          · exact h6 hc
          · omega
        · have := hs.2
          omega
      · have hs := sec_ok2 (hB.epf i).1 (hf i hi) (h.small _ (List.getElem_mem hi)) g1
        rw [← g3] at hs
        rw [hs.2.1] at h2 h3
        have e1 : i = k := by simp only at h2; omega
        have e2 : j' = j := by simp only at h3; omega
        subst e1 e2
        exact hbad hi (hjn hi) (by rw [hr, g3])
    · simp only [he, if_false] at h0
theorem found_none (h : LogOK d l rs sy) (hB : Body d l rs sy f ep) (hlen : d'.sure.length = d.sure.length) (hv : ∀ t raw, Ver d' t raw → Ver d t raw) (hf : ∀ i, i < rs.length → fitK (l.block.first + (i : Int)) 7 = true) {k : Nat} (hk : sy ≤ k) (hkl : k ≤ rs.length) (hbad : k < rs.length → ¬ ∀ j, Lies d' l rs f ep k j) : foundN d' (preL l.block f rs k) = 0 := by
  by_cases hlt : k < rs.length
  · have hs := h.small rs[k] (List.getElem_mem hlt)
    have h34 : pN rs[k] ≤ 34 := by unfold pN partsN; omega
    obtain ⟨j, h1, h2, h3, h4⟩ := first_bad (fun j => Lies d' l rs f ep k j) (pN rs[k]) 0 (Nat.zero_le _) (fun i hi => by omega)
    have hj : j < pN rs[k] := by
      rcases Nat.lt_or_ge j (pN rs[k]) with h5 | h5
      · exact h5
      · exfalso
        exact hbad hlt (fun j' hh hj' => h3 j' (by omega) hh hj')
    have hnl := h4 hj
    have hg := found_go h hB hlen hlt (hf k hlt) j (by omega) h3 j 0 (300 - j) 1 (by omega) (fun h0 => by omega) (fun _ => rfl)
    rw [show 300 - j + j = 300 by omega, Nat.zero_add] at hg
    rw [foundN, hg]
    obtain ⟨F, hF⟩ : ∃ F, 300 - j = F + 1 := ⟨300 - j - 1, by omega⟩
    have hno := not_ok h hB hv hf hk hkl (j := j) (fun hh hj' e => hnl (fun _ _ => e)) (if 0 < j then pN rs[k] else 1) (fun _ => hj)
    rw [hF, foundF, if_pos (by split <;> omega), if_neg (by rw [hno]; decide)]
  · have hno := not_ok h hB hv hf hk hkl (j := 0) (fun hh => absurd hh hlt) 1 (fun hh => absurd hh hlt)
    rw [foundN, foundF, if_pos (by omega), if_neg (by rw [hno]; decide)]
theorem scan_go (h : LogOK d l rs sy) (hB : Body d l rs sy f ep) (hlen : d'.sure.length = d.sure.length) (hf : ∀ i, i < rs.length → fitK (l.block.first + (i : Int)) 7 = true) {k : Nat} (hkl : k ≤ rs.length) (hgood : ∀ i, i < k → ∀ j, Lies d' l rs f ep i j) : ∀ r i F, i + r = k → scanF d' (F + r) (preL l.block f rs i) = scanF d' F (preL l.block f rs k)
  | 0, i, F, hr => by
    have : i = k := by omega
    subst this
    rfl
  | r + 1, i, F, hr => by
    have hi : i < rs.length := by omega
    have hw := found_whole h hB hlen hi (hf i hi) (hgood i (by omega))
    have hp := pN_pos rs[i]
    rw [← Nat.add_assoc, scanF, hw, if_neg (by omega), ← preL_succ l.block f rs hi]
    exact scan_go h hB hlen hf hkl hgood r (i + 1) F (by omega)
end
/-- behind a crash: the records up to some place, all that was sure among them -/
theorem LogOK.crash {d : DevP} {l : LogP} {rs : List (List UInt8)} {sy : Nat} (h : LogOK d l rs sy) (m tn : Nat) (hfit : supFits ⟨l.block.gen + 1, l.block.epoch + 1, l.block.first, l.block.from', l.block.first + (rs.length : Int)⟩ = true) (hep : fitK (l.block.epoch + 1) 4 = true) :
    loadN (crashP d m tn) 2 = some l.block ∧ ∃ k, sy ≤ k ∧ k ≤ rs.length ∧ (d.unsure = [] → k = rs.length) ∧ nextL (scanL (crashP d m tn) l.block) = l.block.first + (k : Int) ∧ (scanL (crashP d m tn) l.block).block = l.block ∧
      supFits (nextB (crashP d m tn) l.block) = true ∧ supNext (crashP d m tn) (nextB (crashP d m tn) l.block) = true ∧ (saveP (crashP d m tn) (nextB (crashP d m tn) l.block)).2 = 0 ∧ (saveP (crashP d m tn) (nextB (crashP d m tn) l.block)).1.unsure = [] ∧
      LogOK (saveP (crashP d m tn) (nextB (crashP d m tn) l.block)).1 { scanL (crashP d m tn) l.block with block := nextB (crashP d m tn) l.block } (rs.take k) k := by
  obtain ⟨f, ep, hB⟩ := h.body
  have hlen := crash_len d m tn
  have hcal := crash_calm d m tn
  have hver : ∀ t raw, Ver (crashP d m tn) t raw → Ver d t raw := fun t raw hv => crash_ver hv
  have hc := h.cnt
  have hf7 : ∀ i, i < rs.length → fitK (l.block.first + (i : Int)) 7 = true := fun i hi => by
    have g1 := fit7 (supFits_at hfit (t := 4) (by omega))
    have g2 := fit7 (supFits_at h.fits (t := 2) (by omega))
    simp only [supNum] at g1 g2
    simp only [fitK, Bool.and_eq_true, decide_eq_true_eq]
    have h256 : (256 : Int) ^ 7 = 72057594037927936 := by decide
    omega
  have hld : loadN (crashP d m tn) 2 = some l.block := by
    rw [loadN_eq h.calm.dn hcal.dn (fun t ht => crash_same (fun u hu => by have := h.usup u hu; omega))]
    exact h.load
  have hat : ∀ p, atN (crashP d m tn) p = atN d p := fun p => atN_eq hlen p
  obtain ⟨k, h1, h2, h3, h4⟩ := first_bad (fun i => ∀ j, Lies (crashP d m tn) l rs f ep i j) rs.length sy hc.2.2 (fun i hi j hh hj => by
    rw [hat]
    obtain ⟨g1, g2⟩ := hB.dur i hh j hi hj
    rw [crash_same g2]
    exact hB.live i hh j hj)
  have hring : ringN (crashP d m tn) = ringN d := by unfold ringN; rw [hlen]
  have hkr : k ≤ ringN d := by
    have g1 := endN_ge f rs
    have g2 := hB.ring
    omega
  have hborn : bornL l.block = preL l.block f rs 0 := by
    rw [bornL, preL, hB.frm, plN_zero]
    simp [layN]
  have hscan : scanL (crashP d m tn) l.block = preL l.block f rs k := by
    have hg := scan_go h hB hlen hf7 h2 h3 k 0 (ringN d + 1 - k) (by omega)
    rw [show ringN d + 1 - k + k = ringN d + 1 by omega] at hg
    rw [scanL, hring, hborn, hg]
    obtain ⟨F, hF⟩ : ∃ F, ringN d + 1 - k = F + 1 := ⟨ringN d - k, by omega⟩
    rw [hF, scanF, if_pos (found_none h hB hlen hver hf7 h1 h2 h4)]
  have hnx : nextL (scanL (crashP d m tn) l.block) = l.block.first + (k : Int) := by rw [hscan, preL_next l.block f rs h2]
  have hfitB : supFits (nextB (crashP d m tn) l.block) = true := by
    have g := fun t (ht : t < 5) => supFits_at hfit ht
    have g0 := g 0 (by omega)
    have g1 := g 1 (by omega)
    have g2 := g 2 (by omega)
    have g3 := g 3 (by omega)
    have g4 := fit7 (g 4 (by omega))
    simp only [supNum] at g0 g1 g2 g3 g4
    have g5 := fit7 g2
    have g6 : fitK (l.block.first + (k : Int)) 7 = true := by
      simp only [fitK, Bool.and_eq_true, decide_eq_true_eq]
      have h256 : (256 : Int) ^ 7 = 72057594037927936 := by decide
      omega
    simp only [supFits, nextB, hnx, g0, g1, g2, g3, g6, Bool.and_true]
  have hn : supNext (crashP d m tn) (nextB (crashP d m tn) l.block) = true := by
    unfold supNext
    rw [hld]
    simp [nextB]
  have h3l : 3 ≤ d.sure.length := by have := h.n4; omega
  obtain ⟨hz, hS⟩ := save_sup hcal (by rw [hlen]; omega) hfitB hn
  have hsv := save_calm hcal hfitB hn
  refine ⟨hld, k, h1, h2, ?_, hnx, by rw [hscan]; rfl, hfitB, hn, hz, hS.none, ?_⟩
  · intro hu
    rcases Nat.lt_or_ge k rs.length with hlt | hge
    · exfalso
      apply h4 hlt
      intro j hh hj
      rw [h.calm.crash hu]
      exact hB.live k hh j hj
    · omega
  · have hlen2 : (saveP (crashP d m tn) (nextB (crashP d m tn) l.block)).1.sure.length = d.sure.length := by rw [hS.len, hlen]
    have hat2 : ∀ p, atN (saveP (crashP d m tn) (nextB (crashP d m tn) l.block)).1 p = atN d p := fun p => atN_eq hlen2 p
    have hsl := slot_lt (nextB (crashP d m tn) l.block).gen
    have hget : ∀ i (hi : i < (rs.take k).length), (rs.take k)[i] = rs[i]'(by rw [List.length_take] at hi; omega) := fun i hi => List.getElem_take
    have hil : ∀ i, i < (rs.take k).length → i < k ∧ i < rs.length := fun i hi => by rw [List.length_take] at hi; omega
    have hread : ∀ i (hi : i < (rs.take k).length) j, j < pN (rs.take k)[i] → readP (saveP (crashP d m tn) (nextB (crashP d m tn) l.block)).1 (atN (saveP (crashP d m tn) (nextB (crashP d m tn) l.block)).1 (plN f (rs.take k) i + j)) = some (secW (if i < k then ep i else l.block.epoch + 1) l.block.first i j (rs.take k)[i]) := fun i hi j hj => by
      obtain ⟨q1, q2⟩ := hil i hi
      rw [hget i hi] at hj ⊢
      rw [if_pos q1, hat2, plN_take f rs (by omega), hS.read, if_neg (by have := at_ge d (plN f rs i + j); omega)]
      have := h3 i q1 j q2 hj
      rwa [hat] at this
    have hblk : ({ scanL (crashP d m tn) l.block with block := nextB (crashP d m tn) l.block } : LogP) = ⟨nextB (crashP d m tn) l.block, layN f (rs.take k), endN f (rs.take k), false⟩ := by
      rw [hscan]
      rfl
    rw [hblk]
    refine ⟨hS.calm, rfl, by rw [hlen2]; exact h.n4, by rw [hlen2]; exact h.le, hS.load, ?_, hfitB, hep, by show 1 ≤ l.block.epoch + 1; have := h.ep1; omega, ⟨?_, ?_, ?_⟩, ?_, f, fun i => if i < k then ep i else l.block.epoch + 1, hB.frm, rfl, rfl, ?_, ?_, hread, ?_, ?_, ?_⟩
    · rw [hS.none]
      intro u hu
      cases hu
    · show l.block.first ≤ nextL (scanL (crashP d m tn) l.block)
      rw [hnx]
      omega
    · show nextL (scanL (crashP d m tn) l.block) ≤ l.block.first + (k : Int)
      rw [hnx]
      exact Int.le_refl _
    · rw [List.length_take]; omega
    · intro b hb
      exact h.small b (List.mem_of_mem_take hb)
    · have g1 := hB.ring
      have g2 := plN_mono f rs h2
      rw [plN_len] at g2
      show plN f rs k ≤ _
      unfold ringN at g1 ⊢
      rw [hlen2]
      omega
    · intro i
      by_cases hi : i < k
      · simp only [if_pos hi]
        refine ⟨(hB.epf i).1, by show ep i ≤ l.block.epoch + 1; have := (hB.epf i).2.1; omega, fun hc2 => ?_⟩
        have hc3 : nextL (scanL (crashP d m tn) l.block) ≤ l.block.first + (i : Int) := hc2
        rw [hnx] at hc3
        omega
      · simp only [if_neg hi]
        exact ⟨hep, Int.le_refl _, fun _ => rfl⟩
    · intro i hi j _ hj
      exact ⟨read_sure hS.none (hread i hi j hj), fun u hu => by rw [hS.none] at hu; cases hu⟩
    · rw [hS.none]
      intro u hu
      cases hu
    · intro t raw ht hv ho hk
      left
      have hv2 : Ver d t raw := hver t raw (by rw [hsv] at hv; exact saved_ver hcal ht hv)
      left
      show (openH raw).epoch < l.block.epoch + 1
      rcases hB.old t raw ht hv2 ho hk with g | ⟨i, hi, j, g1, g2, g3⟩
      · rcases g with g | g
        · omega
        · have := g.1; omega
      · have hs := sec_ok2 (hB.epf i).1 (hf7 i hi) (h.small _ (List.getElem_mem hi)) g1
        rw [g3, hs.2.1]
        have := (hB.epf i).2.1
        show ep i < l.block.epoch + 1
        omega
end
section
open Go.ChangeShapes Go.WideShapes Go.ChangeAt Go.RowKit
/-- what Drop does up to record k -/
def dropP (d : DevP) (l : LogP) (k : Nat) : DevP × LogP × Int :=
  if offB d l = true then (d, { l with down := true }, 8)
  else if (saveP d (dropB l k)).2 ≠ 0 then ((saveP d (dropB l k)).1, { l with down := l.down || decide ((saveP d (dropB l k)).2 = 8) }, (saveP d (dropB l k)).2)
  else ((saveP d (dropB l k)).1, { l with block := dropB l k, list := l.list.drop k }, 0)
/-- the records' places from k on, in a row of their own -/
theorem rdrop {B : Nat} {W : World} {c k : Nat} {l : List (Nat × Nat)} {ao : Option Addr} (hG : Gath recK [] 88 B W (.slice ao l.length c) l) (hk : k ≤ l.length) (hB : B ≤ W.heap.size) (hnb : l.length ≤ 100000) (so : Option Addr) (sn sc : Nat) (hsn : sn = l.length - k) (hso : (so = none ∧ ao = none ∧ sc = 0) ∨ (∃ a, ao = some a ∧ ((sn = 0 ∧ so = ao) ∨ so = some (a.add (k * 2))))) :
    ∃ v' W', (Builtin.append_ #[78, 78] 78 #[.slice (some ⟨W.heap.size, 0, none⟩) 0 0, .slice so sn sc]).run Tryz.prog (W.alloc (.cells #[] 88)) = .ok v' W' ∧ Gath recK [] 88 B W' v' (l.drop k) ∧ (W.alloc (.cells #[] 88)).grownBy W' (some W.heap.size) := by
  obtain ⟨i0, z, hi, hz, hs0, hzs, hby⟩ := recParts
  have hbel : Below W.heap.size W (W.alloc (.cells #[] 88)) := (Below.refl _ _).alloc (Nat.le_refl _) _
  have hmade : (W.alloc (.cells #[] 88)).ownsRow B 88 2 (.slice (some ⟨W.heap.size, 0, none⟩) 0 0) 0 [] := owns_monoK (World.ownsRow_made W #[] 0 (Nat.le_refl _) (by unfold maxLen; omega) rfl) hB
  obtain ⟨cs, ⟨hl, ho⟩, h2⟩ := hG
  rcases ho with ⟨he, h0⟩ | ⟨g, cap, cur, he, hg, hh, hle, hcm, hcs, hct⟩
  · obtain ⟨rfl, hl0, rfl⟩ : ao = none ∧ l.length = 0 ∧ c = 0 := by simpa using he
    have hx : l = [] := List.eq_nil_of_length_eq_zero hl0
    subst hx
    rcases hso with ⟨rfl, _, rfl⟩ | ⟨a, ha, _⟩
    · have hs : sn = 0 := by simpa using hsn
      subst hs
      exact ⟨_, _, run_append_owned_none (P := Tryz.prog) (W.alloc (.cells #[] 88)) B 78 78 88 i0 2 Tryz.underlying78 hi _ 0 [] hmade, ⟨[], by show (W.alloc (.cells #[] 88)).ownsRow B 88 2 _ _ []; simpa using hmade, fun i hi => absurd hi (by simp)⟩, World.grownBy.refl _ _⟩
    · cases ha
  · obtain ⟨rfl, rfl⟩ : ao = some ⟨g, 0, none⟩ ∧ c = cap := by simpa using he
    obtain ⟨a', ha', hadd⟩ : ∃ a' : Addr, so = some a' ∧ (0 < sn → a' = ⟨g, k * 2, none⟩) := by
      rcases hso with ⟨_, ha, _⟩ | ⟨a, ha, ⟨h0, rfl⟩ | rfl⟩
      · cases ha
      · exact ⟨_, rfl, fun h => by omega⟩
      · cases ha
        exact ⟨_, rfl, fun _ => by rw [addr_add, Nat.zero_add]⟩
    subst ha'
    have hcl : cs.length = l.length * 2 := hl
    have hone : ∀ u ∈ cs.drop (k * 2), u.oneCell' = true := by
      intro u hu
      obtain ⟨t, ht, rfl⟩ := List.getElem_of_mem (List.mem_of_mem_drop hu)
      obtain ⟨kk, h3, _⟩ := h2 (t / 2) (by omega)
      have h4 := h3 (t % 2) (Nat.mod_lt _ (by decide))
      rw [show t / 2 * recK.size + t % 2 = t by show t / 2 * 2 + t % 2 = t; omega, List.getElem?_eq_getElem ht] at h4
      refine recK.one kk (l[t / 2]'(by omega)) _ (List.mem_of_getElem? (i := t % 2) ?_)
      rw [h4, Array.getElem?_toList]
    have hmul : sn * i0.bytes ≤ 100000 * 1000 := Nat.mul_le_mul (by omega) hby
    obtain ⟨v', W', hrun, hown, hgr, _⟩ := run_append_own (P := Tryz.prog) (w := W.alloc (.cells #[] 88)) B 78 78 88 i0 z 2 i0.bytes Tryz.underlying78 hi hz hs0 rfl hzs (by decide) (.slice (some ⟨W.heap.size, 0, none⟩) 0 0) 0 [] hmade a' sn sc (cs.drop (k * 2)) (by rw [List.length_drop, hcl, hsn, Nat.sub_mul])
      (fun j u hj => by
        have hj' : j < (cs.drop (k * 2)).length := by
          rcases Nat.lt_or_ge j (cs.drop (k * 2)).length with h | h
          · exact h
          · rw [List.getElem?_eq_none h] at hj; cases hj
        rw [List.length_drop] at hj'
        rw [hadd (by omega), addr_add]
        have hb2 : Blk (W.alloc (.cells #[] 88)) g cur 88 := (show Blk W g cur 88 from hh).on hbel
        rw [hb2.cell, ← hj, List.getElem?_drop, ← hct, List.getElem?_take, if_pos (by omega), Array.getElem?_toList])
      hone (by unfold maxLen; omega) (by rw [Nat.zero_add]; omega) (by have := hbel.size; omega)
    have hdl : (l.drop k).length = 0 + sn := by rw [List.length_drop]; omega
    refine ⟨v', W', hrun, ⟨cs.drop (k * 2), by rw [hdl]; show W'.ownsRow B 88 2 v' (0 + sn) _; simpa using hown, fun i hi => ?_⟩, hgr⟩
    obtain ⟨kk, h3, _⟩ := h2 (k + i) (by rw [List.length_drop] at hi; omega)
    refine ⟨(), fun j hj => ?_, trivial⟩
    rw [List.getElem?_drop, List.getElem_drop]
    have h4 := h3 j hj
    rw [show k * 2 + (i * recK.size + j) = (k + i) * recK.size + j by show k * 2 + (i * 2 + j) = (k + i) * 2 + j; omega]
    exact h4
theorem own_set {B : Nat} {W : World} {b0 : Nat} {cs : Array Value} {T : TypeId} (hb : Blk W b0 cs T) (hB : B ≤ b0) (j : Nat) (v : Value) : W.grownBy (W.setCell ⟨b0, j, none⟩ v) (some b0) ∧ Blk (W.setCell ⟨b0, j, none⟩ v) b0 (cs.setIfInBounds j v) T ∧ Only [T] B W (W.setCell ⟨b0, j, none⟩ v) :=
  ⟨but_set W b0 j v, hb.set j v, Only.but (but_set W b0 j v) hb List.mem_cons_self hB⟩
theorem only_new {S : List TypeId} {B : Nat} {w W W' : World} {b0 : Nat} (h : Only S B w W) (hg : W.grownBy W' (some b0)) (hB : B ≤ w.heap.size) (hb : w.heap.size ≤ b0) : Only S B w W' := by
  have h2 := h.bel.size
  refine ⟨h.bel.trans (below_of_but hg (by omega) (by omega)), fun b hb2 hn => ?_⟩
  rw [hg.block b (by omega) (fun e => by have := Option.some.inj e; omega)]
  exact h.keep b hb2 hn
/-- a log's block and records turn -/
theorem log_turn {B : Nat} {W : World} {L D : Nat} {l : LogP} {v v' : Value} {l2 : List (Nat × Nat)} {b : SupP} (h1 : Blk W L (logC D l.block v l.fin l.down) 80) (hG : Gath recK [] 88 B W v' l2) (hB : B ≤ L) (hf : supFits b = true) (hc : l2.length ≤ 100000) :
    IsLog B ((((((W.setCell ⟨L, 1, none⟩ (.int .i64 b.gen)).setCell ⟨L, 2, none⟩ (.int .i64 b.epoch)).setCell ⟨L, 3, none⟩ (.int .i64 b.first)).setCell ⟨L, 4, none⟩ (.int .i64 b.from')).setCell ⟨L, 5, none⟩ (.int .i64 b.count)).setCell ⟨L, 6, none⟩ v') L D { l with block := b, list := l2 } ∧
    Only rgT B W ((((((W.setCell ⟨L, 1, none⟩ (.int .i64 b.gen)).setCell ⟨L, 2, none⟩ (.int .i64 b.epoch)).setCell ⟨L, 3, none⟩ (.int .i64 b.first)).setCell ⟨L, 4, none⟩ (.int .i64 b.from')).setCell ⟨L, 5, none⟩ (.int .i64 b.count)).setCell ⟨L, 6, none⟩ v') := by
  have a1 := h1.set 1 (.int .i64 b.gen)
  have a2 := a1.set 2 (.int .i64 b.epoch)
  have a3 := a2.set 3 (.int .i64 b.first)
  have a4 := a3.set 4 (.int .i64 b.from')
  have a5 := a4.set 5 (.int .i64 b.count)
  have a6 := a5.set 6 v'
  have g1 := but_set W L 1 (.int .i64 b.gen)
  have g2 := but_trans g1 (but_set (W.setCell ⟨L, 1, none⟩ (.int .i64 b.gen)) L 2 (.int .i64 b.epoch))
  have g3 := but_trans g2 (but_set _ L 3 (.int .i64 b.first))
  have g4 := but_trans g3 (but_set _ L 4 (.int .i64 b.from'))
  have g5 := but_trans g4 (but_set _ L 5 (.int .i64 b.count))
  have g6 := but_trans g5 (but_set _ L 6 v')
  exact ⟨⟨⟨v', by simpa [logC] using a6, hG.step (Same.but g6 h1 (by decide))⟩, hB, hf, hc⟩, Only.but g6 h1 (by decide) hB⟩
set_option maxHeartbeats 32000000 in
set_option maxRecDepth 100000 in
theorem ldrop_any (w : World) (B L D : Nat) (l : LogP) (d : DevP) (hl : IsLog B w L D l) (hd : IsDev B w D d) (h2 : 2 ≤ d.sure.length) (k : Nat) (hk0 : k < l.list.length) (sq : Int) (hsq : sq = l.block.first + (k : Int)) (_hfin : l.fin ≤ 900000000)
    (hpl : ∀ x ∈ l.list, x.1 ≤ 900000000) (hf : supFits (dropB l k) = true) (hnx : d.down = false → supNext d (dropB l k) = true) :
    Calls Tryz.prog 79 #[.pointer (some ⟨L, 0, none⟩), .int .i64 sq] w fun e w' => e = .returned (.int .i64 (dropP d l k).2.2) ∧ IsLog B w' L D (dropP d l k).2.1 ∧ IsDev B w' D (dropP d l k).1 ∧ Only lgT B w w' := by
  have hk : k ≤ l.list.length := Nat.le_of_lt hk0
  have HC := Lib.hid (lcheck_any w B L D l d hl hd)
  cases ho : offB d l with
  | true =>
    have HX := Lib.hid (show dropP d l k = (d, { l with down := true }, 8) by simp [dropP, ho])
    rw [ho] at HC
    clear hl hd ho hsq hf hnx hpl
    go_enter Tryz.func79, Tryz.ntmps79
    go_wp2_with (go_at_call 34; refine HC.out.mono ?_; rintro e W1 ⟨rfl, hl1, hd1, ho1⟩; have H1 := Lib.hid (And.intro hl1 (And.intro hd1 ho1)); clear hl1 hd1 ho1; (try simp))
    go_ret
    rw [HX.out]
    exact ⟨rfl, H1.out⟩
  | false =>
    have hdl := down_false ho
    rw [ho] at HC
    rw [down_eq l false hdl.2] at HC
    have HD0 := Lib.hid (And.intro ho (And.intro hdl (And.intro hf (And.intro (hnx hdl.1) hpl))))
    have hfr := fit7 (supFits_at hl.fits (t := 2) (by omega))
    have hge := fit7 (supFits_at hl.fits (t := 0) (by omega))
    simp only [supNum] at hfr hge
    have hcl := hl.cnt
    have hgone : sq - l.block.first = (k : Int) := by omega
    have hsn : decide (nextL l < sq) = false := decide_eq_false (by unfold nextL; omega)
    have hsf : decide (sq < l.block.first) = false := decide_eq_false (by omega)
    have HSQ := Lib.hid hsq
    have HWB := Lib.hid hd.Ble
    clear hl hd ho hsq hf hnx hpl hdl
    go_enter Tryz.func79, Tryz.ntmps79
    go_upto_region 11 with (first
      | (go_at_call 34; refine HC.out.mono ?_; rintro e W1 ⟨rfl, hl1, hd1, ho1⟩; have H1 := Lib.hid (And.intro hl1 (And.intro hd1 ho1)); clear hl1 hd1 ho1; (try simp))
      | (go_at_call 14; refine (lfirst_any W2 B L D l H2.out.1).mono ?_; rintro e W2 ⟨rfl, rfl⟩)
      | (go_at_call 15; refine (lnext_any W1 B L D l H1.out.1).mono ?_; rintro e W2 ⟨rfl, hb2⟩; obtain ⟨v2, g1, g2⟩ := (H1.out.1.on hb2).ex; have z1 : W2.cell? ⟨L, 1, none⟩ = some (.int .i64 l.block.gen) := g1.cell 1; have z2 : W2.cell? ⟨L, 2, none⟩ = some (.int .i64 l.block.epoch) := g1.cell 2; have z3 : W2.cell? ⟨L, 3, none⟩ = some (.int .i64 l.block.first) := g1.cell 3; have z4 : W2.cell? ⟨L, 4, none⟩ = some (.int .i64 l.block.from') := g1.cell 4; have z5 : W2.cell? ⟨L, 5, none⟩ = some (.int .i64 l.block.count) := g1.cell 5; have H2 := Lib.hid (And.intro (H1.out.1.on hb2) (And.intro (H1.out.2.1.on hb2) (H1.out.2.2.trans (Only.below hb2 (by have := H1.out.2.1.Ble; omega))))); clear hb2 g1 g2; rw [show l.block.first + (l.list.length : Int) = nextL l from rfl])
      | (refine wpList_store_row rfl 77 _ _ rfl W2.heap.size (supC l.block) rfl rfl 77 (supC zeroSup) (heap_alloc_new W2 _) supSize rfl (supC_all _) ?_; have hq := sup_new W2 l.block; (try change wpList _ _ _ _ _ ((W2.alloc (.cells (supC zeroSup) 77)).setRow W2.heap.size (supC l.block))); generalize (W2.alloc (.cells (supC zeroSup) 77)).setRow W2.heap.size (supC l.block) = W3 at hq ⊢; obtain ⟨b0, hb0⟩ : ∃ b0, b0 = W2.heap.size := ⟨_, rfl⟩; rw [← hb0] at hq ⊢; have y2 : W3.cell? ⟨b0, 2, none⟩ = some (.int .i64 l.block.first) := hq.1.cell 2; have y0 : W3.cell? ⟨b0, 0, none⟩ = some (.int .i64 l.block.gen) := hq.1.cell 0; have f0 := hq.1.free 0; have HQ := Lib.hid (And.intro hq hb0); clear hq hb0 z1 z2 z3 z4 z5))
    have hb3 : Blk W3 b0 (supC l.block) 77 := HQ.out.1.1
    have hs4 := hb3.set 0 (.int .i64 (l.block.gen + 1))
    have hg4 := but_set W3 b0 0 (.int .i64 (l.block.gen + 1))
    have hbw : Below W2.heap.size W2 (W3.setCell ⟨b0, 0, none⟩ (.int .i64 (l.block.gen + 1))) := by
      have h0 := HQ.out.2
      have h1 := HQ.out.1.2
      have h2 := h1.trans (below_of_but hg4 (Nat.le_refl _) (by have := h1.size; omega))
      rw [← h0]
      exact h2
    generalize W3.setCell ⟨b0, 0, none⟩ (.int .i64 (l.block.gen + 1)) = W4 at *
    have hl4 := H2.out.1.on hbw
    obtain ⟨v4, g1, g2⟩ := hl4.ex
    have hbd := Below.drew (Below.refl W4.heap.size W4)
    have hN := lnext_any W4.drew B L D l (hl4.on hbd)
    have hLb : b0 ≠ L := fun e => by
      have h1 := (H2.out.1.ex).choose_spec.1.lt
      have := HQ.out.2
      omega
    have H4 := Lib.hid (And.intro hl4 (And.intro (H2.out.2.1.on hbw) (And.intro (H2.out.2.2.trans (Only.below hbw (by have := H2.out.2.1.Ble; omega))) (And.intro hs4 (And.intro g1 (And.intro g2 hbw))))))
    have c7 : W4.drew.cell? ⟨L, 7, none⟩ = some (.int .i64 (l.fin : Int)) := (g1.on hbd).cell 7
    have hbb : Blk W4.drew b0 #[.int .i64 (l.block.gen + 1), .int .i64 l.block.epoch, .int .i64 l.block.first, .int .i64 l.block.from', .int .i64 l.block.count] 77 := by simpa [supC] using hs4.on hbd
    have HBB := Lib.hid hbb
    have HN := Lib.hid hN
    clear hb3 hs4 hg4 hbw hl4 g1 g2 hN y0 y2 f0
    clear hbb
    go_cut [] (fun wx => Hid (IsLog B wx L D l ∧ IsDev B wx D d ∧ Only lgT B w wx ∧ Blk wx b0 (supC ⟨l.block.gen + 1, l.block.epoch, sq, (l.fin : Int), nextL l⟩) 77))
    case first =>
      go_region_with (first | (go_at_call 15; refine HN.out.mono ?_; rintro e W5 ⟨rfl, hb5⟩; rw [show l.block.first + (l.list.length : Int) = nextL l from rfl]; have c75 := cell_keep hb5 c7; have hbb5 := HBB.out.on hb5; have k2 : W5.cell? ⟨b0, 2, none⟩ = some (.int .i64 l.block.first) := hbb5.cell 2; have k3 : W5.cell? ⟨b0, 3, none⟩ = some (.int .i64 l.block.from') := hbb5.cell 3; have k4 : W5.cell? ⟨b0, 4, none⟩ = some (.int .i64 l.block.count) := hbb5.cell 4; have q2 := hbb5.free 2; have q3 := hbb5.free 3; have q4 := hbb5.free 4; have H5 := Lib.hid (And.intro hbb5 hb5); clear hb5 hbb5))
      all_goals
        go_wp2_with fail
        go_meet
        have h5 := H5.out.1
        have hb0B : B ≤ b0 := by have := HQ.out.2; have := H2.out.2.1.Ble; omega
        obtain ⟨a1, a2, a3⟩ := own_set h5 hb0B 2 (.int .i64 sq)
        obtain ⟨b1, b2, b3⟩ := own_set a2 hb0B 4 (.int .i64 (nextL l))
        obtain ⟨c1, c2, c3⟩ := own_set b2 hb0B 3 (.int .i64 (l.fin : Int))
        have hO := (a3.trans b3).trans c3
        have hw0 : w.heap.size ≤ b0 := by have := HQ.out.2; have := H2.out.2.2.bel.size; omega
        have hw5 := H4.out.2.2.1.trans (Only.below (below_on (Below.drew (Below.refl _ _)) H5.out.2 (Nat.le_refl _)) H4.out.2.1.Ble)
        have hwB := (H1.out.2.1.Ble)
        refine Lib.hid ⟨((H4.out.1.on (Below.drew (Below.refl _ _))).on H5.out.2).only hO (by decide) (by decide), lg_dv ((H4.out.2.1.on (Below.drew (Below.refl _ _))).on H5.out.2) hO (by decide) (by decide) (by decide) (by decide), ?_, ?_⟩
        · exact only_new (only_new (only_new hw5 a1 HWB.out hw0) b1 HWB.out hw0) c1 HWB.out hw0
        · simpa [supC] using c2
    case rest =>
      obtain ⟨hl6, hd6, ho6, hb6⟩ := hcut.out
      have H6 := Lib.hid hcut.out
      clear hcut
      obtain ⟨v6, g1, g2⟩ := hl6.ex
      obtain ⟨ao, c, rfl, hsq6, hab⟩ := g2.seq
      have c6 : wc.cell? ⟨L, 6, none⟩ = some (.slice ao l.list.length c) := g1.cell 6
      have HS6 := Lib.hid (And.intro hsq6 g1)
      have hle6 := hsq6.hle
      clear g1 g2 hsq6 hab hl6 hd6 ho6
      go_upto_if 53 with fail
      go_cut [] (fun wx => Hid (IsLog B wx L D l ∧ IsDev B wx D d ∧ Only lgT B w wx ∧ Blk wx b0 (supC (dropB l k)) 77))
      case first =>
        by_cases hkl : k < l.list.length
        · have hk1 : decide (k < l.list.length) = true := decide_eq_true hkl
          obtain ⟨bb, off, rfl⟩ := HS6.out.1.addr hkl
          obtain ⟨hx, hc, _⟩ := HS6.out.1.at hkl
          have e0 : wc.cell? ⟨bb, off + k * 2, none⟩ = some (.int .i64 ((l.list[k]).1 : Int)) := hc 0 (by decide)
          have f3 := hb6.free 3
          have z3 : wc.cell? ⟨b0, 3, none⟩ = some (.int .i64 (l.fin : Int)) := hb6.cell 3
          clear hc hb6
          go_wp2_with fail
          go_meet
          have hb0B : B ≤ b0 := by have := HQ.out.2; have := H2.out.2.1.Ble; omega
          have hw0 : w.heap.size ≤ b0 := by have := HQ.out.2; have := H2.out.2.2.bel.size; omega
          obtain ⟨a1, a2, a3⟩ := own_set H6.out.2.2.2 hb0B 3 (.int .i64 ((l.list[k]).1 : Int))
          refine Lib.hid ⟨H6.out.1.only a3 (by decide) (by decide), lg_dv H6.out.2.1 a3 (by decide) (by decide) (by decide) (by decide), only_new H6.out.2.2.1 a1 HWB.out hw0, ?_⟩
          have he : supC (dropB l k) = (supC ⟨l.block.gen + 1, l.block.epoch, sq, (l.fin : Int), nextL l⟩).setIfInBounds 3 (.int .i64 ((l.list[k]).1 : Int)) := by simp [supC, dropB, hkl, HSQ.out]
          rw [he]
          exact a2
        · exact absurd hk0 hkl
      case rest =>
        rename World => w7
        obtain ⟨hl7, hd7, ho7, hb7⟩ := hcut.out
        have H7 := Lib.hid hcut.out
        clear hcut c6 hb6
        obtain ⟨b', hb'⟩ : ∃ b', b' = dropB l k := ⟨_, rfl⟩
        rw [← hb'] at hb7
        have HBQ := Lib.hid hb'
        clear hb'
        have hbd := Below.drew (Below.refl w7.heap.size w7)
        have hs7 : Blk w7.drew b0 #[.int .i64 b'.gen, .int .i64 b'.epoch, .int .i64 b'.first, .int .i64 b'.from', .int .i64 b'.count] 77 := hb7.on hbd
        obtain ⟨v7, g1, g2⟩ := hl7.ex
        have D0 := Lib.hid (show w7.drew.cell? ⟨L, 0, none⟩ = some (.pointer (some ⟨D, 0, none⟩)) ∧ w7.drew.cell? ⟨b0, 0, none⟩ = some (.int .i64 b'.gen) ∧ w7.drew.cell? ⟨b0, 1, none⟩ = some (.int .i64 b'.epoch) ∧ w7.drew.cell? ⟨b0, 2, none⟩ = some (.int .i64 b'.first) ∧ w7.drew.cell? ⟨b0, 3, none⟩ = some (.int .i64 b'.from') ∧ w7.drew.cell? ⟨b0, 4, none⟩ = some (.int .i64 b'.count) from ⟨(g1.on hbd).cell 0, hs7.cell 0, hs7.cell 1, hs7.cell 2, hs7.cell 3, hs7.cell 4⟩)
        have HS7 := Lib.hid hs7
        have hsv := save_any w7.drew B D d (hd7.on hbd) h2 HD0.out.2.1.1 b' (by rw [HBQ.out]; exact HD0.out.2.2.1) (by rw [HBQ.out]; exact HD0.out.2.2.2.1)
        obtain ⟨sd, se, hse⟩ : ∃ sd se, saveP d b' = (sd, se) := ⟨_, _, rfl⟩
        rw [hse] at hsv
        have HSE := Lib.hid hse
        have HSV := Lib.hid hsv
        have hl7d := hl7.on hbd
        have HL7 := Lib.hid (And.intro hl7d (ho7.trans (Only.below hbd hd7.Ble)))
        clear hl7 hd7 ho7 hb7 hbd hs7 g1 g2 hse hsv hl7d
        by_cases hz : se = 0
        · subst hz
          go_wp2_with fail
          go_region_held3 (fun w' => w'.cell? ⟨L, 0, none⟩ = some (.pointer (some ⟨D, 0, none⟩)) ∧ w'.cell? ⟨b0, 0, none⟩ = some (.int .i64 b'.gen) ∧ w'.cell? ⟨b0, 1, none⟩ = some (.int .i64 b'.epoch) ∧ w'.cell? ⟨b0, 2, none⟩ = some (.int .i64 b'.first) ∧ w'.cell? ⟨b0, 3, none⟩ = some (.int .i64 b'.from') ∧ w'.cell? ⟨b0, 4, none⟩ = some (.int .i64 b'.count))
            (first | exact D0.out | exact D8.out | exact D9.out | go_keep)
            (first
              | (go_at_call 36; refine (ldid_any W8 B L D l _ H8.out.2.1 H8.out.1 _).mono ?_; rintro e W9 ⟨rfl, hl9, hd9, ho9⟩; obtain ⟨v9, g1, g2⟩ := hl9.ex; have hb9 := ho9.blk H8.out.2.2.2 (by decide); have D9 := Lib.hid (show W9.cell? ⟨L, 0, none⟩ = some (.pointer (some ⟨D, 0, none⟩)) ∧ W9.cell? ⟨b0, 0, none⟩ = some (.int .i64 b'.gen) ∧ W9.cell? ⟨b0, 1, none⟩ = some (.int .i64 b'.epoch) ∧ W9.cell? ⟨b0, 2, none⟩ = some (.int .i64 b'.first) ∧ W9.cell? ⟨b0, 3, none⟩ = some (.int .i64 b'.from') ∧ W9.cell? ⟨b0, 4, none⟩ = some (.int .i64 b'.count) from ⟨g1.cell 0, hb9.cell 0, hb9.cell 1, hb9.cell 2, hb9.cell 3, hb9.cell 4⟩); have H9 := Lib.hid (And.intro hl9 (And.intro hd9 (And.intro (H8.out.2.2.1.trans ho9) hb9))); clear hl9 hd9 ho9 g1 g2 hb9)
              | (go_at_call 33; refine HSV.out.mono ?_; rintro e W8 ⟨rfl, hd8, ho8⟩; have hl8 := HL7.out.1.only ho8 (by decide) (by decide); obtain ⟨v8, g1, g2⟩ := hl8.ex; have hb8 := ho8.blk HS7.out (by decide); have D8 := Lib.hid (show W8.cell? ⟨L, 0, none⟩ = some (.pointer (some ⟨D, 0, none⟩)) ∧ W8.cell? ⟨b0, 0, none⟩ = some (.int .i64 b'.gen) ∧ W8.cell? ⟨b0, 1, none⟩ = some (.int .i64 b'.epoch) ∧ W8.cell? ⟨b0, 2, none⟩ = some (.int .i64 b'.first) ∧ W8.cell? ⟨b0, 3, none⟩ = some (.int .i64 b'.from') ∧ W8.cell? ⟨b0, 4, none⟩ = some (.int .i64 b'.count) from ⟨g1.cell 0, hb8.cell 0, hb8.cell 1, hb8.cell 2, hb8.cell 3, hb8.cell 4⟩); have H8 := Lib.hid (And.intro hd8 (And.intro hl8 (And.intro (HL7.out.2.trans (ho8.mono (by decide))) hb8))); clear hd8 hl8 ho8 g1 g2 hb8))
          go_split_ands
          have hdn : ({ l with down := l.down || decide ((0 : Int) = 8) } : LogP) = l := by
            have e := HD0.out.2.1.2
            rw [e]
            exact down_eq l _ e
          have hl9 := H9.out.1
          rw [hdn] at hl9
          obtain ⟨v9, g1, g2⟩ := hl9.ex
          obtain ⟨ao, c, rfl, hsq9, hab⟩ := g2.seq
          have hbd := Below.drew (Below.refl W9.heap.size W9)
          have hB9 := H9.out.2.1.Ble
          have g1d := g1.on hbd
          have g2d := g2.on hbd
          have hb9 := H9.out.2.2.2.on hbd
          have c6 : W9.drew.cell? ⟨L, 6, none⟩ = some (.slice ao l.list.length c) := g1d.cell 6
          have hle9 := hsq9.hle
          have hx7 : dropP d l k = (sd, { l with block := b', list := l.list.drop k }, 0) := by
            rw [dropP, if_neg (by rw [HD0.out.1]; decide), ← HBQ.out, HSE.out, if_neg (by simp)]
          have HX := Lib.hid hx7
          have HG9 := Lib.hid (And.intro hl9 (And.intro g1d (And.intro g2d (And.intro hb9 hbd))))
          have hbs : ∀ w : World, (Instr.buildSlice 78 0 #[]).run Tryz.prog w = .ok (.slice (some ⟨w.heap.size, 0, none⟩) 0 0) (w.alloc (.cells #[] 88)) := fun _ => by kernel_rfl
          clear hdn hl9 g1 g2 hsq9 hab hx7
          go_upto_region 17 with fail
          have hcase : (ao = none ∧ c = 0 ∧ k = 0 ∧ l.list = []) ∨ (∃ g, ao = some ⟨g, 0, none⟩ ∧ c = k) ∨ (∃ g, ao = some ⟨g, 0, none⟩ ∧ ¬ c = k) := by
            obtain ⟨cs, ⟨_, ho⟩, _⟩ := HG9.out.2.2.1
            rcases ho with ⟨he, h0⟩ | ⟨g, cap, cur, he, _⟩
            · obtain ⟨h1, h2, h3⟩ : ao = none ∧ l.list.length = 0 ∧ c = 0 := by simpa using he
              exact .inl ⟨h1, h3, by omega, List.eq_nil_of_length_eq_zero h2⟩
            · have h1 : ao = some ⟨g, 0, none⟩ := by simp at he; exact he.1
              by_cases hck : c = k
              · exact .inr (.inl ⟨g, h1, hck⟩)
              · exact .inr (.inr ⟨g, h1, hck⟩)
          have hL9 : L < W9.heap.size := Blk.lt HG9.out.2.1
          have hal := (Below.refl W9.drew.heap.size W9.drew).alloc (Nat.le_refl _) (.cells #[] 88)
          have p0 : W9.drew.cell? ⟨b0, 0, none⟩ = some (.int .i64 b'.gen) := hb9.cell 0
          have p1 : W9.drew.cell? ⟨b0, 1, none⟩ = some (.int .i64 b'.epoch) := hb9.cell 1
          have p2 : W9.drew.cell? ⟨b0, 2, none⟩ = some (.int .i64 b'.first) := hb9.cell 2
          have p3 : W9.drew.cell? ⟨b0, 3, none⟩ = some (.int .i64 b'.from') := hb9.cell 3
          have p4 : W9.drew.cell? ⟨b0, 4, none⟩ = some (.int .i64 b'.count) := hb9.cell 4
          have r0 : (W9.alloc (.cells #[] 88)).drew.cell? ⟨b0, 0, none⟩ = some (.int .i64 b'.gen) := cell_keep hal p0
          have r1 : (W9.alloc (.cells #[] 88)).drew.cell? ⟨b0, 1, none⟩ = some (.int .i64 b'.epoch) := cell_keep hal p1
          have r2 : (W9.alloc (.cells #[] 88)).drew.cell? ⟨b0, 2, none⟩ = some (.int .i64 b'.first) := cell_keep hal p2
          have r3 : (W9.alloc (.cells #[] 88)).drew.cell? ⟨b0, 3, none⟩ = some (.int .i64 b'.from') := cell_keep hal p3
          have r4 : (W9.alloc (.cells #[] 88)).drew.cell? ⟨b0, 4, none⟩ = some (.int .i64 b'.count) := cell_keep hal p4
          have r6 : (W9.alloc (.cells #[] 88)).drew.cell? ⟨L, 6, none⟩ = some (.slice ao l.list.length c) := cell_keep hal c6
          go_cut [] (fun wx => Hid (IsLog B wx L D { l with block := b', list := l.list.drop k } ∧ IsDev B wx D sd ∧ Only lgT B w wx))
          case first =>
            rcases hcase with ⟨_, _, _, hnil⟩ | ⟨g, _, hck⟩ | ⟨g, rfl, hck⟩
            · rw [hnil] at hk0; exact absurd hk0 (Nat.not_lt_zero _)
            · have := hle9; omega
            · as_aux_lemma =>
              obtain ⟨v', W10, hrun, hgath, hgr⟩ := rdrop (B := B) (W := W9.drew) HG9.out.2.2.1 hk (by have := HG9.out.2.2.2.2.size; omega) hcl (some ⟨g, k * 2, none⟩) (l.list.length - k) (c - k) rfl (.inr ⟨_, rfl, .inr (by rw [addr_add, Nat.zero_add])⟩)
              obtain ⟨ao', c', hv', -, -⟩ := hgath.seq
              subst hv'
              have hLn : L ≠ W9.drew.heap.size := Nat.ne_of_lt hL9
              have gL := ((HG9.out.2.1.on hal).but hgr hLn)
              have hbn : b0 ≠ W9.drew.heap.size := fun e => by have := Blk.lt hb9; omega
              have gb := ((hb9.on hal).but hgr hbn)
              have HGL := Lib.hid (And.intro gL (And.intro gb (And.intro hgath (And.intro hgr hal))))
              have q0 : W10.cell? ⟨b0, 0, none⟩ = some (.int .i64 b'.gen) := gb.cell 0
              have q1 : W10.cell? ⟨b0, 1, none⟩ = some (.int .i64 b'.epoch) := gb.cell 1
              have q2 : W10.cell? ⟨b0, 2, none⟩ = some (.int .i64 b'.first) := gb.cell 2
              have q3 : W10.cell? ⟨b0, 3, none⟩ = some (.int .i64 b'.from') := gb.cell 3
              have q4 : W10.cell? ⟨b0, 4, none⟩ = some (.int .i64 b'.count) := gb.cell 4
              have s1 : W10.cell? ⟨L, 1, none⟩ = some (.int .i64 l.block.gen) := gL.cell 1
              have s2 : W10.cell? ⟨L, 2, none⟩ = some (.int .i64 l.block.epoch) := gL.cell 2
              have s3 : W10.cell? ⟨L, 3, none⟩ = some (.int .i64 l.block.first) := gL.cell 3
              have s4 : W10.cell? ⟨L, 4, none⟩ = some (.int .i64 l.block.from') := gL.cell 4
              have s5 : W10.cell? ⟨L, 5, none⟩ = some (.int .i64 l.block.count) := gL.cell 5
              have s6 : W10.cell? ⟨L, 6, none⟩ = some (.slice (some ⟨g, 0, none⟩) l.list.length c) := gL.cell 6
              have t1 := gL.free 1
              have t2 := gL.free 2
              have t3 := gL.free 3
              have t4 := gL.free 4
              have t5 := gL.free 5
              have t6 := gL.free 6
              have HR := Lib.hid hrun
              clear hrun hgath hgr gL gb hal
              go_region_law (refine step_append_run rfl _ _ _ _ rfl _ _ rfl rfl HR.out ?_)
              all_goals
                go_wp2_with fail
                go_meet
                obtain ⟨k1, k2⟩ := log_turn (b := b') HGL.out.1 HGL.out.2.2.1 HG9.out.1.base (by rw [HBQ.out]; exact HD0.out.2.2.1) (by rw [List.length_drop]; omega)
                rw [show (l.list.drop k).length = l.list.length - k from List.length_drop] at k1 k2
                have hon9 : Only rgT B W9 W10 := (Only.below HG9.out.2.2.2.2 hB9).trans ((Only.below HGL.out.2.2.2.2 (by have := HG9.out.2.2.2.2.size; omega)).trans ⟨below_of_but HGL.out.2.2.2.1 (by have := HG9.out.2.2.2.2.size; omega) (by have := HG9.out.2.2.2.2.size; have := HGL.out.2.2.2.2.size; omega), fun b hb hn => HGL.out.2.2.2.1.block b hb (fun e => hn (by cases e; exact ⟨_, _, heap_alloc_new W9.drew _, by decide⟩))⟩)
                have hon := hon9.trans k2
                exact Lib.hid ⟨k1, lg_dv H9.out.2.1 hon (by decide) (by decide) (by decide) (by decide), H9.out.2.2.1.trans (hon.mono (by decide))⟩
          case rest =>
            obtain ⟨q1, q2, q3⟩ := hcut.out
            clear c6 hb9 hbs hcase hL9 hal p0 p1 p2 p3 p4 r0 r1 r2 r3 r4 r6 hcut
            go_wp2_with fail
            go_ret
            rw [HX.out]
            exact ⟨rfl, q1, q2, q3⟩
        · have hzn : (se == 0) = false := by simpa using hz
          have HZ := Lib.hid hz
          clear hz
          go_wp2_with fail
          go_region_held3 (fun w' => w'.cell? ⟨L, 0, none⟩ = some (.pointer (some ⟨D, 0, none⟩)) ∧ w'.cell? ⟨b0, 0, none⟩ = some (.int .i64 b'.gen) ∧ w'.cell? ⟨b0, 1, none⟩ = some (.int .i64 b'.epoch) ∧ w'.cell? ⟨b0, 2, none⟩ = some (.int .i64 b'.first) ∧ w'.cell? ⟨b0, 3, none⟩ = some (.int .i64 b'.from') ∧ w'.cell? ⟨b0, 4, none⟩ = some (.int .i64 b'.count))
            (first | exact D0.out | exact D8.out | exact D9.out | go_keep)
            (first
              | (go_at_call 36; refine (ldid_any W8 B L D l _ H8.out.2.1 H8.out.1 _).mono ?_; rintro e W9 ⟨rfl, hl9, hd9, ho9⟩; obtain ⟨v9, g1, g2⟩ := hl9.ex; have hb9 := ho9.blk H8.out.2.2.2 (by decide); have D9 := Lib.hid (show W9.cell? ⟨L, 0, none⟩ = some (.pointer (some ⟨D, 0, none⟩)) ∧ W9.cell? ⟨b0, 0, none⟩ = some (.int .i64 b'.gen) ∧ W9.cell? ⟨b0, 1, none⟩ = some (.int .i64 b'.epoch) ∧ W9.cell? ⟨b0, 2, none⟩ = some (.int .i64 b'.first) ∧ W9.cell? ⟨b0, 3, none⟩ = some (.int .i64 b'.from') ∧ W9.cell? ⟨b0, 4, none⟩ = some (.int .i64 b'.count) from ⟨g1.cell 0, hb9.cell 0, hb9.cell 1, hb9.cell 2, hb9.cell 3, hb9.cell 4⟩); have H9 := Lib.hid (And.intro hl9 (And.intro hd9 (And.intro (H8.out.2.2.1.trans ho9) hb9))); clear hl9 hd9 ho9 g1 g2 hb9)
              | (go_at_call 33; refine HSV.out.mono ?_; rintro e W8 ⟨rfl, hd8, ho8⟩; have hl8 := HL7.out.1.only ho8 (by decide) (by decide); obtain ⟨v8, g1, g2⟩ := hl8.ex; have hb8 := ho8.blk HS7.out (by decide); have D8 := Lib.hid (show W8.cell? ⟨L, 0, none⟩ = some (.pointer (some ⟨D, 0, none⟩)) ∧ W8.cell? ⟨b0, 0, none⟩ = some (.int .i64 b'.gen) ∧ W8.cell? ⟨b0, 1, none⟩ = some (.int .i64 b'.epoch) ∧ W8.cell? ⟨b0, 2, none⟩ = some (.int .i64 b'.first) ∧ W8.cell? ⟨b0, 3, none⟩ = some (.int .i64 b'.from') ∧ W8.cell? ⟨b0, 4, none⟩ = some (.int .i64 b'.count) from ⟨g1.cell 0, hb8.cell 0, hb8.cell 1, hb8.cell 2, hb8.cell 3, hb8.cell 4⟩); have H8 := Lib.hid (And.intro hd8 (And.intro hl8 (And.intro (HL7.out.2.trans (ho8.mono (by decide))) hb8))); clear hd8 hl8 ho8 g1 g2 hb8))
          go_split_ands
          go_wp2_with fail
          go_ret
          have hX : dropP d l k = (sd, { l with down := l.down || decide (se = 8) }, se) := by
            rw [dropP, if_neg (by rw [HD0.out.1]; decide), ← HBQ.out, HSE.out, if_pos HZ.out]
          rw [hX]
          exact ⟨rfl, H9.out.1, H9.out.2.1, H9.out.2.2.1⟩
end
section
def sumP (rs : List (List UInt8)) : Nat := (rs.map pN).sum
theorem endN_sum : ∀ (p : Nat) (rs : List (List UInt8)), endN p rs = p + sumP rs
  | p, [] => by simp [endN, sumP]
  | p, b :: rs => by
    rw [endN, endN_sum (p + pN b) rs]
    simp [sumP]
    omega
theorem sumP_app (rs qs : List (List UInt8)) : sumP (rs ++ qs) = sumP rs + sumP qs := by simp [sumP]
theorem sumP_ge : ∀ (rs : List (List UInt8)), rs.length ≤ sumP rs
  | [] => by simp [sumP]
  | b :: rs => by
    have h1 := sumP_ge rs
    have h2 := pN_pos b
    simp only [sumP, List.map_cons, List.sum_cons, List.length_cons] at h1 ⊢
    omega
theorem pN_le {b : List UInt8} (h : b.length ≤ 16384) : pN b ≤ 34 := by unfold pN partsN; omega
/-- how large a log's numbers are -/
structure LogBd (d : DevP) (l : LogP) (rs : List (List UInt8)) (n : Nat) : Prop where
  gen : l.block.gen ≤ (n : Int)
  epoch : l.block.epoch ≤ (n : Int)
  first : l.block.first + (rs.length : Int) ≤ (n : Int)
  fin : l.fin ≤ n
  un : d.unsure.length ≤ n
theorem LogBd.mono {d : DevP} {l : LogP} {rs : List (List UInt8)} {n m : Nat} (h : LogBd d l rs n) (hm : n ≤ m) : LogBd d l rs m :=
  ⟨by have := h.gen; omega, by have := h.epoch; omega, by have := h.first; omega, by have := h.fin; omega, by have := h.un; omega⟩
theorem LogOK.room {d : DevP} {l : LogP} {rs : List (List UInt8)} {sy : Nat} (h : LogOK d l rs sy) : roomL d l = (ringN d : Int) - (sumP rs : Int) ∧ (sumP rs : Int) ≤ (ringN d : Int) := by
  obtain ⟨f, ep, hB⟩ := h.body
  have h1 := fit_room hB
  have h2 := hB.ring
  rw [endN_sum] at h1 h2
  omega
theorem LogOK.list_len {d : DevP} {l : LogP} {rs : List (List UInt8)} {sy : Nat} (h : LogOK d l rs sy) : l.list.length = rs.length ∧ nextL l = l.block.first + (rs.length : Int) ∧ rs.length ≤ 4096 := by
  obtain ⟨f, ep, hB⟩ := h.body
  refine ⟨by rw [hB.lst, layN_len], next_len hB, ?_⟩
  have h1 := h.room
  have h2 := sumP_ge rs
  have h3 := h.le
  have h4 := h.n4
  unfold ringN at h1
  omega
theorem LogOK.nums {d : DevP} {l : LogP} {rs : List (List UInt8)} {sy : Nat} (h : LogOK d l rs sy) : 0 ≤ l.block.gen ∧ 1 ≤ l.block.epoch ∧ 0 ≤ l.block.first ∧ 0 ≤ l.block.from' ∧ l.block.from' ≤ (l.fin : Int) := by
  obtain ⟨f, ep, hB⟩ := h.body
  have g0 := fit7 (supFits_at h.fits (t := 0) (by omega))
  have g2 := fit7 (supFits_at h.fits (t := 2) (by omega))
  have g3 := fit7 (supFits_at h.fits (t := 3) (by omega))
  simp only [supNum] at g0 g2 g3
  have h1 := hB.frm
  have h2 := hB.fin
  have h3 := endN_ge f rs
  exact ⟨g0.1, h.ep1, g2.1, g3.1, by omega⟩
theorem LogOK.can {d : DevP} {l : LogP} {rs : List (List UInt8)} {sy n : Nat} (h : LogOK d l rs sy) (hb : LogBd d l rs n) (hn : n ≤ 700000) : CanApp d l := by
  have h1 := h.list_len
  have h2 := h.nums
  refine ⟨by have := h.n4; omega, by have := hb.fin; omega, h.epf, ?_, by omega, by have := hb.un; omega⟩
  rw [h1.2.1]
  simp only [fitK, Bool.and_eq_true, decide_eq_true_eq]
  have h256 : (256 : Int) ^ 7 = 72057594037927936 := by decide
  have := hb.first
  omega
/-- a record more -/
theorem app_bd {d : DevP} {l : LogP} {rs : List (List UInt8)} {sy n : Nat} (_h : LogOK d l rs sy) (hb : LogBd d l rs n) {b : List UInt8} (hl : b.length ≤ 16384) : LogBd (appD d l b) (appL l b) (rs ++ [b]) (n + 34) := by
  have h1 := pN_le hl
  have h2 := putParts_cnt d l b (partsN b.length)
  refine ⟨by have := hb.gen; show l.block.gen ≤ _; omega, by have := hb.epoch; show l.block.epoch ≤ _; omega, ?_, ?_, ?_⟩
  · show l.block.first + ((rs ++ [b]).length : Int) ≤ _
    rw [List.length_append, List.length_singleton]
    have := hb.first
    omega
  · show l.fin + partsN b.length ≤ _
    have := hb.fin
    have : partsN b.length ≤ 34 := h1
    omega
  · show (putParts d l b (partsN b.length)).unsure.length ≤ _
    have := hb.un
    have : partsN b.length ≤ 34 := h1
    omega
theorem sync_bd {d : DevP} {l : LogP} {rs : List (List UInt8)} {sy n : Nat} (h : LogOK d l rs sy) (hb : LogBd d l rs n) : LogBd (syncP d) l rs n :=
  ⟨hb.gen, hb.epoch, hb.first, hb.fin, by rw [(h.sync).2.2.2.1]; exact Nat.zero_le _⟩
theorem fitK_small {n : Int} (h0 : 0 ≤ n) (h1 : n ≤ 1000000000) : fitK n 7 = true ∧ fitK n 4 = true := by
  have h256 : (256 : Int) ^ 7 = 72057594037927936 := by decide
  have h4 : (256 : Int) ^ 4 = 4294967296 := by decide
  simp only [fitK, Bool.and_eq_true, decide_eq_true_eq]
  omega
/-- the first k records go -/
theorem drop_ok {d : DevP} {l : LogP} {rs : List (List UInt8)} {sy n k : Nat} (h : LogOK d l rs sy) (hb : LogBd d l rs n) (hn : n ≤ 700000) (hk : k ≤ rs.length) :
    supFits (dropB l k) = true ∧ supNext d (dropB l k) = true ∧ dropP d l k = ((saveP d (dropB l k)).1, { l with block := dropB l k, list := l.list.drop k }, 0) ∧ (∀ x ∈ l.list, x.1 ≤ 900000000) ∧
      (dropP d l k).1.unsure = [] ∧ (dropP d l k).1.sure.length = d.sure.length ∧ LogOK (dropP d l k).1 (dropP d l k).2.1 (rs.drop k) (rs.length - k) ∧ LogBd (dropP d l k).1 (dropP d l k).2.1 (rs.drop k) (n + 1) := by
  have h1 := h.list_len
  have h2 := h.nums
  obtain ⟨f, ep, hB⟩ := h.body
  have hpl : ∀ x ∈ l.list, x.1 ≤ l.fin := fun x hx => by
    rw [hB.lst] at hx
    obtain ⟨i, hi, rfl⟩ := List.mem_iff_getElem.1 hx
    have hi2 : i < rs.length := by rw [layN_len] at hi; exact hi
    have e := layN_get f rs i hi2
    rw [List.getElem?_eq_getElem hi] at e
    rw [Option.some.inj e, hB.fin]
    have := plN_end f rs hi2
    show plN f rs i ≤ _
    omega
  have hfr : 0 ≤ (dropB l k).from' ∧ (dropB l k).from' ≤ (l.fin : Int) := by
    unfold dropB
    split
    · rename_i hlt
      have := hpl l.list[k] (List.getElem_mem _)
      simp only
      omega
    · simp only
      omega
  have hfit : supFits (dropB l k) = true := by
    have a1 := (fitK_small (n := l.block.gen + 1) (by omega) (by have := hb.gen; omega)).1
    have a2 := (fitK_small (n := l.block.epoch) (by omega) (by have := hb.epoch; omega)).1
    have a3 := (fitK_small (n := l.block.first + (k : Int)) (by omega) (by have := hb.first; omega)).1
    have a4 := (fitK_small (n := (dropB l k).from') hfr.1 (by have := hb.fin; omega)).1
    have a5 := (fitK_small (n := nextL l) (by rw [h1.2.1]; omega) (by rw [h1.2.1]; have := hb.first; omega)).1
    unfold supFits
    rw [a4]
    show (fitK (l.block.gen + 1) 7 && fitK l.block.epoch 7 && fitK (l.block.first + (k : Int)) 7 && true && fitK (nextL l) 7) = true
    rw [a1, a2, a3, a5]
    rfl
  obtain ⟨q1, q2, q3, q4⟩ := h.drop hk hfit
  have hdp : dropP d l k = ((saveP d (dropB l k)).1, { l with block := dropB l k, list := l.list.drop k }, 0) := by
    rw [dropP, if_neg (by rw [body_off h.calm h.off]; decide), if_neg (by rw [q2]; exact fun h => h rfl)]
  have hS := (save_sup h.calm (by have := h.n4; omega) hfit q1).2
  refine ⟨hfit, q1, hdp, fun x hx => by have := hpl x hx; have := hb.fin; omega, by rw [hdp]; exact q3, by rw [hdp]; exact hS.len, by rw [hdp]; exact q4, ?_⟩
  rw [hdp]
  refine ⟨by show l.block.gen + 1 ≤ _; have := hb.gen; omega, by show l.block.epoch ≤ _; have := hb.epoch; omega, ?_, by show l.fin ≤ _; have := hb.fin; omega, by show (saveP d (dropB l k)).1.unsure.length ≤ _; rw [q3]; exact Nat.zero_le _⟩
  show l.block.first + (k : Int) + ((rs.drop k).length : Int) ≤ _
  rw [List.length_drop]
  have := hb.first
  omega
end
section
theorem calm_new (n : Nat) : Calm (newD n) := ⟨rfl, rfl, fun u hu => by cases hu⟩
theorem born_ok {n : Nat} (h4 : 4 ≤ n) (hn : n ≤ 4096) : LogOK (bornD n) ⟨b0, [], 0, false⟩ [] 0 := by
  have hz := zero_save (n := n) (by omega)
  have hS := (save_sup (calm_new n) (by simp [newD]; omega) (b := b0) (by decide) (zero_load (by omega)).2.2).2
  rw [hz] at hS
  have hlen : (bornD n).sure.length = n := by simp [bornD]
  refine ⟨hS.calm, rfl, by rw [hlen]; exact h4, by rw [hlen]; exact hn, hS.load, fun u hu => (by cases hu), by decide, by decide, by decide, ⟨by decide, by decide, by decide⟩, fun b hb => (by cases hb), 0, fun _ => 1, rfl, rfl, rfl, ?_, fun i => ⟨by decide, by decide, fun _ => rfl⟩, fun i hi => absurd hi (by simp), fun i hi => absurd hi (by simp), fun u hu => (by cases hu), ?_⟩
  · show 0 ≤ _
    omega
  · intro t raw ht hv ho hk
    exfalso
    rcases hv with hv | hv
    · have e : (bornD n).sure[t]? = some zeroS ∨ (bornD n).sure[t]? = none := by
        unfold bornD
        simp only
        rw [List.getElem?_set_ne (by omega), List.getElem?_replicate]
        by_cases hlt : t < n
        · left; rw [if_pos hlt]
        · right; rw [if_neg hlt]
      rcases e with e | e
      · rw [e] at hv
        have e2 : List.replicate 512 0 = raw := congrArg Prod.fst (Option.some.inj hv)
        rw [← e2, zero_open] at ho
        exact absurd ho (by decide)
      · rw [e] at hv
        cases hv
    · cases hv
theorem born_bd (n : Nat) : LogBd (bornD n) ⟨b0, [], 0, false⟩ [] 1 := ⟨by decide, by decide, by decide, by decide, by show ([] : List (Nat × List UInt8)).length ≤ 1; simp⟩
end
section
open Go.ChangeShapes Go.WideShapes Go.ChangeAt Go.RowKit
/-- those that have been copied -/
def cpL (L : List Slot) (left : Lit → Bool) (g : Slot → Slot) : List Slot := (L.filter fun s => !left (.string (keyF s.f))).map g
theorem atL_cp {L : List Slot} {left : Lit → Bool} {g : Slot → Slot} (hk : L.Pairwise fun a b => keyF a.f ≠ keyF b.f) (hg : ∀ s ∈ L, (g s).f = s.f) (key : List UInt8) :
    atL (cpL L left g) key = (match atL L key with | some s => if left (.string key) = true then none else some (g s) | none => none) := by
  induction L with
  | nil => rfl
  | cons a L ih =>
    obtain ⟨h1, h2⟩ := List.pairwise_cons.1 hk
    have ih := ih h2 (fun s hs => hg s (List.mem_cons_of_mem _ hs))
    have hga := hg a (List.mem_cons_self ..)
    by_cases ha : keyF a.f = key
    · have hn : atL L key = none := List.find?_eq_none.2 fun y hy => by simp; exact fun e => h1 y hy (ha.trans e.symm)
      have e1 : atL (a :: L) key = some a := by simp [atL, ha]
      rw [e1]
      show atL _ key = if left (.string key) = true then none else some (g a)
      by_cases hl : left (.string key) = true
      · rw [cpL, List.filter_cons_of_neg (by simp [ha, hl])]
        rw [hn] at ih
        rw [if_pos hl]; exact ih
      · rw [cpL, List.filter_cons_of_pos (by simp [ha, hl]), List.map_cons, if_neg hl]
        simp [atL, hga, ha]
    · have e1 : atL (a :: L) key = atL L key := by simp [atL, ha]
      rw [e1, ← ih]
      by_cases hl : left (.string (keyF a.f)) = true
      · rw [cpL, List.filter_cons_of_neg (by simp [hl])]; rfl
      · rw [cpL, List.filter_cons_of_pos (by simp [hl]), List.map_cons]
        simp only [atL, cpL]
        rw [List.find?_cons_of_neg (by simp [hga, ha])]
theorem MapL.same_at {w : World} {M : Nat} {L T : List Slot} (h : MapL w M L) (hl : L.length = T.length) (ha : ∀ key, (atL L key).map (·.b) = (atL T key).map (·.b)) : MapL w M T := by
  obtain ⟨n, D, h1, h2, h3, h4⟩ := h
  refine ⟨n, D, h1, h2, h3.trans hl, fun key z => ?_⟩
  rw [h4]
  have := ha key
  cases h5 : atL L key <;> cases h6 : atL T key <;> rw [h5, h6] at this <;> simp at this ⊢
  rw [this]
theorem cp_len {L : List Slot} {left : Lit → Bool} {g g' : Slot → Slot} (hk : L.Pairwise fun a b => keyF a.f ≠ keyF b.f) {s : Slot} (hs : s ∈ L) (hl : left (.string (keyF s.f)) = true) :
    (cpL L (fun q => left q && !q.sameKey (.string (keyF s.f))) g').length = (cpL L left g).length + 1 := by
  simp only [cpL, List.length_map]
  induction L with
  | nil => cases hs
  | cons a L ih =>
    obtain ⟨h1, h2⟩ := List.pairwise_cons.1 hk
    rcases List.mem_cons.1 hs with e | hs'
    · subst e
      have hsame : ∀ t ∈ L, (!(left (.string (keyF t.f)) && !(Lit.string (keyF t.f)).sameKey (.string (keyF s.f)))) = !left (.string (keyF t.f)) := fun t ht => by
        rw [sameKey_str]
        have : ¬ keyF t.f = keyF s.f := fun e => h1 t ht e.symm
        simp [this]
      rw [List.filter_cons_of_pos (by rw [sameKey_str]; simp), List.filter_cons_of_neg (by simp [hl]), List.length_cons, List.filter_congr hsame]
    · have ih := ih h2 hs'
      have hne : ¬ keyF a.f = keyF s.f := h1 s hs'
      by_cases hla : left (.string (keyF a.f)) = true
      · rw [List.filter_cons_of_neg (by rw [sameKey_str]; simp [hla, hne]), List.filter_cons_of_neg (by simp [hla])]
        exact ih
      · rw [List.filter_cons_of_pos (by rw [sameKey_str]; simp [hla]), List.filter_cons_of_pos (by simp [hla]), List.length_cons, List.length_cons, ih]
theorem pw_map {α β : Type} {R : α → α → Prop} {Q : β → β → Prop} {g : α → β} : ∀ {l : List α}, l.Pairwise R → (∀ a ∈ l, ∀ b ∈ l, R a b → Q (g a) (g b)) → (l.map g).Pairwise Q
  | [], _, _ => List.Pairwise.nil
  | a :: l, h, hq => by
    obtain ⟨h1, h2⟩ := List.pairwise_cons.1 h
    refine List.pairwise_cons.2 ⟨fun b hb => ?_, pw_map h2 (fun x hx y hy => hq x (List.mem_cons_of_mem _ hx) y (List.mem_cons_of_mem _ hy))⟩
    obtain ⟨x, hx, rfl⟩ := List.mem_map.1 hb
    exact hq a (List.mem_cons_self ..) x (List.mem_cons_of_mem _ hx) (h1 x hx)
theorem cp_mem {L : List Slot} {left : Lit → Bool} {g : Slot → Slot} {x : Slot} (h : x ∈ cpL L left g) : ∃ s ∈ L, left (.string (keyF s.f)) = false ∧ x = g s := by
  obtain ⟨s, hs, rfl⟩ := List.mem_map.1 h
  obtain ⟨h1, h2⟩ := List.mem_filter.1 hs
  exact ⟨s, h1, by simpa using h2, rfl⟩
theorem pair_ne2 {L : List Slot} (h : L.Pairwise fun a b => a.b ≠ b.b) {x y : Slot} (hx : x ∈ L) (hy : y ∈ L) (hne : keyF x.f ≠ keyF y.f) : x.b ≠ y.b := by
  induction L with
  | nil => cases hx
  | cons a L ih =>
    obtain ⟨h1, h2⟩ := List.pairwise_cons.1 h
    rcases List.mem_cons.1 hx with ex | hx'
    · rcases List.mem_cons.1 hy with ey | hy'
      · exact absurd (by rw [ex, ey]) hne
      · rw [ex]; exact h1 y hy'
    · rcases List.mem_cons.1 hy with ey | hy'
      · rw [ey]; exact fun e => h1 x hx' e.symm
      · exact ih h2 hx' hy'
/-- one more has been copied -/
theorem cp_step {B : Nat} {W1 W2 W3 : World} {D k M X : Nat} {most stale : Int} {L : List Slot} {left : Lit → Bool} {g : Slot → Slot} {s : Slot} {kk : FactH} (hk : L.Pairwise fun a b => keyF a.f ≠ keyF b.f) (hord : L.Pairwise fun a b => a.used < b.used) (hu : ∀ t ∈ L, t.used ≤ k)
    (hg : ∀ t ∈ L, (g t).f = t.f ∧ (g t).used = t.used) (hs : s ∈ L) (hl : left (.string (keyF s.f)) = true)
    (hC : IsCache B W1 D most stale k (cpL L left g)) (hDb : Blk W1 D #[.int .i64 most, .int .i64 stale, .map (some M), .int .i64 k] 75) (hMB : B ≤ M) (hML : MapL W1 M (cpL L left g))
    (h12 : Below W1.heap.size W1 W2) (hX : W1.heap.size ≤ X) (hXb : Blk W2 X (itemC ⟨X, kk, s.f, s.used⟩) 134) (hF : IsFact (tagged fT W2) W2 kk s.f) (hfB : factB s.f = true) (hlen : FLen s.f)
    (hM3 : MapL W3 M (offL (cpL L left g) (keyF s.f) ++ [⟨X, kk, s.f, s.used⟩])) (g3 : W2.grownBy W3 (some M)) :
    ∃ g', (∀ t ∈ L, (g' t).f = t.f ∧ (g' t).used = t.used) ∧ IsCache B W3 D most stale k (cpL L (fun q => left q && !q.sameKey (.string (keyF s.f))) g') ∧ Blk W3 D #[.int .i64 most, .int .i64 stale, .map (some M), .int .i64 k] 75 ∧ MapL W3 M (cpL L (fun q => left q && !q.sameKey (.string (keyF s.f))) g') := by
  have hDM := blk_map_ne hDb hML
  have hM2 := hML.on (h12.block M hML.lt)
  have hXM := blk_map_ne hXb hM2
  refine ⟨fun t => if keyF t.f = keyF s.f then ⟨X, kk, s.f, s.used⟩ else g t, ?_⟩
  have hg' : ∀ t ∈ L, ((if keyF t.f = keyF s.f then (⟨X, kk, s.f, s.used⟩ : Slot) else g t)).f = t.f ∧ ((if keyF t.f = keyF s.f then (⟨X, kk, s.f, s.used⟩ : Slot) else g t)).used = t.used := fun t ht => by
    by_cases he : keyF t.f = keyF s.f
    · rw [if_pos he, key_inj hk ht hs he]; exact ⟨rfl, rfl⟩
    · rw [if_neg he]; exact hg t ht
  have hD3 : Blk W3 D #[.int .i64 most, .int .i64 stale, .map (some M), .int .i64 k] 75 := (hDb.on h12).but g3 hDM
  have hnone : atL (cpL L left g) (keyF s.f) = none := by rw [atL_cp hk (fun t ht => (hg t ht).1), atL_of_mem hk hs]; simp [hl]
  rw [off_none hnone] at hM3
  have hMM : MapL W3 M (cpL L (fun q => left q && !q.sameKey (.string (keyF s.f))) (fun t => if keyF t.f = keyF s.f then ⟨X, kk, s.f, s.used⟩ else g t)) := by
    refine hM3.same_at (by rw [List.length_append, List.length_singleton]; exact (cp_len hk hs hl).symm) (fun key => ?_)
    rw [atL_snoc, atL_cp hk (fun t ht => (hg t ht).1), atL_cp hk (fun t ht => (hg' t ht).1)]
    by_cases hks : key = keyF s.f
    · subst hks
      rw [atL_of_mem hk hs, sameKey_str]
      simp [hl]
    · have hks' : ¬ keyF s.f = key := fun e => hks e.symm
      cases hat : atL L key with
      | none => simp [hks']
      | some t =>
        have htk := (atL_mem hat).2
        have : ¬ keyF t.f = keyF s.f := fun e => hks (htk.symm.trans e)
        rw [sameKey_str]
        by_cases hlt : left (.string key) = true <;> simp [hlt, hks, hks', this]
  refine ⟨hg', ⟨⟨M, hD3, hMB, hMM⟩, hC.base, fun x hx => ?_, ?_, ?_, fun x hx => ?_, ?_⟩, hD3, hMM⟩
  · obtain ⟨t, ht, hlt, rfl⟩ := cp_mem hx
    by_cases he : keyF t.f = keyF s.f
    · rw [if_pos he]
      refine ⟨?_, hXb.but g3 hXM, hF.step (fun b hb ht => g3.block b hb (fun e => tagged_mapL hM2 ht (Option.some.inj e))), hfB, hlen⟩
      have := hC.base; have := hDb.lt
      show B ≤ X
      omega
    · rw [if_neg he]
      have hlt2 : left (.string (keyF t.f)) = false := by rw [sameKey_str] at hlt; simpa [he] using hlt
      have hin : g t ∈ cpL L left g := List.mem_map.2 ⟨t, List.mem_filter.2 ⟨ht, by simp [hlt2]⟩, rfl⟩
      obtain ⟨p, q, i, d⟩ := hC.slot _ hin
      have q2 := q.on h12
      exact ⟨p, q2.but g3 (blk_map_ne q2 hM2), (i.step (Same.below h12 _)).step (fun b hb ht => g3.block b hb (fun e => tagged_mapL hM2 ht (Option.some.inj e))), d⟩
  · refine pw_map (R := fun a b => keyF a.f ≠ keyF b.f) (hk.sublist List.filter_sublist) (fun a ha b hb hab => ?_)
    obtain ⟨ha1, ha2⟩ := List.mem_filter.1 ha
    obtain ⟨hb1, hb2⟩ := List.mem_filter.1 hb
    have old : ∀ t ∈ L, (!(left (.string (keyF t.f)) && !(Lit.string (keyF t.f)).sameKey (.string (keyF s.f)))) = true → ¬ keyF t.f = keyF s.f → (g t).b < W1.heap.size ∧ g t ∈ cpL L left g := fun t ht h1 he => by
      have hlt2 : left (.string (keyF t.f)) = false := by rw [sameKey_str] at h1; simpa [he] using h1
      have hin : g t ∈ cpL L left g := List.mem_map.2 ⟨t, List.mem_filter.2 ⟨ht, by simp [hlt2]⟩, rfl⟩
      exact ⟨(hC.slot _ hin).2.1.lt, hin⟩
    by_cases ea : keyF a.f = keyF s.f
    · have eb : ¬ keyF b.f = keyF s.f := fun e => hab (ea.trans e.symm)
      rw [if_pos ea, if_neg eb]
      have := (old b hb1 hb2 eb).1
      show X ≠ (g b).b
      omega
    · by_cases eb : keyF b.f = keyF s.f
      · rw [if_neg ea, if_pos eb]
        have := (old a ha1 ha2 ea).1
        show (g a).b ≠ X
        omega
      · rw [if_neg ea, if_neg eb]
        refine pair_ne2 hC.apart (old a ha1 ha2 ea).2 (old b hb1 hb2 eb).2 ?_
        rw [(hg a ha1).1, (hg b hb1).1]; exact hab
  · refine pw_map (R := fun a b => keyF a.f ≠ keyF b.f) (hk.sublist List.filter_sublist) (fun a ha b hb hab => ?_)
    rw [(hg' a (List.mem_filter.1 ha).1).1, (hg' b (List.mem_filter.1 hb).1).1]; exact hab
  · obtain ⟨t, ht, _, rfl⟩ := cp_mem hx
    rw [(hg' t ht).2]; exact hu t ht
  · refine pw_map (R := fun a b => a.used < b.used) (hord.sublist List.filter_sublist) (fun a ha b hb hab => ?_)
    rw [(hg' a (List.mem_filter.1 ha).1).2, (hg' b (List.mem_filter.1 hb).1).2]; exact hab
end
end Go.Proofs.YtjbaohcofdoinaaGreat

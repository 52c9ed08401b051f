/- Cache.Put: a fact, if it may be. -/
import Derived.Test.YtpemdieejgldiaaGreatClay
namespace Go.Proofs.YtpemdieejgldiaaGreat
open Go.ChangeShapes Go.WideShapes Go.ChangeAt Go.RowKit

def freeB (L : List Slot) (f : FactP) (now : Int) : Bool := match atL L (keyF f) with | some s => beatsB s.f f now | none => true
def putB (L : List Slot) (f : FactP) (now : Int) : Bool := factB f && (timeB now && freeB L f now)
/-- what a put leaves -/
structure PutDone (B : Nat) (w' : World) (C : Nat) (most stale : Int) (k : Nat) (L : List Slot) (f : FactP) (b : Bool) : Prop where
  yes : b = true → ∃ b kk, IsCache B w' C most stale (k + 1) (offL L (keyF f) ++ [⟨b, kk, f, k + 1⟩])
  no : b = false → IsCache B w' C most stale k L
theorem beats_small (w : World) (S R : Nat → Prop) (h k : FactH) (f g : FactP) (now : Int) (B : Bool) (hB : B = beatsB f g now) (hf : IsFact S w h f) (hg : IsFact R w k g) :
    Calls Tryz.prog 45 #[.agg (factC h f), .agg (factC k g), .int .i64 now] w fun e w' => e = .returned (.bool B) ∧ Below w.heap.size w w' := by
  rw [hB]
  exact beats_any w S R h k f g now hf hg
set_option maxHeartbeats 16000000 in
set_option maxRecDepth 100000 in
theorem put_any (w : World) (S : Nat → Prop) (B C : Nat) (most stale : Int) (k : Nat) (L : List Slot) (hC : IsCache B w C most stale k L) (hk : k < 4000000000000000000) (hL : L.length < 100000) (h : FactH) (f : FactP) (hf : IsFact S w h f) (hl : FLen f) (now : Int)
    (hroom : (((offL L (keyF f)).length + 1 : Nat) : Int) ≤ most) :
    Calls Tryz.prog 20 #[.pointer (some ⟨C, 0, none⟩), .agg (factC h f), .int .i64 now] w fun e w' => e = .returned (.bool (putB L f now)) ∧ Left B w w' ∧ PutDone B w' C most stale k L f (putB L f now) := by
  have hb1 : Below w.heap.size w (w.alloc (.cells (factC h f) 36)) := (Below.refl _ _).alloc (Nat.le_refl _) _
  have hA : Blk (w.alloc (.cells (factC h f) 36)) w.heap.size (factC h f) 36 := heap_alloc_new w _
  have HA := Lib.hid hA
  have hBw : B ≤ w.heap.size := by
    obtain ⟨M, h1, _⟩ := hC.ex
    have := hC.base
    have := h1.lt
    omega
  have HB := Lib.hid (And.intro hb1 hBw)
  have HCC := Lib.hid hC
  have HF1 := Lib.hid (hf.on hb1)
  have HV := Lib.hid (And.intro hl (And.intro hk (And.intro hL hroom)))
  have m0 : (w.alloc (.cells (factC h f) 36)).cell? ⟨w.heap.size, 0, none⟩ = some (.slice h.na h.nl h.nc) := hA.cell 0
  have m1 : (w.alloc (.cells (factC h f) 36)).cell? ⟨w.heap.size, 1, none⟩ = some (.int .i64 f.typ) := hA.cell 1
  have m2 : (w.alloc (.cells (factC h f) 36)).cell? ⟨w.heap.size, 2, none⟩ = some (.int .i64 f.kind) := hA.cell 2
  have m3 : (w.alloc (.cells (factC h f) 36)).cell? ⟨w.heap.size, 3, none⟩ = some (.int .i64 f.rank) := hA.cell 3
  have m4 : (w.alloc (.cells (factC h f) 36)).cell? ⟨w.heap.size, 4, none⟩ = some (.int .i64 f.got) := hA.cell 4
  have m5 : (w.alloc (.cells (factC h f) 36)).cell? ⟨w.heap.size, 5, none⟩ = some (.int .i64 f.ttl) := hA.cell 5
  have m6 : (w.alloc (.cells (factC h f) 36)).cell? ⟨w.heap.size, 6, none⟩ = some (.slice h.sa h.sl h.sc) := hA.cell 6
  have m7 : (w.alloc (.cells (factC h f) 36)).cell? ⟨w.heap.size, 7, none⟩ = some (.slice h.za h.zl h.zc) := hA.cell 7
  have m8 : (w.alloc (.cells (factC h f) 36)).cell? ⟨w.heap.size, 8, none⟩ = some (.slice h.d.ba h.d.bl h.d.bc) := hA.cell 8
  have m9 : (w.alloc (.cells (factC h f) 36)).cell? ⟨w.heap.size, 9, none⟩ = some (.slice h.d.ha h.d.hl h.d.hc) := hA.cell 9
  have m10 : (w.alloc (.cells (factC h f) 36)).cell? ⟨w.heap.size, 10, none⟩ = some (.slice h.d.ma h.d.ml h.d.mc) := hA.cell 10
  have m11 : (w.alloc (.cells (factC h f) 36)).cell? ⟨w.heap.size, 11, none⟩ = some (.slice h.d.na h.d.nl h.d.nc) := hA.cell 11
  have m12 : (w.alloc (.cells (factC h f) 36)).cell? ⟨w.heap.size, 12, none⟩ = some (.slice h.d.ta h.d.tl h.d.tc) := hA.cell 12
  have HS := Lib.hid (fsound_any _ S _ _ HF1.out)
  have HT := Lib.hid (fun w' => time_any now w')
  clear hA hC hf hl hb1 hk hL hroom hBw
  cases hFB : factB f with
  | false =>
    have hput : putB L f now = false := by rw [putB, hFB]; rfl
    rw [hput]
    rw [hFB] at HS
    go_enter Tryz.func20, Tryz.ntmps20
    simp only [factC]
    go_wp2_with (go_at_call 22; refine HS.out.mono ?_; rintro e W ⟨rfl, hb⟩; have HW := Lib.hid (below_on HB.out.1 hb (Nat.le_refl _)); clear hb)
    go_ret
    exact ⟨rfl, Left.below HW.out HB.out.2, ⟨fun e => absurd e (by simp), fun _ => HCC.out.on HW.out⟩⟩
  | true =>
    rw [hFB] at HS
    cases hTB : timeB now with
    | false =>
      have hput : putB L f now = false := by rw [putB, hTB]; simp
      rw [hput]
      rw [hTB] at HT
      go_enter Tryz.func20, Tryz.ntmps20
      simp only [factC]
      go_wp2_with (first | (go_at_call 22; refine HS.out.mono ?_; rintro e W ⟨rfl, hb⟩; have HW := Lib.hid (below_on HB.out.1 hb (Nat.le_refl _)); clear hb) | (go_at_call 21; refine (HT.out _).mono ?_; rintro e w' ⟨rfl, rfl⟩))
      go_ret
      exact ⟨rfl, Left.below HW.out HB.out.2, ⟨fun e => absurd e (by simp), fun _ => HCC.out.on HW.out⟩⟩
    | true =>
      have hput : putB L f now = freeB L f now := by rw [putB, hFB, hTB]; simp
      rw [hput]
      rw [hTB] at HT
      have hfree : freeB L f now = (match atL L (keyF f) with | some s => beatsB s.f f now | none => true) := rfl
      have HZ := Lib.hid (fact_small hFB)
      cases hat : atL L (keyF f) with
      | none =>
        rw [hat] at hfree
        simp only at hfree
        rw [hfree]
        clear hput hfree
        go_enter Tryz.func20, Tryz.ntmps20
        simp only [factC]
        go_wp2_with (first | (go_at_call 22; refine HS.out.mono ?_; rintro e Y ⟨rfl, hb⟩; have hA := HA.out.on hb; have HW := Lib.hid (below_on HB.out.1 hb (Nat.le_refl _)); have HFY := Lib.hid (HF1.out.on hb); clear hb m0 m1 m2 m3 m4 m5 m6 m7 m8 m9 m10 m11 m12) | (go_at_call 21; refine (HT.out _).mono ?_; rintro e w' ⟨rfl, rfl⟩))
        obtain ⟨M, hCb, hMB, hML⟩ := HCC.out.ex
        have HMC := Lib.hid (show Y.drew.cell? ⟨C, 2, none⟩ = some (.map (some M)) from (hCb.on HW.out).cell 2)
        have HM0 := Lib.hid (show Y.drew.cell? ⟨w.heap.size, 0, none⟩ = some (.slice h.na h.nl h.nc) from hA.cell 0)
        have HM1 := Lib.hid (show Y.drew.cell? ⟨w.heap.size, 1, none⟩ = some (.int .i64 f.typ) from hA.cell 1)
        have HM2 := Lib.hid (show Y.drew.cell? ⟨w.heap.size, 2, none⟩ = some (.int .i64 f.kind) from hA.cell 2)
        have HM3 := Lib.hid (show Y.drew.cell? ⟨w.heap.size, 3, none⟩ = some (.int .i64 f.rank) from hA.cell 3)
        have HM4 := Lib.hid (show Y.drew.cell? ⟨w.heap.size, 4, none⟩ = some (.int .i64 f.got) from hA.cell 4)
        have HM5 := Lib.hid (show Y.drew.cell? ⟨w.heap.size, 5, none⟩ = some (.int .i64 f.ttl) from hA.cell 5)
        have HM6 := Lib.hid (show Y.drew.cell? ⟨w.heap.size, 6, none⟩ = some (.slice h.sa h.sl h.sc) from hA.cell 6)
        have HM7 := Lib.hid (show Y.drew.cell? ⟨w.heap.size, 7, none⟩ = some (.slice h.za h.zl h.zc) from hA.cell 7)
        have HM8 := Lib.hid (show Y.drew.cell? ⟨w.heap.size, 8, none⟩ = some (.slice h.d.ba h.d.bl h.d.bc) from hA.cell 8)
        have HM9 := Lib.hid (show Y.drew.cell? ⟨w.heap.size, 9, none⟩ = some (.slice h.d.ha h.d.hl h.d.hc) from hA.cell 9)
        have HM10 := Lib.hid (show Y.drew.cell? ⟨w.heap.size, 10, none⟩ = some (.slice h.d.ma h.d.ml h.d.mc) from hA.cell 10)
        have HM11 := Lib.hid (show Y.drew.cell? ⟨w.heap.size, 11, none⟩ = some (.slice h.d.na h.d.nl h.d.nc) from hA.cell 11)
        have HM12 := Lib.hid (show Y.drew.cell? ⟨w.heap.size, 12, none⟩ = some (.slice h.d.ta h.d.tl h.d.tc) from hA.cell 12)
        have HKY := Lib.hid (fun w' (p : Below Y.heap.size Y w') => fkey_any w' h f ((HFY.out).on p).name (Nat.le_trans HZ.out (by decide)))
        simp only [factC] at HKY
        have HLK := Lib.hid (fun w' (p : Below Y.heap.size Y w') => ((hML.on (HW.out.block M hML.lt)).on (p.block M (Nat.lt_of_lt_of_le hML.lt HW.out.size))).look_ok (key := keyF f) (by rw [keyF, keyP_size]; have := HZ.out; omega))
        simp only [hat] at HLK
        have HAY := Lib.hid hA
        clear hCb hMB hML hA
        refine wp_soup0 (m := 45) (by kernel_rfl) (fun x y => Below x.heap.size x y) (fun i v xw => match i with | 0 => v = .pointer (some ⟨C, 0, none⟩) | 1 => v = .pointer (some ⟨C, 0, none⟩) | 2 => v = .pointer (some ⟨C, 2, none⟩) | 3 => v = .map (some M) | 4 => v = .agg #[.slice h.na h.nl h.nc, .int .i64 f.typ, .int .i64 f.kind, .int .i64 f.rank, .int .i64 f.got, .int .i64 f.ttl, .slice h.sa h.sl h.sc, .slice h.za h.zl h.zc, .slice h.d.ba h.d.bl h.d.bc, .slice h.d.ha h.d.hl h.d.hc, .slice h.d.ma h.d.ml h.d.mc, .slice h.d.na h.d.nl h.d.nc, .slice h.d.ta h.d.tl h.d.tc] | 5 => v = .string (⟨(keyF f).toArray⟩) | 6 => v = .tuple #[.pointer none, .bool false] | 7 => v = .tuple #[.pointer none, .bool false] | 8 => v = .pointer none | 9 => v = .bool false | 10 => v = .pointer none | 11 => v = .bool false | _ => True) rfl (by kernel_rfl) (fun _ _ _ h1 h2 => below_on h1 h2 (Nat.le_refl _)) (Below.refl _ _) (fun _ _ _ _ h _ => h) (dst_but 12 (by kernel_rfl) (fun _ _ h => h)) ?_ ?_
        rotate_left
        · intro a Z hR hS hdep
          have e0 : a.tmps.getD 0 undef = .pointer (some ⟨C, 0, none⟩) := hS.keep 0 (by kernel_rfl)
          have e2 : a.tmps.getD 2 undef = .int .i64 now := hS.keep 2 (by kernel_rfl)
          have e4 : a.tmps.getD 4 undef = .pointer (some ⟨w.heap.size, 0, none⟩) := hS.keep 4 (by kernel_rfl)
          have e7 : a.tmps.getD 7 undef = .pointer none := hdep 10 (by decide +kernel)
          have e8 : a.tmps.getD 8 undef = .bool false := hdep 11 (by decide +kernel)
          obtain ⟨T, df⟩ := a
          obtain rfl : df = [] := hS.defers
          have hT : T = #[T.getD 0 undef, T.getD 1 undef, T.getD 2 undef, T.getD 3 undef, T.getD 4 undef, T.getD 5 undef, T.getD 6 undef, T.getD 7 undef, T.getD 8 undef, T.getD 9 undef, T.getD 10 undef, T.getD 11 undef, T.getD 12 undef, T.getD 13 undef, T.getD 14 undef, T.getD 15 undef, T.getD 16 undef, T.getD 17 undef, T.getD 18 undef, T.getD 19 undef, T.getD 20 undef, T.getD 21 undef, T.getD 22 undef, T.getD 23 undef, T.getD 24 undef, T.getD 25 undef, T.getD 26 undef, T.getD 27 undef, T.getD 28 undef, T.getD 29 undef, T.getD 30 undef, T.getD 31 undef, T.getD 32 undef, T.getD 33 undef, T.getD 34 undef, T.getD 35 undef, T.getD 36 undef, T.getD 37 undef, T.getD 38 undef, T.getD 39 undef, T.getD 40 undef, T.getD 41 undef, T.getD 42 undef, T.getD 43 undef, T.getD 44 undef] := arr_eta T 45 hS.size
          have k0 : T.getD 0 undef = .pointer (some ⟨C, 0, none⟩) := e0
          have k2 : T.getD 2 undef = .int .i64 now := e2
          have k4 : T.getD 4 undef = .pointer (some ⟨w.heap.size, 0, none⟩) := e4
          have k7 : T.getD 7 undef = .pointer none := e7
          have k8 : T.getD 8 undef = .bool false := e8
          clear hS hdep
          rw [hT]
          rw [k0]
          clear k0 e0
          rw [k2]
          clear k2 e2
          rw [k4]
          clear k4 e4
          rw [k7]
          clear k7 e7
          rw [k8]
          clear k8 e8
          clear hT
          generalize T.getD 1 undef = u1
          generalize T.getD 3 undef = u3
          generalize T.getD 5 undef = u5
          generalize T.getD 6 undef = u6
          generalize T.getD 9 undef = u9
          generalize T.getD 10 undef = u10
          generalize T.getD 11 undef = u11
          generalize T.getD 12 undef = u12
          generalize T.getD 13 undef = u13
          generalize T.getD 14 undef = u14
          generalize T.getD 15 undef = u15
          generalize T.getD 16 undef = u16
          generalize T.getD 17 undef = u17
          generalize T.getD 18 undef = u18
          generalize T.getD 19 undef = u19
          generalize T.getD 20 undef = u20
          generalize T.getD 21 undef = u21
          generalize T.getD 22 undef = u22
          generalize T.getD 23 undef = u23
          generalize T.getD 24 undef = u24
          generalize T.getD 25 undef = u25
          generalize T.getD 26 undef = u26
          generalize T.getD 27 undef = u27
          generalize T.getD 28 undef = u28
          generalize T.getD 29 undef = u29
          generalize T.getD 30 undef = u30
          generalize T.getD 31 undef = u31
          generalize T.getD 32 undef = u32
          generalize T.getD 33 undef = u33
          generalize T.getD 34 undef = u34
          generalize T.getD 35 undef = u35
          generalize T.getD 36 undef = u36
          generalize T.getD 37 undef = u37
          generalize T.getD 38 undef = u38
          generalize T.getD 39 undef = u39
          generalize T.getD 40 undef = u40
          generalize T.getD 41 undef = u41
          generalize T.getD 42 undef = u42
          generalize T.getD 43 undef = u43
          generalize T.getD 44 undef = u44
          have hbx := below_on (B := Y.heap.size) (Below.drew (Below.refl _ _)) hR (Nat.le_refl _)
          clear hR
          have hAZ := HAY.out.on hbx
          have HWZ := Lib.hid (below_on HW.out hbx (Nat.le_refl _))
          have HFZ := Lib.hid (HFY.out.on hbx)
          clear hbx
          have HAZ := Lib.hid hAZ
          clear hAZ
          go_wp2_with fail
          refine wp_soup0 (m := 45) (by kernel_rfl) (fun x y => Below x.heap.size x y) (fun i v xw => match i with | 0 => v = .bool false | 1 => v = .bool false | 2 => v = undef | 3 => v = undef | 4 => v = undef | 5 => v = undef | 6 => v = undef | 7 => v = undef | 8 => v = undef | 9 => v = undef | 10 => v = .bool false | _ => True) rfl (by kernel_rfl) (fun _ _ _ h1 h2 => below_on h1 h2 (Nat.le_refl _)) (Below.refl _ _) (fun _ _ _ _ h _ => h) (dst_but 11 (by kernel_rfl) (fun _ _ h => h)) ?_ ?_
          rotate_left
          · intro a V hR hS hdep
            have e0 : a.tmps.getD 0 undef = .pointer (some ⟨C, 0, none⟩) := hS.keep 0 (by kernel_rfl)
            have e4 : a.tmps.getD 4 undef = .pointer (some ⟨w.heap.size, 0, none⟩) := hS.keep 4 (by kernel_rfl)
            have e41 : a.tmps.getD 41 undef = .bool false := hdep 10 (by decide +kernel)
            obtain ⟨T, df⟩ := a
            obtain rfl : df = [] := hS.defers
            have hT : T = #[T.getD 0 undef, T.getD 1 undef, T.getD 2 undef, T.getD 3 undef, T.getD 4 undef, T.getD 5 undef, T.getD 6 undef, T.getD 7 undef, T.getD 8 undef, T.getD 9 undef, T.getD 10 undef, T.getD 11 undef, T.getD 12 undef, T.getD 13 undef, T.getD 14 undef, T.getD 15 undef, T.getD 16 undef, T.getD 17 undef, T.getD 18 undef, T.getD 19 undef, T.getD 20 undef, T.getD 21 undef, T.getD 22 undef, T.getD 23 undef, T.getD 24 undef, T.getD 25 undef, T.getD 26 undef, T.getD 27 undef, T.getD 28 undef, T.getD 29 undef, T.getD 30 undef, T.getD 31 undef, T.getD 32 undef, T.getD 33 undef, T.getD 34 undef, T.getD 35 undef, T.getD 36 undef, T.getD 37 undef, T.getD 38 undef, T.getD 39 undef, T.getD 40 undef, T.getD 41 undef, T.getD 42 undef, T.getD 43 undef, T.getD 44 undef] := arr_eta T 45 hS.size
            have k0 : T.getD 0 undef = .pointer (some ⟨C, 0, none⟩) := e0
            have k4 : T.getD 4 undef = .pointer (some ⟨w.heap.size, 0, none⟩) := e4
            have k41 : T.getD 41 undef = .bool false := e41
            clear hS hdep
            rw [hT]
            rw [k0]
            clear k0 e0
            rw [k4]
            clear k4 e4
            rw [k41]
            clear k41 e41
            clear hT
            generalize T.getD 1 undef = u1
            generalize T.getD 2 undef = u2
            generalize T.getD 3 undef = u3
            generalize T.getD 5 undef = u5
            generalize T.getD 6 undef = u6
            generalize T.getD 7 undef = u7
            generalize T.getD 8 undef = u8
            generalize T.getD 9 undef = u9
            generalize T.getD 10 undef = u10
            generalize T.getD 11 undef = u11
            generalize T.getD 12 undef = u12
            generalize T.getD 13 undef = u13
            generalize T.getD 14 undef = u14
            generalize T.getD 15 undef = u15
            generalize T.getD 16 undef = u16
            generalize T.getD 17 undef = u17
            generalize T.getD 18 undef = u18
            generalize T.getD 19 undef = u19
            generalize T.getD 20 undef = u20
            generalize T.getD 21 undef = u21
            generalize T.getD 22 undef = u22
            generalize T.getD 23 undef = u23
            generalize T.getD 24 undef = u24
            generalize T.getD 25 undef = u25
            generalize T.getD 26 undef = u26
            generalize T.getD 27 undef = u27
            generalize T.getD 28 undef = u28
            generalize T.getD 29 undef = u29
            generalize T.getD 30 undef = u30
            generalize T.getD 31 undef = u31
            generalize T.getD 32 undef = u32
            generalize T.getD 33 undef = u33
            generalize T.getD 34 undef = u34
            generalize T.getD 35 undef = u35
            generalize T.getD 36 undef = u36
            generalize T.getD 37 undef = u37
            generalize T.getD 38 undef = u38
            generalize T.getD 39 undef = u39
            generalize T.getD 40 undef = u40
            generalize T.getD 42 undef = u42
            generalize T.getD 43 undef = u43
            generalize T.getD 44 undef = u44
            have hbx := below_on (B := Z.heap.size) (Below.drew (Below.refl _ _)) hR (Nat.le_refl _)
            clear hR
            have hAV := HAZ.out.on hbx
            have HWV := Lib.hid (below_on HWZ.out hbx (Nat.le_refl _))
            have HFV := Lib.hid (HFZ.out.on hbx)
            clear hbx
            have n0 : V.cell? ⟨w.heap.size, 0, none⟩ = some (.slice h.na h.nl h.nc) := hAV.cell 0
            have n1 : V.cell? ⟨w.heap.size, 1, none⟩ = some (.int .i64 f.typ) := hAV.cell 1
            have n2 : V.cell? ⟨w.heap.size, 2, none⟩ = some (.int .i64 f.kind) := hAV.cell 2
            have n3 : V.cell? ⟨w.heap.size, 3, none⟩ = some (.int .i64 f.rank) := hAV.cell 3
            have n4 : V.cell? ⟨w.heap.size, 4, none⟩ = some (.int .i64 f.got) := hAV.cell 4
            have n5 : V.cell? ⟨w.heap.size, 5, none⟩ = some (.int .i64 f.ttl) := hAV.cell 5
            have n6 : V.cell? ⟨w.heap.size, 6, none⟩ = some (.slice h.sa h.sl h.sc) := hAV.cell 6
            have n7 : V.cell? ⟨w.heap.size, 7, none⟩ = some (.slice h.za h.zl h.zc) := hAV.cell 7
            have n8 : V.cell? ⟨w.heap.size, 8, none⟩ = some (.slice h.d.ba h.d.bl h.d.bc) := hAV.cell 8
            have n9 : V.cell? ⟨w.heap.size, 9, none⟩ = some (.slice h.d.ha h.d.hl h.d.hc) := hAV.cell 9
            have n10 : V.cell? ⟨w.heap.size, 10, none⟩ = some (.slice h.d.ma h.d.ml h.d.mc) := hAV.cell 10
            have n11 : V.cell? ⟨w.heap.size, 11, none⟩ = some (.slice h.d.na h.d.nl h.d.nc) := hAV.cell 11
            have n12 : V.cell? ⟨w.heap.size, 12, none⟩ = some (.slice h.d.ta h.d.tl h.d.tc) := hAV.cell 12
            clear hAV
            go_wp2_with (go_at_call 23; refine (lay_any V S B C most stale k L (HCC.out.on HWV.out) HV.out.2.1 HV.out.2.2.1 h f HFV.out hFB HV.out.1 HV.out.2.2.2).mono ?_; rintro e V2 ⟨rfl, b, kk, hI, hL⟩)
            go_ret
            exact ⟨rfl, (Left.below HWV.out HB.out.2).trans hL, ⟨fun _ => ⟨b, kk, hI⟩, fun e => absurd e (by simp)⟩⟩
          refine soup_cons rfl rfl (fun a V hR hS hdep K hK => ?_) ?_
          · have e8 : a.tmps[8]?.getD undef = .bool false := slot_of (hS.keep 8 (by kernel_rfl))
            go_simp
            exact hK _ _ (Below.refl _ _) (by first | rfl | simp)
          refine soup_cons rfl rfl (fun a V hR hS hdep K hK => ?_) ?_
          · have e31 : a.tmps[31]?.getD undef = .bool false := slot_of (hdep 0 (by decide +kernel))
            go_simp
            exact hK _ _ (Below.refl _ _) (by first | rfl | simp)
          refine soup_cons rfl rfl (fun a V hR hS hdep K hK => ?_) ?_
          · have e32 : a.tmps[32]?.getD undef = .bool false := slot_of (hdep 1 (by decide +kernel))
            have g32 : a.tmps[32]? = some (.bool false) := slot_at (show _ = 45 from hS.size) (by decide) (hdep 1 (by decide +kernel))
            go_simp
            exact hK _ _ (Below.refl _ _) (by first | rfl | simp)
          refine soup_cons rfl rfl (fun a V hR hS hdep K hK => ?_) ?_
          · have e32 : a.tmps[32]?.getD undef = .bool false := slot_of (hdep 1 (by decide +kernel))
            have g32 : a.tmps[32]? = some (.bool false) := slot_at (show _ = 45 from hS.size) (by decide) (hdep 1 (by decide +kernel))
            go_simp
            exact hK _ _ (Below.refl _ _) (by first | rfl | simp)
          refine soup_cons rfl rfl (fun a V hR hS hdep K hK => ?_) ?_
          · have e32 : a.tmps[32]?.getD undef = .bool false := slot_of (hdep 1 (by decide +kernel))
            have g32 : a.tmps[32]? = some (.bool false) := slot_at (show _ = 45 from hS.size) (by decide) (hdep 1 (by decide +kernel))
            go_simp
            exact hK _ _ (Below.refl _ _) (by first | rfl | simp)
          refine soup_cons rfl rfl (fun a V hR hS hdep K hK => ?_) ?_
          · have e32 : a.tmps[32]?.getD undef = .bool false := slot_of (hdep 1 (by decide +kernel))
            have g32 : a.tmps[32]? = some (.bool false) := slot_at (show _ = 45 from hS.size) (by decide) (hdep 1 (by decide +kernel))
            go_simp
            exact hK _ _ (Below.refl _ _) (by first | rfl | simp)
          refine soup_cons rfl rfl (fun a V hR hS hdep K hK => ?_) ?_
          · have e32 : a.tmps[32]?.getD undef = .bool false := slot_of (hdep 1 (by decide +kernel))
            have g32 : a.tmps[32]? = some (.bool false) := slot_at (show _ = 45 from hS.size) (by decide) (hdep 1 (by decide +kernel))
            go_simp
            exact hK _ _ (Below.refl _ _) (by first | rfl | simp)
          refine soup_cons rfl rfl (fun a V hR hS hdep K hK => ?_) ?_
          · have e32 : a.tmps[32]?.getD undef = .bool false := slot_of (hdep 1 (by decide +kernel))
            have g32 : a.tmps[32]? = some (.bool false) := slot_at (show _ = 45 from hS.size) (by decide) (hdep 1 (by decide +kernel))
            go_simp
            exact hK _ _ (Below.refl _ _) (by first | rfl | simp)
          refine soup_cons rfl rfl (fun a V hR hS hdep K hK => ?_) ?_
          · have e32 : a.tmps[32]?.getD undef = .bool false := slot_of (hdep 1 (by decide +kernel))
            have g32 : a.tmps[32]? = some (.bool false) := slot_at (show _ = 45 from hS.size) (by decide) (hdep 1 (by decide +kernel))
            go_simp
            exact hK _ _ (Below.refl _ _) (by first | rfl | simp)
          refine soup_cons rfl rfl (fun a V hR hS hdep K hK => ?_) ?_
          · have e32 : a.tmps[32]?.getD undef = .bool false := slot_of (hdep 1 (by decide +kernel))
            have g32 : a.tmps[32]? = some (.bool false) := slot_at (show _ = 45 from hS.size) (by decide) (hdep 1 (by decide +kernel))
            go_simp
            exact hK _ _ (Below.refl _ _) (by first | rfl | simp)
          refine soup_cons rfl rfl (fun a V hR hS hdep K hK => ?_) ?_
          · have e32 : a.tmps[32]?.getD undef = .bool false := slot_of (hdep 1 (by decide +kernel))
            have e40 : a.tmps[40]?.getD undef = undef := slot_of (hdep 9 (by decide +kernel))
            go_simp
            exact hK _ _ (Below.refl _ _) rfl
          exact fun j h1 h2 => absurd h1 (by simp only [List.size_toArray, List.length_cons, List.length_nil]; omega)
        refine soup_cons rfl rfl (fun a Z hR hS hdep K hK => ?_) ?_
        · have e0 : a.tmps[0]?.getD undef = .pointer (some ⟨C, 0, none⟩) := slot_of (hS.keep 0 (by kernel_rfl))
          go_simp
          exact hK _ _ (Below.refl _ _) (by first | rfl | simp)
        refine soup_cons rfl rfl (fun a Z hR hS hdep K hK => ?_) ?_
        · have e22 : a.tmps[22]?.getD undef = .pointer (some ⟨C, 0, none⟩) := slot_of (hdep 0 (by decide +kernel))
          go_simp
          exact hK _ _ (Below.refl _ _) (by first | rfl | simp)
        refine soup_cons rfl rfl (fun a Z hR hS hdep K hK => ?_) ?_
        · have e23 : a.tmps[23]?.getD undef = .pointer (some ⟨C, 0, none⟩) := slot_of (hdep 1 (by decide +kernel))
          go_simp
          exact hK _ _ (Below.refl _ _) (by first | rfl | simp)
        refine soup_cons rfl rfl (fun a Z hR hS hdep K hK => ?_) ?_
        · have e24 : a.tmps[24]?.getD undef = .pointer (some ⟨C, 2, none⟩) := slot_of (hdep 2 (by decide +kernel))
          have m0 := cell_keep hR HMC.out
          go_simp
          exact hK _ _ (Below.refl _ _) (by first | rfl | simp)
        refine soup_cons rfl rfl (fun a Z hR hS hdep K hK => ?_) ?_
        · have e4 : a.tmps[4]?.getD undef = .pointer (some ⟨w.heap.size, 0, none⟩) := slot_of (hS.keep 4 (by kernel_rfl))
          have m0 := cell_keep hR HM0.out
          have m1 := cell_keep hR HM1.out
          have m2 := cell_keep hR HM2.out
          have m3 := cell_keep hR HM3.out
          have m4 := cell_keep hR HM4.out
          have m5 := cell_keep hR HM5.out
          have m6 := cell_keep hR HM6.out
          have m7 := cell_keep hR HM7.out
          have m8 := cell_keep hR HM8.out
          have m9 := cell_keep hR HM9.out
          have m10 := cell_keep hR HM10.out
          have m11 := cell_keep hR HM11.out
          have m12 := cell_keep hR HM12.out
          go_simp
          exact hK _ _ (Below.refl _ _) (by first | rfl | simp)
        refine soup_cons rfl rfl (fun a Z hR hS hdep K hK => ?_) ?_
        · have e26 : a.tmps[26]?.getD undef = .agg #[.slice h.na h.nl h.nc, .int .i64 f.typ, .int .i64 f.kind, .int .i64 f.rank, .int .i64 f.got, .int .i64 f.ttl, .slice h.sa h.sl h.sc, .slice h.za h.zl h.zc, .slice h.d.ba h.d.bl h.d.bc, .slice h.d.ha h.d.hl h.d.hc, .slice h.d.ma h.d.ml h.d.mc, .slice h.d.na h.d.nl h.d.nc, .slice h.d.ta h.d.tl h.d.tc] := slot_of (hdep 4 (by decide +kernel))
          go_simp
          have hbx := below_on (B := Y.heap.size) (Below.drew (Below.refl _ _)) hR (Nat.le_refl _)
          refine (HKY.out _ hbx).mono ?_
          rintro e W' ⟨rfl, hb⟩
          exact hK _ _ hb rfl
        refine soup_cons rfl rfl (fun a Z hR hS hdep K hK => ?_) ?_
        · have e25 : a.tmps[25]?.getD undef = .map (some M) := slot_of (hdep 3 (by decide +kernel))
          have e27 : a.tmps[27]?.getD undef = .string (⟨(keyF f).toArray⟩) := slot_of (hdep 5 (by decide +kernel))
          go_simp
          have hbx := below_on (B := Y.heap.size) (Below.drew (Below.refl _ _)) hR (Nat.le_refl _)
          rw [HLK.out _ hbx]
          exact hK _ _ (Below.refl _ _) rfl
        refine soup_cons rfl rfl (fun a Z hR hS hdep K hK => ?_) ?_
        · have e28 : a.tmps[28]?.getD undef = .tuple #[.pointer none, .bool false] := slot_of (hdep 6 (by decide +kernel))
          go_simp
          exact hK _ _ (Below.refl _ _) (by first | rfl | simp)
        refine soup_cons rfl rfl (fun a Z hR hS hdep K hK => ?_) ?_
        · have e21 : a.tmps[21]?.getD undef = .tuple #[.pointer none, .bool false] := slot_of (hdep 7 (by decide +kernel))
          go_simp
          exact hK _ _ (Below.refl _ _) rfl
        refine soup_cons rfl rfl (fun a Z hR hS hdep K hK => ?_) ?_
        · have e21 : a.tmps[21]?.getD undef = .tuple #[.pointer none, .bool false] := slot_of (hdep 7 (by decide +kernel))
          go_simp
          exact hK _ _ (Below.refl _ _) rfl
        refine soup_cons rfl rfl (fun a Z hR hS hdep K hK => ?_) ?_
        · have e29 : a.tmps[29]?.getD undef = .pointer none := slot_of (hdep 8 (by decide +kernel))
          go_simp
          exact hK _ _ (Below.refl _ _) (by first | rfl | simp)
        refine soup_cons rfl rfl (fun a Z hR hS hdep K hK => ?_) ?_
        · have e30 : a.tmps[30]?.getD undef = .bool false := slot_of (hdep 9 (by decide +kernel))
          go_simp
          exact hK _ _ (Below.refl _ _) (by first | rfl | simp)
        exact fun j h1 h2 => absurd h1 (by simp only [List.size_toArray, List.length_cons, List.length_nil]; omega)
      | some s =>
        rw [hat] at hfree
        simp only at hfree
        rw [hfree]
        clear hput hfree
        obtain ⟨BT, hBT⟩ : ∃ q : Bool, q = beatsB s.f f now := ⟨_, rfl⟩
        rw [← hBT]
        go_enter Tryz.func20, Tryz.ntmps20
        simp only [factC]
        go_wp2_with (first | (go_at_call 22; refine HS.out.mono ?_; rintro e Y ⟨rfl, hb⟩; have hA := HA.out.on hb; have HW := Lib.hid (below_on HB.out.1 hb (Nat.le_refl _)); have HFY := Lib.hid (HF1.out.on hb); clear hb m0 m1 m2 m3 m4 m5 m6 m7 m8 m9 m10 m11 m12) | (go_at_call 21; refine (HT.out _).mono ?_; rintro e w' ⟨rfl, rfl⟩))
        obtain ⟨M, hCb, hMB, hML⟩ := HCC.out.ex
        have HMC := Lib.hid (show Y.drew.cell? ⟨C, 2, none⟩ = some (.map (some M)) from (hCb.on HW.out).cell 2)
        have HM0 := Lib.hid (show Y.drew.cell? ⟨w.heap.size, 0, none⟩ = some (.slice h.na h.nl h.nc) from hA.cell 0)
        have HM1 := Lib.hid (show Y.drew.cell? ⟨w.heap.size, 1, none⟩ = some (.int .i64 f.typ) from hA.cell 1)
        have HM2 := Lib.hid (show Y.drew.cell? ⟨w.heap.size, 2, none⟩ = some (.int .i64 f.kind) from hA.cell 2)
        have HM3 := Lib.hid (show Y.drew.cell? ⟨w.heap.size, 3, none⟩ = some (.int .i64 f.rank) from hA.cell 3)
        have HM4 := Lib.hid (show Y.drew.cell? ⟨w.heap.size, 4, none⟩ = some (.int .i64 f.got) from hA.cell 4)
        have HM5 := Lib.hid (show Y.drew.cell? ⟨w.heap.size, 5, none⟩ = some (.int .i64 f.ttl) from hA.cell 5)
        have HM6 := Lib.hid (show Y.drew.cell? ⟨w.heap.size, 6, none⟩ = some (.slice h.sa h.sl h.sc) from hA.cell 6)
        have HM7 := Lib.hid (show Y.drew.cell? ⟨w.heap.size, 7, none⟩ = some (.slice h.za h.zl h.zc) from hA.cell 7)
        have HM8 := Lib.hid (show Y.drew.cell? ⟨w.heap.size, 8, none⟩ = some (.slice h.d.ba h.d.bl h.d.bc) from hA.cell 8)
        have HM9 := Lib.hid (show Y.drew.cell? ⟨w.heap.size, 9, none⟩ = some (.slice h.d.ha h.d.hl h.d.hc) from hA.cell 9)
        have HM10 := Lib.hid (show Y.drew.cell? ⟨w.heap.size, 10, none⟩ = some (.slice h.d.ma h.d.ml h.d.mc) from hA.cell 10)
        have HM11 := Lib.hid (show Y.drew.cell? ⟨w.heap.size, 11, none⟩ = some (.slice h.d.na h.d.nl h.d.nc) from hA.cell 11)
        have HM12 := Lib.hid (show Y.drew.cell? ⟨w.heap.size, 12, none⟩ = some (.slice h.d.ta h.d.tl h.d.tc) from hA.cell 12)
        have HKY := Lib.hid (fun w' (p : Below Y.heap.size Y w') => fkey_any w' h f ((HFY.out).on p).name (Nat.le_trans HZ.out (by decide)))
        simp only [factC] at HKY
        have HLK := Lib.hid (fun w' (p : Below Y.heap.size Y w') => ((hML.on (HW.out.block M hML.lt)).on (p.block M (Nat.lt_of_lt_of_le hML.lt HW.out.size))).look_ok (key := keyF f) (by rw [keyF, keyP_size]; have := HZ.out; omega))
        simp only [hat] at HLK
        have HAY := Lib.hid hA
        clear hCb hMB hML hA
        refine wp_soup0 (m := 45) (by kernel_rfl) (fun x y => Below x.heap.size x y) (fun i v xw => match i with | 0 => v = .pointer (some ⟨C, 0, none⟩) | 1 => v = .pointer (some ⟨C, 0, none⟩) | 2 => v = .pointer (some ⟨C, 2, none⟩) | 3 => v = .map (some M) | 4 => v = .agg #[.slice h.na h.nl h.nc, .int .i64 f.typ, .int .i64 f.kind, .int .i64 f.rank, .int .i64 f.got, .int .i64 f.ttl, .slice h.sa h.sl h.sc, .slice h.za h.zl h.zc, .slice h.d.ba h.d.bl h.d.bc, .slice h.d.ha h.d.hl h.d.hc, .slice h.d.ma h.d.ml h.d.mc, .slice h.d.na h.d.nl h.d.nc, .slice h.d.ta h.d.tl h.d.tc] | 5 => v = .string (⟨(keyF f).toArray⟩) | 6 => v = .tuple #[.pointer (some ⟨s.b, 0, none⟩), .bool true] | 7 => v = .tuple #[.pointer (some ⟨s.b, 0, none⟩), .bool true] | 8 => v = .pointer (some ⟨s.b, 0, none⟩) | 9 => v = .bool true | 10 => v = .pointer (some ⟨s.b, 0, none⟩) | 11 => v = .bool true | _ => True) rfl (by kernel_rfl) (fun _ _ _ h1 h2 => below_on h1 h2 (Nat.le_refl _)) (Below.refl _ _) (fun _ _ _ _ h _ => h) (dst_but 12 (by kernel_rfl) (fun _ _ h => h)) ?_ ?_
        rotate_left
        · intro a Z hR hS hdep
          have e0 : a.tmps.getD 0 undef = .pointer (some ⟨C, 0, none⟩) := hS.keep 0 (by kernel_rfl)
          have e2 : a.tmps.getD 2 undef = .int .i64 now := hS.keep 2 (by kernel_rfl)
          have e4 : a.tmps.getD 4 undef = .pointer (some ⟨w.heap.size, 0, none⟩) := hS.keep 4 (by kernel_rfl)
          have e7 : a.tmps.getD 7 undef = .pointer (some ⟨s.b, 0, none⟩) := hdep 10 (by decide +kernel)
          have e8 : a.tmps.getD 8 undef = .bool true := hdep 11 (by decide +kernel)
          obtain ⟨T, df⟩ := a
          obtain rfl : df = [] := hS.defers
          have hT : T = #[T.getD 0 undef, T.getD 1 undef, T.getD 2 undef, T.getD 3 undef, T.getD 4 undef, T.getD 5 undef, T.getD 6 undef, T.getD 7 undef, T.getD 8 undef, T.getD 9 undef, T.getD 10 undef, T.getD 11 undef, T.getD 12 undef, T.getD 13 undef, T.getD 14 undef, T.getD 15 undef, T.getD 16 undef, T.getD 17 undef, T.getD 18 undef, T.getD 19 undef, T.getD 20 undef, T.getD 21 undef, T.getD 22 undef, T.getD 23 undef, T.getD 24 undef, T.getD 25 undef, T.getD 26 undef, T.getD 27 undef, T.getD 28 undef, T.getD 29 undef, T.getD 30 undef, T.getD 31 undef, T.getD 32 undef, T.getD 33 undef, T.getD 34 undef, T.getD 35 undef, T.getD 36 undef, T.getD 37 undef, T.getD 38 undef, T.getD 39 undef, T.getD 40 undef, T.getD 41 undef, T.getD 42 undef, T.getD 43 undef, T.getD 44 undef] := arr_eta T 45 hS.size
          have k0 : T.getD 0 undef = .pointer (some ⟨C, 0, none⟩) := e0
          have k2 : T.getD 2 undef = .int .i64 now := e2
          have k4 : T.getD 4 undef = .pointer (some ⟨w.heap.size, 0, none⟩) := e4
          have k7 : T.getD 7 undef = .pointer (some ⟨s.b, 0, none⟩) := e7
          have k8 : T.getD 8 undef = .bool true := e8
          clear hS hdep
          rw [hT]
          rw [k0]
          clear k0 e0
          rw [k2]
          clear k2 e2
          rw [k4]
          clear k4 e4
          rw [k7]
          clear k7 e7
          rw [k8]
          clear k8 e8
          clear hT
          generalize T.getD 1 undef = u1
          generalize T.getD 3 undef = u3
          generalize T.getD 5 undef = u5
          generalize T.getD 6 undef = u6
          generalize T.getD 9 undef = u9
          generalize T.getD 10 undef = u10
          generalize T.getD 11 undef = u11
          generalize T.getD 12 undef = u12
          generalize T.getD 13 undef = u13
          generalize T.getD 14 undef = u14
          generalize T.getD 15 undef = u15
          generalize T.getD 16 undef = u16
          generalize T.getD 17 undef = u17
          generalize T.getD 18 undef = u18
          generalize T.getD 19 undef = u19
          generalize T.getD 20 undef = u20
          generalize T.getD 21 undef = u21
          generalize T.getD 22 undef = u22
          generalize T.getD 23 undef = u23
          generalize T.getD 24 undef = u24
          generalize T.getD 25 undef = u25
          generalize T.getD 26 undef = u26
          generalize T.getD 27 undef = u27
          generalize T.getD 28 undef = u28
          generalize T.getD 29 undef = u29
          generalize T.getD 30 undef = u30
          generalize T.getD 31 undef = u31
          generalize T.getD 32 undef = u32
          generalize T.getD 33 undef = u33
          generalize T.getD 34 undef = u34
          generalize T.getD 35 undef = u35
          generalize T.getD 36 undef = u36
          generalize T.getD 37 undef = u37
          generalize T.getD 38 undef = u38
          generalize T.getD 39 undef = u39
          generalize T.getD 40 undef = u40
          generalize T.getD 41 undef = u41
          generalize T.getD 42 undef = u42
          generalize T.getD 43 undef = u43
          generalize T.getD 44 undef = u44
          have hbx := below_on (B := Y.heap.size) (Below.drew (Below.refl _ _)) hR (Nat.le_refl _)
          clear hR
          have hAZ := HAY.out.on hbx
          have HWZ := Lib.hid (below_on HW.out hbx (Nat.le_refl _))
          have HFZ := Lib.hid (HFY.out.on hbx)
          clear hbx
          have HAZ := Lib.hid hAZ
          have hsl := HCC.out.slot s (atL_mem hat).1
          have hiZ := hsl.2.1.on HWZ.out
          have HBT := Lib.hid (fun w' (p : Below Z.heap.size Z w') => beats_small w' _ S s.h h s.f f now BT hBT ((hsl.2.2.1.on HWZ.out).on p) (HFZ.out.on p))
          simp only [factC] at HBT
          have HP0 := Lib.hid (show Z.drew.cell? ⟨w.heap.size, 0, none⟩ = some (.slice h.na h.nl h.nc) from hAZ.cell 0)
          have HP1 := Lib.hid (show Z.drew.cell? ⟨w.heap.size, 1, none⟩ = some (.int .i64 f.typ) from hAZ.cell 1)
          have HP2 := Lib.hid (show Z.drew.cell? ⟨w.heap.size, 2, none⟩ = some (.int .i64 f.kind) from hAZ.cell 2)
          have HP3 := Lib.hid (show Z.drew.cell? ⟨w.heap.size, 3, none⟩ = some (.int .i64 f.rank) from hAZ.cell 3)
          have HP4 := Lib.hid (show Z.drew.cell? ⟨w.heap.size, 4, none⟩ = some (.int .i64 f.got) from hAZ.cell 4)
          have HP5 := Lib.hid (show Z.drew.cell? ⟨w.heap.size, 5, none⟩ = some (.int .i64 f.ttl) from hAZ.cell 5)
          have HP6 := Lib.hid (show Z.drew.cell? ⟨w.heap.size, 6, none⟩ = some (.slice h.sa h.sl h.sc) from hAZ.cell 6)
          have HP7 := Lib.hid (show Z.drew.cell? ⟨w.heap.size, 7, none⟩ = some (.slice h.za h.zl h.zc) from hAZ.cell 7)
          have HP8 := Lib.hid (show Z.drew.cell? ⟨w.heap.size, 8, none⟩ = some (.slice h.d.ba h.d.bl h.d.bc) from hAZ.cell 8)
          have HP9 := Lib.hid (show Z.drew.cell? ⟨w.heap.size, 9, none⟩ = some (.slice h.d.ha h.d.hl h.d.hc) from hAZ.cell 9)
          have HP10 := Lib.hid (show Z.drew.cell? ⟨w.heap.size, 10, none⟩ = some (.slice h.d.ma h.d.ml h.d.mc) from hAZ.cell 10)
          have HP11 := Lib.hid (show Z.drew.cell? ⟨w.heap.size, 11, none⟩ = some (.slice h.d.na h.d.nl h.d.nc) from hAZ.cell 11)
          have HP12 := Lib.hid (show Z.drew.cell? ⟨w.heap.size, 12, none⟩ = some (.slice h.d.ta h.d.tl h.d.tc) from hAZ.cell 12)
          have HI0 := Lib.hid (show Z.drew.cell? ⟨s.b, 0, none⟩ = some (.slice s.h.na s.h.nl s.h.nc) from hiZ.cell 0)
          have HI1 := Lib.hid (show Z.drew.cell? ⟨s.b, 1, none⟩ = some (.int .i64 s.f.typ) from hiZ.cell 1)
          have HI2 := Lib.hid (show Z.drew.cell? ⟨s.b, 2, none⟩ = some (.int .i64 s.f.kind) from hiZ.cell 2)
          have HI3 := Lib.hid (show Z.drew.cell? ⟨s.b, 3, none⟩ = some (.int .i64 s.f.rank) from hiZ.cell 3)
          have HI4 := Lib.hid (show Z.drew.cell? ⟨s.b, 4, none⟩ = some (.int .i64 s.f.got) from hiZ.cell 4)
          have HI5 := Lib.hid (show Z.drew.cell? ⟨s.b, 5, none⟩ = some (.int .i64 s.f.ttl) from hiZ.cell 5)
          have HI6 := Lib.hid (show Z.drew.cell? ⟨s.b, 6, none⟩ = some (.slice s.h.sa s.h.sl s.h.sc) from hiZ.cell 6)
          have HI7 := Lib.hid (show Z.drew.cell? ⟨s.b, 7, none⟩ = some (.slice s.h.za s.h.zl s.h.zc) from hiZ.cell 7)
          have HI8 := Lib.hid (show Z.drew.cell? ⟨s.b, 8, none⟩ = some (.slice s.h.d.ba s.h.d.bl s.h.d.bc) from hiZ.cell 8)
          have HI9 := Lib.hid (show Z.drew.cell? ⟨s.b, 9, none⟩ = some (.slice s.h.d.ha s.h.d.hl s.h.d.hc) from hiZ.cell 9)
          have HI10 := Lib.hid (show Z.drew.cell? ⟨s.b, 10, none⟩ = some (.slice s.h.d.ma s.h.d.ml s.h.d.mc) from hiZ.cell 10)
          have HI11 := Lib.hid (show Z.drew.cell? ⟨s.b, 11, none⟩ = some (.slice s.h.d.na s.h.d.nl s.h.d.nc) from hiZ.cell 11)
          have HI12 := Lib.hid (show Z.drew.cell? ⟨s.b, 12, none⟩ = some (.slice s.h.d.ta s.h.d.tl s.h.d.tc) from hiZ.cell 12)
          clear hAZ hiZ hsl hBT
          go_wp2_with fail
          obtain ⟨X10, hX10⟩ : ∃ q : Bool, q = (true && (!BT)) := ⟨_, rfl⟩
          have HX10 := Lib.hid hX10
          clear hX10
          refine wp_soup0 (m := 45) (by kernel_rfl) (fun x y => Below x.heap.size x y) (fun i v xw => match i with | 0 => v = .bool true | 1 => v = .bool true | 2 => v = .pointer (some ⟨s.b, 0, none⟩) | 3 => v = .pointer (some ⟨s.b, 0, none⟩) | 4 => v = .pointer (some ⟨s.b, 0, none⟩) | 5 => v = .agg #[.slice s.h.na s.h.nl s.h.nc, .int .i64 s.f.typ, .int .i64 s.f.kind, .int .i64 s.f.rank, .int .i64 s.f.got, .int .i64 s.f.ttl, .slice s.h.sa s.h.sl s.h.sc, .slice s.h.za s.h.zl s.h.zc, .slice s.h.d.ba s.h.d.bl s.h.d.bc, .slice s.h.d.ha s.h.d.hl s.h.d.hc, .slice s.h.d.ma s.h.d.ml s.h.d.mc, .slice s.h.d.na s.h.d.nl s.h.d.nc, .slice s.h.d.ta s.h.d.tl s.h.d.tc] | 6 => v = .agg #[.slice h.na h.nl h.nc, .int .i64 f.typ, .int .i64 f.kind, .int .i64 f.rank, .int .i64 f.got, .int .i64 f.ttl, .slice h.sa h.sl h.sc, .slice h.za h.zl h.zc, .slice h.d.ba h.d.bl h.d.bc, .slice h.d.ha h.d.hl h.d.hc, .slice h.d.ma h.d.ml h.d.mc, .slice h.d.na h.d.nl h.d.nc, .slice h.d.ta h.d.tl h.d.tc] | 7 => v = .int .i64 now | 8 => v = .bool BT | 9 => v = .bool (!BT) | 10 => v = .bool X10 | _ => True) rfl (by kernel_rfl) (fun _ _ _ h1 h2 => below_on h1 h2 (Nat.le_refl _)) (Below.refl _ _) (fun _ _ _ _ h _ => h) (dst_but 11 (by kernel_rfl) (fun _ _ h => h)) ?_ ?_
          rotate_left
          · intro a V hR hS hdep
            have e0 : a.tmps.getD 0 undef = .pointer (some ⟨C, 0, none⟩) := hS.keep 0 (by kernel_rfl)
            have e4 : a.tmps.getD 4 undef = .pointer (some ⟨w.heap.size, 0, none⟩) := hS.keep 4 (by kernel_rfl)
            have e41 : a.tmps.getD 41 undef = .bool X10 := hdep 10 (by decide +kernel)
            obtain ⟨T, df⟩ := a
            obtain rfl : df = [] := hS.defers
            have hT : T = #[T.getD 0 undef, T.getD 1 undef, T.getD 2 undef, T.getD 3 undef, T.getD 4 undef, T.getD 5 undef, T.getD 6 undef, T.getD 7 undef, T.getD 8 undef, T.getD 9 undef, T.getD 10 undef, T.getD 11 undef, T.getD 12 undef, T.getD 13 undef, T.getD 14 undef, T.getD 15 undef, T.getD 16 undef, T.getD 17 undef, T.getD 18 undef, T.getD 19 undef, T.getD 20 undef, T.getD 21 undef, T.getD 22 undef, T.getD 23 undef, T.getD 24 undef, T.getD 25 undef, T.getD 26 undef, T.getD 27 undef, T.getD 28 undef, T.getD 29 undef, T.getD 30 undef, T.getD 31 undef, T.getD 32 undef, T.getD 33 undef, T.getD 34 undef, T.getD 35 undef, T.getD 36 undef, T.getD 37 undef, T.getD 38 undef, T.getD 39 undef, T.getD 40 undef, T.getD 41 undef, T.getD 42 undef, T.getD 43 undef, T.getD 44 undef] := arr_eta T 45 hS.size
            have k0 : T.getD 0 undef = .pointer (some ⟨C, 0, none⟩) := e0
            have k4 : T.getD 4 undef = .pointer (some ⟨w.heap.size, 0, none⟩) := e4
            have k41 : T.getD 41 undef = .bool X10 := e41
            clear hS hdep
            rw [hT]
            rw [k0]
            clear k0 e0
            rw [k4]
            clear k4 e4
            rw [k41]
            clear k41 e41
            clear hT
            generalize T.getD 1 undef = u1
            generalize T.getD 2 undef = u2
            generalize T.getD 3 undef = u3
            generalize T.getD 5 undef = u5
            generalize T.getD 6 undef = u6
            generalize T.getD 7 undef = u7
            generalize T.getD 8 undef = u8
            generalize T.getD 9 undef = u9
            generalize T.getD 10 undef = u10
            generalize T.getD 11 undef = u11
            generalize T.getD 12 undef = u12
            generalize T.getD 13 undef = u13
            generalize T.getD 14 undef = u14
            generalize T.getD 15 undef = u15
            generalize T.getD 16 undef = u16
            generalize T.getD 17 undef = u17
            generalize T.getD 18 undef = u18
            generalize T.getD 19 undef = u19
            generalize T.getD 20 undef = u20
            generalize T.getD 21 undef = u21
            generalize T.getD 22 undef = u22
            generalize T.getD 23 undef = u23
            generalize T.getD 24 undef = u24
            generalize T.getD 25 undef = u25
            generalize T.getD 26 undef = u26
            generalize T.getD 27 undef = u27
            generalize T.getD 28 undef = u28
            generalize T.getD 29 undef = u29
            generalize T.getD 30 undef = u30
            generalize T.getD 31 undef = u31
            generalize T.getD 32 undef = u32
            generalize T.getD 33 undef = u33
            generalize T.getD 34 undef = u34
            generalize T.getD 35 undef = u35
            generalize T.getD 36 undef = u36
            generalize T.getD 37 undef = u37
            generalize T.getD 38 undef = u38
            generalize T.getD 39 undef = u39
            generalize T.getD 40 undef = u40
            generalize T.getD 42 undef = u42
            generalize T.getD 43 undef = u43
            generalize T.getD 44 undef = u44
            cases BT with
            | false =>
              have HB5 := Lib.hid (show X10 = true by simp [HX10.out])
              rw [HB5.out]
              have HRZ := Lib.hid (below_on (B := Z.heap.size) (Below.drew (Below.refl _ _)) hR (Nat.le_refl _))
              clear hR
              go_wp2_with fail
              go_ret
              have hb := below_on HWZ.out HRZ.out (Nat.le_refl _)
              exact ⟨rfl, Left.below hb HB.out.2, ⟨fun e => absurd e (by simp), fun _ => HCC.out.on hb⟩⟩
            | true =>
              have HB5 := Lib.hid (show X10 = false by simp [HX10.out])
              rw [HB5.out]
              have hbx := below_on (B := Z.heap.size) (Below.drew (Below.refl _ _)) hR (Nat.le_refl _)
              clear hR
              have hAV := HAZ.out.on hbx
              have HWV := Lib.hid (below_on HWZ.out hbx (Nat.le_refl _))
              have HFV := Lib.hid (HFZ.out.on hbx)
              clear hbx
              have n0 : V.cell? ⟨w.heap.size, 0, none⟩ = some (.slice h.na h.nl h.nc) := hAV.cell 0
              have n1 : V.cell? ⟨w.heap.size, 1, none⟩ = some (.int .i64 f.typ) := hAV.cell 1
              have n2 : V.cell? ⟨w.heap.size, 2, none⟩ = some (.int .i64 f.kind) := hAV.cell 2
              have n3 : V.cell? ⟨w.heap.size, 3, none⟩ = some (.int .i64 f.rank) := hAV.cell 3
              have n4 : V.cell? ⟨w.heap.size, 4, none⟩ = some (.int .i64 f.got) := hAV.cell 4
              have n5 : V.cell? ⟨w.heap.size, 5, none⟩ = some (.int .i64 f.ttl) := hAV.cell 5
              have n6 : V.cell? ⟨w.heap.size, 6, none⟩ = some (.slice h.sa h.sl h.sc) := hAV.cell 6
              have n7 : V.cell? ⟨w.heap.size, 7, none⟩ = some (.slice h.za h.zl h.zc) := hAV.cell 7
              have n8 : V.cell? ⟨w.heap.size, 8, none⟩ = some (.slice h.d.ba h.d.bl h.d.bc) := hAV.cell 8
              have n9 : V.cell? ⟨w.heap.size, 9, none⟩ = some (.slice h.d.ha h.d.hl h.d.hc) := hAV.cell 9
              have n10 : V.cell? ⟨w.heap.size, 10, none⟩ = some (.slice h.d.ma h.d.ml h.d.mc) := hAV.cell 10
              have n11 : V.cell? ⟨w.heap.size, 11, none⟩ = some (.slice h.d.na h.d.nl h.d.nc) := hAV.cell 11
              have n12 : V.cell? ⟨w.heap.size, 12, none⟩ = some (.slice h.d.ta h.d.tl h.d.tc) := hAV.cell 12
              clear hAV
              go_wp2_with (go_at_call 23; refine (lay_any V S B C most stale k L (HCC.out.on HWV.out) HV.out.2.1 HV.out.2.2.1 h f HFV.out hFB HV.out.1 HV.out.2.2.2).mono ?_; rintro e V2 ⟨rfl, b, kk, hI, hL⟩)
              go_ret
              exact ⟨rfl, (Left.below HWV.out HB.out.2).trans hL, ⟨fun _ => ⟨b, kk, hI⟩, fun e => absurd e (by simp)⟩⟩
          refine soup_cons rfl rfl (fun a V hR hS hdep K hK => ?_) ?_
          · have e8 : a.tmps[8]?.getD undef = .bool true := slot_of (hS.keep 8 (by kernel_rfl))
            go_simp
            exact hK _ _ (Below.refl _ _) (by first | rfl | simp)
          refine soup_cons rfl rfl (fun a V hR hS hdep K hK => ?_) ?_
          · have e31 : a.tmps[31]?.getD undef = .bool true := slot_of (hdep 0 (by decide +kernel))
            go_simp
            exact hK _ _ (Below.refl _ _) (by first | rfl | simp)
          refine soup_cons rfl rfl (fun a V hR hS hdep K hK => ?_) ?_
          · have e7 : a.tmps[7]?.getD undef = .pointer (some ⟨s.b, 0, none⟩) := slot_of (hS.keep 7 (by kernel_rfl))
            have e32 : a.tmps[32]?.getD undef = .bool true := slot_of (hdep 1 (by decide +kernel))
            have g32 : a.tmps[32]? = some (.bool true) := slot_at (show _ = 45 from hS.size) (by decide) (hdep 1 (by decide +kernel))
            go_simp
            exact hK _ _ (Below.refl _ _) (by first | rfl | simp)
          refine soup_cons rfl rfl (fun a V hR hS hdep K hK => ?_) ?_
          · have e33 : a.tmps[33]?.getD undef = .pointer (some ⟨s.b, 0, none⟩) := slot_of (hdep 2 (by decide +kernel))
            have e32 : a.tmps[32]?.getD undef = .bool true := slot_of (hdep 1 (by decide +kernel))
            have g32 : a.tmps[32]? = some (.bool true) := slot_at (show _ = 45 from hS.size) (by decide) (hdep 1 (by decide +kernel))
            go_simp
            exact hK _ _ (Below.refl _ _) (by first | rfl | simp)
          refine soup_cons rfl rfl (fun a V hR hS hdep K hK => ?_) ?_
          · have e34 : a.tmps[34]?.getD undef = .pointer (some ⟨s.b, 0, none⟩) := slot_of (hdep 3 (by decide +kernel))
            have e32 : a.tmps[32]?.getD undef = .bool true := slot_of (hdep 1 (by decide +kernel))
            have g32 : a.tmps[32]? = some (.bool true) := slot_at (show _ = 45 from hS.size) (by decide) (hdep 1 (by decide +kernel))
            go_simp
            exact hK _ _ (Below.refl _ _) (by first | rfl | simp)
          refine soup_cons rfl rfl (fun a V hR hS hdep K hK => ?_) ?_
          · have e35 : a.tmps[35]?.getD undef = .pointer (some ⟨s.b, 0, none⟩) := slot_of (hdep 4 (by decide +kernel))
            have e32 : a.tmps[32]?.getD undef = .bool true := slot_of (hdep 1 (by decide +kernel))
            have g32 : a.tmps[32]? = some (.bool true) := slot_at (show _ = 45 from hS.size) (by decide) (hdep 1 (by decide +kernel))
            have m0 := cell_keep hR HI0.out
            have m1 := cell_keep hR HI1.out
            have m2 := cell_keep hR HI2.out
            have m3 := cell_keep hR HI3.out
            have m4 := cell_keep hR HI4.out
            have m5 := cell_keep hR HI5.out
            have m6 := cell_keep hR HI6.out
            have m7 := cell_keep hR HI7.out
            have m8 := cell_keep hR HI8.out
            have m9 := cell_keep hR HI9.out
            have m10 := cell_keep hR HI10.out
            have m11 := cell_keep hR HI11.out
            have m12 := cell_keep hR HI12.out
            go_simp
            exact hK _ _ (Below.refl _ _) (by first | rfl | simp)
          refine soup_cons rfl rfl (fun a V hR hS hdep K hK => ?_) ?_
          · have e4 : a.tmps[4]?.getD undef = .pointer (some ⟨w.heap.size, 0, none⟩) := slot_of (hS.keep 4 (by kernel_rfl))
            have e32 : a.tmps[32]?.getD undef = .bool true := slot_of (hdep 1 (by decide +kernel))
            have g32 : a.tmps[32]? = some (.bool true) := slot_at (show _ = 45 from hS.size) (by decide) (hdep 1 (by decide +kernel))
            have m0 := cell_keep hR HP0.out
            have m1 := cell_keep hR HP1.out
            have m2 := cell_keep hR HP2.out
            have m3 := cell_keep hR HP3.out
            have m4 := cell_keep hR HP4.out
            have m5 := cell_keep hR HP5.out
            have m6 := cell_keep hR HP6.out
            have m7 := cell_keep hR HP7.out
            have m8 := cell_keep hR HP8.out
            have m9 := cell_keep hR HP9.out
            have m10 := cell_keep hR HP10.out
            have m11 := cell_keep hR HP11.out
            have m12 := cell_keep hR HP12.out
            go_simp
            exact hK _ _ (Below.refl _ _) (by first | rfl | simp)
          refine soup_cons rfl rfl (fun a V hR hS hdep K hK => ?_) ?_
          · have e2 : a.tmps[2]?.getD undef = .int .i64 now := slot_of (hS.keep 2 (by kernel_rfl))
            have e32 : a.tmps[32]?.getD undef = .bool true := slot_of (hdep 1 (by decide +kernel))
            have g32 : a.tmps[32]? = some (.bool true) := slot_at (show _ = 45 from hS.size) (by decide) (hdep 1 (by decide +kernel))
            go_simp
            exact hK _ _ (Below.refl _ _) (by first | rfl | simp)
          refine soup_cons rfl rfl (fun a V hR hS hdep K hK => ?_) ?_
          · have e36 : a.tmps[36]?.getD undef = .agg #[.slice s.h.na s.h.nl s.h.nc, .int .i64 s.f.typ, .int .i64 s.f.kind, .int .i64 s.f.rank, .int .i64 s.f.got, .int .i64 s.f.ttl, .slice s.h.sa s.h.sl s.h.sc, .slice s.h.za s.h.zl s.h.zc, .slice s.h.d.ba s.h.d.bl s.h.d.bc, .slice s.h.d.ha s.h.d.hl s.h.d.hc, .slice s.h.d.ma s.h.d.ml s.h.d.mc, .slice s.h.d.na s.h.d.nl s.h.d.nc, .slice s.h.d.ta s.h.d.tl s.h.d.tc] := slot_of (hdep 5 (by decide +kernel))
            have e37 : a.tmps[37]?.getD undef = .agg #[.slice h.na h.nl h.nc, .int .i64 f.typ, .int .i64 f.kind, .int .i64 f.rank, .int .i64 f.got, .int .i64 f.ttl, .slice h.sa h.sl h.sc, .slice h.za h.zl h.zc, .slice h.d.ba h.d.bl h.d.bc, .slice h.d.ha h.d.hl h.d.hc, .slice h.d.ma h.d.ml h.d.mc, .slice h.d.na h.d.nl h.d.nc, .slice h.d.ta h.d.tl h.d.tc] := slot_of (hdep 6 (by decide +kernel))
            have e38 : a.tmps[38]?.getD undef = .int .i64 now := slot_of (hdep 7 (by decide +kernel))
            have e32 : a.tmps[32]?.getD undef = .bool true := slot_of (hdep 1 (by decide +kernel))
            have g32 : a.tmps[32]? = some (.bool true) := slot_at (show _ = 45 from hS.size) (by decide) (hdep 1 (by decide +kernel))
            go_simp
            have hbx := below_on (B := Z.heap.size) (Below.drew (Below.refl _ _)) hR (Nat.le_refl _)
            refine (HBT.out _ hbx).mono ?_
            rintro e W' ⟨rfl, hb⟩
            exact hK _ _ hb rfl
          refine soup_cons rfl rfl (fun a V hR hS hdep K hK => ?_) ?_
          · have e39 : a.tmps[39]?.getD undef = .bool BT := slot_of (hdep 8 (by decide +kernel))
            have e32 : a.tmps[32]?.getD undef = .bool true := slot_of (hdep 1 (by decide +kernel))
            have g32 : a.tmps[32]? = some (.bool true) := slot_at (show _ = 45 from hS.size) (by decide) (hdep 1 (by decide +kernel))
            go_simp
            exact hK _ _ (Below.refl _ _) (by first | rfl | simp)
          refine soup_cons rfl rfl (fun a V hR hS hdep K hK => ?_) ?_
          · have e32 : a.tmps[32]?.getD undef = .bool true := slot_of (hdep 1 (by decide +kernel))
            have e40 : a.tmps[40]?.getD undef = .bool (!BT) := slot_of (hdep 9 (by decide +kernel))
            go_simp
            exact hK _ _ (Below.refl _ _) (by first | rfl | (rw [HX10.out]; rfl) | (rw [HX10.out]; simp) | simp [HX10.out])
          exact fun j h1 h2 => absurd h1 (by simp only [List.size_toArray, List.length_cons, List.length_nil]; omega)
        refine soup_cons rfl rfl (fun a Z hR hS hdep K hK => ?_) ?_
        · have e0 : a.tmps[0]?.getD undef = .pointer (some ⟨C, 0, none⟩) := slot_of (hS.keep 0 (by kernel_rfl))
          go_simp
          exact hK _ _ (Below.refl _ _) (by first | rfl | simp)
        refine soup_cons rfl rfl (fun a Z hR hS hdep K hK => ?_) ?_
        · have e22 : a.tmps[22]?.getD undef = .pointer (some ⟨C, 0, none⟩) := slot_of (hdep 0 (by decide +kernel))
          go_simp
          exact hK _ _ (Below.refl _ _) (by first | rfl | simp)
        refine soup_cons rfl rfl (fun a Z hR hS hdep K hK => ?_) ?_
        · have e23 : a.tmps[23]?.getD undef = .pointer (some ⟨C, 0, none⟩) := slot_of (hdep 1 (by decide +kernel))
          go_simp
          exact hK _ _ (Below.refl _ _) (by first | rfl | simp)
        refine soup_cons rfl rfl (fun a Z hR hS hdep K hK => ?_) ?_
        · have e24 : a.tmps[24]?.getD undef = .pointer (some ⟨C, 2, none⟩) := slot_of (hdep 2 (by decide +kernel))
          have m0 := cell_keep hR HMC.out
          go_simp
          exact hK _ _ (Below.refl _ _) (by first | rfl | simp)
        refine soup_cons rfl rfl (fun a Z hR hS hdep K hK => ?_) ?_
        · have e4 : a.tmps[4]?.getD undef = .pointer (some ⟨w.heap.size, 0, none⟩) := slot_of (hS.keep 4 (by kernel_rfl))
          have m0 := cell_keep hR HM0.out
          have m1 := cell_keep hR HM1.out
          have m2 := cell_keep hR HM2.out
          have m3 := cell_keep hR HM3.out
          have m4 := cell_keep hR HM4.out
          have m5 := cell_keep hR HM5.out
          have m6 := cell_keep hR HM6.out
          have m7 := cell_keep hR HM7.out
          have m8 := cell_keep hR HM8.out
          have m9 := cell_keep hR HM9.out
          have m10 := cell_keep hR HM10.out
          have m11 := cell_keep hR HM11.out
          have m12 := cell_keep hR HM12.out
          go_simp
          exact hK _ _ (Below.refl _ _) (by first | rfl | simp)
        refine soup_cons rfl rfl (fun a Z hR hS hdep K hK => ?_) ?_
        · have e26 : a.tmps[26]?.getD undef = .agg #[.slice h.na h.nl h.nc, .int .i64 f.typ, .int .i64 f.kind, .int .i64 f.rank, .int .i64 f.got, .int .i64 f.ttl, .slice h.sa h.sl h.sc, .slice h.za h.zl h.zc, .slice h.d.ba h.d.bl h.d.bc, .slice h.d.ha h.d.hl h.d.hc, .slice h.d.ma h.d.ml h.d.mc, .slice h.d.na h.d.nl h.d.nc, .slice h.d.ta h.d.tl h.d.tc] := slot_of (hdep 4 (by decide +kernel))
          go_simp
          have hbx := below_on (B := Y.heap.size) (Below.drew (Below.refl _ _)) hR (Nat.le_refl _)
          refine (HKY.out _ hbx).mono ?_
          rintro e W' ⟨rfl, hb⟩
          exact hK _ _ hb rfl
        refine soup_cons rfl rfl (fun a Z hR hS hdep K hK => ?_) ?_
        · have e25 : a.tmps[25]?.getD undef = .map (some M) := slot_of (hdep 3 (by decide +kernel))
          have e27 : a.tmps[27]?.getD undef = .string (⟨(keyF f).toArray⟩) := slot_of (hdep 5 (by decide +kernel))
          go_simp
          have hbx := below_on (B := Y.heap.size) (Below.drew (Below.refl _ _)) hR (Nat.le_refl _)
          rw [HLK.out _ hbx]
          exact hK _ _ (Below.refl _ _) rfl
        refine soup_cons rfl rfl (fun a Z hR hS hdep K hK => ?_) ?_
        · have e28 : a.tmps[28]?.getD undef = .tuple #[.pointer (some ⟨s.b, 0, none⟩), .bool true] := slot_of (hdep 6 (by decide +kernel))
          go_simp
          exact hK _ _ (Below.refl _ _) (by first | rfl | simp)
        refine soup_cons rfl rfl (fun a Z hR hS hdep K hK => ?_) ?_
        · have e21 : a.tmps[21]?.getD undef = .tuple #[.pointer (some ⟨s.b, 0, none⟩), .bool true] := slot_of (hdep 7 (by decide +kernel))
          go_simp
          exact hK _ _ (Below.refl _ _) rfl
        refine soup_cons rfl rfl (fun a Z hR hS hdep K hK => ?_) ?_
        · have e21 : a.tmps[21]?.getD undef = .tuple #[.pointer (some ⟨s.b, 0, none⟩), .bool true] := slot_of (hdep 7 (by decide +kernel))
          go_simp
          exact hK _ _ (Below.refl _ _) rfl
        refine soup_cons rfl rfl (fun a Z hR hS hdep K hK => ?_) ?_
        · have e29 : a.tmps[29]?.getD undef = .pointer (some ⟨s.b, 0, none⟩) := slot_of (hdep 8 (by decide +kernel))
          go_simp
          exact hK _ _ (Below.refl _ _) (by first | rfl | simp)
        refine soup_cons rfl rfl (fun a Z hR hS hdep K hK => ?_) ?_
        · have e30 : a.tmps[30]?.getD undef = .bool true := slot_of (hdep 9 (by decide +kernel))
          go_simp
          exact hK _ _ (Below.refl _ _) (by first | rfl | simp)
        exact fun j h1 h2 => absurd h1 (by simp only [List.size_toArray, List.length_cons, List.length_nil]; omega)

end Go.Proofs.YtpemdieejgldiaaGreat

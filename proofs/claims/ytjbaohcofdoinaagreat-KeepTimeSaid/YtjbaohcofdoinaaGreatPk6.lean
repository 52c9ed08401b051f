/- Packed: Ccopy, Kans16, Kksync, Kkwcomp, Kfound, Klscan, Klread, Klreadl, Kopeng, Kagain, Kelem, Kkopen, Kentk, Call, Csort, Callw, Callx, Kkall, Kcompact, Kdec, Ktime, Ktimew. -/
import Derived.Deep.RegionHeld3
import Derived.Deep.RegionLaw
import Derived.Deep.CutBlock
import Derived.Deep.DeepCutAuto
import Derived.Deep.RegionWith
import Derived.Laws.Rows
import Derived.Test.YtjbaohcofdoinaaGreatShelfS
import Derived.Defers
import Derived.Recover
import Derived.Laws.Pointers
import Derived.Test.YtjbaohcofdoinaaGreatPk5
namespace Go.Proofs.YtjbaohcofdoinaaGreat
section
open Go.ChangeShapes Go.WideShapes Go.ChangeAt Go.RowKit
structure CpSt (w wr : World) (M r n D M2 : Nat) (Dm : DataW Unit) (most stale : Int) (k : Nat) (L : List Slot) (left : Lit → Bool) (cnt : Nat) (g : Slot → Slot) : Prop where
  rg : wr.ranges Tryz.prog 9 ptrR M r n Dm left cnt
  bel : Below w.heap.size w wr
  same : ∀ t ∈ L, (g t).f = t.f ∧ (g t).used = t.used
  ca : IsCache w.heap.size wr D most stale k (cpL L left g)
  blk : Blk wr D #[.int .i64 most, .int .i64 stale, .map (some M2), .int .i64 k] 75
  ml : MapL wr M2 (cpL L left g)
set_option maxHeartbeats 64000000 in
set_option maxRecDepth 100000 in
theorem copy_any (w : World) (B C : Nat) (most stale : Int) (k : Nat) (L : List Slot) (hC : IsCache B w C most stale k L) (hL : L.length < 100000) :
    Calls Tryz.prog 46 #[.pointer (some ⟨C, 0, none⟩)] w fun e w' => (∃ D g, e = .returned (.pointer (some ⟨D, 0, none⟩)) ∧ (∀ t ∈ L, (g t).f = t.f ∧ (g t).used = t.used) ∧ IsCache w.heap.size w' D most stale k (L.map g)) ∧ Below w.heap.size w w' := by
  obtain ⟨M, hCb, hMB, hML⟩ := hC.ex
  have HM0 := Lib.hid (show w.drew.cell? ⟨C, 0, none⟩ = some (.int .i64 most) from hCb.cell 0)
  have HM1 := Lib.hid (show w.drew.cell? ⟨C, 1, none⟩ = some (.int .i64 stale) from hCb.cell 1)
  have HM3 := Lib.hid (show w.drew.cell? ⟨C, 3, none⟩ = some (.int .i64 k) from hCb.cell 3)
  have HLN := Lib.hid hL
  clear hL
  obtain ⟨n, Dm, h1, h2, h3, h4⟩ := hML
  have HC := Lib.hid (And.intro hC (And.intro hCb (And.intro hMB (And.intro h2 (And.intro h3 h4)))))
  have HO := Lib.hid h1
  have hmm := @run_makeMap Tryz.prog
  clear hC hCb hMB h1 h2 h3 h4
  go_enter Tryz.func46, Tryz.ntmps46
  go_wp2_with fail
  refine wp_soup0 (m := 50) (by kernel_rfl) (fun x y => Below x.heap.size x y) (fun i v xw => match i with | 0 => v = .pointer (some ⟨C, 0, none⟩) | 1 => v = .pointer (some ⟨C, 0, none⟩) | 2 => v = .pointer (some ⟨C, 0, none⟩) | 3 => v = .int .i64 most | 4 => v = .pointer (some ⟨C, 0, none⟩) | 5 => v = .pointer (some ⟨C, 0, none⟩) | 6 => v = .pointer (some ⟨C, 1, none⟩) | 7 => v = .int .i64 stale | 8 => ∃ m, v = .map (some m) ∧ w.heap.size ≤ m ∧ MapL xw m [] | 9 => v = .pointer (some ⟨C, 0, none⟩) | 10 => v = .pointer (some ⟨C, 0, none⟩) | 11 => v = .pointer (some ⟨C, 3, none⟩) | 12 => v = .int .i64 ((k : Int)) | 13 => ∃ m, v = .agg #[.int .i64 most, .int .i64 stale, .map (some m), .int .i64 k] ∧ w.heap.size ≤ m ∧ MapL xw m [] | 14 => ∃ d m, v = .pointer (some ⟨d, 0, none⟩) ∧ w.heap.size ≤ m ∧ MapL xw m [] ∧ Blk xw d #[.int .i64 most, .int .i64 stale, .map (some m), .int .i64 k] 75 ∧ w.heap.size ≤ d | 15 => ∃ d m, v = .pointer (some ⟨d, 0, none⟩) ∧ w.heap.size ≤ m ∧ MapL xw m [] ∧ Blk xw d #[.int .i64 most, .int .i64 stale, .map (some m), .int .i64 k] 75 ∧ w.heap.size ≤ d | _ => True) rfl (by kernel_rfl) (fun _ _ _ h1 h2 => below_on h1 h2 (Nat.le_refl _)) (Below.refl _ _) (by intro i v x y h hxy; match i, h with | 0, h => exact h | 1, h => exact h | 2, h => exact h | 3, h => exact h | 4, h => exact h | 5, h => exact h | 6, h => exact h | 7, h => exact h | 8, ⟨m, e, h1, h2⟩ => exact ⟨m, e, h1, h2.on (hxy.block m h2.lt)⟩ | 9, h => exact h | 10, h => exact h | 11, h => exact h | 12, h => exact h | 13, ⟨m, e, h1, h2⟩ => exact ⟨m, e, h1, h2.on (hxy.block m h2.lt)⟩ | 14, ⟨d, m, e, h1, h2, h3, h4⟩ => exact ⟨d, m, e, h1, h2.on (hxy.block m h2.lt), h3.on hxy, h4⟩ | 15, ⟨d, m, e, h1, h2, h3, h4⟩ => exact ⟨d, m, e, h1, h2.on (hxy.block m h2.lt), h3.on hxy, h4⟩ | _ + 16, _ => trivial) (dst_but 16 (by kernel_rfl) (fun _ _ h => h)) ?_ ?_
  rotate_left
  · intro a W hR hS hdep
    have e0 : a.tmps.getD 0 undef = .pointer (some ⟨C, 0, none⟩) := hS.keep 0 (by kernel_rfl)
    obtain ⟨D5, M5, q, hnm5, hmm5, hdb5, hnd5⟩ := hdep 15 (by decide +kernel)
    have e3 : a.tmps.getD 3 undef = .pointer (some ⟨D5, 0, none⟩) := q
    clear q
    obtain ⟨T, df⟩ := a
    obtain rfl : df = [] := hS.defers
    have hT : T = #[T.getD 0 undef, T.getD 1 undef, T.getD 2 undef, T.getD 3 undef, T.getD 4 undef, T.getD 5 undef, T.getD 6 undef, T.getD 7 undef, T.getD 8 undef, T.getD 9 undef, T.getD 10 undef, T.getD 11 undef, T.getD 12 undef, T.getD 13 undef, T.getD 14 undef, T.getD 15 undef, T.getD 16 undef, T.getD 17 undef, T.getD 18 undef, T.getD 19 undef, T.getD 20 undef, T.getD 21 undef, T.getD 22 undef, T.getD 23 undef, T.getD 24 undef, T.getD 25 undef, T.getD 26 undef, T.getD 27 undef, T.getD 28 undef, T.getD 29 undef, T.getD 30 undef, T.getD 31 undef, T.getD 32 undef, T.getD 33 undef, T.getD 34 undef, T.getD 35 undef, T.getD 36 undef, T.getD 37 undef, T.getD 38 undef, T.getD 39 undef, T.getD 40 undef, T.getD 41 undef, T.getD 42 undef, T.getD 43 undef, T.getD 44 undef, T.getD 45 undef, T.getD 46 undef, T.getD 47 undef, T.getD 48 undef, T.getD 49 undef] := arr_eta T 50 hS.size
    have k0 : T.getD 0 undef = .pointer (some ⟨C, 0, none⟩) := e0
    have k3 : T.getD 3 undef = .pointer (some ⟨D5, 0, none⟩) := e3
    clear hS hdep
    rw [hT]
    rw [k0]
    clear k0 e0
    rw [k3]
    clear k3 e3
    clear hT
    generalize T.getD 1 undef = u1
    generalize T.getD 2 undef = u2
    generalize T.getD 4 undef = u4
    generalize T.getD 5 undef = u5
    generalize T.getD 6 undef = u6
    generalize T.getD 7 undef = u7
    generalize T.getD 8 undef = u8
    generalize T.getD 9 undef = u9
    generalize T.getD 10 undef = u10
    generalize T.getD 11 undef = u11
    generalize T.getD 12 undef = u12
    generalize T.getD 13 undef = u13
    generalize T.getD 14 undef = u14
    generalize T.getD 15 undef = u15
    generalize T.getD 16 undef = u16
    generalize T.getD 17 undef = u17
    generalize T.getD 18 undef = u18
    generalize T.getD 19 undef = u19
    generalize T.getD 20 undef = u20
    generalize T.getD 21 undef = u21
    generalize T.getD 22 undef = u22
    generalize T.getD 23 undef = u23
    generalize T.getD 24 undef = u24
    generalize T.getD 25 undef = u25
    generalize T.getD 26 undef = u26
    generalize T.getD 27 undef = u27
    generalize T.getD 28 undef = u28
    generalize T.getD 29 undef = u29
    generalize T.getD 30 undef = u30
    generalize T.getD 31 undef = u31
    generalize T.getD 32 undef = u32
    generalize T.getD 33 undef = u33
    generalize T.getD 34 undef = u34
    generalize T.getD 35 undef = u35
    generalize T.getD 36 undef = u36
    generalize T.getD 37 undef = u37
    generalize T.getD 38 undef = u38
    generalize T.getD 39 undef = u39
    generalize T.getD 40 undef = u40
    generalize T.getD 41 undef = u41
    generalize T.getD 42 undef = u42
    generalize T.getD 43 undef = u43
    generalize T.getD 44 undef = u44
    generalize T.getD 45 undef = u45
    generalize T.getD 46 undef = u46
    generalize T.getD 47 undef = u47
    generalize T.getD 48 undef = u48
    generalize T.getD 49 undef = u49
    have hbx := below_on (B := w.heap.size) (Below.drew (Below.refl _ _)) hR (Nat.le_refl _)
    clear hR
    have q2 : W.cell? ⟨C, 2, none⟩ = some (.map (some M)) := (HC.out.2.1.on hbx).cell 2
    have HO2 := Lib.hid (show W.ownsMap Tryz.prog 9 ptrR M n Dm from by obtain ⟨es, clock, a1, a2⟩ := HO.out; exact ⟨es, clock, (hbx.block M HO.out.lt).trans a1, a2⟩)
    have HBX := Lib.hid hbx
    have H5 := Lib.hid (And.intro hnm5 (And.intro hmm5 (And.intro hdb5 hnd5)))
    clear hmm hbx hnm5 hmm5 hdb5 hnd5
    go_wp2_with (at_range; go_loud (refine wpList_range_own _ rfl _ 73 rfl 9 131 lawK Tryz.underlying73 ptrR M n Dm rfl HO2.out ?_; intro W6 hrg0 hg0 hs0))
    try go_frame
    clear q2
    have hb6 : Below w.heap.size w W6 := HBX.out.grown hg0 HBX.out.size (fun k e => by cases e)
    have h6 : Below W.heap.size W W6 := (Below.refl _ _).grown hg0 (Nat.le_refl _) (fun k e => by cases e)
    have hst : CpSt w W6 M W.heap.size n D5 M5 Dm most stale k L (Maps.has Dm) (Maps.size Dm) id := by
      have hall : ∀ s ∈ L, Maps.has Dm (.string (keyF s.f)) = true := fun s hs => by
        have := HC.out.2.2.2.2.2 (keyF s.f)
        rw [atL_of_mem HC.out.1.keys hs] at this
        exact Maps.has_true_of_atKey this
      have e : cpL L (Maps.has Dm) id = [] := by
        rw [cpL, List.map_eq_nil_iff, List.filter_eq_nil_iff]
        intro s hs; simp [hall s hs]
      have hD6 := H5.out.2.2.1.on h6
      have hM6 := H5.out.2.1.on (h6.block M5 H5.out.2.1.lt)
      refine ⟨hrg0, hb6, fun t _ => ⟨rfl, rfl⟩, ?_, hD6, by rw [e]; exact hM6⟩
      rw [e]
      exact ⟨⟨M5, hD6, H5.out.1, hM6⟩, H5.out.2.2.2, by simp, List.Pairwise.nil, List.Pairwise.nil, by simp, List.Pairwise.nil⟩
    have HST := Lib.hid hst
    have HRW := Lib.hid HBX.out.size
    clear hrg0 hg0 hs0 hb6 h6 hst
    obtain ⟨r, hr⟩ : ∃ r, r = W.heap.size := ⟨_, rfl⟩
    rw [← hr] at HST HRW ⊢
    clear hr
    go_loopw [4] (fun _ wr => Hid (∃ left cnt g, CpSt w wr M r n D5 M5 Dm most stale k L left cnt g)) (fun _ wr => wr.rangeLeft M r)
    case atStart => exact Lib.hid ⟨_, _, _, HST.out⟩
    case round =>
      obtain ⟨left, cnt, g, hst⟩ := hrel.out
      have HF := Lib.hid hst
      clear hrel hst
      go_wp2_with (at_next; refine wpList_next_ranges _ rfl _ rfl 9 lawK ptrR Value.string ptrO str_key ptrR_shape M r n Dm left cnt rfl HF.out.rg ?_ ?_)
      · intro hc0 hl0
        have hfe : cpL L left g = L.map g := by
          rw [cpL, List.filter_eq_self.2 (fun s _ => by simp [hl0])]
        have hca := HF.out.ca
        rw [hfe] at hca
        have HE := Lib.hid hca
        clear hl0 hfe hca
        go_wp2_with fail
        go_ret
        exact ⟨⟨D5, g, rfl, HF.out.same, HE.out⟩, HF.out.bel⟩
      · intro x o kl y1 y2 w1 cnt1 hxk hlk hRy hat hrg1 hlt hg1 hs1 hen
        obtain rfl := str_key_lit hxk
        obtain ⟨s, hsL, rfl, hxs⟩ := ptrO_at (y := (y1, y2)) HC.out.2.2.2.2.2 hRy hat
        simp only [ptrO] at hen ⊢
        have hic := iter_cells HF.out.rg
        obtain ⟨hca1, _⟩ := HF.out.ca.iter hg1 hic.1 hic.2 HRW.out HF.out.rg.lt
        have hbl1 : Blk w1 D5 #[.int .i64 most, .int .i64 stale, .map (some M5), .int .i64 k] 75 := HF.out.blk.but hg1 (by rintro rfl; exact hic.1 _ _ _ HF.out.blk)
        have hml1 : MapL w1 M5 (cpL L left g) := HF.out.ml.on (hg1.block M5 HF.out.ml.lt (fun e => by
          obtain ⟨_, _, ⟨es, clock, h1, _⟩, _⟩ := HF.out.ml
          have e := Option.some.inj e
          subst e
          exact hic.2 _ _ h1))
        have hbw1 : Below w.heap.size w w1 := HF.out.bel.grown hg1 HF.out.bel.size (fun k e => by cases e; exact HRW.out)
        have HP1 := Lib.hid (And.intro hbw1 (And.intro hca1 (And.intro hbl1 hml1)))
        have HR1 := Lib.hid (And.intro hrg1 hlt)
        have HSL := Lib.hid (And.intro hsL hxs)
        have hsl := (HC.out.1.slot s hsL)
        have hit := hsl.2.1.on hbw1
        have HSF := Lib.hid (And.intro (hsl.2.2.1.on hbw1) hsl.2.2.2.2)
        have HSX := Lib.hid (And.intro hsL hsl.2.2.2.1)
        have HLK := Lib.hid (show left (.string (keyF s.f)) = true by rw [← hxs]; exact hlk)
        have HLC := Lib.hid (show (cpL L left g).length < 100000 by
          have : (cpL L left g).length ≤ L.length := by rw [cpL, List.length_map]; exact List.length_filter_le _ _
          have := HLN.out
          omega)
        have HD2 := Lib.hid (show w1.drew.cell? ⟨D5, 2, none⟩ = some (.map (some M5)) from hbl1.cell 2)
        have HS13 := Lib.hid (show w1.drew.cell? ⟨s.b, 13, none⟩ = some (.int .i64 (s.used : Int)) from hit.cell 13)
        have HS0 := Lib.hid (show w1.drew.cell? ⟨s.b, 0, none⟩ = some (.slice s.h.na s.h.nl s.h.nc) from hit.cell 0)
        have HS1 := Lib.hid (show w1.drew.cell? ⟨s.b, 1, none⟩ = some (.int .i64 s.f.typ) from hit.cell 1)
        have HS2 := Lib.hid (show w1.drew.cell? ⟨s.b, 2, none⟩ = some (.int .i64 s.f.kind) from hit.cell 2)
        have HS3 := Lib.hid (show w1.drew.cell? ⟨s.b, 3, none⟩ = some (.int .i64 s.f.rank) from hit.cell 3)
        have HS4 := Lib.hid (show w1.drew.cell? ⟨s.b, 4, none⟩ = some (.int .i64 s.f.got) from hit.cell 4)
        have HS5 := Lib.hid (show w1.drew.cell? ⟨s.b, 5, none⟩ = some (.int .i64 s.f.ttl) from hit.cell 5)
        have HS6 := Lib.hid (show w1.drew.cell? ⟨s.b, 6, none⟩ = some (.slice s.h.sa s.h.sl s.h.sc) from hit.cell 6)
        have HS7 := Lib.hid (show w1.drew.cell? ⟨s.b, 7, none⟩ = some (.slice s.h.za s.h.zl s.h.zc) from hit.cell 7)
        have HS8 := Lib.hid (show w1.drew.cell? ⟨s.b, 8, none⟩ = some (.slice s.h.d.ba s.h.d.bl s.h.d.bc) from hit.cell 8)
        have HS9 := Lib.hid (show w1.drew.cell? ⟨s.b, 9, none⟩ = some (.slice s.h.d.ha s.h.d.hl s.h.d.hc) from hit.cell 9)
        have HS10 := Lib.hid (show w1.drew.cell? ⟨s.b, 10, none⟩ = some (.slice s.h.d.ma s.h.d.ml s.h.d.mc) from hit.cell 10)
        have HS11 := Lib.hid (show w1.drew.cell? ⟨s.b, 11, none⟩ = some (.slice s.h.d.na s.h.d.nl s.h.d.nc) from hit.cell 11)
        have HS12 := Lib.hid (show w1.drew.cell? ⟨s.b, 12, none⟩ = some (.slice s.h.d.ta s.h.d.tl s.h.d.tc) from hit.cell 12)
        clear hxk hlk hRy hat hrg1 hlt hg1 hs1 hsL hxs hic hca1 hbl1 hml1 hbw1 hsl hit
        go_wp2_with fail
        clear hen
        refine wp_soup_tail (m := 50) 16 (by kernel_rfl) (fun x y => Below x.heap.size x y) (fun i v xw => match i with | 0 => v = .pointer (some ⟨D5, 0, none⟩) | 1 => v = .pointer (some ⟨D5, 0, none⟩) | 2 => v = .pointer (some ⟨D5, 2, none⟩) | 3 => v = .map (some M5) | 4 => v = .string x | 5 => v = .pointer (some ⟨s.b, 0, none⟩) | 6 => v = .pointer (some ⟨s.b, 0, none⟩) | 7 => v = .pointer (some ⟨s.b, 0, none⟩) | 8 => v = .agg #[.slice s.h.na s.h.nl s.h.nc, .int .i64 s.f.typ, .int .i64 s.f.kind, .int .i64 s.f.rank, .int .i64 s.f.got, .int .i64 s.f.ttl, .slice s.h.sa s.h.sl s.h.sc, .slice s.h.za s.h.zl s.h.zc, .slice s.h.d.ba s.h.d.bl s.h.d.bc, .slice s.h.d.ha s.h.d.hl s.h.d.hc, .slice s.h.d.ma s.h.d.ml s.h.d.mc, .slice s.h.d.na s.h.d.nl s.h.d.nc, .slice s.h.d.ta s.h.d.tl s.h.d.tc] | 9 => ∃ kk, v = .agg (factC kk s.f) ∧ OwnF w1.heap.size xw kk s.f | 10 => v = .pointer (some ⟨s.b, 0, none⟩) | 11 => v = .pointer (some ⟨s.b, 0, none⟩) | 12 => v = .pointer (some ⟨s.b, 13, none⟩) | 13 => v = .int .i64 ((s.used : Int)) | 14 => ∃ kk, v = .agg (itemC ⟨0, kk, s.f, s.used⟩) ∧ OwnF w1.heap.size xw kk s.f | 15 => ∃ X kk, v = .pointer (some ⟨X, 0, none⟩) ∧ w1.heap.size ≤ X ∧ Blk xw X (itemC ⟨X, kk, s.f, s.used⟩) 134 ∧ OwnF w1.heap.size xw kk s.f | _ => True) rfl (by kernel_rfl) (by kernel_rfl) (fun _ _ _ h1 h2 => below_on h1 h2 (Nat.le_refl _)) (Below.refl _ _) (by intro i v x y h hxy; match i, h with | 0, h => exact h | 1, h => exact h | 2, h => exact h | 3, h => exact h | 4, h => exact h | 5, h => exact h | 6, h => exact h | 7, h => exact h | 8, h => exact h | 9, ⟨kk, e, h⟩ => exact ⟨kk, e, h.on hxy⟩ | 10, h => exact h | 11, h => exact h | 12, h => exact h | 13, h => exact h | 14, ⟨kk, e, h⟩ => exact ⟨kk, e, h.on hxy⟩ | 15, ⟨X, kk, e, h1, h2, h3⟩ => exact ⟨X, kk, e, h1, h2.on hxy, h3.on hxy⟩ | _ + 16, _ => trivial) (dst_head (by kernel_rfl)) ?_ ?_
        rotate_left
        · intro a W hR hS hdep
          have e3 : a.tmps.getD 3 undef = .pointer (some ⟨D5, 0, none⟩) := hS.keep 3 (by kernel_rfl)
          have e36 : a.tmps.getD 36 undef = .map (some M5) := hdep 3 (by decide +kernel)
          have e37 : a.tmps.getD 37 undef = .string x := hdep 4 (by decide +kernel)
          obtain ⟨X15, k15, q, hx15, hb15, ho15⟩ := hdep 15 (by decide +kernel)
          have e48 : a.tmps.getD 48 undef = .pointer (some ⟨X15, 0, none⟩) := q
          clear q
          obtain ⟨T, df⟩ := a
          obtain rfl : df = [] := hS.defers
          have hT := tmps_same hS 50 rfl [33, 34, 35, 36, 37, 38, 39, 40, 41, 42, 43, 44, 45, 46, 47, 48] (by kernel_rfl)
          simp only [List.foldl_cons, List.foldl_nil, List.setIfInBounds_toArray, List.set_cons_succ, List.set_cons_zero] at hT
          have k36 : T.getD 36 undef = .map (some M5) := e36
          have k37 : T.getD 37 undef = .string x := e37
          have k48 : T.getD 48 undef = .pointer (some ⟨X15, 0, none⟩) := e48
          clear hS hdep
          rw [hT]
          rw [k36]
          clear k36 e36
          rw [k37]
          clear k37 e37
          rw [k48]
          clear k48 e48
          clear hT
          generalize T.getD 33 undef = u33
          generalize T.getD 34 undef = u34
          generalize T.getD 35 undef = u35
          generalize T.getD 38 undef = u38
          generalize T.getD 39 undef = u39
          generalize T.getD 40 undef = u40
          generalize T.getD 41 undef = u41
          generalize T.getD 42 undef = u42
          generalize T.getD 43 undef = u43
          generalize T.getD 44 undef = u44
          generalize T.getD 45 undef = u45
          generalize T.getD 46 undef = u46
          generalize T.getD 47 undef = u47
          have hbx := below_on (B := w1.heap.size) (Below.drew (Below.refl _ _)) hR (Nat.le_refl _)
          have hMW := HP1.out.2.2.2.on (hbx.block M5 HP1.out.2.2.2.lt)
          obtain ⟨W4, hrun, hM4, hg4, _⟩ := hMW.store (HP1.out.2.1.on hbx).keys HLC.out ⟨X15, k15, s.f, s.used⟩ (by show (keyF s.f).length ≤ _; have := fact_small HSX.out.2; rw [keyF, keyP_size]; omega)
          rw [show (⟨(keyF s.f).toArray⟩ : ByteArray) = x by rw [← HSL.out.2]] at hrun
          clear hR
          go_wp2_with fail
          have hg := HR1.out.1
          have hm1 := HP1.out.2.2.2
          obtain ⟨g', hg', hca', hbl', hml'⟩ := cp_step HC.out.1.keys HC.out.1.order HC.out.1.used HF.out.same HSL.out.1 HLK.out HP1.out.2.1 HP1.out.2.2.1 H5.out.1 hm1 hbx hx15 hb15 (ho15.mono (fun b _ ht => ht.1)) HSX.out.2 HSF.out.2 hM4 hg4
          have hM5 : M ≠ M5 := by have := HO.out.lt; have := H5.out.1; omega
          have hr5 : r ≠ M5 := by
            rintro rfl
            obtain ⟨_, _, ⟨es, clock, h1, _⟩, _⟩ := hm1
            exact (iter_cells hg).2 _ _ h1
          have hrg4 := ranges_on hg ((hg4.block M (by have := hg.owns.lt; have := hbx.size; omega) (fun e => hM5 (Option.some.inj e))).trans (hbx.block M hg.owns.lt)) ((hg4.block r (by have := hg.lt; have := hbx.size; omega) (fun e => hr5 (Option.some.inj e))).trans (hbx.block r hg.lt))
          have hbW := (below_on HP1.out.1 hbx (Nat.le_refl _)).grown hg4 (below_on HP1.out.1 hbx (Nat.le_refl _)).size (fun j e => by cases e; exact H5.out.1)
          refine ⟨Lib.hid ⟨_, _, g', hrg4, hbW, hg', ?_, hbl', ?_⟩, ?_⟩
          · rw [HSL.out.2]; exact hca'
          · rw [HSL.out.2]; exact hml'
          · rw [hrg4.left_eq, HF.out.rg.left_eq]; exact HR1.out.2
        refine soup_cons rfl rfl (fun a W hR hS hdep K hK => ?_) ?_
        · have e3 : a.tmps[3]?.getD undef = .pointer (some ⟨D5, 0, none⟩) := slot_of (hS.keep 3 (by kernel_rfl))
          go_simp
          exact hK _ _ (Below.refl _ _) (by first | rfl | simp)
        refine soup_cons rfl rfl (fun a W hR hS hdep K hK => ?_) ?_
        · have e33 : a.tmps[33]?.getD undef = .pointer (some ⟨D5, 0, none⟩) := slot_of (hdep 0 (by decide +kernel))
          go_simp
          exact hK _ _ (Below.refl _ _) (by first | rfl | simp)
        refine soup_cons rfl rfl (fun a W hR hS hdep K hK => ?_) ?_
        · have e34 : a.tmps[34]?.getD undef = .pointer (some ⟨D5, 0, none⟩) := slot_of (hdep 1 (by decide +kernel))
          go_simp
          exact hK _ _ (Below.refl _ _) (by first | rfl | simp)
        refine soup_cons rfl rfl (fun a W hR hS hdep K hK => ?_) ?_
        · have e35 : a.tmps[35]?.getD undef = .pointer (some ⟨D5, 2, none⟩) := slot_of (hdep 2 (by decide +kernel))
          have m0 := cell_keep hR HD2.out
          go_simp
          exact hK _ _ (Below.refl _ _) (by first | rfl | simp)
        refine soup_cons rfl rfl (fun a W hR hS hdep K hK => ?_) ?_
        · have e4 : a.tmps[4]?.getD undef = .string x := slot_of (hS.keep 4 (by kernel_rfl))
          go_simp
          exact hK _ _ (Below.refl _ _) (by first | rfl | simp)
        refine soup_cons rfl rfl (fun a W hR hS hdep K hK => ?_) ?_
        · have e5 : a.tmps[5]?.getD undef = .pointer (some ⟨s.b, 0, none⟩) := slot_of (hS.keep 5 (by kernel_rfl))
          go_simp
          exact hK _ _ (Below.refl _ _) (by first | rfl | simp)
        refine soup_cons rfl rfl (fun a W hR hS hdep K hK => ?_) ?_
        · have e38 : a.tmps[38]?.getD undef = .pointer (some ⟨s.b, 0, none⟩) := slot_of (hdep 5 (by decide +kernel))
          go_simp
          exact hK _ _ (Below.refl _ _) (by first | rfl | simp)
        refine soup_cons rfl rfl (fun a W hR hS hdep K hK => ?_) ?_
        · have e39 : a.tmps[39]?.getD undef = .pointer (some ⟨s.b, 0, none⟩) := slot_of (hdep 6 (by decide +kernel))
          go_simp
          exact hK _ _ (Below.refl _ _) (by first | rfl | simp)
        refine soup_cons rfl rfl (fun a W hR hS hdep K hK => ?_) ?_
        · have e40 : a.tmps[40]?.getD undef = .pointer (some ⟨s.b, 0, none⟩) := slot_of (hdep 7 (by decide +kernel))
          have m0 := cell_keep hR HS0.out
          have m1 := cell_keep hR HS1.out
          have m2 := cell_keep hR HS2.out
          have m3 := cell_keep hR HS3.out
          have m4 := cell_keep hR HS4.out
          have m5 := cell_keep hR HS5.out
          have m6 := cell_keep hR HS6.out
          have m7 := cell_keep hR HS7.out
          have m8 := cell_keep hR HS8.out
          have m9 := cell_keep hR HS9.out
          have m10 := cell_keep hR HS10.out
          have m11 := cell_keep hR HS11.out
          have m12 := cell_keep hR HS12.out
          go_simp
          exact hK _ _ (Below.refl _ _) (by first | rfl | simp)
        refine soup_cons rfl rfl (fun a W hR hS hdep K hK => ?_) ?_
        · have e41 : a.tmps[41]?.getD undef = .agg #[.slice s.h.na s.h.nl s.h.nc, .int .i64 s.f.typ, .int .i64 s.f.kind, .int .i64 s.f.rank, .int .i64 s.f.got, .int .i64 s.f.ttl, .slice s.h.sa s.h.sl s.h.sc, .slice s.h.za s.h.zl s.h.zc, .slice s.h.d.ba s.h.d.bl s.h.d.bc, .slice s.h.d.ha s.h.d.hl s.h.d.hc, .slice s.h.d.ma s.h.d.ml s.h.d.mc, .slice s.h.d.na s.h.d.nl s.h.d.nc, .slice s.h.d.ta s.h.d.tl s.h.d.tc] := slot_of (hdep 8 (by decide +kernel))
          go_simp
          have hbx := below_on (B := w1.heap.size) (Below.drew (Below.refl _ _)) hR (Nat.le_refl _)
          refine (fown_any _ _ s.h s.f (HSF.out.1.on hbx) HSF.out.2).mono ?_
          rintro e W' ⟨⟨kk, rfl, ho⟩, hb⟩
          exact hK _ _ hb ⟨kk, rfl, ho.mono (fun b _ ht => ⟨ht.1, Nat.le_trans hbx.size ht.2⟩)⟩
        refine soup_cons rfl rfl (fun a W hR hS hdep K hK => ?_) ?_
        · have e5 : a.tmps[5]?.getD undef = .pointer (some ⟨s.b, 0, none⟩) := slot_of (hS.keep 5 (by kernel_rfl))
          go_simp
          exact hK _ _ (Below.refl _ _) (by first | rfl | simp)
        refine soup_cons rfl rfl (fun a W hR hS hdep K hK => ?_) ?_
        · have e43 : a.tmps[43]?.getD undef = .pointer (some ⟨s.b, 0, none⟩) := slot_of (hdep 10 (by decide +kernel))
          go_simp
          exact hK _ _ (Below.refl _ _) (by first | rfl | simp)
        refine soup_cons rfl rfl (fun a W hR hS hdep K hK => ?_) ?_
        · have e44 : a.tmps[44]?.getD undef = .pointer (some ⟨s.b, 0, none⟩) := slot_of (hdep 11 (by decide +kernel))
          go_simp
          exact hK _ _ (Below.refl _ _) (by first | rfl | simp)
        refine soup_cons rfl rfl (fun a W hR hS hdep K hK => ?_) ?_
        · have e45 : a.tmps[45]?.getD undef = .pointer (some ⟨s.b, 13, none⟩) := slot_of (hdep 12 (by decide +kernel))
          have m0 := cell_keep hR HS13.out
          go_simp
          exact hK _ _ (Below.refl _ _) (by first | rfl | simp)
        refine soup_cons rfl rfl (fun a W hR hS hdep K hK => ?_) ?_
        · obtain ⟨k9, q, ho9⟩ := hdep 9 (by decide +kernel)
          have e42 : a.tmps[42]?.getD undef = .agg #[.slice k9.na k9.nl k9.nc, .int .i64 s.f.typ, .int .i64 s.f.kind, .int .i64 s.f.rank, .int .i64 s.f.got, .int .i64 s.f.ttl, .slice k9.sa k9.sl k9.sc, .slice k9.za k9.zl k9.zc, .slice k9.d.ba k9.d.bl k9.d.bc, .slice k9.d.ha k9.d.hl k9.d.hc, .slice k9.d.ma k9.d.ml k9.d.mc, .slice k9.d.na k9.d.nl k9.d.nc, .slice k9.d.ta k9.d.tl k9.d.tc] := slot_of q
          clear q
          have e46 : a.tmps[46]?.getD undef = .int .i64 ((s.used : Int)) := slot_of (hdep 13 (by decide +kernel))
          go_simp
          exact hK _ _ (Below.refl _ _) ⟨k9, rfl, ho9⟩
        refine soup_cons rfl rfl (fun a W hR hS hdep K hK => ?_) ?_
        · obtain ⟨k14, q, ho14⟩ := hdep 14 (by decide +kernel)
          have e47 : a.tmps[47]?.getD undef = .agg #[.slice k14.na k14.nl k14.nc, .int .i64 s.f.typ, .int .i64 s.f.kind, .int .i64 s.f.rank, .int .i64 s.f.got, .int .i64 s.f.ttl, .slice k14.sa k14.sl k14.sc, .slice k14.za k14.zl k14.zc, .slice k14.d.ba k14.d.bl k14.d.bc, .slice k14.d.ha k14.d.hl k14.d.hc, .slice k14.d.ma k14.d.ml k14.d.mc, .slice k14.d.na k14.d.nl k14.d.nc, .slice k14.d.ta k14.d.tl k14.d.tc, .int .i64 ((s.used : Int))] := slot_of q
          clear q
          go_simp
          have hbx := below_on (B := w1.heap.size) (Below.drew (Below.refl _ _)) hR (Nat.le_refl _)
          exact hK _ _ ((Below.refl _ _).alloc (Nat.le_refl _) _) ⟨_, k14, rfl, hbx.size, heap_alloc_new _ _, ho14.on ((Below.refl _ _).alloc (Nat.le_refl _) _)⟩
        exact fun j h1 h2 => absurd h1 (by omega)
  refine soup_cons rfl rfl (fun a W hR hS hdep K hK => ?_) ?_
  · have e0 : a.tmps[0]?.getD undef = .pointer (some ⟨C, 0, none⟩) := slot_of (hS.keep 0 (by kernel_rfl))
    go_simp
    exact hK _ _ (Below.refl _ _) (by first | rfl | simp)
  refine soup_cons rfl rfl (fun a W hR hS hdep K hK => ?_) ?_
  · have e8 : a.tmps[8]?.getD undef = .pointer (some ⟨C, 0, none⟩) := slot_of (hdep 0 (by decide +kernel))
    go_simp
    exact hK _ _ (Below.refl _ _) (by first | rfl | simp)
  refine soup_cons rfl rfl (fun a W hR hS hdep K hK => ?_) ?_
  · have e9 : a.tmps[9]?.getD undef = .pointer (some ⟨C, 0, none⟩) := slot_of (hdep 1 (by decide +kernel))
    go_simp
    exact hK _ _ (Below.refl _ _) (by first | rfl | simp)
  refine soup_cons rfl rfl (fun a W hR hS hdep K hK => ?_) ?_
  · have e10 : a.tmps[10]?.getD undef = .pointer (some ⟨C, 0, none⟩) := slot_of (hdep 2 (by decide +kernel))
    have m0 := cell_keep hR HM0.out
    go_simp
    exact hK _ _ (Below.refl _ _) (by first | rfl | simp)
  refine soup_cons rfl rfl (fun a W hR hS hdep K hK => ?_) ?_
  · have e0 : a.tmps[0]?.getD undef = .pointer (some ⟨C, 0, none⟩) := slot_of (hS.keep 0 (by kernel_rfl))
    go_simp
    exact hK _ _ (Below.refl _ _) (by first | rfl | simp)
  refine soup_cons rfl rfl (fun a W hR hS hdep K hK => ?_) ?_
  · have e12 : a.tmps[12]?.getD undef = .pointer (some ⟨C, 0, none⟩) := slot_of (hdep 4 (by decide +kernel))
    go_simp
    exact hK _ _ (Below.refl _ _) (by first | rfl | simp)
  refine soup_cons rfl rfl (fun a W hR hS hdep K hK => ?_) ?_
  · have e13 : a.tmps[13]?.getD undef = .pointer (some ⟨C, 0, none⟩) := slot_of (hdep 5 (by decide +kernel))
    go_simp
    exact hK _ _ (Below.refl _ _) (by first | rfl | simp)
  refine soup_cons rfl rfl (fun a W hR hS hdep K hK => ?_) ?_
  · have e14 : a.tmps[14]?.getD undef = .pointer (some ⟨C, 1, none⟩) := slot_of (hdep 6 (by decide +kernel))
    have m0 := cell_keep hR HM1.out
    go_simp
    exact hK _ _ (Below.refl _ _) (by first | rfl | simp)
  refine soup_cons rfl rfl (fun a W hR hS hdep K hK => ?_) ?_
  · go_simp
    have hbx := below_on (B := w.heap.size) (Below.drew (Below.refl _ _)) hR (Nat.le_refl _)
    exact hK _ _ ((Below.refl _ _).alloc (Nat.le_refl _) _) ⟨_, rfl, hbx.size, 0, _, World.ownsMap_made W _ _ _, by decide, rfl, fun key z => rfl⟩
  refine soup_cons rfl rfl (fun a W hR hS hdep K hK => ?_) ?_
  · have e0 : a.tmps[0]?.getD undef = .pointer (some ⟨C, 0, none⟩) := slot_of (hS.keep 0 (by kernel_rfl))
    go_simp
    exact hK _ _ (Below.refl _ _) (by first | rfl | simp)
  refine soup_cons rfl rfl (fun a W hR hS hdep K hK => ?_) ?_
  · have e17 : a.tmps[17]?.getD undef = .pointer (some ⟨C, 0, none⟩) := slot_of (hdep 9 (by decide +kernel))
    go_simp
    exact hK _ _ (Below.refl _ _) (by first | rfl | simp)
  refine soup_cons rfl rfl (fun a W hR hS hdep K hK => ?_) ?_
  · have e18 : a.tmps[18]?.getD undef = .pointer (some ⟨C, 0, none⟩) := slot_of (hdep 10 (by decide +kernel))
    go_simp
    exact hK _ _ (Below.refl _ _) (by first | rfl | simp)
  refine soup_cons rfl rfl (fun a W hR hS hdep K hK => ?_) ?_
  · have e19 : a.tmps[19]?.getD undef = .pointer (some ⟨C, 3, none⟩) := slot_of (hdep 11 (by decide +kernel))
    have m0 := cell_keep hR HM3.out
    go_simp
    exact hK _ _ (Below.refl _ _) (by first | rfl | simp)
  refine soup_cons rfl rfl (fun a W hR hS hdep K hK => ?_) ?_
  · have e11 : a.tmps[11]?.getD undef = .int .i64 most := slot_of (hdep 3 (by decide +kernel))
    have e15 : a.tmps[15]?.getD undef = .int .i64 stale := slot_of (hdep 7 (by decide +kernel))
    obtain ⟨M2, q, hnm, hmm2⟩ := hdep 8 (by decide +kernel)
    have e16 : a.tmps[16]?.getD undef = .map (some M2) := slot_of q
    clear q
    have e20 : a.tmps[20]?.getD undef = .int .i64 ((k : Int)) := slot_of (hdep 12 (by decide +kernel))
    go_simp
    exact hK _ _ (Below.refl _ _) ⟨M2, rfl, hnm, hmm2⟩
  refine soup_cons rfl rfl (fun a W hR hS hdep K hK => ?_) ?_
  · obtain ⟨M3, q, hnm3, hmm3⟩ := hdep 13 (by decide +kernel)
    have e21 : a.tmps[21]?.getD undef = .agg #[.int .i64 most, .int .i64 stale, .map (some M3), .int .i64 k] := slot_of q
    clear q
    go_simp
    have hbx := below_on (B := w.heap.size) (Below.drew (Below.refl _ _)) hR (Nat.le_refl _)
    exact hK _ _ ((Below.refl _ _).alloc (Nat.le_refl _) _) ⟨_, M3, rfl, hnm3, hmm3.on (((Below.refl W.heap.size W).alloc (Nat.le_refl _) _).block M3 hmm3.lt), heap_alloc_new _ _, hbx.size⟩
  refine soup_cons rfl rfl (fun a W hR hS hdep K hK => ?_) ?_
  · obtain ⟨D4, M4, q, hnm4, hmm4, hdb4, hnd4⟩ := hdep 14 (by decide +kernel)
    have e22 : a.tmps[22]?.getD undef = .pointer (some ⟨D4, 0, none⟩) := slot_of q
    clear q
    go_simp
    exact hK _ _ (Below.refl _ _) ⟨D4, M4, rfl, hnm4, hmm4, hdb4, hnd4⟩
  exact fun j h1 h2 => absurd h1 (by simp only [List.size_toArray, List.length_cons, List.length_nil]; omega)
end
section
open Go.ChangeShapes Go.WideShapes Go.ChangeAt Go.RowKit
theorem strs_one {w : World} {g : Nat} {s : ByteArray} (hN : Blk w g #[.string s] 9) (hs : s.size ≤ 9223372036854775807) : Strs w (some ⟨g, 0, none⟩) 1 1 [s] ∧ rowIn (tagged fT w) (some ⟨g, 0, none⟩) 1 :=
  ⟨⟨⟨rfl, Nat.le_refl _, by show (1 : Nat) ≤ _; decide, by show (1 : Nat) ≤ _; decide, (fun h => nomatch h), fun _ => ⟨g, 0, rfl, fun i hi => by
    obtain rfl : i = 0 := by simp at hi; omega
    exact hN.cell 0⟩⟩, fun x hx => by rw [List.mem_singleton] at hx; subst hx; exact hs⟩, fun _ a e => by cases e; exact ⟨_, _, hN, by decide⟩⟩
set_option maxHeartbeats 8000000 in
set_option maxRecDepth 100000 in
theorem kcache_any (w : World) (K C L : Nat) (pl no te : Int) (me dn : Bool) (hK : Blk w K (keepC C L pl no te me dn) 48) (B : Nat) (most stale : Int) (k : Nat) (Ls : List Slot) (hC : IsCache B w C most stale k Ls) (hL : Ls.length < 100000) :
    Calls Tryz.prog 21 #[.pointer (some ⟨K, 0, none⟩)] w fun e w' => (∃ D g, e = .returned (.pointer (some ⟨D, 0, none⟩)) ∧ (∀ t ∈ Ls, (g t).f = t.f ∧ (g t).used = t.used) ∧ IsCache w.heap.size w' D most stale k (Ls.map g)) ∧ Below w.heap.size w w' := by
  have c0 : w.cell? ⟨K, 0, none⟩ = some (.pointer (some ⟨C, 0, none⟩)) := hK.cell 0
  have HC := Lib.hid (copy_any w B C most stale k Ls hC hL)
  clear hK hC hL
  go_enter Tryz.func21, Tryz.ntmps21
  go_wp2_with (go_at_call 46; refine HC.out.mono ?_; rintro e W1 ⟨⟨D, g, rfl, h1, h2⟩, hb⟩; have H1 := Lib.hid (And.intro h1 (And.intro h2 hb)); clear h1 h2 hb)
  go_ret
  exact ⟨⟨D, g, rfl, H1.out.1, H1.out.2.1⟩, H1.out.2.2⟩
theorem a_sound : soundB [⟨#[97]⟩] = true := by decide +kernel
/-- a put into a new keep -/
theorem kput_first (w : World) (B K C L D n : Nat) (hn : 8 ≤ n) (hn4 : n ≤ 4096) (hK : Blk w K (keepC C L ((n : Int) - 2) 0 0 false false) 48) (hB : B ≤ K) (hBw : B ≤ w.heap.size) (hl : IsLog B w L D ⟨b0, [], 0, false⟩) (hd : IsDev B w D (bornD n))
    (most stale : Int) (hC : IsCache B w C most stale 0 []) (hm : 1 ≤ most) (h : FactH) (nm : List ByteArray) (b : UInt8) (hs : soundB nm = true) (hf : IsFact (tagged fT w) w h (adF nm b)) :
    Calls Tryz.prog 19 #[.pointer (some ⟨K, 0, none⟩), .agg (factC h (adF nm b)), .int .i64 1] w fun e w' => e = .returned (.bool true) ∧ (∃ no te x, Blk w' K (keepC C L ((n : Int) - 2) no te false false) 48 ∧ IsCache B w' C most stale 1 [x]) ∧ Kfr B w w' := by
  have hen := adF_enc hs b
  have hat : atT 0 1 = 1 := by decide
  have hok := born_ok (n := n) (by omega) hn4
  have hr := hok.room
  have hlen : (bornD n).sure.length = n := by simp [bornD]
  have hrn : ringN (bornD n) = n - 2 := by unfold ringN; rw [hlen]
  have hpn : pN (putW (adF nm b)) = 1 := by unfold pN partsN; omega
  have hs0 : sumP [] = 0 := rfl
  obtain ⟨ha, -⟩ := hok.app (b := putW (adF nm b)) ⟨hen.2.1, by omega⟩ (by rw [hpn]; omega)
  refine kput_yes w B K C L D ((n : Int) - 2) 0 0 hK hB hBw _ _ hl hd most stale 0 [] hC (by decide) (by decide) h (adF nm b) hf (adF_len hs b) 1 hen.1 ?_ _ ?_
  · rw [hat]
    have : freeB [] (adF nm b) 1 = true := rfl
    simp [putB, adF_ok hs b, timeB, this]
  · rw [hat]
    intro W hp
    obtain ⟨bb, k2, hca⟩ := hp.ca
    refine (kwrite_room W B K C L D ((n : Int) - 2) 1 0 hp.blk hB _ _ hp.log hp.dev (hok.can (born_bd n) (by omega)) _ (putW (adF nm b)) rfl hp.rc hen.2.1 (by omega) (by omega) ?_ _ _ _ ha).mono ?_
    · have htd : ((n : Int) - 2).tdiv 3 = ((n : Int) - 2) / 3 := Int.tdiv_eq_ediv_of_nonneg (by omega)
      rw [htd, show (partsN (putW (adF nm b)).length : Int) = 1 by have : partsN (putW (adF nm b)).length = 1 := hpn; omega, IntWalk.i64_in _ (by omega), IntWalk.i64_in _ (by omega)]
      exact decide_eq_false (by omega)
    · rintro e w' ⟨rfl, hk', hl', hd', ho'⟩
      have htr : trimL most (offL [] (keyF (adF nm b)) ++ [(⟨bb, k2, adF nm b, 0 + 1⟩ : Slot)]) = [⟨bb, k2, adF nm b, 1⟩] := by
        simp only [offL, List.filter_nil, List.nil_append, trimL, List.length_singleton]
        exact if_pos (by omega)
      rw [htr] at hca
      exact ⟨⟨_, rfl⟩, ⟨1, 0, _, hk', hca.only ho' (by decide) (by decide) (by decide)⟩, hp.fr.trans (Kfr.only ho' (by decide))⟩
set_option maxHeartbeats 16000000 in
set_option maxRecDepth 100000 in
theorem answers16_any (w : World) : Calls Tryz.prog 6 #[] w fun e w' => e = .returned (.bool true) ∧ Below w.heap.size w w' := by
  have HN := Lib.hid (dnew_any w 8 (by decide) (by decide))
  have hbs : ∀ w, (Instr.buildSlice 52 1 #[(0, Value.string ⟨#[97]⟩)]).run Tryz.prog w = .ok (.slice (some ⟨w.heap.size, 0, none⟩) 1 1) (w.alloc (.cells #[.string ⟨#[97]⟩] 9)) := fun _ => by kernel_rfl
  go_enter Tryz.func6, Tryz.ntmps6
  go_wp2_with (first
    | (go_at_call 22; refine (len_any W6 _ E 5 0 1 _ H6.out.1).mono ?_; rintro e W6 ⟨rfl, rfl⟩)
    | (go_at_call 21; refine (kcache_any W5 K C L _ no te false false H5.out.1 w.heap.size 5 0 1 [x] H5.out.2.1 (by simp)).mono ?_; rintro e W6 ⟨⟨E, g, rfl, -, hc6⟩, hb6⟩; have H6 := Lib.hid (And.intro hc6 (below_on H5.out.2.2 hb6 (Nat.le_refl _))); clear hc6 hb6)
    | (go_at_call 19; refine (kput_first W4 w.heap.size K C L D 8 (by decide) (by decide) (H2.out.1.on H4.out.2) H2.out.2.1 (by have := H2.out.2.2.2.2.2.bel.size; have := H1.out.2.size; have := H4.out.2.size; omega) (H2.out.2.2.1.on H4.out.2) (H2.out.2.2.2.1.on H4.out.2) 5 0 (H2.out.2.2.2.2.1.on H4.out.2) (by decide) h _ 1 a_sound H4.out.1).mono ?_; rintro e W5 ⟨rfl, ⟨no, te, x, hk5, hc5⟩, hf5⟩; have H5 := Lib.hid (show Blk W5 K _ _ ∧ IsCache w.heap.size W5 C 5 0 1 [x] ∧ Below w.heap.size w W5 from ⟨hk5, hc5, ((H1.out.2.trans H2.out.2.2.2.2.2.bel).trans (H4.out.2.mono (by have := H2.out.2.2.2.2.2.bel.size; have := H1.out.2.size; omega))).trans hf5.bel⟩); clear hk5 hc5 hf5)
    | (go_at_call 20; have hst := strs_one (show Blk (W2.alloc (.cells #[.string ⟨#[97]⟩] 9)) W2.heap.size #[.string ⟨#[97]⟩] 9 from heap_alloc_new W2 _) (by decide); refine (address_any _ _ 1 1 _ hst.1 hst.2 1).mono ?_; rintro e W4 ⟨⟨h, rfl, hf4⟩, hb4⟩; have H4 := Lib.hid (And.intro hf4 (below_on ((Below.refl W2.heap.size W2).alloc (Nat.le_refl _) _) hb4 (Nat.le_refl _))); clear hst hf4 hb4)
    | (go_at_call 5; refine (kopen_new W1 D 8 w.heap.size (by decide) H1.out.1 5 0 (by decide) (by decide) (by decide)).mono ?_; rintro e W2 ⟨⟨K, C, L, rfl, hk2, hK2, hc2, hl2⟩, hd2, ho2⟩; have H2 := Lib.hid (show Blk W2 K _ _ ∧ w.heap.size ≤ K ∧ IsLog w.heap.size W2 L D _ ∧ IsDev w.heap.size W2 D _ ∧ IsCache w.heap.size W2 C 5 0 0 [] ∧ Only dvT w.heap.size W1 W2 from ⟨hk2, by have := H1.out.2.size; omega, hl2.mono H1.out.2.size, hd2, cache_low hc2 H1.out.2.size, ho2⟩); clear hk2 hK2 hc2 hl2 hd2 ho2)
    | (go_at_call 4; refine HN.out.mono ?_; rintro e W1 ⟨⟨D, rfl, hd⟩, hb1⟩; have H1 := Lib.hid (And.intro hd hb1); clear hd hb1))
  go_ret
  exact ⟨rfl, H6.out.2⟩
end
section
open Go.ChangeShapes Go.WideShapes Go.ChangeAt Go.RowKit
theorem keep_told {w : World} {K C L : Nat} {pl no te : Int} {me dn : Bool} (h : Blk w K (keepC C L pl no te me dn) 48) (v : Int) : Blk (w.setCell ⟨K, 4, none⟩ (.int .i64 v)) K (keepC C L pl no v me dn) 48 := by
  have := h.set 4 (.int .i64 v)
  simpa [keepC] using this
set_option maxHeartbeats 8000000 in
set_option maxRecDepth 100000 in
theorem ksync_old (w : World) (B K C L D : Nat) (pl no te now : Int) (hK : Blk w K (keepC C L pl no te false false) 48) (hB : B ≤ K) (hBw : B ≤ w.heap.size) (l : LogP) (d : DevP) (hl : IsLog B w L D l) (hd : IsDev B w D d) (hle : ¬ te < atT no now) (hsy : lsyncE d l = 0) :
    Calls Tryz.prog 7 #[.pointer (some ⟨K, 0, none⟩), .int .i64 now] w fun e w' => e = .returned (.int .i64 0) ∧ Blk w' K (keepC C L pl (atT no now) te false false) 48 ∧ IsLog B w' L D (lsyncL d l) ∧ IsDev B w' D (lsyncD d l) ∧ Only kT B w w' := by
  have hbd := Below.drew (Below.refl w.heap.size w)
  have k1 := hK.on hbd
  have D0 := Lib.hid (show w.drew.cell? ⟨K, 4, none⟩ = some (.int .i64 te) from k1.cell 4)
  have HAT := Lib.hid (kat_any w.drew B K C L pl no te false false k1 hB now)
  obtain ⟨nn, hnn⟩ : ∃ nn, nn = atT no now := ⟨_, rfl⟩
  rw [← hnn] at HAT hle ⊢
  have hlb : decide (te < nn) = false := decide_eq_false hle
  have H1 := Lib.hid (And.intro hbd (And.intro hB (And.intro hBw (And.intro hl (And.intro hd hsy)))))
  clear hbd k1 hK hB hBw hl hd hle hsy hnn
  go_enter Tryz.func7, Tryz.ntmps7
  go_upto_region 3 with fail
  go_cut [15] (fun c wx => c = .bool false ∧ Hid (Blk wx K (keepC C L pl nn te false false) 48 ∧ Only [48] B w wx))
  case first =>
    go_region_held3 (fun w' => w'.cell? ⟨K, 4, none⟩ = some (.int .i64 te))
      (first | exact D0.out | exact D3.out | go_keep)
      (first | (go_at_call 23; refine HAT.out.mono ?_; rintro e W3 ⟨rfl, hk3, ho3⟩; have D3 := Lib.hid (show W3.cell? ⟨K, 4, none⟩ = some (.int .i64 te) from hk3.cell 4); have H3 := Lib.hid (And.intro hk3 ho3); clear hk3 ho3))
    all_goals
      go_split_ands
      go_wp2_with fail
      go_meet
      exact ⟨rfl, Lib.hid ⟨H3.out.1, (Only.below H1.out.1 H1.out.2.2.1).trans H3.out.2⟩⟩
  case rest =>
    obtain ⟨rfl, hcw⟩ := hcut
    have hk := hcw.out.1
    have y6 : wc.cell? ⟨K, 6, none⟩ = some (.bool false) := hk.cell 6
    have y5 : wc.cell? ⟨K, 5, none⟩ = some (.bool false) := hk.cell 5
    have y1 : wc.cell? ⟨K, 1, none⟩ = some (.pointer (some ⟨L, 0, none⟩)) := hk.cell 1
    have ho := hcw.out.2
    have hl2 := H1.out.2.2.2.1.only ho (by decide) (by decide)
    have hd2 := lg_dv H1.out.2.2.2.2.1 ho (by decide) (by decide) (by decide) (by decide)
    have H2 := Lib.hid (And.intro hk (And.intro ho (And.intro hl2 hd2)))
    clear hcw hk ho hl2 hd2
    go_wp2_with (first
      | (go_at_call 25; refine (kdid_any W3 K C L pl nn te false false H3.out.2.2.1 0).mono ?_; rintro e W4 ⟨rfl, hk4, hg4⟩; have H4 := Lib.hid (And.intro hk4 hg4); clear hk4 hg4)
      | (go_at_call 26; have hsy := lsync_any wc B L D l d H2.out.2.2.1 H2.out.2.2.2; rw [H1.out.2.2.2.2.2] at hsy; refine hsy.mono ?_; rintro e W3 ⟨rfl, hl3, hd3, ho3⟩; have H3 := Lib.hid (And.intro hl3 (And.intro hd3 (And.intro (ho3.blk H2.out.1 (by decide)) ho3))); clear hsy hl3 hd3 ho3))
    go_ret
    obtain ⟨hl3, hd3, hk3, ho3⟩ := H3.out
    have h4 : Only [48] B W3 W4 := Only.but H4.out.2 hk3 List.mem_cons_self H1.out.2.1
    exact ⟨rfl, by simpa using H4.out.1, hl3.only h4 (by decide) (by decide), lg_dv hd3 h4 (by decide) (by decide) (by decide) (by decide), (H2.out.2.1.mono (by decide)).trans ((ho3.mono (by decide)).trans (h4.mono (by decide)))⟩
set_option maxHeartbeats 8000000 in
set_option maxRecDepth 100000 in
theorem ksync_new (w : World) (B K C L D : Nat) (pl no te now : Int) (hK : Blk w K (keepC C L pl no te false false) 48) (hB : B ≤ K) (hBw : B ≤ w.heap.size) (hlt : te < atT no now) (l1 : LogP) (d1 : DevP)
    (hwr : ∀ W, Only [48] B w W → Blk W K (keepC C L pl (atT no now) te false false) 48 → Calls Tryz.prog 24 #[.pointer (some ⟨K, 0, none⟩), .agg (blankC 3 (atT no now) (.slice none 0 0))] W fun e w' => e = .returned (.int .i64 0) ∧ (∃ te1, Blk w' K (keepC C L pl (atT no now) te1 false false) 48) ∧ IsLog B w' L D l1 ∧ IsDev B w' D d1 ∧ Only kT B W w')
    (hsy : lsyncE d1 l1 = 0) :
    Calls Tryz.prog 7 #[.pointer (some ⟨K, 0, none⟩), .int .i64 now] w fun e w' => e = .returned (.int .i64 0) ∧ Blk w' K (keepC C L pl (atT no now) (atT no now) false false) 48 ∧ IsLog B w' L D (lsyncL d1 l1) ∧ IsDev B w' D (lsyncD d1 l1) ∧ Only kT B w w' := by
  have hbd := Below.drew (Below.refl w.heap.size w)
  have k1 := hK.on hbd
  have D0 := Lib.hid (show w.drew.cell? ⟨K, 4, none⟩ = some (.int .i64 te) from k1.cell 4)
  have HAT := Lib.hid (kat_any w.drew B K C L pl no te false false k1 hB now)
  obtain ⟨nn, hnn⟩ : ∃ nn, nn = atT no now := ⟨_, rfl⟩
  rw [← hnn] at HAT hlt hwr ⊢
  have hlb : decide (te < nn) = true := decide_eq_true hlt
  have H1 := Lib.hid (And.intro hbd (And.intro hB (And.intro hBw (And.intro hwr hsy))))
  clear hbd k1 hK hB hBw hlt hwr hsy hnn
  go_enter Tryz.func7, Tryz.ntmps7
  go_upto_region 3 with fail
  go_cut [15] (fun c wx => c = .bool true ∧ Hid (Blk wx K (keepC C L pl nn te false false) 48 ∧ Only [48] B w wx))
  case first =>
    go_region_held3 (fun w' => w'.cell? ⟨K, 4, none⟩ = some (.int .i64 te))
      (first | exact D0.out | exact D3.out | go_keep)
      (first | (go_at_call 23; refine HAT.out.mono ?_; rintro e W3 ⟨rfl, hk3, ho3⟩; have D3 := Lib.hid (show W3.cell? ⟨K, 4, none⟩ = some (.int .i64 te) from hk3.cell 4); have H3 := Lib.hid (And.intro hk3 ho3); clear hk3 ho3))
    all_goals
      go_split_ands
      go_wp2_with fail
      go_meet
      exact ⟨rfl, Lib.hid ⟨H3.out.1, (Only.below H1.out.1 H1.out.2.2.1).trans H3.out.2⟩⟩
  case rest =>
    obtain ⟨rfl, hcw⟩ := hcut
    have hk := hcw.out.1
    have y3 : wc.cell? ⟨K, 3, none⟩ = some (.int .i64 nn) := hk.cell 3
    have ho := hcw.out.2
    have H2 := Lib.hid (And.intro hk ho)
    clear hcw hk ho
    go_wp2_with (first
      | (go_at_call 25; refine (kdid_any W5 K C L pl nn nn false false H5.out.2.2.1 0).mono ?_; rintro e W6 ⟨rfl, hk6, hg6⟩; have H6 := Lib.hid (And.intro hk6 hg6); clear hk6 hg6)
      | (go_at_call 26; have hsy := lsync_any (W3.setCell ⟨K, 4, none⟩ (.int .i64 nn)) B L D l1 d1 H3.out.2.1 H3.out.2.2.1; rw [H1.out.2.2.2.2] at hsy; refine hsy.mono ?_; rintro e W5 ⟨rfl, hl5, hd5, ho5⟩; have H5 := Lib.hid (And.intro hl5 (And.intro hd5 (And.intro (ho5.blk H3.out.1 (by decide)) ho5))); clear hsy hl5 hd5 ho5)
      | (go_at_call 24; refine (H1.out.2.2.2.1 wc H2.out.2 H2.out.1).mono ?_; rintro e W3 ⟨rfl, ⟨te1, hk3⟩, hl3, hd3, ho3⟩; have z3 : W3.cell? ⟨K, 3, none⟩ = some (.int .i64 nn) := hk3.cell 3; have z4 : W3.cell? ⟨K, 4, none⟩ = some (.int .i64 te1) := hk3.cell 4; have u4 := hk3.free 4; have hon : Only [48] B W3 (W3.setCell ⟨K, 4, none⟩ (.int .i64 nn)) := Only.but (but_set W3 K 4 (.int .i64 nn)) hk3 List.mem_cons_self H1.out.2.1; have hk4 : Blk (W3.setCell ⟨K, 4, none⟩ (.int .i64 nn)) K (keepC C L pl nn nn false false) 48 := keep_told hk3 nn; have v6 : (W3.setCell ⟨K, 4, none⟩ (.int .i64 nn)).cell? ⟨K, 6, none⟩ = some (.bool false) := hk4.cell 6; have v5 : (W3.setCell ⟨K, 4, none⟩ (.int .i64 nn)).cell? ⟨K, 5, none⟩ = some (.bool false) := hk4.cell 5; have v1 : (W3.setCell ⟨K, 4, none⟩ (.int .i64 nn)).cell? ⟨K, 1, none⟩ = some (.pointer (some ⟨L, 0, none⟩)) := hk4.cell 1; have H3 := Lib.hid (And.intro hk4 (And.intro (hl3.only hon (by decide) (by decide)) (And.intro (lg_dv hd3 hon (by decide) (by decide) (by decide) (by decide)) ((H2.out.2.mono (by decide)).trans (ho3.trans (hon.mono (by decide))))))); clear hk3 hl3 hd3 ho3 hon hk4))
    go_ret
    obtain ⟨hl5, hd5, hk5, ho5⟩ := H5.out
    have h4 : Only [48] B W5 W6 := Only.but H6.out.2 hk5 List.mem_cons_self H1.out.2.1
    exact ⟨rfl, by simpa using H6.out.1, hl5.only h4 (by decide) (by decide), lg_dv hd5 h4 (by decide) (by decide) (by decide) (by decide), H3.out.2.2.2.trans ((ho5.mono (by decide)).trans (h4.mono (by decide)))⟩
end
section
open Go.ChangeShapes Go.WideShapes Go.ChangeAt Go.RowKit
set_option maxHeartbeats 16000000 in
set_option maxRecDepth 100000 in
theorem kwrite_comp (w : World) (B K C L D : Nat) (pl no te : Int) (hK : Blk w K (keepC C L pl no te false false) 48) (hB : B ≤ K) (l : LogP) (d : DevP) (hl : IsLog B w L D l) (hd : IsDev B w D d) (hc : CanApp d l) (ev : Array Value) (bs : List UInt8) (hev : ev.size = 16) (hr : RecIs w ev bs) (hb0 : 1 ≤ bs.length) (hb1 : bs.length ≤ 16384)
    (hpl : 0 ≤ pl ∧ pl ≤ 100000) (hrm : decide (IntKind.i64.wrap (roomL d l - (partsN bs.length : Int)) < IntKind.i64.wrap (pl.tdiv 3)) = true) (te2 : Int) (d2 : DevP) (l2 : LogP) (hc2 : CanApp d2 l2)
    (hcm : ∀ W, Below w.heap.size w W → Calls Tryz.prog 49 #[.pointer (some ⟨K, 0, none⟩)] W fun e w' => e = .returned (.int .i64 0) ∧ Blk w' K (keepC C L pl no te2 false false) 48 ∧ IsLog B w' L D l2 ∧ IsDev B w' D d2 ∧ Only kT B W w')
    (d1 : DevP) (l1 : LogP) (s1 : Int) (hap : appP d2 l2 bs = (d1, l1, s1, 0)) :
    Calls Tryz.prog 24 #[.pointer (some ⟨K, 0, none⟩), .agg ev] w fun e w' => e = .returned (.int .i64 0) ∧ Blk w' K (keepC C L pl no te2 false false) 48 ∧ IsLog B w' L D l1 ∧ IsDev B w' D d1 ∧ Only kT B w w' := by
  have hb1' : Below w.heap.size w (w.alloc (.cells ev 59)) := (Below.refl _ _).alloc (Nat.le_refl _) _
  have a1 : Blk (w.alloc (.cells ev 59)) w.heap.size ev 59 := heap_alloc_new w _
  have k1 := hK.on hb1'
  have y5 : (w.alloc (.cells ev 59)).cell? ⟨K, 5, none⟩ = some (.bool false) := k1.cell 5
  have y6 : (w.alloc (.cells ev 59)).cell? ⟨K, 6, none⟩ = some (.bool false) := k1.cell 6
  have hs := (hr.on hb1') _ (Nat.le_refl _) (Same.refl _ _)
  have hsz : (Tryz.prog.info? 59).map (·.size) = some ev.size := by rw [hev]; exact entSize
  obtain ⟨n, hn⟩ : ∃ n, n = bs.length := ⟨_, rfl⟩
  rw [← hn] at hs hrm
  obtain ⟨p, hp⟩ : ∃ p : Int, p = (partsN n : Int) := ⟨_, rfl⟩
  rw [← hp] at hs hrm
  have HS := Lib.hid hs
  have H1 := Lib.hid (And.intro a1 (And.intro hb1' (And.intro hK (And.intro hB (And.intro hl (And.intro hd (And.intro hc (And.intro hap (And.intro hcm hc2)))))))))
  have HRM := Lib.hid (And.intro hrm hpl)
  have HR := Lib.hid (And.intro hr (And.intro hev (And.intro hb0 hb1)))
  have HSZ := Lib.hid hsz
  clear hs hb1' a1 k1 hK hB hl hd hc hap hrm hpl hr hev hb0 hb1 hsz hn hp hcm hc2
  go_enter Tryz.func24, Tryz.ntmps24
  go_upto_region 8 with (first
    | (refine wpList_load_row rfl 59 _ rfl w.heap.size rfl 59 ev (0, 0) _ H1.out.1 Tryz.underlying59 rfl HSZ.out ?_)
    | (go_at_call 47; refine HS.out.mono ?_; rintro e W2 ⟨⟨ao, c, rfl, -⟩, hb⟩; have hbw := below_on H1.out.2.1 hb (Nat.le_refl _); have H2 := Lib.hid (And.intro hbw (H1.out.1.on hb)); clear hb hbw))
  have hbd := Below.drew (Below.refl W2.heap.size W2)
  have hbw := below_on H2.out.1 hbd (Nat.le_refl _)
  have k2 := Blk.on H1.out.2.2.1 hbw
  have D0 := Lib.hid (show W2.drew.cell? ⟨K, 1, none⟩ = some (.pointer (some ⟨L, 0, none⟩)) ∧ W2.drew.cell? ⟨K, 2, none⟩ = some (.int .i64 pl) from ⟨k2.cell 1, k2.cell 2⟩)
  have HRO := Lib.hid (lroom_any W2.drew B L D l d (H1.out.2.2.2.2.1.on hbw) (H1.out.2.2.2.2.2.1.on hbw) (by have := H1.out.2.2.2.2.2.2.1.len; omega) (by have := H1.out.2.2.2.2.2.2.1.fin; omega))
  have HK2 := Lib.hid (And.intro hbd k2)
  clear hbd hbw k2
  go_cut [40] (fun c wx => c = .bool true ∧ Hid (Below W2.heap.size W2 wx))
  case first =>
    go_region_held3 (fun w' => w'.cell? ⟨K, 1, none⟩ = some (.pointer (some ⟨L, 0, none⟩)) ∧ w'.cell? ⟨K, 2, none⟩ = some (.int .i64 pl))
      (first | exact D0.out | exact D3.out | go_keep)
      (first | (go_at_call 48; refine HRO.out.mono ?_; rintro e W3 ⟨rfl, hb3⟩; have k3 := Blk.on HK2.out.2 hb3; have D3 := Lib.hid (show W3.cell? ⟨K, 1, none⟩ = some (.pointer (some ⟨L, 0, none⟩)) ∧ W3.cell? ⟨K, 2, none⟩ = some (.int .i64 pl) from ⟨k3.cell 1, k3.cell 2⟩); have H3 := Lib.hid (below_on HK2.out.1 hb3 (Nat.le_refl _)); clear hb3 k3))
    all_goals
      go_split_ands
      go_wp2_with fail
      go_meet
      exact ⟨by rw [HRM.out.1], Lib.hid H3.out⟩
  case rest =>
    obtain ⟨rfl, hcw⟩ := hcut
    have hbw := below_on H2.out.1 hcw.out (Nat.le_refl _)
    have H4 := Lib.hid (And.intro hbw (H2.out.2.on hcw.out))
    have HBW := Lib.hid hbw
    clear hcw hbw y5 y6
    go_wp2_with (first
      | (go_at_call 50; have hka := kappend_any W4 B K C L D pl no te2 false false l2 d2 H5.out.1 H1.out.2.2.2.1 H5.out.2.1 H5.out.2.2.1 H1.out.2.2.2.2.2.2.2.2.2 ev bs HR.out.2.1 H5.out.2.2.2.2.2 HR.out.2.2.1 HR.out.2.2.2; rw [H1.out.2.2.2.2.2.2.2.1] at hka; refine hka.mono ?_; rintro e W5 ⟨rfl, hk5, hl5, hd5, ho5⟩; have hk5' : Blk W5 K (keepC C L pl no te2 false false) 48 := hk5; have z5 : W5.cell? ⟨K, 5, none⟩ = some (.bool false) := hk5'.cell 5; have u5 := hk5'.free 5; have H6 := Lib.hid (And.intro hk5' (And.intro hl5 (And.intro hd5 (H5.out.2.2.2.1.trans ho5)))); clear hka hk5 hk5' hl5 hd5 ho5)
      | (refine wpList_load_row rfl 59 _ rfl w.heap.size rfl 59 ev (0, 0) _ H5.out.2.2.2.2.1 Tryz.underlying59 rfl HSZ.out ?_)
      | (go_at_call 49; refine (H1.out.2.2.2.2.2.2.2.2.1 wc HBW.out).mono ?_; rintro e W4 ⟨rfl, hk4, hl4, hd4, ho4⟩; have hrr := (HR.out.1.on HBW.out).step ho4.bel.size (ho4.same (T := eT) (by decide)); have H5 := Lib.hid (And.intro hk4 (And.intro hl4 (And.intro hd4 (And.intro ((Only.below HBW.out H1.out.2.2.2.2.2.1.Ble).trans ho4) (And.intro (ho4.blk H4.out.2 (by decide)) hrr))))); clear hk4 hl4 hd4 ho4 hrr))
    go_ret
    have hs := H6.out.1.set 5 (.bool false)
    have hon : Only [48] B W5 (W5.setCell ⟨K, 5, none⟩ (.bool false)) := Only.but (but_set W5 K 5 (.bool false)) H6.out.1 List.mem_cons_self H1.out.2.2.2.1
    exact ⟨rfl, by simpa [keepC] using hs, H6.out.2.1.only hon (by decide) (by decide), lg_dv H6.out.2.2.1 hon (by decide) (by decide) (by decide) (by decide), H6.out.2.2.2.trans (hon.mono (by decide))⟩
end
section
open Go.ChangeShapes Go.WideShapes Go.ChangeAt Go.RowKit
theorem parts_pos (d : DevP) (p : Nat) (h : (partO d p).2.2 = 0) : 1 ≤ (partO d p).1.parts ∧ (partO d p).1.parts ≤ 255 ∧ 0 ≤ (partO d p).1.part := by
  unfold partO at h ⊢
  cases hr : readP d (atN d p) with
  | none => rw [hr] at h; simp at h
  | some b =>
    rw [hr] at h
    by_cases he : openE b = 0
    · simp only [he, if_true]
      have h2 := he
      unfold openE at h2
      split at h2
      · cases h2
      · split at h2
        · cases h2
        · split at h2
          · cases h2
          · rename_i h5
            have h3 : sealE (openH b) (openD b) = 0 := by
              apply Classical.byContradiction
              intro h4
              exact h5 (.inl h4)
            unfold sealE at h3
            split at h3
            · cases h3
            · rename_i hf
              split at h3
              · cases h3
              · rename_i hq
                simp only [fitsH, Bool.and_eq_true, Bool.not_eq_false] at hf
                obtain ⟨⟨_, f3⟩, f4⟩ := hf
                simp only [fitK, Bool.and_eq_true, decide_eq_true_eq] at f3 f4
                have e1 : (256 : Int) ^ 1 = 256 := by decide
                omega
    · simp only [he, if_false] at h
theorem meas_lt {a b c d : Int} (ha : a ≠ 0) (h : (c = 0 ∧ b - a < 300) ∨ (c ≠ 0 ∧ b - a < d - c ∧ 0 < d - c)) : (if a = 0 then 300 else (b - a).toNat) < (if c = 0 then 300 else (d - c).toNat) := by
  rw [if_neg ha]
  rcases h with ⟨h1, h2⟩ | ⟨h1, h2, h3⟩
  · rw [if_pos h1]; omega
  · rw [if_neg h1]; omega
theorem part_ne8 (d : DevP) (p : Nat) : (partO d p).2.2 ≠ 8 := by
  unfold partO
  cases hr : readP d (atN d p) with
  | none => simp
  | some b =>
    by_cases he : openE b = 0
    · simp only [he, if_true]; decide
    · simp only [he, if_false]
      unfold openE
      split
      · decide
      · split
        · decide
        · split <;> decide
set_option maxHeartbeats 32000000 in
set_option maxRecDepth 100000 in
theorem lfound_any (w : World) (B L D : Nat) (l : LogP) (d : DevP) (hl : IsLog B w L D l) (hd : IsDev B w D d) (hdn : d.down = false) (h3 : 3 ≤ d.sure.length) (hfin : l.fin ≤ 900000000) :
    Calls Tryz.prog 54 #[.pointer (some ⟨L, 0, none⟩)] w fun e w' => e = .returned (.tuple #[.int .i64 (foundN d l : Int), .int .i64 0]) ∧ Below w.heap.size w w' := by
  have HLD := Lib.hid (And.intro hl (And.intro hd hdn))
  obtain ⟨G, hG⟩ : ∃ G, G = foundN d l := ⟨_, rfl⟩
  rw [← hG]
  have HG := Lib.hid hG
  have hfr := fit7 (supFits_at hl.fits (t := 3) (by omega))
  simp only [supNum] at hfr
  clear hl hd hdn hG
  go_enter Tryz.func54, Tryz.ntmps54
  go_wp2_with fail
  go_loopw [4, 5] (fun sn si wr => ∃ n i : Nat, sn = .int .i64 (n : Int) ∧ si = .int .i64 (i : Int) ∧ n ≤ 255 ∧ i ≤ n ∧ 1 ≤ n ∧ (i = 0 → n = 1) ∧ Hid (Below w.heap.size w wr ∧ foundF d l (300 - i) i n = G)) (fun sn si _ => if intOf si = 0 then 300 else (intOf sn - intOf si).toNat)
  case atStart => exact ⟨1, 0, rfl, rfl, by omega, by omega, by omega, fun _ => rfl, Lib.hid ⟨Below.refl _ _, HG.out.symm⟩⟩
  case round =>
    obtain ⟨n, i, rfl, rfl, hn255, hin, hn1, hi1, hinv⟩ := hrel
    by_cases hlt : i < n
    · have hlb : decide (i < n) = true := decide_eq_true hlt
      have HI := Lib.hid (And.intro hinv.out.1 (And.intro hinv.out.2 hi1))
      have hF : foundF d l (300 - i) i n = if okPart d l i n = true then foundF d l (300 - (i + 1)) (i + 1) (partO d (l.fin + i)).1.parts.toNat else 0 := by
        rw [show 300 - i = (300 - (i + 1)) + 1 by omega, foundF, if_pos hlt]
      rw [hinv.out.2] at hF
      have hpt := lpart_any wr B L D l d (HLD.out.1.on hinv.out.1) (HLD.out.2.1.on hinv.out.1) HLD.out.2.2 h3 (l.fin + i) (by omega)
      have hp8 := part_ne8 d (l.fin + i)
      have hpp := parts_pos d (l.fin + i)
      unfold okPart at hF
      obtain ⟨o, hoe⟩ : ∃ o, o = partO d (l.fin + i) := ⟨_, rfl⟩
      rw [← hoe] at hF hp8 hpp
      have hw := hinv.out.1
      obtain ⟨v1, g1, g2⟩ := (HLD.out.1.on hw).ex
      have c7 : wr.cell? ⟨L, 7, none⟩ = some (.int .i64 (l.fin : Int)) := g1.cell 7
      have hps : PartRes wr d (l.fin + i) = PartRes wr d (l.fin + i) := rfl
      have HPT := Lib.hid (And.intro hpt hoe)
      have HF := Lib.hid hF
      clear hinv hF hpt hoe hw g1 g2 hps hi1
      obtain ⟨H, dat, k⟩ := o
      simp only at HF hp8 hpp
      have hk8 : (k == 8) = false := by simpa using hp8
      by_cases hk0 : k = 0
      · subst hk0
        obtain ⟨hp1, hp255, hpart0⟩ := hpp rfl
        clear hpp hp8
        by_cases hkd : H.kind = 2
        · have hkb : (H.kind == 2) = true := by simpa using hkd
          have HKD := Lib.hid hkd
          clear hkd
          go_wp2_with (first | (go_at_call 35; refine HPT.out.1.mono ?_; rintro e W1 hR; obtain ⟨ao, c, rfl, hown⟩ := hR.out; rw [← HPT.out.2] at hown ⊢; have H1 := Lib.hid (And.intro hR.bel hown); clear hR hown) | (refine wpList_store_row rfl 90 _ _ rfl W1.heap.size (headC H) rfl rfl 90 (headC zeroH) (heap_alloc_new W1 _) headSize rfl (headC_all _) ?_; have hq := head_new W1 H; (try change wpList _ _ _ _ _ ((W1.alloc (.cells (headC zeroH) 90)).setRow W1.heap.size (headC H))); generalize (W1.alloc (.cells (headC zeroH) 90)).setRow W1.heap.size (headC H) = W2 at hq ⊢; obtain ⟨b1, hb1⟩ : ∃ b1, b1 = W1.heap.size := ⟨_, rfl⟩; rw [← hb1] at hq ⊢; have hw2 : Below w.heap.size w W2 := below_on (below_on HI.out.1 H1.out.1 (Nat.le_refl _)) (hb1 ▸ hq.2) (Nat.le_refl _); obtain ⟨v2, g1, g2⟩ := (HLD.out.1.on hw2).ex; have y0 : W2.cell? ⟨b1, 0, none⟩ = some (.int .i64 H.kind) := hq.1.cell 0; have y1 : W2.cell? ⟨b1, 1, none⟩ = some (.int .i64 H.epoch) := hq.1.cell 1; have y2 : W2.cell? ⟨b1, 2, none⟩ = some (.int .i64 H.seq) := hq.1.cell 2; have y3 : W2.cell? ⟨b1, 3, none⟩ = some (.int .i64 H.part) := hq.1.cell 3; have y4 : W2.cell? ⟨b1, 4, none⟩ = some (.int .i64 H.parts) := hq.1.cell 4; have HQ := Lib.hid (And.intro hq.1 hw2); clear hq hb1 g1 g2 hw2))
          have hbd := Below.drew (Below.refl W2.heap.size W2)
          have D2 := Lib.hid (show W2.drew.cell? ⟨b1, 2, none⟩ = some (.int .i64 H.seq) from (HQ.out.1.on hbd).cell 2)
          have HN := Lib.hid (lnext_any W2.drew B L D l ((HLD.out.1.on HQ.out.2).on hbd))
          have HBD := Lib.hid hbd
          clear hbd y0 y1 y2 y3 y4
          go_region_held3 (fun w' => w'.cell? ⟨b1, 2, none⟩ = some (.int .i64 H.seq))
            (first | exact D2.out | exact D3.out | go_keep)
            (first | (go_at_call 15; refine HN.out.mono ?_; rintro e W3 ⟨rfl, hb3⟩; rw [show l.block.first + (l.list.length : Int) = nextL l from rfl]; have hq3 := (HQ.out.1.on HBD.out).on hb3; have D3 := Lib.hid (show W3.cell? ⟨b1, 2, none⟩ = some (.int .i64 H.seq) from hq3.cell 2); have H3 := Lib.hid (And.intro hq3 (below_on HQ.out.2 (below_on HBD.out hb3 (Nat.le_refl _)) (Nat.le_refl _))); clear hq3 hb3))
          go_split_ands
          have hq3 := H3.out.1
          obtain ⟨v3, g1, g2⟩ := (HLD.out.1.on H3.out.2).ex
          have y1 : W3.cell? ⟨b1, 1, none⟩ = some (.int .i64 H.epoch) := hq3.cell 1
          have y2 : W3.cell? ⟨b1, 2, none⟩ = some (.int .i64 H.seq) := hq3.cell 2
          have y3 : W3.cell? ⟨b1, 3, none⟩ = some (.int .i64 H.part) := hq3.cell 3
          have y4 : W3.cell? ⟨b1, 4, none⟩ = some (.int .i64 H.parts) := hq3.cell 4
          have x2 : W3.cell? ⟨L, 2, none⟩ = some (.int .i64 l.block.epoch) := g1.cell 2
          have x4 : W3.cell? ⟨L, 4, none⟩ = some (.int .i64 l.block.from') := g1.cell 4
          have x5 : W3.cell? ⟨L, 5, none⟩ = some (.int .i64 l.block.count) := g1.cell 5
          have x7 : W3.cell? ⟨L, 7, none⟩ = some (.int .i64 (l.fin : Int)) := g1.cell 7
          clear hq3 g1 g2
          obtain ⟨nx, hnx⟩ : ∃ nx, nx = nextL l := ⟨_, rfl⟩
          rw [← hnx]
          have HNX := Lib.hid hnx
          clear hnx
          by_cases hsq : H.seq = nx
          · have hsb : (H.seq == nx) = true := by simpa using hsq
            have HSQ := Lib.hid hsq
            clear hsq
            by_cases hpa : H.part = (i : Int)
            · have hpb : (H.part == (i : Int)) = true := by simpa using hpa
              have HPA := Lib.hid hpa
              clear hpa
              by_cases hi0 : 0 < i
              · have hib : decide (0 < i) = true := decide_eq_true hi0
                by_cases hpp2 : H.parts = (n : Int)
                · have hppb : (H.parts == (n : Int)) = true := by simpa using hpp2
                  have H12 : Hid (i = 0 ∨ H.parts = (n : Int)) := Lib.hid (.inr hpp2)
                  clear hpp2 hi0
                  go_wp2_with fail
                  have hbd := Below.drew (Below.refl W3.heap.size W3)
                  have z1 := cell_keep hbd y1
                  have z2 := cell_keep hbd y2
                  have z4 := cell_keep hbd y4
                  have xx2 := cell_keep hbd x2
                  have xx4 := cell_keep hbd x4
                  have xx5 := cell_keep hbd x5
                  have xx7 := cell_keep hbd x7
                  have HB3 := Lib.hid hbd
                  clear y1 y2 y3 y4 x2 x4 x5 x7 hbd
                  by_cases hct : l.block.count ≤ H.seq
                  · have hcb : decide (l.block.count ≤ H.seq) = true := decide_eq_true hct
                    by_cases hep : H.epoch = l.block.epoch
                    · have heb : (H.epoch == l.block.epoch) = true := by simpa using hep
                      have HCT : Hid (H.seq < l.block.count ∨ H.epoch = l.block.epoch) := Lib.hid (.inr hep)
                      clear hep hct
                      go_region
                      all_goals
                        go_wp2_with fail
                        have hbd := Below.drew (Below.refl W3.drew.heap.size W3.drew)
                        have w4 := cell_keep hbd z4
                        have w5 := cell_keep hbd xx4
                        have w7 := cell_keep hbd xx7
                        have HB4 := Lib.hid (below_on (below_on H3.out.2 HB3.out (Nat.le_refl _)) hbd (Nat.le_refl _))
                        have HRG := Lib.hid (lring_any W3.drew.drew B L D l d (HLD.out.1.on HB4.out) (HLD.out.2.1.on HB4.out) (by omega))
                        have e1 : IntKind.i64.wrap ((l.fin : Int) + H.parts) = (l.fin : Int) + H.parts := IntWalk.i64_in _ (by omega)
                        have e2 : IntKind.i64.wrap ((l.fin : Int) + H.parts - l.block.from') = (l.fin : Int) + H.parts - l.block.from' := IntWalk.i64_in _ (by omega)
                        clear hbd z1 z2 z4 xx2 xx4 xx5 xx7
                        go_region_held3 (fun w' => w' = W3.drew.drew)
                          (first | go_keep | rfl)
                          (first | (go_at_call 78; refine HRG.out.mono ?_; rintro e w2 ⟨rfl, rfl⟩))
                        clear e1 e2
                        go_split_ands
                        go_wp2_with fail
                        · rename_i hrm
                          have HZ := Lib.hid (show G = 0 by rw [HF.out, if_neg (by simp only [Bool.and_eq_true, decide_eq_true_eq, Bool.not_eq_true', Bool.and_eq_false_iff, decide_eq_false_iff_not]; exact fun h => by have := h.2.2.2.2.2.2; omega)])
                          go_ret2
                          exact ⟨by rw [HZ.out]; rfl, HB4.out⟩
                        · rename_i hrm
                          obtain ⟨m, hm⟩ : ∃ m : Nat, H.parts = (m : Int) := ⟨H.parts.toNat, by omega⟩
                          have HGO := Lib.hid (show foundF d l (300 - (i + 1)) (i + 1) m = G by rw [HF.out, if_pos (by simp only [Bool.and_eq_true, decide_eq_true_eq, Bool.not_eq_true', Bool.and_eq_false_iff, decide_eq_false_iff_not]; exact ⟨trivial, HKD.out, by rw [HSQ.out]; exact HNX.out, HPA.out, H12.out.imp (fun h => by omega) (fun h h2 => h2 h), HCT.out.imp (fun h => by omega) (fun h h2 => h2 h), by omega⟩), hm]; simp)
                          have HIM := Lib.hid (And.intro hm (show i + 1 ≤ m by have := H12.out; have := HI.out.2.2; omega))
                          clear hm
                          go_roundw
                          case rel => exact ⟨m, i + 1, by rw [HIM.out.1], by simp, by have := HIM.out.1; omega, HIM.out.2, by have := HIM.out.2; omega, fun h => by omega, Lib.hid ⟨HB4.out, HGO.out⟩⟩
                          case measure => exact meas_lt (show (i : Int) + 1 ≠ 0 by omega) (show ((i : Int) = 0 ∧ H.parts - ((i : Int) + 1) < 300) ∨ ((i : Int) ≠ 0 ∧ H.parts - ((i : Int) + 1) < (n : Int) - (i : Int) ∧ 0 < (n : Int) - (i : Int)) by have := HIM.out; have := H12.out; omega)
                    · have heb : (H.epoch == l.block.epoch) = false := by simpa using hep
                      have HZ := Lib.hid (show G = 0 by rw [HF.out, if_neg (by simp only [Bool.and_eq_true, decide_eq_true_eq, Bool.not_eq_true', Bool.and_eq_false_iff, decide_eq_false_iff_not]; exact fun h => h.2.2.2.2.2.1.elim (fun h2 => h2 hct) (fun h2 => h2 hep))])
                      clear hep hct
                      go_region
                      all_goals
                        go_wp2_with fail
                        go_ret2
                        exact ⟨by rw [HZ.out]; rfl, below_on H3.out.2 HB3.out (Nat.le_refl _)⟩
                  · have hcb : decide (l.block.count ≤ H.seq) = false := decide_eq_false hct
                    have HCT : Hid (H.seq < l.block.count ∨ H.epoch = l.block.epoch) := Lib.hid (.inl (by omega))
                    clear hct
                    go_region
                    all_goals
                      go_wp2_with fail
                      have hbd := Below.drew (Below.refl W3.drew.heap.size W3.drew)
                      have w4 := cell_keep hbd z4
                      have w5 := cell_keep hbd xx4
                      have w7 := cell_keep hbd xx7
                      have HB4 := Lib.hid (below_on (below_on H3.out.2 HB3.out (Nat.le_refl _)) hbd (Nat.le_refl _))
                      have HRG := Lib.hid (lring_any W3.drew.drew B L D l d (HLD.out.1.on HB4.out) (HLD.out.2.1.on HB4.out) (by omega))
                      have e1 : IntKind.i64.wrap ((l.fin : Int) + H.parts) = (l.fin : Int) + H.parts := IntWalk.i64_in _ (by omega)
                      have e2 : IntKind.i64.wrap ((l.fin : Int) + H.parts - l.block.from') = (l.fin : Int) + H.parts - l.block.from' := IntWalk.i64_in _ (by omega)
                      clear hbd z1 z2 z4 xx2 xx4 xx5 xx7
                      go_region_held3 (fun w' => w' = W3.drew.drew)
                        (first | go_keep | rfl)
                        (first | (go_at_call 78; refine HRG.out.mono ?_; rintro e w2 ⟨rfl, rfl⟩))
                      clear e1 e2
                      go_split_ands
                      go_wp2_with fail
                      · rename_i hrm
                        have HZ := Lib.hid (show G = 0 by rw [HF.out, if_neg (by simp only [Bool.and_eq_true, decide_eq_true_eq, Bool.not_eq_true', Bool.and_eq_false_iff, decide_eq_false_iff_not]; exact fun h => by have := h.2.2.2.2.2.2; omega)])
                        go_ret2
                        exact ⟨by rw [HZ.out]; rfl, HB4.out⟩
                      · rename_i hrm
                        obtain ⟨m, hm⟩ : ∃ m : Nat, H.parts = (m : Int) := ⟨H.parts.toNat, by omega⟩
                        have HGO := Lib.hid (show foundF d l (300 - (i + 1)) (i + 1) m = G by rw [HF.out, if_pos (by simp only [Bool.and_eq_true, decide_eq_true_eq, Bool.not_eq_true', Bool.and_eq_false_iff, decide_eq_false_iff_not]; exact ⟨trivial, HKD.out, by rw [HSQ.out]; exact HNX.out, HPA.out, H12.out.imp (fun h => by omega) (fun h h2 => h2 h), HCT.out.imp (fun h => by omega) (fun h h2 => h2 h), by omega⟩), hm]; simp)
                        have HIM := Lib.hid (And.intro hm (show i + 1 ≤ m by have := H12.out; have := HI.out.2.2; omega))
                        clear hm
                        go_roundw
                        case rel => exact ⟨m, i + 1, by rw [HIM.out.1], by simp, by have := HIM.out.1; omega, HIM.out.2, by have := HIM.out.2; omega, fun h => by omega, Lib.hid ⟨HB4.out, HGO.out⟩⟩
                        case measure => exact meas_lt (show (i : Int) + 1 ≠ 0 by omega) (show ((i : Int) = 0 ∧ H.parts - ((i : Int) + 1) < 300) ∨ ((i : Int) ≠ 0 ∧ H.parts - ((i : Int) + 1) < (n : Int) - (i : Int) ∧ 0 < (n : Int) - (i : Int)) by have := HIM.out; have := H12.out; omega)
                · have hppb : (H.parts == (n : Int)) = false := by simpa using hpp2
                  have HZ := Lib.hid (show G = 0 by rw [HF.out, if_neg (by simp only [Bool.and_eq_true, decide_eq_true_eq, Bool.not_eq_true', Bool.and_eq_false_iff, decide_eq_false_iff_not]; exact fun h => h.2.2.2.2.1.elim (fun h2 => h2 hi0) (fun h2 => h2 hpp2))])
                  clear hpp2 hi0
                  go_wp2_with fail
                  go_ret2
                  exact ⟨by rw [HZ.out]; rfl, H3.out.2⟩
              · have hib : decide (0 < i) = false := decide_eq_false hi0
                have H12 : Hid (i = 0 ∨ H.parts = (n : Int)) := Lib.hid (.inl (by omega))
                clear hi0
                go_wp2_with fail
                have hbd := Below.drew (Below.refl W3.heap.size W3)
                have z1 := cell_keep hbd y1
                have z2 := cell_keep hbd y2
                have z4 := cell_keep hbd y4
                have xx2 := cell_keep hbd x2
                have xx4 := cell_keep hbd x4
                have xx5 := cell_keep hbd x5
                have xx7 := cell_keep hbd x7
                have HB3 := Lib.hid hbd
                clear y1 y2 y3 y4 x2 x4 x5 x7 hbd
                by_cases hct : l.block.count ≤ H.seq
                · have hcb : decide (l.block.count ≤ H.seq) = true := decide_eq_true hct
                  by_cases hep : H.epoch = l.block.epoch
                  · have heb : (H.epoch == l.block.epoch) = true := by simpa using hep
                    have HCT : Hid (H.seq < l.block.count ∨ H.epoch = l.block.epoch) := Lib.hid (.inr hep)
                    clear hep hct
                    go_region
                    all_goals
                      go_wp2_with fail
                      have hbd := Below.drew (Below.refl W3.drew.heap.size W3.drew)
                      have w4 := cell_keep hbd z4
                      have w5 := cell_keep hbd xx4
                      have w7 := cell_keep hbd xx7
                      have HB4 := Lib.hid (below_on (below_on H3.out.2 HB3.out (Nat.le_refl _)) hbd (Nat.le_refl _))
                      have HRG := Lib.hid (lring_any W3.drew.drew B L D l d (HLD.out.1.on HB4.out) (HLD.out.2.1.on HB4.out) (by omega))
                      have e1 : IntKind.i64.wrap ((l.fin : Int) + H.parts) = (l.fin : Int) + H.parts := IntWalk.i64_in _ (by omega)
                      have e2 : IntKind.i64.wrap ((l.fin : Int) + H.parts - l.block.from') = (l.fin : Int) + H.parts - l.block.from' := IntWalk.i64_in _ (by omega)
                      clear hbd z1 z2 z4 xx2 xx4 xx5 xx7
                      go_region_held3 (fun w' => w' = W3.drew.drew)
                        (first | go_keep | rfl)
                        (first | (go_at_call 78; refine HRG.out.mono ?_; rintro e w2 ⟨rfl, rfl⟩))
                      clear e1 e2
                      go_split_ands
                      go_wp2_with fail
                      · rename_i hrm
                        have HZ := Lib.hid (show G = 0 by rw [HF.out, if_neg (by simp only [Bool.and_eq_true, decide_eq_true_eq, Bool.not_eq_true', Bool.and_eq_false_iff, decide_eq_false_iff_not]; exact fun h => by have := h.2.2.2.2.2.2; omega)])
                        go_ret2
                        exact ⟨by rw [HZ.out]; rfl, HB4.out⟩
                      · rename_i hrm
                        obtain ⟨m, hm⟩ : ∃ m : Nat, H.parts = (m : Int) := ⟨H.parts.toNat, by omega⟩
                        have HGO := Lib.hid (show foundF d l (300 - (i + 1)) (i + 1) m = G by rw [HF.out, if_pos (by simp only [Bool.and_eq_true, decide_eq_true_eq, Bool.not_eq_true', Bool.and_eq_false_iff, decide_eq_false_iff_not]; exact ⟨trivial, HKD.out, by rw [HSQ.out]; exact HNX.out, HPA.out, H12.out.imp (fun h => by omega) (fun h h2 => h2 h), HCT.out.imp (fun h => by omega) (fun h h2 => h2 h), by omega⟩), hm]; simp)
                        have HIM := Lib.hid (And.intro hm (show i + 1 ≤ m by have := H12.out; have := HI.out.2.2; omega))
                        clear hm
                        go_roundw
                        case rel => exact ⟨m, i + 1, by rw [HIM.out.1], by simp, by have := HIM.out.1; omega, HIM.out.2, by have := HIM.out.2; omega, fun h => by omega, Lib.hid ⟨HB4.out, HGO.out⟩⟩
                        case measure => exact meas_lt (show (i : Int) + 1 ≠ 0 by omega) (show ((i : Int) = 0 ∧ H.parts - ((i : Int) + 1) < 300) ∨ ((i : Int) ≠ 0 ∧ H.parts - ((i : Int) + 1) < (n : Int) - (i : Int) ∧ 0 < (n : Int) - (i : Int)) by have := HIM.out; have := H12.out; omega)
                  · have heb : (H.epoch == l.block.epoch) = false := by simpa using hep
                    have HZ := Lib.hid (show G = 0 by rw [HF.out, if_neg (by simp only [Bool.and_eq_true, decide_eq_true_eq, Bool.not_eq_true', Bool.and_eq_false_iff, decide_eq_false_iff_not]; exact fun h => h.2.2.2.2.2.1.elim (fun h2 => h2 hct) (fun h2 => h2 hep))])
                    clear hep hct
                    go_region
                    all_goals
                      go_wp2_with fail
                      go_ret2
                      exact ⟨by rw [HZ.out]; rfl, below_on H3.out.2 HB3.out (Nat.le_refl _)⟩
                · have hcb : decide (l.block.count ≤ H.seq) = false := decide_eq_false hct
                  have HCT : Hid (H.seq < l.block.count ∨ H.epoch = l.block.epoch) := Lib.hid (.inl (by omega))
                  clear hct
                  go_region
                  all_goals
                    go_wp2_with fail
                    have hbd := Below.drew (Below.refl W3.drew.heap.size W3.drew)
                    have w4 := cell_keep hbd z4
                    have w5 := cell_keep hbd xx4
                    have w7 := cell_keep hbd xx7
                    have HB4 := Lib.hid (below_on (below_on H3.out.2 HB3.out (Nat.le_refl _)) hbd (Nat.le_refl _))
                    have HRG := Lib.hid (lring_any W3.drew.drew B L D l d (HLD.out.1.on HB4.out) (HLD.out.2.1.on HB4.out) (by omega))
                    have e1 : IntKind.i64.wrap ((l.fin : Int) + H.parts) = (l.fin : Int) + H.parts := IntWalk.i64_in _ (by omega)
                    have e2 : IntKind.i64.wrap ((l.fin : Int) + H.parts - l.block.from') = (l.fin : Int) + H.parts - l.block.from' := IntWalk.i64_in _ (by omega)
                    clear hbd z1 z2 z4 xx2 xx4 xx5 xx7
                    go_region_held3 (fun w' => w' = W3.drew.drew)
                      (first | go_keep | rfl)
                      (first | (go_at_call 78; refine HRG.out.mono ?_; rintro e w2 ⟨rfl, rfl⟩))
                    clear e1 e2
                    go_split_ands
                    go_wp2_with fail
                    · rename_i hrm
                      have HZ := Lib.hid (show G = 0 by rw [HF.out, if_neg (by simp only [Bool.and_eq_true, decide_eq_true_eq, Bool.not_eq_true', Bool.and_eq_false_iff, decide_eq_false_iff_not]; exact fun h => by have := h.2.2.2.2.2.2; omega)])
                      go_ret2
                      exact ⟨by rw [HZ.out]; rfl, HB4.out⟩
                    · rename_i hrm
                      obtain ⟨m, hm⟩ : ∃ m : Nat, H.parts = (m : Int) := ⟨H.parts.toNat, by omega⟩
                      have HGO := Lib.hid (show foundF d l (300 - (i + 1)) (i + 1) m = G by rw [HF.out, if_pos (by simp only [Bool.and_eq_true, decide_eq_true_eq, Bool.not_eq_true', Bool.and_eq_false_iff, decide_eq_false_iff_not]; exact ⟨trivial, HKD.out, by rw [HSQ.out]; exact HNX.out, HPA.out, H12.out.imp (fun h => by omega) (fun h h2 => h2 h), HCT.out.imp (fun h => by omega) (fun h h2 => h2 h), by omega⟩), hm]; simp)
                      have HIM := Lib.hid (And.intro hm (show i + 1 ≤ m by have := H12.out; have := HI.out.2.2; omega))
                      clear hm
                      go_roundw
                      case rel => exact ⟨m, i + 1, by rw [HIM.out.1], by simp, by have := HIM.out.1; omega, HIM.out.2, by have := HIM.out.2; omega, fun h => by omega, Lib.hid ⟨HB4.out, HGO.out⟩⟩
                      case measure => exact meas_lt (show (i : Int) + 1 ≠ 0 by omega) (show ((i : Int) = 0 ∧ H.parts - ((i : Int) + 1) < 300) ∨ ((i : Int) ≠ 0 ∧ H.parts - ((i : Int) + 1) < (n : Int) - (i : Int) ∧ 0 < (n : Int) - (i : Int)) by have := HIM.out; have := H12.out; omega)
            · have hpb : (H.part == (i : Int)) = false := by simpa using hpa
              have HZ := Lib.hid (show G = 0 by rw [HF.out, if_neg (by simp only [Bool.and_eq_true, decide_eq_true_eq, Bool.not_eq_true', Bool.and_eq_false_iff, decide_eq_false_iff_not]; exact fun h => hpa h.2.2.2.1)])
              clear hpa
              go_wp2_with fail
              go_ret2
              exact ⟨by rw [HZ.out]; rfl, H3.out.2⟩
          · have hsb : (H.seq == nx) = false := by simpa using hsq
            have HZ := Lib.hid (show G = 0 by rw [HF.out, if_neg (by simp only [Bool.and_eq_true, decide_eq_true_eq, Bool.not_eq_true', Bool.and_eq_false_iff, decide_eq_false_iff_not]; exact fun h => hsq (h.2.2.1.trans HNX.out.symm))])
            clear hsq
            go_wp2_with fail
            go_ret2
            exact ⟨by rw [HZ.out]; rfl, H3.out.2⟩
        · have hkb : (H.kind == 2) = false := by simpa using hkd
          have HZ := Lib.hid (show G = 0 by rw [HF.out, if_neg (by simp only [Bool.and_eq_true, decide_eq_true_eq, Bool.not_eq_true', Bool.and_eq_false_iff, decide_eq_false_iff_not]; exact fun h => hkd h.2.1)])
          clear hkd
          go_wp2_with (first | (go_at_call 35; refine HPT.out.1.mono ?_; rintro e W1 hR; obtain ⟨ao, c, rfl, hown⟩ := hR.out; rw [← HPT.out.2] at hown ⊢; have H1 := Lib.hid (And.intro hR.bel hown); clear hR hown) | (refine wpList_store_row rfl 90 _ _ rfl W1.heap.size (headC H) rfl rfl 90 (headC zeroH) (heap_alloc_new W1 _) headSize rfl (headC_all _) ?_; have hq := head_new W1 H; (try change wpList _ _ _ _ _ ((W1.alloc (.cells (headC zeroH) 90)).setRow W1.heap.size (headC H))); generalize (W1.alloc (.cells (headC zeroH) 90)).setRow W1.heap.size (headC H) = W2 at hq ⊢; obtain ⟨b1, hb1⟩ : ∃ b1, b1 = W1.heap.size := ⟨_, rfl⟩; rw [← hb1] at hq ⊢; have hw2 : Below w.heap.size w W2 := below_on (below_on HI.out.1 H1.out.1 (Nat.le_refl _)) (hb1 ▸ hq.2) (Nat.le_refl _); obtain ⟨v2, g1, g2⟩ := (HLD.out.1.on hw2).ex; have y0 : W2.cell? ⟨b1, 0, none⟩ = some (.int .i64 H.kind) := hq.1.cell 0; have y1 : W2.cell? ⟨b1, 1, none⟩ = some (.int .i64 H.epoch) := hq.1.cell 1; have y2 : W2.cell? ⟨b1, 2, none⟩ = some (.int .i64 H.seq) := hq.1.cell 2; have y3 : W2.cell? ⟨b1, 3, none⟩ = some (.int .i64 H.part) := hq.1.cell 3; have y4 : W2.cell? ⟨b1, 4, none⟩ = some (.int .i64 H.parts) := hq.1.cell 4; have HQ := Lib.hid (And.intro hq.1 hw2); clear hq hb1 g1 g2 hw2))
          go_ret2
          exact ⟨by rw [HZ.out]; rfl, HQ.out.2⟩
      · have hkn : (k == 0) = false := by simpa using hk0
        have HZ := Lib.hid (show G = 0 by rw [HF.out, if_neg (by simp [hk0])])
        clear hk0 hp8 hpp
        go_wp2_with (first | (go_at_call 35; refine HPT.out.1.mono ?_; rintro e W1 hR; obtain ⟨ao, c, rfl, hown⟩ := hR.out; rw [← HPT.out.2] at hown ⊢; have H1 := Lib.hid (And.intro hR.bel hown); clear hR hown) | (refine wpList_store_row rfl 90 _ _ rfl W1.heap.size (headC H) rfl rfl 90 (headC zeroH) (heap_alloc_new W1 _) headSize rfl (headC_all _) ?_; have hq := head_new W1 H; (try change wpList _ _ _ _ _ ((W1.alloc (.cells (headC zeroH) 90)).setRow W1.heap.size (headC H))); generalize (W1.alloc (.cells (headC zeroH) 90)).setRow W1.heap.size (headC H) = W2 at hq ⊢; obtain ⟨b1, hb1⟩ : ∃ b1, b1 = W1.heap.size := ⟨_, rfl⟩; rw [← hb1] at hq ⊢; have hw2 : Below w.heap.size w W2 := below_on (below_on HI.out.1 H1.out.1 (Nat.le_refl _)) (hb1 ▸ hq.2) (Nat.le_refl _); obtain ⟨v2, g1, g2⟩ := (HLD.out.1.on hw2).ex; have y0 : W2.cell? ⟨b1, 0, none⟩ = some (.int .i64 H.kind) := hq.1.cell 0; have y1 : W2.cell? ⟨b1, 1, none⟩ = some (.int .i64 H.epoch) := hq.1.cell 1; have y2 : W2.cell? ⟨b1, 2, none⟩ = some (.int .i64 H.seq) := hq.1.cell 2; have y3 : W2.cell? ⟨b1, 3, none⟩ = some (.int .i64 H.part) := hq.1.cell 3; have y4 : W2.cell? ⟨b1, 4, none⟩ = some (.int .i64 H.parts) := hq.1.cell 4; have HQ := Lib.hid (And.intro hq.1 hw2); clear hq hb1 g1 g2 hw2))
        go_ret2
        exact ⟨by rw [HZ.out]; rfl, HQ.out.2⟩
    · have hlb : decide (i < n) = false := decide_eq_false hlt
      have hii : i = n := by omega
      have HG2 := Lib.hid (show G = n by rw [← hinv.out.2, hii]; cases h : 300 - n with | zero => rfl | succ f => rw [foundF, if_neg (by omega)])
      clear hii hlt
      go_wp2_with fail
      go_ret2
      exact ⟨by rw [HG2.out]; rfl, hinv.out.1⟩
end
section
open Go.ChangeShapes Go.WideShapes Go.ChangeAt Go.RowKit
theorem scanF_fix (d : DevP) (f : Nat) (l : LogP) (h : foundN d l = 0) : scanF d f l = l := by
  cases f with
  | zero => rfl
  | succ f => rw [scanF, if_pos h]
theorem ok_room {d : DevP} {l : LogP} {i n : Nat} (h : okPart d l i n = true) : (l.fin : Int) + ((partO d (l.fin + i)).1.parts.toNat : Int) - l.block.from' ≤ (ringN d : Int) ∧ 1 ≤ (partO d (l.fin + i)).1.parts.toNat := by
  unfold okPart at h
  simp only [Bool.and_eq_true, decide_eq_true_eq] at h
  have h1 := parts_pos d (l.fin + i) h.1
  have h2 := h.2.2.2.2.2.2
  omega
theorem foundF_room {d : DevP} {l : LogP} : ∀ (f i n : Nat), (l.fin : Int) + (n : Int) - l.block.from' ≤ (ringN d : Int) → (l.fin : Int) + (foundF d l f i n : Int) - l.block.from' ≤ (ringN d : Int)
  | 0, i, n, h => h
  | f + 1, i, n, h => by
    rw [foundF]
    split
    · split
      · rename_i hok
        exact foundF_room f _ _ (ok_room hok).1
      · omega
    · exact h
theorem found_room {d : DevP} {l : LogP} (h : foundN d l ≠ 0) : (l.fin : Int) + (foundN d l : Int) - l.block.from' ≤ (ringN d : Int) := by
  unfold foundN at h ⊢
  rw [foundF, if_pos (by omega)] at h ⊢
  split at h
  · rename_i hok
    rw [if_pos hok]
    exact foundF_room _ _ _ (ok_room hok).1
  · exact absurd rfl h
/-- where a log ends, off its cell -/
def finOf (w : World) (L : Nat) : Int := match w.cell? ⟨L, 7, none⟩ with
  | some v => intOf v
  | none => 0
theorem IsLog.finOf {B : Nat} {w : World} {L D : Nat} {l : LogP} (h : IsLog B w L D l) : finOf w L = (l.fin : Int) := by
  obtain ⟨v, h1, _⟩ := h.ex
  unfold Go.Proofs.YtjbaohcofdoinaaGreat.finOf
  rw [h1.cell 7]
  rfl
/-- a log begins -/
theorem log_born {B : Nat} {W : World} {L D : Nat} {l : LogP} {v : Value} {b : SupP} (h1 : Blk W L (logC D l.block v l.fin l.down) 80) (hG : Gath recK [] 88 B W v l.list) (hB : B ≤ L) (hf : supFits b = true) (hc : l.list.length ≤ 100000) (fin : Nat) :
    IsLog B ((((((W.setCell ⟨L, 1, none⟩ (.int .i64 b.gen)).setCell ⟨L, 2, none⟩ (.int .i64 b.epoch)).setCell ⟨L, 3, none⟩ (.int .i64 b.first)).setCell ⟨L, 4, none⟩ (.int .i64 b.from')).setCell ⟨L, 5, none⟩ (.int .i64 b.count)).setCell ⟨L, 7, none⟩ (.int .i64 (fin : Int))) L D ⟨b, l.list, fin, l.down⟩ ∧
    Only rgT B W ((((((W.setCell ⟨L, 1, none⟩ (.int .i64 b.gen)).setCell ⟨L, 2, none⟩ (.int .i64 b.epoch)).setCell ⟨L, 3, none⟩ (.int .i64 b.first)).setCell ⟨L, 4, none⟩ (.int .i64 b.from')).setCell ⟨L, 5, none⟩ (.int .i64 b.count)).setCell ⟨L, 7, none⟩ (.int .i64 (fin : Int))) := by
  have a1 := h1.set 1 (.int .i64 b.gen)
  have a2 := a1.set 2 (.int .i64 b.epoch)
  have a3 := a2.set 3 (.int .i64 b.first)
  have a4 := a3.set 4 (.int .i64 b.from')
  have a5 := a4.set 5 (.int .i64 b.count)
  have a6 := a5.set 7 (.int .i64 (fin : Int))
  have g1 := but_set W L 1 (.int .i64 b.gen)
  have g2 := but_trans g1 (but_set _ L 2 (.int .i64 b.epoch))
  have g3 := but_trans g2 (but_set _ L 3 (.int .i64 b.first))
  have g4 := but_trans g3 (but_set _ L 4 (.int .i64 b.from'))
  have g5 := but_trans g4 (but_set _ L 5 (.int .i64 b.count))
  have g6 := but_trans g5 (but_set _ L 7 (.int .i64 (fin : Int)))
  exact ⟨⟨⟨v, by simpa [logC] using a6, hG.step (Same.but g6 h1 (by decide))⟩, hB, hf, hc⟩, Only.but g6 h1 (by decide) hB⟩
theorem fit_gen {b : SupP} {n : Int} (h : supFits b = true) (hn : fitK n 7 = true) : supFits { b with gen := n } = true := by
  simp only [supFits, Bool.and_eq_true] at h ⊢
  exact ⟨⟨⟨⟨hn, h.1.1.1.2⟩, h.1.1.2⟩, h.1.2⟩, h.2⟩
theorem fit_epoch {b : SupP} {n : Int} (h : supFits b = true) (hn : fitK n 7 = true) : supFits { b with epoch := n } = true := by
  simp only [supFits, Bool.and_eq_true] at h ⊢
  exact ⟨⟨⟨⟨h.1.1.1.1, hn⟩, h.1.1.2⟩, h.1.2⟩, h.2⟩
theorem fit_count {b : SupP} {n : Int} (h : supFits b = true) (hn : fitK n 7 = true) : supFits { b with count := n } = true := by
  simp only [supFits, Bool.and_eq_true] at h ⊢
  exact ⟨h.1, hn⟩
theorem log_gen {B : Nat} {W : World} {L D : Nat} {l : LogP} (h : IsLog B W L D l) {n : Int} (hn : fitK n 7 = true) : IsLog B (W.setCell ⟨L, 1, none⟩ (.int .i64 n)) L D { l with block := { l.block with gen := n } } ∧ Only rgT B W (W.setCell ⟨L, 1, none⟩ (.int .i64 n)) := by
  obtain ⟨v, h1, h2⟩ := h.ex
  have hg := but_set W L 1 (.int .i64 n)
  exact ⟨⟨⟨v, by simpa [logC] using h1.set 1 (.int .i64 n), h2.step (Same.but hg h1 (by decide))⟩, h.base, fit_gen h.fits hn, h.cnt⟩, Only.but hg h1 (by decide) h.base⟩
theorem log_epoch {B : Nat} {W : World} {L D : Nat} {l : LogP} (h : IsLog B W L D l) {n : Int} (hn : fitK n 7 = true) : IsLog B (W.setCell ⟨L, 2, none⟩ (.int .i64 n)) L D { l with block := { l.block with epoch := n } } ∧ Only rgT B W (W.setCell ⟨L, 2, none⟩ (.int .i64 n)) := by
  obtain ⟨v, h1, h2⟩ := h.ex
  have hg := but_set W L 2 (.int .i64 n)
  exact ⟨⟨⟨v, by simpa [logC] using h1.set 2 (.int .i64 n), h2.step (Same.but hg h1 (by decide))⟩, h.base, fit_epoch h.fits hn, h.cnt⟩, Only.but hg h1 (by decide) h.base⟩
theorem log_count {B : Nat} {W : World} {L D : Nat} {l : LogP} (h : IsLog B W L D l) {n : Int} (hn : fitK n 7 = true) : IsLog B (W.setCell ⟨L, 5, none⟩ (.int .i64 n)) L D { l with block := { l.block with count := n } } ∧ Only rgT B W (W.setCell ⟨L, 5, none⟩ (.int .i64 n)) := by
  obtain ⟨v, h1, h2⟩ := h.ex
  have hg := but_set W L 5 (.int .i64 n)
  exact ⟨⟨⟨v, by simpa [logC] using h1.set 5 (.int .i64 n), h2.step (Same.but hg h1 (by decide))⟩, h.base, fit_count h.fits hn, h.cnt⟩, Only.but hg h1 (by decide) h.base⟩
theorem log_more6 {B : Nat} {W W' : World} {L D : Nat} {l : LogP} {v v' : Value} {n : Nat} (hl : IsLog B W L D l) (h1 : Blk W L (logC D l.block v l.fin l.down) 80) (hr : RPrep B W v l.list (l.fin, n) v' W') (hc : l.list.length < 100000) (hB : B ≤ W.heap.size) :
    Blk W' L (logC D l.block v l.fin l.down) 80 ∧ IsLog B (W'.setCell ⟨L, 6, none⟩ v') L D { l with list := l.list ++ [(l.fin, n)] } ∧ Only rgT B W (W'.setCell ⟨L, 6, none⟩ v') := by
  have hal : Below W.heap.size W (W.alloc (.cells #[.int .i64 ((l.fin, n).1 : Int), .int .i64 ((l.fin, n).2 : Int)] 88)) := (Below.refl _ _).alloc (Nat.le_refl _) _
  have h2 := grown_blk hr.grown hr.row (h1.on hal) (by decide)
  have g1 := but_set W' L 6 v'
  have h3 := h2.set 6 v'
  refine ⟨h2, ⟨⟨v', by simpa [logC] using h3, hr.gath.step (Same.but g1 h2 (by decide))⟩, hl.base, hl.fits, by simp; omega⟩, ?_⟩
  exact (Only.below hal hB).trans ((grown_only hr.grown hr.row (by decide) (by have := hal.size; omega)).trans (Only.but g1 h2 (by decide) hl.base))
theorem log_fin {B : Nat} {W : World} {L D : Nat} {l : LogP} (h : IsLog B W L D l) (n : Nat) : IsLog B (W.setCell ⟨L, 7, none⟩ (.int .i64 (n : Int))) L D { l with fin := n } ∧ Only rgT B W (W.setCell ⟨L, 7, none⟩ (.int .i64 (n : Int))) := by
  obtain ⟨v, h1, h2⟩ := h.ex
  have hg := but_set W L 7 (.int .i64 (n : Int))
  exact ⟨⟨⟨v, by simpa [logC] using h1.set 7 (.int .i64 (n : Int)), h2.step (Same.but hg h1 (by decide))⟩, h.base, h.fits, h.cnt⟩, Only.but hg h1 (by decide) h.base⟩
set_option maxHeartbeats 32000000 in
set_option maxRecDepth 100000 in
theorem lscan_any (w : World) (B L D : Nat) (l : LogP) (d : DevP) (hl : IsLog B w L D l) (hl0 : l.list = []) (hlo : l.down = false) (hd : IsDev B w D d) (hdn : d.down = false) (h3 : 3 ≤ d.sure.length) (b : SupP) (hbf : supFits b = true) (he1 : 1 ≤ b.epoch) (hfc : b.first ≤ b.count)
    (hcn : b.count ≤ nextL (scanL d b)) (hnf : supFits (nextB d b) = true) (hfrom : b.from' ≤ 800000000) :
    Calls Tryz.prog 32 #[.pointer (some ⟨L, 0, none⟩), .agg (supC b)] w fun e w' => e = .returned (.int .i64 0) ∧ IsLog B w' L D { scanL d b with block := nextB d b } ∧ IsDev B w' D d ∧ Only lgT B w w' := by
  have hal : Below w.heap.size w (w.alloc (.cells (supC b) 77)) := (Below.refl _ _).alloc (Nat.le_refl _) _
  have hA : Blk (w.alloc (.cells (supC b) 77)) w.heap.size (supC b) 77 := heap_alloc_new w _
  have hfr := fit7 (supFits_at hbf (t := 3) (by omega))
  simp only [supNum] at hfr
  obtain ⟨q, hq⟩ : ∃ q : Nat, b.from' = (q : Int) := ⟨b.from'.toNat, by omega⟩
  obtain ⟨bg, be, bf, bm, bc⟩ := b
  simp only at hq
  subst hq
  have HB := Lib.hid (And.intro hbf (And.intro hcn hnf))
  simp only [supC] at hal hA ⊢
  simp only at he1 hfc hfrom hfr HB
  have HA := Lib.hid (And.intro hal hA)
  have hb0 : ∃ b0, b0 = w.heap.size := ⟨_, rfl⟩
  obtain ⟨v0, g1, g2⟩ := hl.ex
  have HL := Lib.hid (And.intro hl (And.intro hd (And.intro hdn (And.intro hl0 hlo))))
  have hd1 : decide (be < 1) = false := decide_eq_false (by omega)
  have hd2 : decide (bc < bf) = false := decide_eq_false (by omega)
  have hLB : L ≠ w.heap.size := Nat.ne_of_lt (Blk.lt g1)
  clear hal hA hb0 hl hd hdn hl0 hlo g1 g2 hbf hcn hnf
  go_enter Tryz.func32, Tryz.ntmps32
  go_upto_region 3 with fail
  obtain ⟨wa, hwa⟩ : ∃ wa, wa = w.alloc (.cells #[.int .i64 bg, .int .i64 be, .int .i64 bf, .int .i64 (q : Int), .int .i64 bc] 77) := ⟨_, rfl⟩
  rw [← hwa] at HA ⊢
  clear hwa
  have hA := HA.out.2
  have hal := HA.out.1
  obtain ⟨v0, g1, g2⟩ := (HL.out.1.on hal).ex
  have hbd := Below.drew (Below.refl wa.heap.size wa)
  have x1 : wa.cell? ⟨w.heap.size, 0, none⟩ = some (.int .i64 bg) := hA.cell 0
  have x2 : wa.cell? ⟨w.heap.size, 1, none⟩ = some (.int .i64 be) := hA.cell 1
  have x3 : wa.cell? ⟨w.heap.size, 2, none⟩ = some (.int .i64 bf) := hA.cell 2
  have x4 : wa.cell? ⟨w.heap.size, 3, none⟩ = some (.int .i64 (q : Int)) := hA.cell 3
  have x5 : wa.cell? ⟨w.heap.size, 4, none⟩ = some (.int .i64 bc) := hA.cell 4
  have z1 : wa.cell? ⟨L, 1, none⟩ = some (.int .i64 l.block.gen) := g1.cell 1
  have z2 : wa.cell? ⟨L, 2, none⟩ = some (.int .i64 l.block.epoch) := g1.cell 2
  have z3 : wa.cell? ⟨L, 3, none⟩ = some (.int .i64 l.block.first) := g1.cell 3
  have z4 : wa.cell? ⟨L, 4, none⟩ = some (.int .i64 l.block.from') := g1.cell 4
  have z5 : wa.cell? ⟨L, 5, none⟩ = some (.int .i64 l.block.count) := g1.cell 5
  have z7 : wa.cell? ⟨L, 7, none⟩ = some (.int .i64 (l.fin : Int)) := g1.cell 7
  have t1 := g1.free 1
  have t2 := g1.free 2
  have t3 := g1.free 3
  have t4 := g1.free 4
  have t5 := g1.free 5
  have t7 := g1.free 7
  go_cut [] (fun wx => Hid (IsLog B wx L D ⟨⟨bg, be, bf, (q : Int), bc⟩, l.list, q, l.down⟩ ∧ IsDev B wx D d ∧ Only lgT B w wx ∧ Blk wx w.heap.size #[.int .i64 bg, .int .i64 be, .int .i64 bf, .int .i64 (q : Int), .int .i64 bc] 77))
  case first =>
    have HG := Lib.hid (And.intro g1 g2)
    clear g2 hA hal
    go_region_law fail
    all_goals
      go_wp2_with fail
      go_meet
      obtain ⟨k1, k2⟩ := log_born (b := ⟨bg, be, bf, (q : Int), bc⟩) HG.out.1 HG.out.2 HL.out.1.base HB.out.1 HL.out.1.cnt q
      have ho := (Only.below HA.out.1 HL.out.2.1.Ble).trans k2
      have hdd := lg_dv HL.out.2.1 ho (by decide) (by decide) (by decide) (by decide)
      have hA2 := k2.blk HA.out.2 (by decide)
      generalize ((((((wa.setCell ⟨L, 1, none⟩ (.int .i64 bg)).setCell ⟨L, 2, none⟩ (.int .i64 be)).setCell ⟨L, 3, none⟩ (.int .i64 bf)).setCell ⟨L, 4, none⟩ (.int .i64 (q : Int))).setCell ⟨L, 5, none⟩ (.int .i64 bc)).setCell ⟨L, 7, none⟩ (.int .i64 (q : Int))) = wz at *
      have hbz := Below.drew (Below.refl wz.heap.size wz)
      exact Lib.hid ⟨k1.on hbz, hdd.on hbz, (ho.trans (Only.below hbz hdd.Ble)).mono (by decide), hA2.on hbz⟩
  case rest =>
    have H0 := Lib.hid hcut.out
    clear hcut x1 x2 x3 x4 x5 z1 z2 z3 z4 z5 z7 t1 t2 t3 t4 t5 t7 g1 g2 hA hal hbd
    have hrg : ringN d ≤ 4094 := by have := HL.out.2.1.le; unfold ringN; omega
    go_wp2_with fail
    go_loopw [4] (fun r wr => r = .int .i64 0 ∧ Hid (∃ (l1 : LogP) (f : Nat), IsLog B wr L D l1 ∧ IsDev B wr D d ∧ Only lgT B w wr ∧ Blk wr w.heap.size #[.int .i64 bg, .int .i64 be, .int .i64 bf, .int .i64 (q : Int), .int .i64 bc] 77 ∧ scanF d f l1 = scanL d ⟨bg, be, bf, (q : Int), bc⟩ ∧ l1.block = ⟨bg, be, bf, (q : Int), bc⟩ ∧ l1.down = false ∧ q ≤ l1.fin ∧ l1.list.length ≤ l1.fin - q ∧ l1.fin - q ≤ ringN d ∧ ringN d + 1 ≤ f + (l1.fin - q))) (fun _ wr => ringN d + q + 1 - (finOf wr L).toNat)
    case atStart =>
      refine ⟨rfl, Lib.hid ⟨_, ringN d + 1, H0.out.1, H0.out.2.1, H0.out.2.2.1, H0.out.2.2.2, ?_, rfl, HL.out.2.2.2.2, Nat.le_refl _, ?_, ?_, ?_⟩⟩
      · rw [HL.out.2.2.2.1, HL.out.2.2.2.2]; rfl
      · rw [HL.out.2.2.2.1]; exact Nat.zero_le _
      · simp
      · simp
    case round =>
      obtain ⟨rfl, hinv⟩ := hrel
      obtain ⟨l1, f, hl1, hd1', ho1, hA1, hsc, hbk, hdn1, hq1, hlen, hrn, hf1⟩ := hinv.out
      have HI := Lib.hid (And.intro hl1 (And.intro hd1' (And.intro ho1 (And.intro hA1 (And.intro hsc (And.intro hbk hdn1))))))
      have hF := lfound_any wr B L D l1 d hl1 hd1' HL.out.2.2.1 h3 (by omega)
      obtain ⟨n, hn⟩ : ∃ n, n = foundN d l1 := ⟨_, rfl⟩
      rw [← hn] at hF
      have HN := Lib.hid hn
      by_cases h0 : n = 0
      · subst h0
        have HF := Lib.hid (show Calls Tryz.prog 54 #[.pointer (some ⟨L, 0, none⟩)] wr fun e w' => e = .returned (.tuple #[.int .i64 0, .int .i64 0]) ∧ Below wr.heap.size wr w' from hF)
        clear hinv hF hl1 hd1' ho1 hA1 hsc hbk hdn1 hn
        go_upto_region 10 with (go_at_call 54; refine HF.out.mono ?_; rintro e W2 ⟨rfl, hb2⟩; have HB2 := Lib.hid hb2; clear hb2)
        obtain ⟨hl1, hdv1, ho1, hA1, hsc, hbk, hdn1⟩ := HI.out
        have hE : l1 = scanL d ⟨bg, be, bf, (q : Int), bc⟩ := by rw [← hsc]; exact (scanF_fix d f l1 HN.out.symm).symm
        have hb2 := HB2.out
        have hdr := Below.drew (Below.refl W2.heap.size W2)
        have hl2 := (hl1.on hb2).on hdr
        have hd2 := (hdv1.on hb2).on hdr
        have ho2 := (ho1.trans (Only.below hb2 hdv1.Ble)).trans (Only.below hdr (hdv1.on hb2).Ble)
        have x4 : W2.drew.cell? ⟨w.heap.size, 4, none⟩ = some (.int .i64 bc) := ((hA1.on hb2).on hdr).cell 4
        have hNx := lnext_any W2.drew B L D l1 hl2
        have hge : decide (nextL l1 < bc) = false := decide_eq_false (by rw [hE]; have := HB.out.2.1; omega)
        have HNX := Lib.hid hNx
        have HE := Lib.hid (And.intro hE (And.intro hbk (And.intro hl2 (And.intro hd2 ho2))))
        clear hl1 hdv1 ho1 hA1 hsc hE hb2 hdr hl2 hd2 ho2 hNx HF
        go_cut [63] (fun c wx => c = .bool false ∧ Hid (Below W2.heap.size W2 wx))
        case first =>
          go_region_with (first | (go_at_call 15; refine HNX.out.mono ?_; rintro e W5 ⟨rfl, hb5⟩; rw [show l1.block.first + (l1.list.length : Int) = nextL l1 from rfl]; have c5 := cell_keep hb5 x4; have H5 := Lib.hid hb5; clear hb5))
          all_goals
            go_wp2_with fail
            go_meet
            exact ⟨rfl, Lib.hid (below_on (Below.drew (Below.refl _ _)) H5.out (Nat.le_refl _))⟩
        case rest =>
          obtain ⟨rfl, hcw⟩ := hcut
          have hbW := HB2.out
          obtain ⟨hl1, hdv1, ho1, hA1, hsc, hbk, hdn1⟩ := HI.out
          have hl2 := (hl1.on hbW).on hcw.out
          have hd2 := (hdv1.on hbW).on hcw.out
          have ho2 := (ho1.trans (Only.below hbW hdv1.Ble)).trans (Only.below hcw.out (hdv1.on hbW).Ble)
          have hnf := HB.out.2.2
          have fg := supFits_at hnf (t := 0) (by omega)
          have fe := supFits_at hnf (t := 1) (by omega)
          have fc := supFits_at hnf (t := 4) (by omega)
          simp only [supNum, nextB] at fg fe fc
          rw [← HE.out.1] at fc
          have k1 := log_gen hl2 fg
          have k2 := log_epoch k1.1 fe
          have hNx : Calls Tryz.prog 15 #[.pointer (some ⟨L, 0, none⟩)] ((wc.setCell ⟨L, 1, none⟩ (.int .i64 (bg + 1))).setCell ⟨L, 2, none⟩ (.int .i64 (be + 1))) fun e w' => e = .returned (.int .i64 (nextL l1)) ∧ Below ((wc.setCell ⟨L, 1, none⟩ (.int .i64 (bg + 1))).setCell ⟨L, 2, none⟩ (.int .i64 (be + 1))).heap.size ((wc.setCell ⟨L, 1, none⟩ (.int .i64 (bg + 1))).setCell ⟨L, 2, none⟩ (.int .i64 (be + 1))) w' := by
            have h := lnext_any _ B L D _ k2.1
            exact h
          obtain ⟨v2, g1, g2⟩ := hl2.ex
          rw [hbk] at g1
          have c1 : wc.cell? ⟨L, 1, none⟩ = some (.int .i64 bg) := g1.cell 1
          have c2 : wc.cell? ⟨L, 2, none⟩ = some (.int .i64 be) := g1.cell 2
          have e1 : wc.frozen? ⟨L, 1, none⟩ = false := g1.free 1
          have g1' := g1.set 1 (.int .i64 (bg + 1))
          have c2' : (wc.setCell ⟨L, 1, none⟩ (.int .i64 (bg + 1))).cell? ⟨L, 2, none⟩ = some (.int .i64 be) := g1'.cell 2
          have e2 : (wc.setCell ⟨L, 1, none⟩ (.int .i64 (bg + 1))).frozen? ⟨L, 2, none⟩ = false := g1'.free 2
          have HK := Lib.hid (And.intro k1 (And.intro k2 (And.intro fc (And.intro hd2 ho2))))
          have HNY := Lib.hid hNx
          have HKB := Lib.hid (show B ≤ ((wc.setCell ⟨L, 1, none⟩ (.int .i64 (bg + 1))).setCell ⟨L, 2, none⟩ (.int .i64 (be + 1))).heap.size from by have h := (k1.2.trans k2.2).bel.size; have := hd2.Ble; omega)
          have fg7 := fit7 fg
          have fe7 := fit7 fe
          clear hl1 hdv1 ho1 hA1 hsc hbk hdn1 hl2 hd2 ho2 hbW hcw hnf fg fe fc k1 k2 hNx g1 g2 g1' x4
          go_wp2_with (go_at_call 15; refine HNY.out.mono ?_; rintro e W5 ⟨rfl, hb5⟩; have k5 := HK.out.2.1.1.on hb5; obtain ⟨v5, q1, q2⟩ := k5.ex; have c5 := q1.cell 5; have e5 := q1.free 5; have H5 := Lib.hid (And.intro k5 hb5); clear hb5 k5 q1 q2)
          go_ret
          have k6 := log_count H5.out.1 HK.out.2.2.1
          obtain ⟨kk1, kk2, kk3, kk4, kk5⟩ := HK.out
          have hon := (kk1.2.trans kk2.2).trans ((Only.below H5.out.2 HKB.out).trans k6.2)
          refine ⟨rfl, ?_, lg_dv kk4 hon (by decide) (by decide) (by decide) (by decide), kk5.trans (hon.mono (by decide))⟩
          have h6 := k6.1
          have hbe : nextB d ⟨bg, be, bf, (q : Int), bc⟩ = ⟨bg + 1, be + 1, bf, (q : Int), nextL l1⟩ := by rw [nextB, ← HE.out.1]
          rw [← HE.out.1, hbe]
          have hbk := HE.out.2.1
          obtain ⟨lb, ll, lf, ld⟩ := l1
          simp only at hbk
          subst hbk
          exact h6
      · have HF := Lib.hid hF
        clear hinv hF hl1 hd1' ho1 hA1 hsc hbk hdn1 hn
        have hnb : ((n : Int) == 0) = false := by simpa using h0
        go_upto_region 8 with (go_at_call 54; refine HF.out.mono ?_; rintro e W2 ⟨rfl, hb2⟩; have HB2 := Lib.hid hb2; clear hb2)
        obtain ⟨hl1, hdv1, ho1, hA1, hsc, hbk, hdn1⟩ := HI.out
        have hb2 := HB2.out
        have hl2 := hl1.on hb2
        have hd2 := hdv1.on hb2
        have ho2 := ho1.trans (Only.below hb2 hdv1.Ble)
        have hA2 := hA1.on hb2
        have hroom := found_room (d := d) (l := l1) (by rw [← HN.out]; exact h0)
        rw [← HN.out, hbk] at hroom
        simp only at hroom
        have hf0 : ∃ f', f = f' + 1 := ⟨f - 1, by omega⟩
        obtain ⟨f', rfl⟩ := hf0
        have hsc2 : scanF d f' { l1 with list := l1.list ++ [(l1.fin, n)], fin := l1.fin + n } = scanL d ⟨bg, be, bf, (q : Int), bc⟩ := by
          rw [← hsc, scanF, if_neg (by rw [← HN.out]; exact h0), HN.out]
        have HS := Lib.hid (And.intro hsc2 (And.intro hbk (And.intro hdn1 (And.intro hd2 (And.intro ho2 (And.intro hA2 hl1.finOf))))))
        have hc : l1.list.length < 100000 := by omega
        have hB := hd2.Ble
        obtain ⟨v, g1, g2⟩ := hl2.ex
        have hbd := Below.drew (Below.refl W2.heap.size W2)
        obtain ⟨v', W9, hrp⟩ := rprep (B := B) (by have := hbd.size; omega) (by omega) (g2.on hbd) (l1.fin, n)
        obtain ⟨ao', c', hv', -, -⟩ := hrp.gath.seq
        subst hv'
        have hlm := log_more6 (hl2.on hbd) (g1.on hbd) hrp hc (by have := hbd.size; omega)
        have c6 : W2.drew.cell? ⟨L, 6, none⟩ = some v := (g1.on hbd).cell 6
        have c7 : W2.drew.cell? ⟨L, 7, none⟩ = some (.int .i64 (l1.fin : Int)) := (g1.on hbd).cell 7
        have hc9 : W9.cell? ⟨L, 6, none⟩ = some v ∧ W9.cell? ⟨L, 7, none⟩ = some (.int .i64 (l1.fin : Int)) := ⟨hlm.1.cell 6, hlm.1.cell 7⟩
        have f6 : W9.frozen? ⟨L, 6, none⟩ = false := hlm.1.free 6
        have hal := (Below.refl W2.drew.heap.size W2.drew).alloc (Nat.le_refl _) (.cells #[.int .i64 (l1.fin : Int), .int .i64 (n : Int)] 88)
        have hca : (W2.alloc (.cells #[.int .i64 (l1.fin : Int), .int .i64 (n : Int)] 88)).drew.cell? ⟨L, 6, none⟩ = some v ∧ (W2.alloc (.cells #[.int .i64 (l1.fin : Int), .int .i64 (n : Int)] 88)).drew.cell? ⟨L, 7, none⟩ = some (.int .i64 (l1.fin : Int)) := ⟨cell_keep hal c6, cell_keep hal c7⟩
        have HRP := Lib.hid hrp
        have HLM := Lib.hid (And.intro hlm hbd)
        have lL : L < W2.heap.size := Blk.lt g1
        have lW := World.new_ne W2 ⟨L, 6, none⟩ (show W2.cell? ⟨L, 6, none⟩ = some v from g1.cell 6)
        have lW7 := World.new_ne W2 ⟨L, 7, none⟩ (show W2.cell? ⟨L, 7, none⟩ = some (.int .i64 (l1.fin : Int)) from g1.cell 7)
        clear hl1 hdv1 ho1 hA1 hsc hbk hdn1 hb2 hl2 hd2 ho2 hA2 hsc2 g1 g2 hrp hlm hal
        obtain ⟨ca6, ca7⟩ := hca
        obtain ⟨k6, k7⟩ := hc9
        go_cut [] (fun wx => Hid (IsLog B wx L D { l1 with list := l1.list ++ [(l1.fin, n)] } ∧ Only rgT B W2 wx))
        case first =>
          go_region_law (refine step_append_run rfl _ _ _ _ rfl _ _ rfl rfl HRP.out.run ?_)
          all_goals
            go_wp2_with fail
            go_meet
            have h := HLM.out.1.2
            rw [show (l1.list ++ [(l1.fin, n)]).length = l1.list.length + 1 from by simp] at h
            exact Lib.hid ⟨h.1, (Only.below HLM.out.2 HS.out.2.2.2.1.Ble).trans h.2⟩
        case rest =>
          obtain ⟨hl4, ho4⟩ := hcut.out
          have k4 := log_fin hl4 (l1.fin + n)
          rw [Int.natCast_add] at k4
          obtain ⟨v4, g1, g2⟩ := hl4.ex
          have c74 : wc.cell? ⟨L, 7, none⟩ = some (.int .i64 (l1.fin : Int)) := g1.cell 7
          have f74 : wc.frozen? ⟨L, 7, none⟩ = false := g1.free 7
          have H4 := Lib.hid (And.intro k4 ho4)
          clear hcut hl4 ho4 k4 g1 g2 ca6 ca7 k6 k7 c6 c7 f6 lL lW lW7
          go_wp2_with fail
          go_roundw
          case measure =>
            rw [H4.out.1.1.finOf, HS.out.2.2.2.2.2.2]
            simp only [Int.toNat_natCast]
            omega
          case rel =>
            obtain ⟨hsc2, hbk, hdn1, hd2, ho2, hA2, -⟩ := HS.out
            have hon := H4.out.2.trans H4.out.1.2
            refine ⟨rfl, Lib.hid ⟨_, f', H4.out.1.1, lg_dv hd2 hon (by decide) (by decide) (by decide) (by decide), ho2.trans (hon.mono (by decide)), hon.blk hA2 (by decide), hsc2, hbk, hdn1, ?_, ?_, ?_, ?_⟩⟩
            · show q ≤ l1.fin + n
              omega
            · show (l1.list ++ [(l1.fin, n)]).length ≤ l1.fin + n - q
              rw [List.length_append, List.length_singleton]
              omega
            · show l1.fin + n - q ≤ ringN d
              omega
            · show ringN d + 1 ≤ f' + (l1.fin + n - q)
              omega
end
section
open Go.ChangeShapes Go.WideShapes Go.ChangeAt Go.RowKit
/-- the data of the first k parts from place p on -/
def readF (d : DevP) (p : Nat) : Nat → List UInt8
  | 0 => []
  | j + 1 => readF d p j ++ (partO d (p + j)).2.1
set_option maxHeartbeats 4000000 in
set_option maxRecDepth 100000 in
theorem lfirst_cell (w : World) (L : Nat) (n : Int) (h : w.cell? ⟨L, 3, none⟩ = some (.int .i64 n)) : Calls Tryz.prog 14 #[.pointer (some ⟨L, 0, none⟩)] w fun e w' => e = .returned (.int .i64 n) ∧ w' = w := by
  go_enter Tryz.func14, Tryz.ntmps14
  go_wp2_with fail
  go_ret
  exact ⟨rfl, rfl⟩
set_option maxHeartbeats 16000000 in
set_option maxRecDepth 100000 in
theorem lread_any (w : World) (B L D : Nat) (l : LogP) (d : DevP) (hl : IsLog B w L D l) (hd : IsDev B w D d) (h3 : 3 ≤ d.sure.length) (ho : offB d l = false) (i : Nat) (hi : i < l.list.length) (sq : Int) (hsq : sq = l.block.first + (i : Int))
    (hok : ∀ j, j < (l.list[i]).2 → (partO d ((l.list[i]).1 + j)).2.2 = 0) (hsz : (l.list[i]).1 + (l.list[i]).2 ≤ 900000000) (hln : ∀ j, j ≤ (l.list[i]).2 → (readF d (l.list[i]).1 j).length ≤ 1000000) :
    Calls Tryz.prog 16 #[.pointer (some ⟨L, 0, none⟩), .int .i64 sq] w fun e w' => (∃ ao c, e = .returned (.tuple #[.slice ao (readF d (l.list[i]).1 (l.list[i]).2).length c, .int .i64 0]) ∧ Own1 [5] w.heap.size w' ao (readF d (l.list[i]).1 (l.list[i]).2).length c ((readF d (l.list[i]).1 (l.list[i]).2).map u8V)) ∧ IsLog B w' L D l ∧ IsDev B w' D d ∧ Only lgT B w w' := by
  obtain ⟨pl, hpl⟩ : ∃ pl, pl = (l.list[i]).1 := ⟨_, rfl⟩
  obtain ⟨pn, hpn⟩ : ∃ pn, pn = (l.list[i]).2 := ⟨_, rfl⟩
  rw [← hpl, ← hpn] at hok hsz hln ⊢
  have HP := Lib.hid (And.intro hpl hpn)
  clear hpl hpn
  have HC := Lib.hid (lcheck_any w B L D l d hl hd)
  have hdl := down_false ho
  rw [ho] at HC
  rw [down_eq l false hdl.2] at HC
  have hfr := fit7 (supFits_at hl.fits (t := 2) (by omega))
  simp only [supNum] at hfr
  have hcl := hl.cnt
  have hsf : decide (sq < l.block.first) = false := decide_eq_false (by omega)
  have hsn : decide (nextL l ≤ sq) = false := decide_eq_false (by unfold nextL; omega)
  have hgo : sq - l.block.first = (i : Int) := by omega
  have HO := Lib.hid (And.intro hok (And.intro hln (And.intro hdl.1 hd.Ble)))
  clear hl hd ho hdl hok hln hsq
  go_enter Tryz.func16, Tryz.ntmps16
  go_upto_region 8 with (first
      | (go_at_call 15; refine (lnext_any W1 B L D l H1.out.1).mono ?_; rintro e W2 ⟨rfl, hb2⟩; rw [show l.block.first + (l.list.length : Int) = nextL l from rfl]; have H2 := Lib.hid (And.intro (H1.out.1.on hb2) (And.intro (H1.out.2.1.on hb2) (H1.out.2.2.trans (Only.below hb2 (by have := H1.out.2.1.Ble; omega))))); clear hb2)
      | (go_at_call 14; refine (lfirst_any W1 B L D l H1.out.1).mono ?_; rintro e W1 ⟨rfl, rfl⟩)
      | (go_at_call 34; refine HC.out.mono ?_; rintro e W1 ⟨rfl, hl1, hd1, ho1⟩; have H1 := Lib.hid (And.intro hl1 (And.intro hd1 ho1)); clear hl1 hd1 ho1; (try simp)))
  have hbd := Below.drew (Below.refl W2.heap.size W2)
  have hl2 := H2.out.1.on hbd
  obtain ⟨v2, g1, g2⟩ := hl2.ex
  obtain ⟨ao, c, rfl, hs2, -⟩ := g2.seq
  obtain ⟨bb, off, rfl⟩ := hs2.addr hi
  obtain ⟨kh, hc, -⟩ := hs2.at hi
  have c6 : W2.drew.cell? ⟨L, 6, none⟩ = some (.slice (some ⟨bb, off, none⟩) l.list.length c) := g1.cell 6
  have e0 : W2.drew.cell? ⟨bb, off + i * 2, none⟩ = some (.int .i64 (pl : Int)) := by rw [HP.out.1]; exact hc 0 (by decide)
  have e1 : W2.drew.cell? ⟨bb, off + i * 2 + 1, none⟩ = some (.int .i64 (pn : Int)) := by rw [HP.out.2]; exact hc 1 (by decide)
  have e0' : W2.cell? ⟨bb, off + i * 2, none⟩ = some (.int .i64 (pl : Int)) := e0
  have e1' : W2.cell? ⟨bb, off + i * 2 + 1, none⟩ = some (.int .i64 (pn : Int)) := e1
  have c6' : W2.cell? ⟨L, 6, none⟩ = some (.slice (some ⟨bb, off, none⟩) l.list.length c) := c6
  have n6 := World.new_ne W2 ⟨L, 6, none⟩ c6'
  have n0 := World.new_ne W2 ⟨bb, off + i * 2, none⟩ e0'
  have c3 : W2.drew.cell? ⟨L, 3, none⟩ = some (.int .i64 l.block.first) := g1.cell 3
  have c3' : W2.cell? ⟨L, 3, none⟩ = some (.int .i64 l.block.first) := c3
  have c3a : (W2.alloc (.cells #[.int .i64 0, .int .i64 0] 88)).drew.cell? ⟨L, 3, none⟩ = some (.int .i64 l.block.first) := cell_keep ((Below.refl W2.drew.heap.size W2.drew).alloc (Nat.le_refl _) (.cells #[.int .i64 0, .int .i64 0] 88)) c3
  have n3 := World.new_ne W2 ⟨L, 3, none⟩ c3'
  have D0 := Lib.hid (And.intro c6 (And.intro c3 (And.intro e0 e1)))
  have HBD := Lib.hid hbd
  clear hbd hl2 g1 g2 hs2 hc
  have hwr : IntKind.i64.wrap (sq - l.block.first) = (i : Int) := by rw [IntWalk.i64_in _ (by omega)]; exact hgo
  have hwr2 : IntKind.i64.wrap (i : Int) = (i : Int) := IntWalk.i64_in _ (by omega)
  clear hgo
  have hi2 : (i : Int) < (l.list.length : Int) := by omega
  have hi3 : ¬ ((i : Int) < 0) := by omega
  have hi4 : (i : Int) ≤ 100000 := by omega
  go_cut [7] (fun v wx => ∃ g, v = .pointer (some ⟨g, 0, none⟩) ∧ Hid (Blk wx g #[.int .i64 (pl : Int), .int .i64 (pn : Int)] 88 ∧ Below W2.heap.size W2 wx))
  case first =>
    go_region_held3 (fun w' => w'.cell? ⟨L, 6, none⟩ = some (.slice (some ⟨bb, off, none⟩) l.list.length c) ∧ w'.cell? ⟨L, 3, none⟩ = some (.int .i64 l.block.first) ∧ w'.cell? ⟨bb, off + i * 2, none⟩ = some (.int .i64 (pl : Int)) ∧ w'.cell? ⟨bb, off + i * 2 + 1, none⟩ = some (.int .i64 (pn : Int)))
      (first | exact D0.out | go_keep)
      (first | (go_at_call 14; refine (lfirst_cell _ L l.block.first (by assumption)).mono ?_; rintro e w9 ⟨rfl, rfl⟩))
    all_goals
      go_wp2_with fail
      go_meet
      have hb := Below.drew ((Below.refl W2.heap.size W2).alloc (Nat.le_refl _) (.cells #[.int .i64 (pl : Int), .int .i64 (pn : Int)] 88))
      have hz : Blk (W2.alloc (.cells #[.int .i64 (pl : Int), .int .i64 (pn : Int)] 88)) W2.heap.size #[.int .i64 (pl : Int), .int .i64 (pn : Int)] 88 := heap_alloc_new W2 _
      exact ⟨_, rfl, Lib.hid ⟨hz.on (Below.drew (Below.refl _ _)), hb⟩⟩
  case rest =>
    obtain ⟨g, rfl, hcw⟩ := hcut
    obtain ⟨hg, hbw⟩ := hcw.out
    have d1 : wc.cell? ⟨g, 1, none⟩ = some (.int .i64 (pn : Int)) := hg.cell 1
    have HW := Lib.hid (And.intro hg hbw)
    clear hcw hg hbw c6 c3 e0 e1 e0' e1' c3' c3a c6' n6 n0 n3 D0
    go_wp2_with fail
    go_loopw [4, 5, 8, 41] (fun s4 s5 sb si wr => ∃ j : Nat, j ≤ pn ∧ s4 = .slice none 0 0 ∧ s5 = .int .i64 0 ∧ si = .int .i64 (j : Int) ∧ Hid (Below W2.heap.size W2 wr ∧ Blk wr g #[.int .i64 (pl : Int), .int .i64 (pn : Int)] 88 ∧ wr.ownsRow W2.heap.size 5 1 sb (readF d pl j).length ((readF d pl j).map u8V))) (fun _ _ _ si _ => pn - (intOf si).toNat)
    case atStart => exact ⟨0, Nat.zero_le _, rfl, rfl, rfl, Lib.hid ⟨HW.out.2, HW.out.1, World.ownsRow_nil _ _ _ _⟩⟩
    case round =>
      obtain ⟨j, hj, rfl, rfl, rfl, hinv⟩ := hrel
      obtain ⟨hbw, hg, hown⟩ := hinv.out
      have b0 : wr.cell? ⟨g, 0, none⟩ = some (.int .i64 (pl : Int)) := hg.cell 0
      obtain ⟨ao2, c2, rfl, hown1⟩ := own1_of_owns hown (by have := HO.out.2.1 j hj; omega)
      have HI := Lib.hid (And.intro hbw (And.intro hg hown))
      clear hinv hg hown
      by_cases hjn : j < pn
      · have hjb : decide ((j : Int) < (pn : Int)) = true := decide_eq_true (by omega)
        have hpt := lpart_any wr B L D l d (H2.out.1.on hbw) (H2.out.2.1.on hbw) HO.out.2.2.1 h3 (pl + j) (by omega)
        have hpz := HO.out.1 j hjn
        obtain ⟨o, hoe⟩ : ∃ o, o = partO d (pl + j) := ⟨_, rfl⟩
        have hrf : readF d pl (j + 1) = readF d pl j ++ o.2.1 := by rw [hoe]; rfl
        rw [← hoe] at hpz
        have HPT := Lib.hid (And.intro hpt (And.intro hoe hrf))
        obtain ⟨H, dat, kk⟩ := o
        simp only at hpz
        subst hpz
        have HLN := Lib.hid (And.intro (HO.out.2.1 (j + 1) hjn) (HO.out.2.1 j hj))
        clear hpt hoe hrf hown1 hbw
        go_upto_region 16 with (first
          | (go_at_call 35; refine HPT.out.1.mono ?_; rintro e W4 hR; obtain ⟨ao, c, rfl, hown⟩ := hR.out; rw [← HPT.out.2.1] at hown ⊢; have H4 := Lib.hid (And.intro hR.bel hown); clear hR hown)
          | (refine wpList_store_row rfl 90 _ _ rfl W4.heap.size (headC H) rfl rfl 90 (headC zeroH) (heap_alloc_new W4 _) headSize rfl (headC_all _) ?_; have hq := head_new W4 H; (try change wpList _ _ _ _ _ ((W4.alloc (.cells (headC zeroH) 90)).setRow W4.heap.size (headC H))); generalize (W4.alloc (.cells (headC zeroH) 90)).setRow W4.heap.size (headC H) = W5 at hq ⊢; have H5 := Lib.hid (And.intro (H4.out.2.on hq.2) (below_on H4.out.1 hq.2 (Nat.le_refl _))); clear hq))
        obtain ⟨i0, hi0, hz0, hz1, hz2⟩ := info_parts infoByte
        have hb5 := H5.out.2
        have hlr : (readF d pl (j + 1)).length = (readF d pl j).length + dat.length := by rw [HPT.out.2.2, List.length_append]
        have hown5 := HI.out.2.2.kept (row := none) ⟨hb5.os, hb5.tape, hb5.output, hb5.size, fun k hk _ => hb5.block k hk⟩ (by cases (Value.slice ao2 (readF d pl j).length c2).ownBlock <;> simp)
        obtain ⟨v', W6, hrun, hown6, hgr⟩ := append_row (P := Tryz.prog) W5 W2.heap.size 49 49 5 i0 _ 1 Tryz.underlying49 hi0 hz0 hz1 hz2 rfl (.slice ao2 (readF d pl j).length c2) _ _ hown5 ao dat.length c (dat.map u8V) H5.out.1.row (u8_one dat) (by have := HLN.out.1; omega) (by have := HLN.out.1; omega) (by have := HI.out.1.size; have := hb5.size; omega)
        have hbn : Below W2.heap.size W2 W6 := (below_on HI.out.1 hb5 (Nat.le_refl _)).grown hgr (by have := HI.out.1.size; have := hb5.size; omega) (fun k hk => (hown5.lt k hk).1)
        have hrow : ∀ b, (Value.slice ao2 (readF d pl j).length c2).ownBlock = some b → ∃ cs, Blk W5 b cs 5 ∧ W2.heap.size ≤ b := by
          intro b hb
          obtain ⟨_, ho⟩ := hown5
          rcases ho with ⟨he, _⟩ | ⟨g', cap, cur, he, hB, hh, _⟩
          · rw [he] at hb
            simp [Value.ownBlock] at hb
          · rw [he] at hb
            simp [Value.ownBlock] at hb
            subst hb
            exact ⟨cur, hh, hB⟩
        have hgn : Blk W6 g #[.int .i64 (pl : Int), .int .i64 (pn : Int)] 88 := grown_blk hgr hrow (HI.out.2.1.on hb5) (by decide)
        obtain ⟨ao6, c6, rfl, -⟩ := own1_of_owns hown6 (by have := HLN.out.1; omega)
        have HR := Lib.hid hrun
        have H6 := Lib.hid (And.intro hbn (And.intro hgn hown6))
        clear hi0 hz0 hz1 hz2 hb5 hown5 hrun hown6 hgr hbn hgn hrow
        go_wp2_with (at_builtin; refine wpList_append_run rfl _ _ _ rfl _ _ rfl rfl HR.out ?_)
        go_roundw
        case measure => simp [intOf]; omega
        case rel =>
          refine ⟨j + 1, hjn, rfl, rfl, by simp, Lib.hid ⟨H6.out.1, H6.out.2.1, ?_⟩⟩
          rw [hlr, HPT.out.2.2, List.map_append]
          exact H6.out.2.2
      · obtain rfl : j = pn := by omega
        go_wp2_with fail
        go_ret2
        exact ⟨⟨ao2, c2, rfl, (hown1.on (Below.refl _ _)).mono H2.out.2.2.bel.size⟩, H2.out.1.on hbw, H2.out.2.1.on hbw, H2.out.2.2.trans (Only.below hbw H2.out.2.1.Ble)⟩
end
section
open Go.ChangeShapes Go.WideShapes Go.ChangeAt Go.RowKit
theorem pieces_take (b : List UInt8) (k : Nat) : b.take (k * 496) ++ pieceB b k = b.take ((k + 1) * 496) := by
  rw [pieceB, show (k + 1) * 496 = k * 496 + 496 by omega, List.take_add]
theorem fit_seq {d : DevP} {l : LogP} {rs : List (List UInt8)} {sy n : Nat} (h : LogOK d l rs sy) (hb : LogBd d l rs n) (hn : n ≤ 700000) {i : Nat} (hi : i < rs.length) : fitK (l.block.first + (i : Int)) 7 = true :=
  (fitK_small (by have := h.nums.2.2.1; omega) (by have := hb.first; omega)).1
/-- the parts of a record -/
theorem part_rec {d : DevP} {l : LogP} {rs : List (List UInt8)} {sy n f : Nat} {ep : Nat → Int} (h : LogOK d l rs sy) (hb : LogBd d l rs n) (hn : n ≤ 700000) (hB : Body d l rs sy f ep) {i : Nat} (hi : i < rs.length) {j : Nat} (hj : j < pN rs[i]) : (partO d (plN f rs i + j)).2 = (pieceB rs[i] j, 0) := by
  rw [part_lies h hB hi hj (fit_seq h hb hn hi) (fun hi hj => hB.live i hi j hj)]
theorem read_rec {d : DevP} {l : LogP} {rs : List (List UInt8)} {sy n f : Nat} {ep : Nat → Int} (h : LogOK d l rs sy) (hb : LogBd d l rs n) (hn : n ≤ 700000) (hB : Body d l rs sy f ep) {i : Nat} (hi : i < rs.length) : ∀ k, k ≤ pN rs[i] → readF d (plN f rs i) k = rs[i].take (k * 496)
  | 0, _ => by simp [readF]
  | k + 1, hk => by
    rw [readF, read_rec h hb hn hB hi k (by omega), part_rec h hb hn hB hi (j := k) (by omega), pieces_take]
theorem parts_all (b : List UInt8) : b.take (pN b * 496) = b := by
  apply List.take_of_length_le
  unfold pN partsN
  omega
theorem lread_ok (w : World) (B L D : Nat) (l : LogP) (d : DevP) (hl : IsLog B w L D l) (hd : IsDev B w D d) (rs : List (List UInt8)) (sy n : Nat) (h : LogOK d l rs sy) (hb : LogBd d l rs n) (hn : n ≤ 700000) (i : Nat) (hi : i < rs.length) :
    Calls Tryz.prog 16 #[.pointer (some ⟨L, 0, none⟩), .int .i64 (l.block.first + (i : Int))] w fun e w' => (∃ ao c, e = .returned (.tuple #[.slice ao rs[i].length c, .int .i64 0]) ∧ Own1 [5] w.heap.size w' ao rs[i].length c (rs[i].map u8V)) ∧ IsLog B w' L D l ∧ IsDev B w' D d ∧ Only lgT B w w' := by
  obtain ⟨f, ep, hB⟩ := h.body
  have hi2 : i < l.list.length := by rw [h.list_len.1]; exact hi
  have he : l.list[i] = (plN f rs i, pN rs[i]) := by
    have e := layN_get f rs i hi
    rw [← hB.lst, List.getElem?_eq_getElem hi2] at e
    exact Option.some.inj e
  have hpe := plN_end f rs hi
  have hfin := hB.fin
  have hbf := hb.fin
  have hs := (h.small _ (List.getElem_mem hi)).2
  have hr := lread_any w B L D l d hl hd (by have := h.n4; omega) (body_off h.calm h.off) i hi2 _ rfl
    (fun j hj => by rw [he] at hj ⊢; rw [part_rec h hb hn hB hi hj]) (by rw [he]; show plN f rs i + pN rs[i] ≤ _; omega)
    (fun j hj => by rw [he] at hj ⊢; rw [read_rec h hb hn hB hi j hj, List.length_take]; omega)
  rw [he, show ((plN f rs i, pN rs[i]).1) = plN f rs i from rfl, show ((plN f rs i, pN rs[i]).2) = pN rs[i] from rfl, read_rec h hb hn hB hi _ (Nat.le_refl _), parts_all] at hr
  exact hr
end
section
open Go.ChangeShapes Go.WideShapes Go.ChangeAt Go.RowKit
set_option maxHeartbeats 16000000 in
set_option maxRecDepth 100000 in
theorem lopen_any (w : World) (D : Nat) (B : Nat) (d : DevP) (hd : IsDev B w D d) (h4 : 4 ≤ d.sure.length) (hdn : d.down = false) (b : SupP) (hld : loadN d 2 = some b) (hbf : supFits b = true) (he1 : 1 ≤ b.epoch) (hfc : b.first ≤ b.count)
    (hcn : b.count ≤ nextL (scanL d b)) (hnf : supFits (nextB d b) = true) (hfrom : b.from' ≤ 800000000) (sd : DevP) (hsv : saveP d (nextB d b) = (sd, 0)) :
    Calls Tryz.prog 12 #[.pointer (some ⟨D, 0, none⟩)] w fun e w' => (∃ L, e = .returned (.tuple #[.pointer (some ⟨L, 0, none⟩), .int .i64 0]) ∧ w.heap.size ≤ L ∧ IsLog B w' L D { scanL d b with block := nextB d b }) ∧ IsDev B w' D sd ∧ Only lgT B w w' := by
  have HLN := Lib.hid (dlen_any w B D _ hd)
  have HDW := Lib.hid (ddown_any w B D _ hd)
  rw [hdn] at HDW
  have h4i : ¬ ((d.sure.length : Int) < 4) := by omega
  have HBL := Lib.hid hd.Ble
  have hle := loadE d
  have hA : Blk (w.alloc (.cells (logC D zeroSup (.slice none 0 0) 0 false) 80)) w.heap.size (logC D zeroSup (.slice none 0 0) 0 false) 80 := heap_alloc_new w _
  have hal : Below w.heap.size w (w.alloc (.cells (logC D zeroSup (.slice none 0 0) 0 false) 80)) := (Below.refl _ _).alloc (Nat.le_refl _) _
  have HA := Lib.hid (And.intro hal hA)
  have HLD := Lib.hid (load_any (w.alloc (.cells (logC D zeroSup (.slice none 0 0) 0 false) 80)) B D _ (hd.on hal) (by omega))
  rw [show loadE d = 0 by rw [loadE, if_neg (by rw [hdn]; decide), hld]; rfl, show loadP d = b by rw [loadP, if_neg (by rw [hdn]; decide), hld]; rfl] at HLD
  have HX := Lib.hid (And.intro hld (And.intro hbf (And.intro he1 (And.intro hfc (And.intro hcn (And.intro hnf (And.intro hfrom (And.intro hsv (And.intro hd (And.intro hdn h4))))))))))
  have hb' : ∃ b', b' = nextB d b := ⟨_, rfl⟩
  clear hd h4 hA hal hdn hld hbf he1 hfc hcn hnf hfrom hsv hle hb'
  go_enter Tryz.func12, Tryz.ntmps12
  go_upto_region 16 with (first | (go_at_call 13; refine HLN.out.mono ?_; rintro e w ⟨rfl, rfl⟩) | (go_at_call 29; refine HDW.out.mono ?_; rintro e w ⟨rfl, rfl⟩) | (go_at_call 30; refine HLD.out.mono ?_; rintro e W2 ⟨rfl, hb⟩; have HW := Lib.hid (And.intro (below_on HA.out.1 hb (Nat.le_refl _)) (HA.out.2.on hb)); clear hb) | (refine wpList_store_row rfl 77 _ _ rfl W2.heap.size (supC b) rfl rfl 77 (supC zeroSup) (heap_alloc_new W2 _) supSize rfl (supC_all _) ?_; have hq := sup_new W2 b; (try change wpList _ _ _ _ _ ((W2.alloc (.cells (supC zeroSup) 77)).setRow W2.heap.size (supC b))); generalize (W2.alloc (.cells (supC zeroSup) 77)).setRow W2.heap.size (supC b) = W3 at hq ⊢; have HQ := Lib.hid (And.intro hq (And.intro (below_on HW.out.1 hq.2 (Nat.le_refl _)) (HW.out.2.on hq.2))); clear hq))
  obtain ⟨g, hg⟩ : ∃ g, g = W2.heap.size := ⟨_, rfl⟩
  rw [← hg] at HQ ⊢
  clear hg
  have hq1 := HQ.out.1.1
  have y0 : W3.cell? ⟨g, 0, none⟩ = some (.int .i64 b.gen) := hq1.cell 0
  have y1 : W3.cell? ⟨g, 1, none⟩ = some (.int .i64 b.epoch) := hq1.cell 1
  have y2 : W3.cell? ⟨g, 2, none⟩ = some (.int .i64 b.first) := hq1.cell 2
  have y3 : W3.cell? ⟨g, 3, none⟩ = some (.int .i64 b.from') := hq1.cell 3
  have y4 : W3.cell? ⟨g, 4, none⟩ = some (.int .i64 b.count) := hq1.cell 4
  have hl3 : IsLog B W3 w.heap.size D ⟨zeroSup, [], 0, false⟩ := ⟨⟨_, HQ.out.2.2, Gath.nil _ _ _ _ _⟩, HBL.out, by decide, Nat.zero_le _⟩
  obtain ⟨hld, hbf, he1, hfc, hcn, hnf, hfrom, hsv, hd, hdn, h4⟩ := HX.out
  have hs := lscan_any W3 B w.heap.size D _ d hl3 rfl rfl (hd.on HQ.out.2.1) hdn (by omega) b hbf he1 hfc hcn hnf hfrom
  obtain ⟨b', hb'⟩ : ∃ b', b' = nextB d b := ⟨_, rfl⟩
  rw [← hb'] at hs
  have hnx : supNext d b' = true := by rw [hb', supNext, hld]; exact beq_self_eq_true _
  have HS := Lib.hid hs
  have HB' := Lib.hid (And.intro hb' hnx)
  clear hq1 hl3 hld hbf he1 hfc hcn hnf hfrom hsv hd hdn h4 hs hb' hnx
  go_wp2_with (first
    | (go_at_call 32; refine HS.out.mono ?_; rintro e W4 ⟨rfl, hl4, hd4, ho4⟩; obtain ⟨v4, g1, g2⟩ := hl4.ex; have z1 : W4.cell? ⟨w.heap.size, 1, none⟩ = some (.int .i64 b'.gen) := g1.cell 1; have z2 : W4.cell? ⟨w.heap.size, 2, none⟩ = some (.int .i64 b'.epoch) := g1.cell 2; have z3 : W4.cell? ⟨w.heap.size, 3, none⟩ = some (.int .i64 b'.first) := g1.cell 3; have z4 : W4.cell? ⟨w.heap.size, 4, none⟩ = some (.int .i64 b'.from') := g1.cell 4; have z5 : W4.cell? ⟨w.heap.size, 5, none⟩ = some (.int .i64 b'.count) := g1.cell 5; have H4 := Lib.hid (And.intro hl4 (And.intro hd4 ho4)); clear hl4 hd4 ho4 g1 g2)
    | (go_at_call 33; have hsa := save_any W4 B D d H4.out.2.1 (by have := HX.out.2.2.2.2.2.2.2.2.2.2; omega) HX.out.2.2.2.2.2.2.2.2.2.1 b' (by rw [HB'.out.1]; exact HX.out.2.2.2.2.2.1) HB'.out.2; rw [HB'.out.1, HX.out.2.2.2.2.2.2.2.1, ← HB'.out.1] at hsa; refine hsa.mono ?_; rintro e W5 ⟨rfl, hd5, ho5⟩; have H5 := Lib.hid (And.intro hd5 ho5); clear hd5 ho5 hsa))
  go_ret2
  have hl5 := H4.out.1.only H5.out.2 (by decide) (by decide)
  rw [HB'.out.1] at hl5
  refine ⟨⟨_, rfl, Nat.le_refl _, hl5⟩, H5.out.1, (Only.below HQ.out.2.1 HBL.out).trans (H4.out.2.2.trans (H5.out.2.mono (by decide)))⟩
end
section
open Go.ChangeShapes Go.WideShapes Go.ChangeAt Go.RowKit
set_option maxHeartbeats 8000000 in
set_option maxRecDepth 100000 in
theorem kagain_clock (w : World) (B K C L : Nat) (pl no te : Int) (me dn : Bool) (hK : Blk w K (keepC C L pl no te me dn) 48) (hB : B ≤ K) (hBw : B ≤ w.heap.size) (t : Int) :
    Calls Tryz.prog 18 #[.pointer (some ⟨K, 0, none⟩), .agg (blankC 3 t (.slice none 0 0))] w fun e w' => e = .returned (.tuple #[]) ∧ Blk w' K (keepC C L pl (max no t) (max no t) me dn) 48 ∧ Only [48] B w w' := by
  have hb1 : Below w.heap.size w (w.alloc (.cells (blankC 3 t (.slice none 0 0)) 59)) := (Below.refl _ _).alloc (Nat.le_refl _) _
  have a1 : Blk (w.alloc (.cells (blankC 3 t (.slice none 0 0)) 59)) w.heap.size (blankC 3 t (.slice none 0 0)) 59 := heap_alloc_new w _
  have e0 : (w.alloc (.cells (blankC 3 t (.slice none 0 0)) 59)).cell? ⟨w.heap.size, 0, none⟩ = some (.int .i64 3) := a1.cell 0
  have e1' : (w.alloc (.cells (blankC 3 t (.slice none 0 0)) 59)).cell? ⟨w.heap.size, 1, none⟩ = some (.int .i64 t) := a1.cell 1
  have k1 := hK.on hb1
  have HA := Lib.hid (And.intro hb1 (And.intro a1 k1))
  have HB := Lib.hid (And.intro hB hBw)
  clear hb1 a1 k1 hK hB hBw
  go_enter Tryz.func18, Tryz.ntmps18
  go_upto_region 2 with fail
  clear e0 e1'
  obtain ⟨wa, hwa⟩ : ∃ wa, wa = w.alloc (.cells (blankC 3 t (.slice none 0 0)) 59) := ⟨_, rfl⟩
  rw [← hwa] at HA ⊢
  clear hwa
  have hA := HA.out.2.1
  have k1 := HA.out.2.2
  have x1 : wa.cell? ⟨w.heap.size, 1, none⟩ = some (.int .i64 t) := hA.cell 1
  have z3 : wa.cell? ⟨K, 3, none⟩ = some (.int .i64 no) := k1.cell 3
  have t3 := k1.free 3
  go_cut [] (fun wx => Hid (Blk wx K (keepC C L pl (max no t) te me dn) 48 ∧ Only [48] B w wx))
  case first =>
    clear hA k1
    go_region_law fail
    all_goals
      go_wp2_with fail
      go_meet
      have hg := but_set wa K 3 (.int .i64 (max no t))
      have hs := HA.out.2.2.set 3 (.int .i64 (max no t))
      have ho := (Only.below HA.out.1 HB.out.2).trans (Only.but (S := [48]) hg HA.out.2.2 List.mem_cons_self HB.out.1)
      have hbz := Below.drew (Below.refl (wa.setCell ⟨K, 3, none⟩ (.int .i64 (max no t))).heap.size (wa.setCell ⟨K, 3, none⟩ (.int .i64 (max no t))))
      exact Lib.hid ⟨by simpa [keepC] using hs.on hbz, ho.trans (Only.below hbz (by have := ho.bel.size; have := HB.out.2; omega))⟩
  case rest =>
    obtain ⟨hk, ho⟩ := hcut.out
    have y3 : wc.cell? ⟨K, 3, none⟩ = some (.int .i64 (max no t)) := hk.cell 3
    have y4 : wc.cell? ⟨K, 4, none⟩ = some (.int .i64 te) := hk.cell 4
    have u4 := hk.free 4
    have hs := hk.set 4 (.int .i64 (max no t))
    have hg := but_set wc K 4 (.int .i64 (max no t))
    have HF := Lib.hid (And.intro hs (ho.trans (Only.but (S := [48]) hg hk List.mem_cons_self HB.out.1)))
    clear hcut hk ho hs hg x1 z3 t3 hA k1
    go_wp2_with fail
    go_end0
    exact ⟨rfl, by simpa [keepC] using HF.out.1, HF.out.2⟩
end
section
open Go.ChangeShapes Go.WideShapes Go.ChangeAt Go.RowKit
section
variable {P : Program}
end
theorem ent_size {ev : Array Value} (h : ev.size = 16) : (Tryz.prog.info? 59).map (·.size) = some ev.size := by rw [h]; exact entSize
theorem ent_new (W : World) (ev : Array Value) : Blk ((W.alloc (.cells (blankC 0 0 (.slice none 0 0)) 59)).setRow W.heap.size ev) W.heap.size ev 59 ∧ Below W.heap.size W ((W.alloc (.cells (blankC 0 0 (.slice none 0 0)) 59)).setRow W.heap.size ev) := by
  have hA : Blk (W.alloc (.cells (blankC 0 0 (.slice none 0 0)) 59)) W.heap.size (blankC 0 0 (.slice none 0 0)) 59 := heap_alloc_new W _
  have hal : Below W.heap.size W (W.alloc (.cells (blankC 0 0 (.slice none 0 0)) 59)) := (Below.refl _ _).alloc (Nat.le_refl _) _
  exact ⟨blk_setRow hA ev, hal.trans (below_of_but (but_setRow _ W.heap.size ev) (Nat.le_refl _) hal.size)⟩
end
section
open Go.ChangeShapes Go.WideShapes Go.ChangeAt Go.RowKit
/-- what stays while a record is done again -/
def aT : List TypeId := qT ++ lgT
structure Afr (B : Nat) (w w' : World) : Prop where
  bel : Below B w w'
  same : Same (tagged aT w) w w'
theorem Afr.trans {B : Nat} {a b c : World} (h : Afr B a b) (k : Afr B b c) : Afr B a c := ⟨h.bel.trans k.bel, h.same.step k.same⟩
theorem Afr.below {B : Nat} {w w' : World} (h : Below w.heap.size w w') (hB : B ≤ w.heap.size) : Afr B w w' := ⟨h.mono hB, Same.below h _⟩
theorem Afr.left {B B' : Nat} {w w' : World} (h : Left B' w w') (hB : B ≤ B') : Afr B w w' := ⟨h.bel.mono hB, same_sub h.same (by decide)⟩
theorem Afr.only {S : List TypeId} {B : Nat} {w w' : World} (h : Only S B w w') (hd : ∀ t ∈ aT, t ∉ S) : Afr B w w' := ⟨h.bel, h.same hd⟩
theorem Afr.kfr {B : Nat} {w w' : World} (h : Afr B w w') : Kfr B w w' := ⟨h.bel, same_sub h.same (by decide)⟩
theorem Afr.dev {B B' : Nat} {w w' : World} {D : Nat} {d : DevP} (ho : Afr B' w w') (hd : IsDev B w D d) : IsDev B w' D d := by
  obtain ⟨SU, v, k1, k2, k3, k4⟩ := hd.ex
  exact ⟨⟨SU, v, blk_same k1 ho.same (by decide), blk_same k2 ho.same (by decide), k3, k4.step (same_sub ho.same (by decide))⟩, hd.base, hd.pos, hd.le, hd.lens, hd.ulens, hd.lim, hd.cnt⟩
theorem Afr.log {B B' : Nat} {w w' : World} {L D : Nat} {l : LogP} (ho : Afr B' w w') (h : IsLog B w L D l) : IsLog B w' L D l := by
  obtain ⟨v, a, b⟩ := h.ex
  exact ⟨⟨v, blk_same a ho.same (by decide), b.step (same_sub ho.same (by decide))⟩, h.base, h.fits, h.cnt⟩
/-- one record is read, and done again -/
def StepOK (B : Nat) (P : Nat → Nat → Nat → Nat → World → Prop) (i : Nat) (b : List UInt8) : Prop :=
  ∀ (K C L : Nat) (W : World) (ao : Option Addr) (c : Nat), P i K C L W → B ≤ W.heap.size → Own1 [5] B W ao b.length c (b.map u8V) →
    ∃ ev : Array Value, ev.size = 16 ∧ ev.all (·.oneCell') = true ∧ Calls Tryz.prog 17 #[.slice ao b.length c] W (fun e W' => e = .returned (.tuple #[.agg ev, .int .i64 0]) ∧ Below W.heap.size W W' ∧
      ∀ W2, Below W'.heap.size W' W2 → Calls Tryz.prog 18 #[.pointer (some ⟨K, 0, none⟩), .agg ev] W2 fun e w' => e = .returned (.tuple #[]) ∧ P (i + 1) K C L w' ∧ Afr B W2 w')
set_option maxHeartbeats 16000000 in
set_option maxRecDepth 100000 in
theorem kopen_any (w : World) (D : Nat) (B : Nat) (d : DevP) (hd : IsDev B w D d) (h4 : 4 ≤ d.sure.length) (hdn : d.down = false) (b : SupP) (hld : loadN d 2 = some b) (hbf : supFits b = true) (he1 : 1 ≤ b.epoch) (hfc : b.first ≤ b.count)
    (hcn : b.count ≤ nextL (scanL d b)) (hnf : supFits (nextB d b) = true) (hfrom : b.from' ≤ 800000000) (sd : DevP) (hsv : saveP d (nextB d b) = (sd, 0)) (l : LogP) (hll : { scanL d b with block := nextB d b } = l)
    (rs : List (List UInt8)) (sy n : Nat) (hok : LogOK sd l rs sy) (hbd : LogBd sd l rs n) (hn : n ≤ 700000) (hsl : sd.sure.length = d.sure.length)
    (most stale : Int) (h1 : 1 ≤ most) (h2 : most ≤ 4096) (hs : timeB stale = true) (P : Nat → Nat → Nat → Nat → World → Prop)
    (hP0 : ∀ K C L W, Blk W K (keepC C L ((d.sure.length : Int) - 2) 0 0 false false) 48 → B ≤ K → IsCache B W C most stale 0 [] → P 0 K C L W)
    (hPo : ∀ i K C L W W', P i K C L W → Only lgT B W W' → P i K C L W')
    (hst : ∀ i (hi : i < rs.length), StepOK B P i rs[i]) :
    Calls Tryz.prog 5 #[.pointer (some ⟨D, 0, none⟩), .int .i64 most, .int .i64 stale] w fun e w' => (∃ K C L, e = .returned (.tuple #[.pointer (some ⟨K, 0, none⟩), .int .i64 0]) ∧ P rs.length K C L w' ∧ IsLog B w' L D l) ∧ IsDev B w' D sd ∧ Kfr B w w' := by
  have HNW := Lib.hid (new_any w w.heap.size (Nat.le_refl _) most stale h1 h2 hs)
  have HBL := Lib.hid hd.Ble
  have hpl := hd.le
  have hLO := fun W (hb : IsDev B W D d) => lopen_any W D B d hb h4 hdn b hld hbf he1 hfc hcn hnf hfrom sd hsv
  rw [hll] at hLO
  have HLO := Lib.hid hLO
  have H0 := Lib.hid (And.intro hd (And.intro hok (And.intro hbd (And.intro hn (And.intro hP0 (And.intro hPo (And.intro hst hsl)))))))
  obtain ⟨m, hm⟩ : ∃ m, m = rs.length := ⟨_, rfl⟩
  obtain ⟨x, hx⟩ : ∃ x, x = l.block.first := ⟨_, rfl⟩
  have hnx : l.block.first + (l.list.length : Int) = x + (m : Int) := by rw [hok.list_len.1, hm, hx]
  have HM := Lib.hid (And.intro hm (And.intro hx hnx))
  have hxb : 0 ≤ x ∧ x ≤ 700000 ∧ m ≤ 700000 := by
    have q1 := hok.nums.2.2.1
    have q2 := hbd.first
    rw [← hx] at q1 q2
    rw [← hm] at q2
    omega
  obtain ⟨dl, hdl⟩ : ∃ dl, dl = d.sure.length := ⟨_, rfl⟩
  have HDL := Lib.hid hdl
  rw [← hdl] at hpl
  rw [← hm]
  clear hd h4 h1 h2 hs hok hbd hn hP0 hPo hst hLO hdn hld hbf he1 hfc hcn hnf hfrom hsv hll hm hx hnx hsl hdl
  go_enter Tryz.func5, Tryz.ntmps5
  go_wp2_with (first
    | (go_at_call 14; have hK := heap_alloc_new W2 (.cells (keepC C L ((dl : Int) - 2) 0 0 false false) 48); have hb3 := (Below.refl W2.heap.size W2).alloc (Nat.le_refl _) (.cells (keepC C L ((dl : Int) - 2) 0 0 false false) 48); (try change Calls _ _ _ (W2.alloc (.cells (keepC C L ((dl : Int) - 2) 0 0 false false) 48)) _); generalize W2.alloc (.cells (keepC C L ((dl : Int) - 2) 0 0 false false) 48) = W3 at hK hb3 ⊢; have H3 := Lib.hid (And.intro hK hb3); clear hK hb3; refine (lfirst_any W3 _ L D _ (H2.out.1.on H3.out.2)).mono ?_; rintro e W3 ⟨rfl, rfl⟩)
    | (go_at_call 13; refine (dlen_any W2 B D _ H2.out.2.1).mono ?_; rintro e W2 ⟨rfl, rfl⟩; rw [H0.out.2.2.2.2.2.2.2, ← HDL.out])
    | (go_at_call 12; refine (HLO.out W1 (H0.out.1.on H1.out.2)).mono ?_; rintro e W2 ⟨⟨L, rfl, -, hl⟩, hd2, ho2⟩; have H2 := Lib.hid (And.intro hl (And.intro hd2 (And.intro ((Only.below H1.out.2 HBL.out).trans ho2) (H1.out.1.only ho2 (by decide) (by decide) (by decide))))); clear hl hd2 ho2)
    | (go_at_call 11; refine HNW.out.mono ?_; rintro e W1 ⟨⟨C, rfl, hc⟩, hb1⟩; have H1 := Lib.hid (And.intro hc hb1); clear hc hb1))
  rw [← HM.out.2.1]
  obtain ⟨g, hg⟩ : ∃ g, g = W2.heap.size := ⟨_, rfl⟩
  rw [← hg]
  have hK3 : Blk W3 g (keepC C L ((dl : Int) - 2) 0 0 false false) 48 := by rw [hg]; exact H3.out.1
  have hgB : B ≤ g := by
    have := H2.out.2.2.1.bel.size
    have := HBL.out
    omega
  have hP := H0.out.2.2.2.2.1 g C L W3 (by rw [← HDL.out]; exact hK3) hgB (cache_low (H2.out.2.2.2.on H3.out.2) HBL.out)
  have hfr : Kfr B w W3 := (Kfr.only H2.out.2.2.1 (by decide)).trans (Kfr.below H3.out.2 (by omega))
  have HI0 := Lib.hid (And.intro hP (And.intro (H2.out.1.on H3.out.2) (And.intro (H2.out.2.1.on H3.out.2) hfr)))
  clear hK3 hP hfr hg
  go_loopw [12] (fun s wr => ∃ i : Nat, i ≤ m ∧ s = .int .i64 (x + (i : Int)) ∧ Hid (P i g C L wr ∧ IsLog B wr L D l ∧ IsDev B wr D sd ∧ Kfr B w wr)) (fun s _ => (x + (m : Int) - intOf s).toNat)
  case atStart => exact ⟨0, Nat.zero_le _, by simp, HI0⟩
  case round =>
    obtain ⟨i, hi, rfl, hinv⟩ := hrel
    have hBr : B ≤ wr.heap.size := by have := hinv.out.2.2.2.bel.size; have := HBL.out; omega
    by_cases hlt : i < m
    · have hcmp : decide (x + (i : Int) < x + (m : Int)) = true := decide_eq_true (by omega)
      have hir : i < rs.length := by rw [← HM.out.1]; exact hlt
      have HIR := Lib.hid hir
      go_wp2_with (first
        | (go_at_call 18; refine (H6.out.2.2.2 W7 H7.out.2).mono ?_; rintro e W8 ⟨rfl, hP8, hf8⟩; have H8 := Lib.hid (And.intro hP8 hf8); clear hP8 hf8)
        | (refine wpList_load_row rfl 59 _ rfl W6.heap.size rfl 59 ev (0, 0) _ H7.out.1 Tryz.underlying59 rfl (ent_size H6.out.1) ?_)
        | (refine wpList_store_row rfl 59 _ _ rfl W6.heap.size ev rfl rfl 59 (blankC 0 0 (.slice none 0 0)) (heap_alloc_new W6 _) (ent_size H6.out.1) H6.out.1.symm H6.out.2.1 ?_; have hq := ent_new W6 ev; (try change wpList _ _ _ _ _ ((W6.alloc (.cells (blankC 0 0 (.slice none 0 0)) 59)).setRow W6.heap.size ev)); generalize (W6.alloc (.cells (blankC 0 0 (.slice none 0 0)) 59)).setRow W6.heap.size ev = W7 at hq ⊢; have H7 := Lib.hid hq; clear hq)
        | (go_at_call 17; obtain ⟨ev, he1, he2, hdec⟩ := H0.out.2.2.2.2.2.2.1 i HIR.out g C L W5 ao c H5.out.1 H5.out.2.2.2.2 H5.out.2.2.2.1; refine hdec.mono ?_; rintro e W6 ⟨rfl, hb6, hag⟩; have H6 := Lib.hid (And.intro he1 (And.intro he2 (And.intro hb6 hag))); clear he1 he2 hdec hb6 hag)
        | (go_at_call 16; have hr := lread_ok W4 B L D l sd (hinv.out.2.1.on H4.out) (hinv.out.2.2.1.on H4.out) rs sy n H0.out.2.1 H0.out.2.2.1 H0.out.2.2.2.1 i HIR.out; rw [← HM.out.2.1] at hr; refine hr.mono ?_; rintro e W5 ⟨⟨ao, c, rfl, ho⟩, hl5, hd5, hon5⟩; have hP5 := H0.out.2.2.2.2.2.1 _ _ _ _ _ _ hinv.out.1 ((Only.below H4.out hBr).trans hon5); have hB5 : B ≤ W5.heap.size := Nat.le_trans (Nat.le_trans hBr H4.out.size) hon5.bel.size; have H5 := Lib.hid (And.intro hP5 (And.intro (And.intro hl5 hd5) (And.intro hon5 (And.intro (ho.mono (Nat.le_trans hBr H4.out.size)) hB5)))); clear hr ho hl5 hd5 hon5 hP5 hB5)
        | (go_at_call 15; refine (lnext_any wr _ L D _ hinv.out.2.1).mono ?_; rintro e W4 ⟨rfl, hb4⟩; rw [HM.out.2.2]; have H4 := Lib.hid hb4; clear hb4))
      go_roundw
      case measure => simp [intOf]; omega
      case rel =>
        have hb57 := below_on H6.out.2.2.1 H7.out.2 (Nat.le_refl _)
        have hfr : Kfr B W5 W8 := (Kfr.below hb57 H5.out.2.2.2.2).trans H8.out.2.kfr
        exact ⟨i + 1, hlt, by simp; omega, Lib.hid ⟨H8.out.1, H8.out.2.log (H5.out.2.1.1.on hb57), H8.out.2.dev (H5.out.2.1.2.on hb57), (hinv.out.2.2.2.trans (Kfr.below H4.out hBr)).trans ((Kfr.only H5.out.2.2.1 (by decide)).trans hfr)⟩⟩
    · obtain rfl : i = m := by omega
      have hcmp : decide (x + (i : Int) < x + (i : Int)) = false := by simp
      go_wp2_with (go_at_call 15; refine (lnext_any wr _ L D _ hinv.out.2.1).mono ?_; rintro e W4 ⟨rfl, hb4⟩; rw [HM.out.2.2]; have H4 := Lib.hid hb4; clear hb4)
      go_ret2
      exact ⟨⟨g, C, L, rfl, H0.out.2.2.2.2.2.1 _ _ _ _ _ _ hinv.out.1 (Only.below H4.out hBr), hinv.out.2.1.on H4.out⟩, hinv.out.2.2.1.on H4.out, hinv.out.2.2.2.trans (Kfr.below H4.out hBr)⟩
end
section
open Go.ChangeShapes Go.WideShapes Go.ChangeAt Go.RowKit
/-- an entry of a log that was compacted -/
inductive EntP where
  | put (f : FactP)
  | clock (t : Int)
instance : Inhabited FactH := ⟨⟨none, 0, 0, none, 0, 0, none, 0, 0, ⟨none, 0, 0, none, 0, 0, none, 0, 0, none, 0, 0, none, 0, 0⟩⟩⟩
def entC (h : FactH) : EntP → Array Value
  | .put f => putC h f
  | .clock t => blankC 3 t (.slice none 0 0)
def IsEnt (S : Nat → Prop) (w : World) (h : FactH) : EntP → Prop
  | .put f => IsFact S w h f
  | .clock _ => True
def entK : Kind EntP where
  H := FactH
  size := 16
  cells := entC
  is := IsEnt
  hsize := fun _ x => by cases x <;> rfl
  pos := by decide
  one := fun h x u hu => by
    cases x <;> simp [entC, putC, blankC] at hu <;> (rcases hu with rfl | rfl | rfl | rfl | rfl | rfl | rfl | rfl | rfl | rfl | rfl | rfl | rfl | rfl | rfl | rfl <;> rfl)
  mono := fun {S S' w h x} hi hS => by cases x <;> first | trivial | exact IsFact.mono hi hS
  keep := fun {S w w' h x} hi hs => by cases x <;> first | trivial | exact IsFact.keep hi hs
theorem entParts : ∃ (i0 : TypeInfo) (z : Value), Tryz.prog.info? 59 = some i0 ∧ i0.zero = some z ∧ i0.size = 16 ∧ z.cells.size = 16 ∧ i0.bytes ≤ 1000 := by
  obtain ⟨i0, hi⟩ : ∃ i0, Tryz.prog.info? 59 = some i0 := Option.isSome_iff_exists.1 (by kernel_rfl)
  have h1 : (Tryz.prog.info? 59).map (fun i => (i.zero.map (·.cells.size), i.size, decide (i.bytes ≤ 1000))) = some (some 16, 16, true) := by kernel_rfl
  rw [hi] at h1
  simp at h1
  obtain ⟨⟨z, hz, hz2⟩, h2, h3⟩ := h1
  exact ⟨i0, z, hi, hz, h2, hz2, h3⟩
/-- one entry more -/
structure EPrep (B : Nat) (W : World) (v : Value) (u : List EntP) (h : FactH) (x : EntP) (v' : Value) (W' : World) : Prop where
  run : (Builtin.append_ #[139, 139] 139 #[v, .slice (some ⟨W.heap.size, 0, none⟩) 1 1]).run Tryz.prog (W.alloc (.cells (entC h x) 59)) = .ok v' W'
  gath : Gath entK (57 :: fT) 59 B W' v' (u ++ [x])
  grown : (W.alloc (.cells (entC h x) 59)).grownBy W' v.ownBlock
  row : ∀ b, v.ownBlock = some b → ∃ cs, Blk (W.alloc (.cells (entC h x) 59)) b cs 59 ∧ B ≤ b
theorem eprep {B : Nat} {W : World} {v : Value} {u : List EntP} (hB : B ≤ W.heap.size) (hu : u.length ≤ 900000) (hG : Gath entK (57 :: fT) 59 B W v u) (h : FactH) (x : EntP) (hx : IsEnt (tagged (57 :: fT) W) W h x) : ∃ v' W', EPrep B W v u h x v' W' := by
  have hal : Below W.heap.size W (W.alloc (.cells (entC h x) 59)) := (Below.refl _ _).alloc (Nat.le_refl _) _
  obtain ⟨i0, z, hi, hz, hs0, hzs, hby⟩ := entParts
  obtain ⟨v', W', hrun, hgath, hgr, hr, _⟩ := (hG.on hal).push (ts := 139) (by decide) i0 z Tryz.underlying139 hi hz hs0 hzs hby (by omega) (by have := hal.size; omega) h x (entK.step hx (Same.below hal _)) ⟨W.heap.size, 0, none⟩ 1 (fun j _ => by rw [addr_add, Nat.zero_add]; exact World.cell?_alloc_new W _ _ j) 139
  exact ⟨v', W', hrun, hgath, hgr, hr⟩
end
section
open Go.ChangeShapes Go.WideShapes Go.ChangeAt Go.RowKit
set_option maxHeartbeats 16000000 in
set_option maxRecDepth 100000 in
theorem allcmp_any (w : World) (s t : Slot) (hs : Blk w s.b (itemC s) 134) (ht : Blk w t.b (itemC t) 134) (h1 : s.used < 4000000000000000000) (h2 : t.used < 4000000000000000000) :
    Calls Tryz.prog 132 #[.pointer (some ⟨s.b, 0, none⟩), .pointer (some ⟨t.b, 0, none⟩)] w fun e w' => e = .returned (.int .i64 ((s.used : Int) - t.used)) ∧ ∃ n, w' = w.drewN n := by
  have HM0 := Lib.hid (show w.drew.cell? ⟨s.b, 13, none⟩ = some (.int .i64 (s.used : Int)) from hs.cell 13)
  have HM1 := Lib.hid (show w.drew.cell? ⟨t.b, 13, none⟩ = some (.int .i64 (t.used : Int)) from ht.cell 13)
  clear hs ht
  go_enter Tryz.func132, Tryz.ntmps132
  go_wp2_with fail
  have m0 := HM0.out
  have m1 := HM1.out
  go_region
  go_wp2_with fail
  go_ret
  exact ⟨rfl, 1, rfl⟩
end
section
open Go.ChangeShapes Go.WideShapes Go.ChangeAt Go.RowKit Go.Shelf Go.Sort Go.Lib
abbrev InL (T : List Slot) := {s : Slot // s ∈ T}
def ptrE (T : List Slot) (x : InL T) : Value := .pointer (some ⟨x.1.b, 0, none⟩)
def usedC (T : List Slot) (x y : InL T) : Int := (x.1.used : Int) - y.1.used
theorem ltU {T : List Slot} (x y : InL T) : ltOf (usedC T) x y = decide (x.1.used < y.1.used) := by
  have : ((x.1.used : Int) - y.1.used < 0) ↔ x.1.used < y.1.used := by omega
  show decide (((x.1.used : Int) - y.1.used) < 0) = _
  exact decide_eq_decide.2 this
theorem usedC_swo (T : List Slot) : SWO (ltOf (usedC T)) := by
  refine ⟨fun x => ?_, fun x y z h1 h2 => ?_, fun x y z h1 h2 => ?_⟩
  · simp [ltU]
  · simp only [ltU, decide_eq_true_eq] at h1 h2 ⊢; omega
  · simp only [ltU, decide_eq_false_iff_not] at h1 h2 ⊢; omega
theorem used_inj {L : List Slot} (h : L.Pairwise fun a b => a.used < b.used) {x y : Slot} (hx : x ∈ L) (hy : y ∈ L) (he : x.used = y.used) : x = y := by
  induction L with
  | nil => cases hx
  | cons a L ih =>
    obtain ⟨h1, h2⟩ := List.pairwise_cons.1 h
    rcases List.mem_cons.1 hx with ex | hx'
    · rcases List.mem_cons.1 hy with ey | hy'
      · rw [ex, ey]
      · have := h1 y hy'; rw [← ex] at this; omega
    · rcases List.mem_cons.1 hy with ey | hy'
      · have := h1 x hx'; rw [← ey] at this; omega
      · exact ih h2 hx' hy'
/-- two rows of the same items, both in the order of use, are one -/
theorem used_one : ∀ {L T : List Slot}, L.Pairwise (fun a b => a.used < b.used) → T.Pairwise (fun a b => a.used ≤ b.used) → T.Perm L → T = L
  | [], T, _, _, hp => hp.eq_nil
  | a :: L, [], _, _, hp => absurd hp.symm.eq_nil (by simp)
  | a :: L, b :: T, h1, h2, hp => by
    obtain ⟨p1, p2⟩ := List.pairwise_cons.1 h1
    obtain ⟨q1, q2⟩ := List.pairwise_cons.1 h2
    have hb : b ∈ a :: L := hp.subset (List.mem_cons_self ..)
    have ha : a ∈ b :: T := hp.symm.subset (List.mem_cons_self ..)
    have e : b = a := by
      rcases List.mem_cons.1 hb with e | hb'
      · exact e
      · rcases List.mem_cons.1 ha with e | ha'
        · exact e.symm
        · have := p1 b hb'; have := q1 a ha'; omega
    subst e
    rw [used_one p2 q2 (List.Perm.cons_inv hp)]
theorem sort_block {α : Type} [Inhabited α] (enc : α → Value) (w : World) (blk off m : Nat) (dk : Array α) (os : Array Obj) {b : Nat} (hb : b < w.heap.size) (hne : b ≠ blk) : (sortWorld enc w blk off m dk os).heap[b]? = w.heap[b]? := by
  unfold sortWorld
  rw [heap_grow_old _ _ (by simp [Go.Sort.ahead]; exact hb)]
  simp [putRow, mapBlock, Go.Sort.ahead, Array.getElem?_modify, Ne.symm hne]
/-- the items' pointers, sorted -/
theorem sortptr_any (c0 : Array Value) (w : World) (L T : List Slot) (hp : T.Perm L) (hne : T ≠ []) (ho : L.Pairwise fun a b => a.used < b.used) (hu : ∀ s ∈ L, s.used < 4000000000000000000) (hI : ∀ s ∈ L, Blk w s.b (itemC s) 134) (blk cap : Nat) (hblk : blk < w.heap.size) (hsb : ∀ s ∈ L, s.b ≠ blk) (hsz : T.length < 1000000)
    (hB0 : Blk w blk c0 131) (hR : ∀ i (h : i < T.length), w.cell? ⟨blk, 0 + i, none⟩ = some (.pointer (some ⟨T[i].b, 0, none⟩)) ∧ w.frozen? ⟨blk, 0 + i, none⟩ = false) :
    Calls Tryz.prog 131 #[.slice (some ⟨blk, 0, none⟩) T.length cap, .func (.func 132) #[] #[]] w fun e w' => e = .returned (.tuple #[]) ∧ (∀ i (h : i < L.length), w'.cell? ⟨blk, 0 + i, none⟩ = some (.pointer (some ⟨L[i].b, 0, none⟩))) ∧ w.grownBy w' (some blk) ∧ ∃ c1, Blk w' blk c1 131 := by
  haveI : Inhabited (InL T) := ⟨⟨T.head hne, List.head_mem hne⟩⟩
  have hd : (T.attach.toArray).size = T.length := by simp
  have hH : Holds (ptrE T) w blk 0 T.attach.toArray := fun j hj => by
    rw [hd] at hj
    have h1 := hR j hj
    rw [getElem!_pos _ j (by simpa using hj)]
    simpa [ptrE] using h1
  have h := Any.slices_SortFunc_total Tryz.sortF (ptrE T) (fun _ => rfl) (usedC T) (usedC_swo T) 132 #[] blk 0 cap T.attach.toArray w (enters_of Tryz.func132 (by kernel_rfl) rfl)
    (CmpReads.lays (fun m os dk hs x y => by
      have hx := hp.subset x.2
      have hy := hp.subset y.2
      have bx : Blk (sortWorld (ptrE T) w blk 0 m dk os) x.1.b (itemC x.1) 134 := (sort_block _ _ _ _ _ _ _ (hI _ hx).lt (hsb _ hx)).trans (hI _ hx)
      have by_ : Blk (sortWorld (ptrE T) w blk 0 m dk os) y.1.b (itemC y.1) 134 := (sort_block _ _ _ _ _ _ _ (hI _ hy).lt (hsb _ hy)).trans (hI _ hy)
      exact allcmp_any _ x.1 y.1 bx by_ (hu _ hx) (hu _ hy)))
    hH hblk (by rw [hd]; omega) (fun x y h1 h2 => Subtype.ext (used_inj ho (hp.subset x.2) (hp.subset y.2) (by simp only [ltU, decide_eq_false_iff_not] at h1 h2; omega)))
  rw [hd] at h
  change Calls Tryz.prog 131 _ _ _ at h
  refine h.mono ?_
  rintro e w' ⟨he, n, os, hw⟩
  have hsorted := List.pairwise_mergeSort (le := fun x y : InL T => !(ltOf (usedC T)) y x) (fun x y z h1 h2 => by simp only [ltU, Bool.not_eq_true', decide_eq_false_iff_not] at h1 h2 ⊢; omega) (fun x y => by simp only [ltU, Bool.or_eq_true, Bool.not_eq_true', decide_eq_false_iff_not]; omega) T.attach
  have hperm := List.mergeSort_perm T.attach (fun x y : InL T => !(ltOf (usedC T)) y x)
  have hL : (T.attach.mergeSort fun x y : InL T => !(ltOf (usedC T)) y x).map (·.1) = L := by
    refine used_one ho ?_ (((hperm.map (·.1)).trans (by simp)).trans hp)
    refine List.pairwise_map.2 (hsorted.imp fun {x y} hxy => ?_)
    simp only [ltU, Bool.not_eq_true', decide_eq_false_iff_not] at hxy; omega
  have hlen := congrArg List.length hL
  rw [List.length_map] at hlen
  refine ⟨he, fun i hi => ?_, ⟨by rw [hw]; rfl, by rw [hw]; rfl, by rw [hw]; rfl, ?_, fun b hb hne => ?_⟩, ?_⟩
  · rw [hw]
    have hh := (holds_sortWorld (ptrE T) w blk 0 n T.attach.toArray (T.attach.mergeSort fun x y : InL T => !(ltOf (usedC T)) y x).toArray os hblk hH (by simp)) i (by simp at hlen ⊢; omega)
    have hi' : i < (T.attach.mergeSort fun x y : InL T => !(ltOf (usedC T)) y x).length := by omega
    rw [getElem!_pos _ i (by simpa using hi')] at hh
    have hLi : L[i] = ((T.attach.mergeSort fun x y : InL T => !(ltOf (usedC T)) y x)[i]'hi').1 := by
      simp only [← hL, List.getElem_map]
    rw [hLi]
    have := hh.1
    simpa [ptrE] using this
  · rw [hw]; exact SW.le ⟨n, _, rfl⟩
  · rw [hw]; exact sort_block _ _ _ _ _ _ _ hb (fun e => hne (by rw [e]))
  · refine ⟨putCells (ptrE T) 0 (T.attach.mergeSort fun x y : InL T => !(ltOf (usedC T)) y x).toArray c0, ?_⟩
    rw [hw]
    show (sortWorld _ _ _ _ _ _ _).heap[blk]? = _
    unfold sortWorld
    rw [heap_grow_old _ _ (by simp [Go.Sort.ahead]; exact hblk)]
    have hB0' : w.heap[blk]? = some (.cells c0 131 (0, 0)) := hB0
    simp [putRow, mapBlock, Go.Sort.ahead, Array.getElem?_modify, hB0', onCells]
end
section
open Go.ChangeShapes Go.WideShapes Go.ChangeAt Go.RowKit
/-- a row of pointers to items -/
def ptrK : Kind Slot where
  H := Unit
  size := 1
  cells := fun _ s => #[.pointer (some ⟨s.b, 0, none⟩)]
  is := fun _ _ _ _ => True
  hsize := fun _ _ => rfl
  pos := by decide
  one := fun h x u hu => by
    simp at hu
    rw [hu]; rfl
  mono := fun h _ => h
  keep := fun h _ => h
/-- those that have been collected -/
def seenL (L : List Slot) (left : Lit → Bool) : List Slot := L.filter fun s => !left (.string (keyF s.f))
theorem seen_step {L : List Slot} {left : Lit → Bool} (hk : L.Pairwise fun a b => keyF a.f ≠ keyF b.f) {s : Slot} (hs : s ∈ L) (hl : left (.string (keyF s.f)) = true) {T : List Slot} (hT : T.Perm (seenL L left)) :
    (T ++ [s]).Perm (seenL L (fun q => left q && !q.sameKey (.string (keyF s.f)))) := by
  refine (hT.append_right [s]).trans ?_
  clear hT
  simp only [seenL]
  induction L with
  | nil => cases hs
  | cons a L ih =>
    obtain ⟨h1, h2⟩ := List.pairwise_cons.1 hk
    rcases List.mem_cons.1 hs with e | hs'
    · subst e
      have hsame : ∀ t ∈ L, (!(left (.string (keyF t.f)) && !(Lit.string (keyF t.f)).sameKey (.string (keyF s.f)))) = !left (.string (keyF t.f)) := fun t ht => by
        rw [sameKey_str]
        have : ¬ keyF t.f = keyF s.f := fun e => h1 t ht e.symm
        simp [this]
      have e1 : (!left (.string (keyF s.f))) = false := by simp [hl]
      have e2 : (!(left (.string (keyF s.f)) && !(Lit.string (keyF s.f)).sameKey (.string (keyF s.f)))) = true := by rw [sameKey_str]; simp
      simp only [List.filter_cons, e1, e2, if_true, Bool.false_eq_true, if_false]
      rw [List.filter_congr hsame]
      exact List.perm_append_singleton _ _
    · have ih := ih h2 hs'
      have hne : ¬ keyF a.f = keyF s.f := h1 s hs'
      have hsk : (Lit.string (keyF a.f)).sameKey (.string (keyF s.f)) = false := by rw [sameKey_str]; simp [hne]
      cases hla : left (.string (keyF a.f)) with
      | true =>
        simp only [List.filter_cons, hla, hsk, Bool.not_true, Bool.not_false, Bool.and_self, Bool.false_eq_true, if_false]
        exact ih
      | false =>
        simp only [List.filter_cons, hla, hsk, Bool.not_false, Bool.false_and, if_true, List.cons_append]
        exact ih.cons a
theorem seen_all {L : List Slot} {left : Lit → Bool} (h : ∀ kl, left kl = false) : seenL L left = L := List.filter_eq_self.2 fun s _ => by simp [h]
theorem seen_none {L : List Slot} {left : Lit → Bool} (h : ∀ s ∈ L, left (.string (keyF s.f)) = true) : seenL L left = [] := by
  rw [seenL, List.filter_eq_nil_iff]
  intro s hs; simp [h s hs]
theorem ptrParts : ∃ (i0 : TypeInfo) (z : Value), Tryz.prog.info? 131 = some i0 ∧ i0.zero = some z ∧ i0.size = 1 ∧ z.cells.size = 1 ∧ i0.bytes ≤ 1000 := by
  have h : (Tryz.prog.info? 131).map (fun i => (i.zero.map (·.cells.size), i.size, decide (i.bytes ≤ 1000))) = some (some 1, 1, true) := by kernel_rfl
  obtain ⟨i0, hi, hii⟩ := Option.map_eq_some_iff.1 h
  simp only [Prod.mk.injEq, decide_eq_true_eq] at hii
  obtain ⟨z, hz, hzs⟩ := Option.map_eq_some_iff.1 hii.1
  exact ⟨i0, z, hi, hz, hii.2.1, hzs, hii.2.2⟩
/-- what the first loop keeps -/
structure AlSt (w wr : World) (M r n : Nat) (D : DataW Unit) (L : List Slot) (left : Lit → Bool) (cnt : Nat) (v : Value) : Prop where
  rg : wr.ranges Tryz.prog 9 ptrR M r n D left cnt
  bel : Below w.heap.size w wr
  row : ∃ T : List Slot, T.Perm (seenL L left) ∧ Gath ptrK [] 131 w.heap.size wr v T
/-- what was collected, sorted -/
theorem sortrow_any (w : World) (B : Nat) (v : Value) (L T : List Slot) (hp : T.Perm L) (hG : Gath ptrK [] 131 B w v T) (ho : L.Pairwise fun a b => a.used < b.used) (hu : ∀ s ∈ L, s.used < 4000000000000000000) (hI : ∀ s ∈ L, Blk w s.b (itemC s) 134) (hsz : L.length < 100000) (hBw : B ≤ w.heap.size) :
    Calls Tryz.prog 131 #[v, .func (.func 132) #[] #[]] w fun e w' => e = .returned (.tuple #[]) ∧ (∃ ao c, v = .slice ao L.length c ∧ Seq ptrK (tagged [131] w') w' ao L.length c L) ∧ Below B w w' := by
  have hlen := hp.length_eq
  obtain ⟨cs, ⟨hl, ho1⟩, hcs⟩ := hG
  rcases ho1 with ⟨rfl, h0⟩ | ⟨g, cap, cur, rfl, hg, hh, hn, hc, hs, ht⟩
  · have hT0 : T = [] := List.eq_nil_of_length_eq_zero h0
    subst hT0
    have hL0 : L = [] := List.eq_nil_of_length_eq_zero hlen.symm
    subst hL0
    have h := AnyF.slices_SortFunc_none { Tryz.sortF with } none 0 (.func (.func 132) #[] #[]) w
    change Calls Tryz.prog 131 _ _ _ at h
    refine h.mono ?_
    rintro e w' ⟨he, rfl⟩
    exact ⟨he, ⟨none, 0, rfl, Seq.nil _ _ (by omega) (fun _ => rfl)⟩, Below.refl _ _⟩
  · by_cases hT1 : T = []
    · subst hT1
      have hL0 : L = [] := List.eq_nil_of_length_eq_zero hlen.symm
      subst hL0
      have h := AnyF.slices_SortFunc_none { Tryz.sortF with } (some ⟨g, 0, none⟩) cap (.func (.func 132) #[] #[]) w
      change Calls Tryz.prog 131 _ _ _ at h
      refine h.mono ?_
      rintro e w' ⟨he, rfl⟩
      exact ⟨he, ⟨_, cap, rfl, Seq.nil _ _ (by unfold maxLen at hc; omega) (fun e => by cases e)⟩, Below.refl _ _⟩
    · have hB0 : Blk w g cur 131 := hh
      have hsb : ∀ s ∈ L, s.b ≠ g := fun s hs e => by
        have h1 : w.heap[s.b]? = _ := hI s hs
        rw [e, hh] at h1
        simp at h1
      refine (sortptr_any cur w L T hp hT1 ho hu hI g cap hB0.lt hsb (by omega) hB0 (fun i hi => ?_)).mono ?_
      · obtain ⟨_, k1, _⟩ := hcs i hi
        have k2 := k1 0 (by decide)
        refine ⟨?_, hB0.free _⟩
        rw [Nat.zero_add, Lib.cell_of_heap hh, ← Array.getElem?_toList]
        have k3 : cs[i]? = some (.pointer (some ⟨T[i].b, 0, none⟩)) := by simpa [ptrK] using k2
        rw [← ht, List.getElem?_take, if_pos (by simp [ptrK]; omega)] at k3
        exact k3
      · rintro e w' ⟨he, hcell, hgr, c1, hc1⟩
        refine ⟨he, ⟨_, cap, by rw [hlen], ⟨rfl, by omega, (by unfold maxLen at hc; omega), fun e => (by cases e), fun h0 => ⟨g, 0, rfl, ⟨_, _, hc1, List.mem_cons_self⟩, fun i hi => ⟨(), fun j hj => ?_, trivial⟩⟩⟩⟩, (Below.refl _ _).grown hgr hBw (fun k e => by cases e; exact hg)⟩
        have hj0 : j = 0 := by have : j < 1 := hj; omega
        subst hj0
        have := hcell i hi
        simpa [ptrK] using this
end
section
open Go.ChangeShapes Go.WideShapes Go.ChangeAt Go.RowKit
/-- what the second loop keeps -/
structure A2St (w wr : World) (ao : Option Addr) (c : Nat) (L : List Slot) (v : Value) (j : Nat) : Prop where
  bel : Below w.heap.size w wr
  keys : Seq ptrK (tagged [131] wr) wr ao L.length c L
  out : Gath factK fT 57 w.heap.size wr v ((L.take j).map (·.f))
theorem factParts : ∃ (i0 : TypeInfo) (z : Value), Tryz.prog.info? 57 = some i0 ∧ i0.zero = some z ∧ i0.size = 13 ∧ z.cells.size = 13 ∧ i0.bytes ≤ 1000 := by
  have h : (Tryz.prog.info? 57).map (fun i => (i.zero.map (·.cells.size), i.size, decide (i.bytes ≤ 1000))) = some (some 13, 13, true) := by kernel_rfl
  obtain ⟨i0, hi, hii⟩ := Option.map_eq_some_iff.1 h
  simp only [Prod.mk.injEq, decide_eq_true_eq] at hii
  obtain ⟨z, hz, hzs⟩ := Option.map_eq_some_iff.1 hii.1
  exact ⟨i0, z, hi, hz, hii.2.1, hzs, hii.2.2⟩
set_option maxHeartbeats 64000000 in
set_option maxRecDepth 100000 in
theorem all_any (w : World) (B C : Nat) (most stale : Int) (k : Nat) (L : List Slot) (hC : IsCache B w C most stale k L) (hk : k < 4000000000000000000) (hL : L.length < 100000) :
    Calls Tryz.prog 112 #[.pointer (some ⟨C, 0, none⟩)] w fun e w' => (∃ ao c, e = .returned (.slice ao L.length c) ∧ Seq factK (tagged (57 :: fT) w') w' ao L.length c (L.map (·.f)) ∧ ∀ a, ao = some a → w.heap.size ≤ a.block) ∧ Below w.heap.size w w' := by
  obtain ⟨M, hCb, hMB, hML⟩ := hC.ex
  have m2 : w.cell? ⟨C, 2, none⟩ = some (.map (some M)) := hCb.cell 2
  have HLN := Lib.hid (And.intro hk hL)
  clear hL hk
  obtain ⟨n, D, h1, h2, h3, h4⟩ := hML
  have HC := Lib.hid (And.intro hC (And.intro hCb (And.intro hMB (And.intro h2 (And.intro h3 h4)))))
  have HO := Lib.hid h1
  clear hC hCb hMB h1 h2 h3 h4
  go_enter Tryz.func112, Tryz.ntmps112
  go_wp2_with (at_range; go_loud (refine wpList_range_own _ rfl _ 73 rfl 9 131 lawK Tryz.underlying73 ptrR M n D rfl HO.out ?_; intro W6 hrg0 hg0 hs0))
  try go_frame
  clear m2
  have hb6 : Below w.heap.size w W6 := (Below.refl _ _).grown hg0 (Nat.le_refl _) (fun k e => by cases e)
  have HST : Hid (AlSt w W6 M w.heap.size n D L (Maps.has D) (Maps.size D) (.slice none 0 0)) := Lib.hid (by
    have hall : ∀ s ∈ L, Maps.has D (.string (keyF s.f)) = true := fun s hs => by
      have := HC.out.2.2.2.2.2 (keyF s.f)
      rw [atL_of_mem HC.out.1.keys hs] at this
      exact Maps.has_true_of_atKey this
    exact ⟨hrg0, hb6, [], by rw [seen_none hall], Gath.nil _ _ _ _ _⟩)
  clear hrg0 hg0 hs0 hb6
  go_loopw [3] (fun v wr => Hid (∃ left cnt, AlSt w wr M w.heap.size n D L left cnt v)) (fun _ wr => wr.rangeLeft M w.heap.size)
  case atStart => exact Lib.hid ⟨_, _, HST.out⟩
  case round =>
    obtain ⟨left, cnt, hst⟩ := hrel.out
    have HF := Lib.hid hst
    clear hrel hst
    go_wp2_with (at_next; refine wpList_next_ranges _ rfl _ rfl 9 lawK ptrR Value.string ptrO str_key ptrR_shape M w.heap.size n D left cnt rfl HF.out.rg ?_ ?_)
    · intro hc0 hl0
      obtain ⟨T, hT, hrow⟩ := HF.out.row
      rw [seen_all hl0] at hT
      have HSR := Lib.hid (sortrow_any wr w.heap.size u3 L T hT hrow HC.out.1.order (fun s hs => by have := HC.out.1.used s hs; have := HLN.out.1; omega) (fun s hs => (HC.out.1.slot s hs).2.1.on HF.out.bel) HLN.out.2 HF.out.bel.size)
      obtain ⟨ao0, c0, hv0, -, -⟩ := hrow.seq
      rw [hT.length_eq] at hv0
      clear hl0 hT hrow
      subst hv0
      go_wp2_with (go_at_call 131; go_loud (refine HSR.out.mono ?_; rintro e W2 ⟨rfl, ⟨ao, c, hv, hsq⟩, hb2⟩; injection hv with hv1 hv2 hv3; clear hv2; have HSQ := Lib.hid (show Seq ptrK (tagged [131] W2) W2 ao0 L.length c0 L from by rw [hv1, hv3]; exact hsq); have HB2 := Lib.hid (show Below w.heap.size w W2 from HF.out.bel.trans hb2); clear hsq hb2 hv1 hv3))
      have hLL : L.length < 9223372036854775807 := by have := HLN.out.2; omega
      obtain ⟨m, hm⟩ : ∃ m, m = L.length := ⟨_, rfl⟩
      have HM := Lib.hid hm
      rw [← hm] at HSQ hLL ⊢
      clear hm
      have HA2 : Hid (A2St w W2 ao0 c0 L (.slice none 0 0) 0) := Lib.hid ⟨HB2.out, by rw [← HM.out]; exact HSQ.out, Gath.nil _ _ _ _ _⟩
      clear HSR
      go_loopw [6, 28] (fun v i wr => ∃ j : Nat, j ≤ m ∧ i = .int .i64 j ∧ Hid (A2St w wr ao0 c0 L v j)) (fun _ i _ => m - (intOf i).toNat)
      case atStart => exact ⟨0, Nat.zero_le _, rfl, HA2⟩
      case round =>
        rename World => w3
        obtain ⟨j, hj, rfl, hinv⟩ := hrel
        by_cases hlt : j < m
        · have hjL : j < L.length := by rw [← HM.out]; exact hlt
          obtain ⟨b0, off, rfl⟩ := HSQ.out.addr hlt
          obtain ⟨s, hs⟩ : ∃ s, s = L[j] := ⟨_, rfl⟩
          obtain ⟨uu, hc, -⟩ := hinv.out.keys.at hjL
          have hc0 := hc 0 (by decide)
          rw [← hs] at hc0
          have q : w3.cell? ⟨b0, off + j, none⟩ = some (.pointer (some ⟨s.b, 0, none⟩)) := by simpa [ptrK] using hc0
          have hsl := HC.out.1.slot s (by rw [hs]; exact List.getElem_mem _)
          have hit := hsl.2.1.on hinv.out.bel
          have HF3 := Lib.hid (And.intro (hsl.2.2.1.on hinv.out.bel) hsl.2.2.2.2)
          have HTK := Lib.hid (show (L.take j).map (·.f) ++ [s.f] = (L.take (j + 1)).map (·.f) by rw [List.take_succ_eq_append_getElem hjL, List.map_append, hs]; rfl)
          have HJ := Lib.hid (show ((L.take j).map (·.f)).length ≤ 1000000 by have := HLN.out.2; rw [List.length_map, List.length_take]; omega)
          have q0 : w3.cell? ⟨s.b, 0, none⟩ = some (.slice s.h.na s.h.nl s.h.nc) := hit.cell 0
          have q1 : w3.cell? ⟨s.b, 1, none⟩ = some (.int .i64 s.f.typ) := hit.cell 1
          have q2 : w3.cell? ⟨s.b, 2, none⟩ = some (.int .i64 s.f.kind) := hit.cell 2
          have q3 : w3.cell? ⟨s.b, 3, none⟩ = some (.int .i64 s.f.rank) := hit.cell 3
          have q4 : w3.cell? ⟨s.b, 4, none⟩ = some (.int .i64 s.f.got) := hit.cell 4
          have q5 : w3.cell? ⟨s.b, 5, none⟩ = some (.int .i64 s.f.ttl) := hit.cell 5
          have q6 : w3.cell? ⟨s.b, 6, none⟩ = some (.slice s.h.sa s.h.sl s.h.sc) := hit.cell 6
          have q7 : w3.cell? ⟨s.b, 7, none⟩ = some (.slice s.h.za s.h.zl s.h.zc) := hit.cell 7
          have q8 : w3.cell? ⟨s.b, 8, none⟩ = some (.slice s.h.d.ba s.h.d.bl s.h.d.bc) := hit.cell 8
          have q9 : w3.cell? ⟨s.b, 9, none⟩ = some (.slice s.h.d.ha s.h.d.hl s.h.d.hc) := hit.cell 9
          have q10 : w3.cell? ⟨s.b, 10, none⟩ = some (.slice s.h.d.ma s.h.d.ml s.h.d.mc) := hit.cell 10
          have q11 : w3.cell? ⟨s.b, 11, none⟩ = some (.slice s.h.d.na s.h.d.nl s.h.d.nc) := hit.cell 11
          have q12 : w3.cell? ⟨s.b, 12, none⟩ = some (.slice s.h.d.ta s.h.d.tl s.h.d.tc) := hit.cell 12
          clear hs hc hc0 hsl hit hjL uu
          have HOW := Lib.hid (fown_any w3 _ s.h s.f HF3.out.1 HF3.out.2)
          simp only [factC] at HOW
          go_wp2_with fail
          clear q q0 q1 q2 q3 q4 q5 q6 q7 q8 q9 q10 q11 q12
          refine HOW.out.mono ?_
          rintro e w5 ⟨⟨kn, rfl, hkn⟩, hb5⟩
          have hal : Below w5.heap.size w5 (w5.alloc (.cells (factC kn s.f) 57)) := (Below.refl _ _).alloc (Nat.le_refl _) _
          have hbw : Below w3.heap.size w3 (w5.alloc (.cells (factC kn s.f) 57)) := below_on hb5 hal (Nat.le_refl _)
          have hko := hkn.on hal
          obtain ⟨i0, z, hi, hz, hs0, hzs, hby⟩ := factParts
          obtain ⟨v', w6, hrun, hgath, hgr, hrow, _⟩ := (hinv.out.out.on hbw).push (ts := 180) (by decide) i0 z Tryz.underlying180 hi hz hs0 hzs hby HJ.out (by have := hinv.out.bel.size; have := hbw.size; omega) kn s.f (hko.mono (fun b _ ht => ht.1)) ⟨w5.heap.size, 0, none⟩ 1 (fun j _ => by rw [addr_add, Nat.zero_add]; exact World.cell?_alloc_new w5 _ _ j) 180
          rw [HTK.out] at hgath
          have HST := Lib.hid (show A2St w w6 (some ⟨b0, off, none⟩) c0 L v' (j + 1) from ⟨(below_on hinv.out.bel hbw (Nat.le_refl _)).grown hgr (below_on hinv.out.bel hbw (Nat.le_refl _)).size (fun b e => (hrow b e).elim fun _ h => h.2), ((hinv.out.keys.on hbw).mono (fun b hb ht => tagged_keep (w := w3) ht (hbw.block b (tagged_lt ht)))).step (Same.grown hgr (fun b ht e => by
            obtain ⟨cs, hB, _⟩ := hrow b e.symm
            exact tagged_ne hB (by decide) ht rfl)), hgath⟩)
          have HRUN := Lib.hid hrun
          clear hal hbw hko hi hz hs0 hzs hby hrun hgath hgr hrow hkn hb5 HOW
          simp only [factC] at HRUN
          go_wp2_with (at_builtin; refine wpList_append_run rfl _ _ _ rfl _ _ rfl rfl HRUN.out ?_)
          go_roundw
          case rel => exact ⟨j + 1, by omega, by go_num, HST⟩
          case measure => simp [intOf]; omega
        · obtain rfl : j = m := by omega
          have HE := Lib.hid hinv.out
          clear hinv
          obtain ⟨ao, c, hv, hsq, hba⟩ := HE.out.out.seq
          have hln : ((L.take j).map (·.f)).length = L.length := by rw [List.length_map, List.length_take, ← HM.out]; omega
          have htk : (L.take j).map (·.f) = L.map (·.f) := by rw [HM.out, List.take_length]
          rw [hln] at hv hsq
          rw [htk] at hsq
          have HR := Lib.hid (And.intro hsq hba)
          clear hln htk hsq hba
          subst hv
          go_wp2_with fail
          go_ret
          exact ⟨⟨_, _, rfl, HR.out.1, HR.out.2⟩, HE.out.bel⟩
    · intro x o kl y1 y2 w1 cnt1 hxk hlk hRy hat hrg1 hlt hg1 hs1 hen
      obtain rfl := str_key_lit hxk
      obtain ⟨s, hsL, rfl, hxs⟩ := ptrO_at (y := (y1, y2)) HC.out.2.2.2.2.2 hRy hat
      simp only [ptrO] at hen ⊢
      have hbw1 : Below w.heap.size w w1 := HF.out.bel.grown hg1 HF.out.bel.size (fun k e => by cases e; exact Nat.le_refl _)
      have hic := iter_cells HF.out.rg
      obtain ⟨T, hT, hrow⟩ := HF.out.row
      have hlk' : left (.string (keyF s.f)) = true := by rw [← hxs]; exact hlk
      have hp := seen_step HC.out.1.keys hsL hlk' hT
      rw [← hxs] at hp
      have hlenT : T.length ≤ 1000000 := by
        have h1 := hT.length_eq
        have h2 : (seenL L left).length ≤ L.length := List.length_filter_le _ _
        have := HLN.out.2
        omega
      have hrow1 := hrow.step (Same.grown hg1 (fun b hb e => by
        have e := Option.some.inj e
        obtain ⟨cs, t, h, _⟩ := hb
        subst e
        exact hic.1 _ _ _ h))
      have hal : Below w1.heap.size w1 (w1.alloc (.cells #[.pointer (some ⟨s.b, 0, none⟩)] 131)) := (Below.refl _ _).alloc (Nat.le_refl _) _
      obtain ⟨i0, z, hi, hz, hs0, hzs, hby⟩ := ptrParts
      obtain ⟨v', w6, hrun, hgath, hgr, hrw, _⟩ := (hrow1.on hal).push (ts := 198) (by decide) i0 z Tryz.underlying198 hi hz hs0 hzs hby hlenT (by have := hbw1.size; have := hal.size; omega) () s trivial ⟨w1.heap.size, 0, none⟩ 1 (fun j _ => by rw [addr_add, Nat.zero_add]; exact World.cell?_alloc_new w1 _ _ j) 198
      have HRUN := Lib.hid hrun
      have HPP := Lib.hid (And.intro hp (And.intro hgath (And.intro hgr hrw)))
      have HB1 := Lib.hid (And.intro hbw1 hal)
      have HR1 := Lib.hid (And.intro hrg1 hlt)
      clear hxk hlk hRy hat hrg1 hlt hg1 hs1 hsL hxs hic hbw1 hal hrun hgath hgr hrw hp hT hrow hrow1 hlk' hi hz hs0 hzs hby
      go_wp2_with (at_builtin; refine wpList_append_run rfl _ _ _ rfl _ _ rfl rfl HRUN.out ?_)
      have hM1 : (w1.alloc (.cells #[.pointer (some ⟨s.b, 0, none⟩)] 131)).heap[M]? = w1.heap[M]? := HB1.out.2.block M HR1.out.1.owns.lt
      have hr1 : (w1.alloc (.cells #[.pointer (some ⟨s.b, 0, none⟩)] 131)).heap[w.heap.size]? = w1.heap[w.heap.size]? := HB1.out.2.block _ HR1.out.1.lt
      have hrg6 := ranges_on HR1.out.1 (w' := w6) ((HPP.out.2.2.1.block M (by have := HR1.out.1.owns.lt; have := HB1.out.2.size; omega) (fun e => by
          obtain ⟨cs, hB, _⟩ := HPP.out.2.2.2 M e.symm
          obtain ⟨es, clock, h, _⟩ := HR1.out.1.owns
          have hB' : _ = _ := hB
          rw [hM1, h] at hB'
          cases hB')).trans hM1) ((HPP.out.2.2.1.block _ (by have := HR1.out.1.lt; have := HB1.out.2.size; omega) (fun e => by
          obtain ⟨cs, hB, _⟩ := HPP.out.2.2.2 _ e.symm
          have hB' : _ = _ := hB
          rw [hr1] at hB'
          exact (iter_cells HR1.out.1).1 _ _ _ hB')).trans hr1)
      have HG6 := Lib.hid hrg6
      clear hrg6 hM1 hr1
      go_roundw
      case rel =>
        have hx := below_on HB1.out.1 HB1.out.2 (Nat.le_refl _)
        have hy := hx.grown HPP.out.2.2.1 hx.size (fun b e => (HPP.out.2.2.2 b e).elim fun _ h => h.2)
        exact Lib.hid ⟨_, _, HG6.out, hy, ⟨_, HPP.out.1, HPP.out.2.1⟩⟩
      case measure => rw [HG6.out.left_eq, HF.out.rg.left_eq]; exact HR1.out.2
end
section
open Go.ChangeShapes Go.WideShapes Go.ChangeAt Go.RowKit
theorem below_none {w w' : World} (h : w.grownBy w' none) : Below w.heap.size w w' := ⟨h.os, h.tape, h.output, h.size, fun k hk => h.block k hk (by simp)⟩
set_option maxHeartbeats 16000000 in
set_option maxRecDepth 100000 in
theorem kall_none (w : World) (K C L : Nat) (pl no te : Int) (me dn : Bool) (hK : Blk w K (keepC C L pl no te me dn) 48) (cB : Nat) (most stale : Int) (kk : Nat) (hC : IsCache cB w C most stale kk []) (hkk : kk < 4000000000000000000) (hno : timeB no = true) (hnf : fitK no 7 = true) :
    Calls Tryz.prog 80 #[.pointer (some ⟨K, 0, none⟩)] w fun e w' => (∃ ao c, e = .returned (.tuple #[.slice ao 1 c, .int .i64 1]) ∧ Seq entK (tagged (59 :: 57 :: fT) w') w' ao 1 c [.clock no]) ∧ Below w.heap.size w w' := by
  have HA := Lib.hid (all_any w cB C most stale kk [] hC hkk (by decide))
  have c0 : w.cell? ⟨K, 0, none⟩ = some (.pointer (some ⟨C, 0, none⟩)) := hK.cell 0
  have HK := Lib.hid (And.intro hK (And.intro hno hnf))
  clear hK hC hkk hno hnf
  go_enter Tryz.func80, Tryz.ntmps80
  go_wp2_with (go_at_call 112; refine HA.out.mono ?_; rintro e W1 ⟨⟨ao, c, rfl, -, -⟩, hb⟩; have H1 := Lib.hid hb; clear hb; (try simp))
  go_loopw [2, 17] (fun s i wr => s = .slice none 0 0 ∧ i = .int .i64 0 ∧ wr = W1) (fun _ _ _ => 0)
  case atStart => exact ⟨rfl, rfl, rfl⟩
  case round =>
    obtain ⟨rfl, rfl, rfl⟩ := hrel
    have hK1 := Blk.on HK.out.1 H1.out
    have c3 : wr.cell? ⟨K, 3, none⟩ = some (.int .i64 no) := hK1.cell 3
    obtain ⟨v', W2, hp⟩ := eprep (B := wr.heap.size) (Nat.le_refl _) (by simp) (Gath.nil entK (57 :: fT) 59 wr.heap.size wr) (default : FactH) (.clock no) trivial
    obtain ⟨ao2, c2, hv', hs2, -⟩ := hp.gath.seq
    subst hv'
    have hal : Below wr.heap.size wr (wr.alloc (.cells (entC (default : FactH) (.clock no)) 59)) := (Below.refl _ _).alloc (Nat.le_refl _) _
    have HP := Lib.hid (And.intro hp.run (And.intro hs2 (hal.trans ((below_none hp.grown).mono hal.size))))
    clear hp hs2 hal hK1
    go_wp2_with (at_builtin; refine wpList_append_run rfl _ _ _ rfl _ _ rfl rfl HP.out.1 ?_)
    go_loopw [3, 37] (fun p i wr => ∃ n : Nat, n ≤ 1 ∧ p = .int .i64 (n : Int) ∧ i = .int .i64 (n : Int) ∧ Hid (Below w.heap.size w wr ∧ Seq entK (tagged (59 :: 57 :: fT) wr) wr ao2 1 c2 [.clock no])) (fun _ i _ => 1 - (intOf i).toNat)
    case atStart => exact ⟨0, by omega, rfl, rfl, Lib.hid ⟨below_on H1.out HP.out.2.2 (Nat.le_refl _), by simpa using HP.out.2.1⟩⟩
    case round =>
      obtain ⟨n, hn, rfl, rfl, hinv⟩ := hrel
      rename World => w3
      by_cases h0 : n = 0
      · subst h0
        obtain ⟨hbw, hsq⟩ := hinv.out
        obtain ⟨b, off, rfl⟩ := hsq.addr (k := 0) (by omega)
        obtain ⟨kh, hc, -⟩ := hsq.at (k := 0) (by omega)
        have HI := Lib.hid hinv.out
        have hA : Blk (w3.alloc (.cells (blankC 0 0 (.slice none 0 0)) 59)) w3.heap.size (blankC 0 0 (.slice none 0 0)) 59 := heap_alloc_new w3 _
        have hal : Below w3.heap.size w3 (w3.alloc (.cells (blankC 0 0 (.slice none 0 0)) 59)) := (Below.refl _ _).alloc (Nat.le_refl _) _
        have hq := blk_setRow hA (blankC 3 no (.slice none 0 0))
        have hqg := but_setRow (w3.alloc (.cells (blankC 0 0 (.slice none 0 0)) 59)) w3.heap.size (blankC 3 no (.slice none 0 0))
        have hb4 := hal.trans (below_of_but hqg (Nat.le_refl _) hal.size)
        have HA4 := Lib.hid (And.intro hA (And.intro hq hb4))
        have d0 : w3.cell? ⟨b, off, none⟩ = some (.int .i64 3) := hc 0 (by decide)
        have d1 : w3.cell? ⟨b, off + 1, none⟩ = some (.int .i64 no) := hc 1 (by decide)
        have d2 : w3.cell? ⟨b, off + 2, none⟩ = some (.slice none 0 0) := hc 2 (by decide)
        have d3 : w3.cell? ⟨b, off + 3, none⟩ = some (.int .i64 0) := hc 3 (by decide)
        have d4 : w3.cell? ⟨b, off + 4, none⟩ = some (.int .i64 0) := hc 4 (by decide)
        have d5 : w3.cell? ⟨b, off + 5, none⟩ = some (.int .i64 0) := hc 5 (by decide)
        have d6 : w3.cell? ⟨b, off + 6, none⟩ = some (.int .i64 0) := hc 6 (by decide)
        have d7 : w3.cell? ⟨b, off + 7, none⟩ = some (.int .i64 0) := hc 7 (by decide)
        have d8 : w3.cell? ⟨b, off + 8, none⟩ = some (.slice none 0 0) := hc 8 (by decide)
        have d9 : w3.cell? ⟨b, off + 9, none⟩ = some (.slice none 0 0) := hc 9 (by decide)
        have d10 : w3.cell? ⟨b, off + 10, none⟩ = some (.slice none 0 0) := hc 10 (by decide)
        have d11 : w3.cell? ⟨b, off + 11, none⟩ = some (.slice none 0 0) := hc 11 (by decide)
        have d12 : w3.cell? ⟨b, off + 12, none⟩ = some (.slice none 0 0) := hc 12 (by decide)
        have d13 : w3.cell? ⟨b, off + 13, none⟩ = some (.slice none 0 0) := hc 13 (by decide)
        have d14 : w3.cell? ⟨b, off + 14, none⟩ = some (.slice none 0 0) := hc 14 (by decide)
        have d15 : w3.cell? ⟨b, off + 15, none⟩ = some (.slice none 0 0) := hc 15 (by decide)
        clear hc hinv hbw hsq hA hal hq hqg hb4
        go_wp2_with (first
          | (go_at_call 47; refine (record_clock W4 no HK.out.2.1 HK.out.2.2).mono ?_; rintro e W5 ⟨⟨ao5, c5, rfl, -⟩, hb⟩; have H5 := Lib.hid (below_on H4.out.2 hb (Nat.le_refl _)); clear hb)
          | (refine wpList_load_row rfl 59 _ rfl w3.heap.size rfl 59 (blankC 3 no (.slice none 0 0)) (0, 0) _ H4.out.1 Tryz.underlying59 rfl entSize ?_)
          | (refine wpList_store_row rfl 59 _ _ rfl w3.heap.size (blankC 3 no (.slice none 0 0)) rfl rfl 59 (blankC 0 0 (.slice none 0 0)) HA4.out.1 entSize rfl (blankC_all 3 no) ?_; (try change wpList _ _ _ _ _ ((w3.alloc (.cells (blankC 0 0 (.slice none 0 0)) 59)).setRow w3.heap.size (blankC 3 no (.slice none 0 0)))); have hz := HA4.out.2; generalize (w3.alloc (.cells (blankC 0 0 (.slice none 0 0)) 59)).setRow w3.heap.size (blankC 3 no (.slice none 0 0)) = W4 at hz ⊢; have H4 := Lib.hid hz; clear hz))
        go_roundw
        case measure => simp [intOf]
        case rel =>
          have hb5 := H5.out
          exact ⟨1, Nat.le_refl _, rfl, rfl, Lib.hid ⟨below_on HI.out.1 hb5 (Nat.le_refl _), HI.out.2.step (Same.below hb5 _)⟩⟩
      · obtain rfl : n = 1 := by omega
        go_wp2_with fail
        go_ret2
        exact ⟨⟨_, _, rfl, hinv.out.2⟩, hinv.out.1⟩
end
section
open Go.ChangeShapes Go.WideShapes Go.ChangeAt Go.RowKit
set_option maxHeartbeats 16000000 in
set_option maxRecDepth 100000 in
theorem kcompact_none (w : World) (B K C L D : Nat) (pl no te : Int) (hK : Blk w K (keepC C L pl no te false false) 48) (hB : B ≤ K) (cB : Nat) (most stale : Int) (kk : Nat) (hC : IsCache cB w C most stale kk []) (hkk : kk < 4000000000000000000)
    (l : LogP) (d : DevP) (hl : IsLog B w L D l) (hd : IsDev B w D d) (hc : CanApp d l) (hno : timeB no = true) (hnf : fitK no 7 = true) (hrm : 1 ≤ roomL d l) (d1 : DevP) (l1 : LogP) (s1 : Int) (hap : appP d l (clockW no) = (d1, l1, s1, 0)) (hsy : lsyncE d1 l1 = 0) (d3 : DevP) (l3 : LogP)
    (hdr : ∀ W : World, IsLog B W L D (lsyncL d1 l1) → IsDev B W D (lsyncD d1 l1) → Calls Tryz.prog 79 #[.pointer (some ⟨L, 0, none⟩), .int .i64 (nextL l)] W fun e w' => e = .returned (.int .i64 0) ∧ IsLog B w' L D l3 ∧ IsDev B w' D d3 ∧ Only lgT B W w') :
    Calls Tryz.prog 49 #[.pointer (some ⟨K, 0, none⟩)] w fun e w' => e = .returned (.int .i64 0) ∧ Blk w' K (keepC C L pl no no false false) 48 ∧ IsLog B w' L D l3 ∧ IsDev B w' D d3 ∧ Only kT B w w' := by
  have HA := Lib.hid (kall_none w K C L pl no te false false hK cB most stale kk hC hkk hno hnf)
  have c5 : w.cell? ⟨K, 5, none⟩ = some (.bool false) := hK.cell 5
  have H0 := Lib.hid (And.intro hK (And.intro hB (And.intro hl (And.intro hd (And.intro hc (And.intro hno (And.intro hnf (And.intro hap (And.intro hsy hdr)))))))))
  have hrb : decide (roomL d l < 1) = false := decide_eq_false (by omega)
  clear hK hB hC hkk hl hd hc hno hnf hap hsy hdr
  go_enter Tryz.func49, Tryz.ntmps49
  go_upto_region 9 with (first
    | (go_at_call 15; refine (lnext_any W2 B L D l (H0.out.2.2.1.on H2.out.1)).mono ?_; rintro e W3 ⟨rfl, hb⟩; rw [show l.block.first + (l.list.length : Int) = nextL l from rfl]; have H3 := Lib.hid (And.intro (below_on H2.out.1 hb (Nat.le_refl _)) (below_on H2.out.2 hb (Nat.le_refl _))); clear hb)
    | (go_at_call 48; refine (lroom_any W1 B L D l d (H0.out.2.2.1.on H1.out.2) (H0.out.2.2.2.1.on H1.out.2) (by have := H0.out.2.2.2.2.1.len; omega) (by have := H0.out.2.2.2.2.1.fin; omega)).mono ?_; rintro e W2 ⟨rfl, hb⟩; have hbw := below_on H1.out.2 hb (Nat.le_refl _); have c1 : W2.cell? ⟨K, 1, none⟩ = some (.pointer (some ⟨L, 0, none⟩)) := (Blk.on H0.out.1 hbw).cell 1; have H2 := Lib.hid (And.intro hbw hb); clear hb hbw)
    | (go_at_call 80; refine HA.out.mono ?_; rintro e W1 ⟨⟨ao, c, rfl, hs⟩, hb⟩; have c1 : W1.cell? ⟨K, 1, none⟩ = some (.pointer (some ⟨L, 0, none⟩)) := (Blk.on H0.out.1 hb).cell 1; have H1 := Lib.hid (And.intro hs hb); clear hs hb))
  go_wp2_with fail
  go_loopw [2, 49] (fun r i wr => ∃ n : Nat, n ≤ 1 ∧ r = .int .i64 0 ∧ i = .int .i64 (n : Int) ∧ Hid ((n = 0 → Below w.heap.size w wr ∧ Seq entK (tagged (59 :: 57 :: fT) wr) wr ao 1 c [.clock no]) ∧ (n = 1 → Blk wr K (keepC C L pl no te false false) 48 ∧ IsLog B wr L D l1 ∧ IsDev B wr D d1 ∧ Only kT B w wr))) (fun _ i _ => 1 - (intOf i).toNat)
  case atStart => exact ⟨0, by omega, rfl, rfl, Lib.hid ⟨fun _ => ⟨H3.out.1, (H1.out.1.step (Same.below H3.out.2 _))⟩, fun h => absurd h (by decide)⟩⟩
  case round =>
    obtain ⟨n, hn, rfl, rfl, hinv⟩ := hrel
    rename World => w3
    by_cases h0 : n = 0
    · subst h0
      obtain ⟨hbw, hsq⟩ := hinv.out.1 rfl
      obtain ⟨b, off, rfl⟩ := hsq.addr (k := 0) (by omega)
      obtain ⟨kh, hcc, -⟩ := hsq.at (k := 0) (by omega)
      have HI := Lib.hid hbw
      have hA : Blk (w3.alloc (.cells (blankC 0 0 (.slice none 0 0)) 59)) w3.heap.size (blankC 0 0 (.slice none 0 0)) 59 := heap_alloc_new w3 _
      have hal : Below w3.heap.size w3 (w3.alloc (.cells (blankC 0 0 (.slice none 0 0)) 59)) := (Below.refl _ _).alloc (Nat.le_refl _) _
      have hq := blk_setRow hA (blankC 3 no (.slice none 0 0))
      have hqg := but_setRow (w3.alloc (.cells (blankC 0 0 (.slice none 0 0)) 59)) w3.heap.size (blankC 3 no (.slice none 0 0))
      have hb4 := below_on hbw (hal.trans (below_of_but hqg (Nat.le_refl _) hal.size)) (Nat.le_refl _)
      have HA4 := Lib.hid (And.intro hA (And.intro hq hb4))
      have d0 : w3.cell? ⟨b, off, none⟩ = some (.int .i64 3) := hcc 0 (by decide)
      have d1 : w3.cell? ⟨b, off + 1, none⟩ = some (.int .i64 no) := hcc 1 (by decide)
      have d2 : w3.cell? ⟨b, off + 2, none⟩ = some (.slice none 0 0) := hcc 2 (by decide)
      have d3 : w3.cell? ⟨b, off + 3, none⟩ = some (.int .i64 0) := hcc 3 (by decide)
      have d4 : w3.cell? ⟨b, off + 4, none⟩ = some (.int .i64 0) := hcc 4 (by decide)
      have d5 : w3.cell? ⟨b, off + 5, none⟩ = some (.int .i64 0) := hcc 5 (by decide)
      have d6 : w3.cell? ⟨b, off + 6, none⟩ = some (.int .i64 0) := hcc 6 (by decide)
      have d7 : w3.cell? ⟨b, off + 7, none⟩ = some (.int .i64 0) := hcc 7 (by decide)
      have d8 : w3.cell? ⟨b, off + 8, none⟩ = some (.slice none 0 0) := hcc 8 (by decide)
      have d9 : w3.cell? ⟨b, off + 9, none⟩ = some (.slice none 0 0) := hcc 9 (by decide)
      have d10 : w3.cell? ⟨b, off + 10, none⟩ = some (.slice none 0 0) := hcc 10 (by decide)
      have d11 : w3.cell? ⟨b, off + 11, none⟩ = some (.slice none 0 0) := hcc 11 (by decide)
      have d12 : w3.cell? ⟨b, off + 12, none⟩ = some (.slice none 0 0) := hcc 12 (by decide)
      have d13 : w3.cell? ⟨b, off + 13, none⟩ = some (.slice none 0 0) := hcc 13 (by decide)
      have d14 : w3.cell? ⟨b, off + 14, none⟩ = some (.slice none 0 0) := hcc 14 (by decide)
      have d15 : w3.cell? ⟨b, off + 15, none⟩ = some (.slice none 0 0) := hcc 15 (by decide)
      clear hcc hinv hbw hsq hA hal hq hqg hb4
      go_wp2_with (first
        | (go_at_call 50; have hka := kappend_clock W4 B K C L D pl no te false false l d (Blk.on H0.out.1 H4.out.2) H0.out.2.1 (H0.out.2.2.1.on H4.out.2) (H0.out.2.2.2.1.on H4.out.2) H0.out.2.2.2.2.1 no H0.out.2.2.2.2.2.1 H0.out.2.2.2.2.2.2.1; rw [H0.out.2.2.2.2.2.2.2.1] at hka; refine hka.mono ?_; rintro e W5 ⟨rfl, hk5, hl5, hd5, ho5⟩; have H5 := Lib.hid (And.intro hk5 (And.intro hl5 (And.intro hd5 ((Only.below H4.out.2 H0.out.2.2.2.1.Ble).trans ho5)))); clear hka hk5 hl5 hd5 ho5)
        | (refine wpList_load_row rfl 59 _ rfl w3.heap.size rfl 59 (blankC 3 no (.slice none 0 0)) (0, 0) _ H4.out.1 Tryz.underlying59 rfl entSize ?_)
        | (refine wpList_store_row rfl 59 _ _ rfl w3.heap.size (blankC 3 no (.slice none 0 0)) rfl rfl 59 (blankC 0 0 (.slice none 0 0)) HA4.out.1 entSize rfl (blankC_all 3 no) ?_; (try change wpList _ _ _ _ _ ((w3.alloc (.cells (blankC 0 0 (.slice none 0 0)) 59)).setRow w3.heap.size (blankC 3 no (.slice none 0 0)))); have hz := HA4.out.2; generalize (w3.alloc (.cells (blankC 0 0 (.slice none 0 0)) 59)).setRow w3.heap.size (blankC 3 no (.slice none 0 0)) = W4 at hz ⊢; have H4 := Lib.hid hz; clear hz))
      go_roundw
      case measure => simp [intOf]
      case rel =>
        exact ⟨1, Nat.le_refl _, rfl, rfl, Lib.hid ⟨fun h => absurd h (by decide), fun _ => by simpa using H5.out⟩⟩
    · obtain rfl : n = 1 := by omega
      obtain ⟨hk, hl1, hd1, ho1⟩ := hinv.out.2 rfl
      have z3 : w3.cell? ⟨K, 3, none⟩ = some (.int .i64 no) := hk.cell 3
      have z4 : w3.cell? ⟨K, 4, none⟩ = some (.int .i64 te) := hk.cell 4
      have u4 := hk.free 4
      have hs := hk.set 4 (.int .i64 no)
      have hg := but_set w3 K 4 (.int .i64 no)
      have hon : Only [48] B w3 (w3.setCell ⟨K, 4, none⟩ (.int .i64 no)) := Only.but hg hk List.mem_cons_self H0.out.2.1
      have hk4 : Blk (w3.setCell ⟨K, 4, none⟩ (.int .i64 no)) K (keepC C L pl no no false false) 48 := by simpa [keepC] using hs
      have z1 : (w3.setCell ⟨K, 4, none⟩ (.int .i64 no)).cell? ⟨K, 1, none⟩ = some (.pointer (some ⟨L, 0, none⟩)) := hk4.cell 1
      have H4 := Lib.hid (And.intro hk4 (And.intro (hl1.only hon (by decide) (by decide)) (And.intro (lg_dv hd1 hon (by decide) (by decide) (by decide) (by decide)) (ho1.trans (hon.mono (by decide))))))
      clear hinv hk hl1 hd1 ho1 hs hg hon hk4
      go_wp2_with (first
        | (go_at_call 25; refine (kdid_any W7 K C L pl no no false false H7.out.1 0).mono ?_; rintro e W8 ⟨rfl, hk8, hg8⟩; have H8 := Lib.hid (And.intro hk8 hg8); clear hk8 hg8)
        | (go_at_call 79; refine (H0.out.2.2.2.2.2.2.2.2.2 W6 H6.out.2.1 H6.out.2.2.1).mono ?_; rintro e W7 ⟨rfl, hl7, hd7, ho7⟩; have H7 := Lib.hid (And.intro (ho7.blk H6.out.1 (by decide)) (And.intro hl7 (And.intro hd7 (H6.out.2.2.2.trans (ho7.mono (by decide)))))); clear hl7 hd7 ho7)
        | (go_at_call 25; refine (kdid_any W5 K C L pl no no false false H5.out.1 0).mono ?_; rintro e W6 ⟨rfl, hk6, hg6⟩; have hon : Only [48] B W5 W6 := Only.but hg6 H5.out.1 List.mem_cons_self H0.out.2.1; have z1 : W6.cell? ⟨K, 1, none⟩ = some (.pointer (some ⟨L, 0, none⟩)) := hk6.cell 1; have H6 := Lib.hid (And.intro hk6 (And.intro (H5.out.2.1.only hon (by decide) (by decide)) (And.intro (lg_dv H5.out.2.2.1 hon (by decide) (by decide) (by decide) (by decide)) (H5.out.2.2.2.trans (hon.mono (by decide)))))); clear hk6 hg6 hon)
        | (go_at_call 26; have hsy := lsync_any (w3.setCell ⟨K, 4, none⟩ (.int .i64 no)) B L D l1 d1 H4.out.2.1 H4.out.2.2.1; rw [H0.out.2.2.2.2.2.2.2.2.1] at hsy; refine hsy.mono ?_; rintro e W5 ⟨rfl, hl5, hd5, ho5⟩; have H5 := Lib.hid (And.intro (ho5.blk H4.out.1 (by decide)) (And.intro hl5 (And.intro hd5 (H4.out.2.2.2.trans (ho5.mono (by decide)))))); clear hsy hl5 hd5 ho5))
      go_ret
      have hon : Only [48] B W7 W8 := Only.but H8.out.2 H7.out.1 List.mem_cons_self H0.out.2.1
      exact ⟨rfl, by simpa using H8.out.1, H7.out.2.1.only hon (by decide) (by decide), lg_dv H7.out.2.2.1 hon (by decide) (by decide) (by decide) (by decide), H7.out.2.2.2.trans (hon.mono (by decide))⟩
end
section
open Go.ChangeShapes Go.WideShapes Go.ChangeAt Go.RowKit
set_option maxHeartbeats 8000000 in
set_option maxRecDepth 100000 in
theorem dec_idle (p q : Addr) (w : World) :
    CallsD Tryz.prog 37 #[.pointer (some p), .pointer (some q)] .returning w fun e u' w' => e = .returned (.tuple #[]) ∧ u' = .returning ∧ w' = w := by
  refine callsD_of_wpS Tryz.func37 rfl fun c₀ cs hu => ?_
  apply wpS_seq
  apply wpS_region
  simp [wpOpsS, go_sem, recoverD, hu, Tryz.ntmps37, Exit.thenS]
  rw [show (#[Value.pointer (some p), Value.pointer (some q)] ++ (Array.replicate 11 undef).setIfInBounds 3 Value.nilIface) = #[Value.pointer (some p), Value.pointer (some q), undef, undef, undef, Value.nilIface, undef, undef, undef, undef, undef, undef, undef] from rfl]
  refine wpS_of_wp ?_
  go_wp2_with fail
  cases c₀
  simp_all [bodyPostS, results, Tryz.results37]
theorem clock_get (t : Int) (htf : fitK t 7 = true) : getP (clockW t) 0 1 = (3, 0) ∧ getP (clockW t) 1 7 = (t, 0) := by
  have hlen := clockW_len t
  obtain ⟨n, rfl⟩ : ∃ n : Nat, t = (n : Int) := ⟨t.toNat, by have := (fit7 htf).1; omega⟩
  have hn : n < 256 ^ 7 := by have := (fit7 htf).2; omega
  have h1 : (putN 3 1).length = 1 := putB_len 3 1
  have h7 : (putN (n : Int) 7).length = 7 := putB_len _ 7
  constructor
  · rw [getP, if_pos (by omega)]
    have e : ((clockW (n : Int)).drop 0).take 1 = putN 3 1 := by
      rw [clockW, List.nil_append, List.drop_zero, List.take_append_of_le_length (by omega), List.take_of_length_le (by omega)]
    rw [e, show (putN 3 1 : List UInt8) = putN ((3 : Nat) : Int) 1 from rfl, beN_putB 1 3 (by omega)]
    rfl
  · rw [getP, if_pos (by omega)]
    have e : ((clockW (n : Int)).drop 1).take 7 = putN (n : Int) 7 := by
      rw [clockW, List.nil_append, List.drop_append_of_le_length (by omega), List.drop_of_length_le (by omega), List.nil_append, List.take_of_length_le (by omega)]
    rw [e, beN_putB 7 n hn]
theorem dec_results {tmps : Array Value} {w : World} {R Q : Nat} {k t x : Int} (h2 : tmps[2]? = some (.pointer (some ⟨R, 0, none⟩))) (h3 : tmps[3]? = some (.pointer (some ⟨Q, 0, none⟩))) (hB : Blk w R (blankC k t (.slice none 0 0)) 59) (hQ : Blk w Q #[.int .i64 x] 24) :
    (results Tryz.f17 tmps).run Tryz.prog w = .ok (.tuple #[.agg (blankC k t (.slice none 0 0)), .int .i64 x]) w := by
  have c0 := hB.cell 0
  have c1 := hB.cell 1
  have c2 := hB.cell 2
  have c3 := hB.cell 3
  have c4 := hB.cell 4
  have c5 := hB.cell 5
  have c6 := hB.cell 6
  have c7 := hB.cell 7
  have c8 := hB.cell 8
  have c9 := hB.cell 9
  have c10 := hB.cell 10
  have c11 := hB.cell 11
  have c12 := hB.cell 12
  have c13 := hB.cell 13
  have c14 := hB.cell 14
  have c15 := hB.cell 15
  have d0 := hQ.cell 0
  simp [blankC] at c0 c1 c2 c3 c4 c5 c6 c7 c8 c9 c10 c11 c12 c13 c14 c15 d0
  simp [results, go_sem, h2, h3, c0, c1, c2, c3, c4, c5, c6, c7, c8, c9, c10, c11, c12, c13, c14, c15, d0, blankC]
set_option maxHeartbeats 8000000 in
set_option maxRecDepth 100000 in
theorem decode_clock (w : World) (bo : Option Addr) (bc : Nat) (t : Int) (hl : Byts w bo 8 bc (clockW t)) (hne2 : ∀ a, bo = some a → a.block < w.heap.size) (ht : timeB t = true) (htf : fitK t 7 = true) :
    Calls Tryz.prog 17 #[.slice bo 8 bc] w fun e w' => e = .returned (.tuple #[.agg (blankC 3 t (.slice none 0 0)), .int .i64 0]) ∧ Below w.heap.size w w' := by
  have hmf : ∀ (fn : Fn) (first cap : Array Value) (w : World), (Instr.makeFunc fn first cap).run Tryz.prog w = .ok (.func fn first cap) w := fun _ _ _ _ => rfl
  have HT := Lib.hid (And.intro ht htf)
  obtain ⟨W1, hW1⟩ : ∃ W1, W1 = w.alloc (.cells (blankC 0 0 (.slice none 0 0)) 59) := ⟨_, rfl⟩
  obtain ⟨W2, hW2⟩ : ∃ W2, W2 = W1.alloc (.cells #[.int .i64 0] 24) := ⟨_, rfl⟩
  obtain ⟨W3, hW3⟩ : ∃ W3, W3 = W2.alloc (.cells (rdC bo 8 bc 0) 95) := ⟨_, rfl⟩
  have hb1 : Below w.heap.size w W1 := by rw [hW1]; exact (Below.refl _ _).alloc (Nat.le_refl _) _
  have hb2 : Below W1.heap.size W1 W2 := by rw [hW2]; exact (Below.refl _ _).alloc (Nat.le_refl _) _
  have hb3 : Below W2.heap.size W2 W3 := by rw [hW3]; exact (Below.refl _ _).alloc (Nat.le_refl _) _
  have s1 : W1.heap.size = w.heap.size + 1 := by rw [hW1]; exact Array.size_push _
  have s2 : W2.heap.size = w.heap.size + 2 := by rw [hW2]; exact (Array.size_push _).trans (by rw [s1])
  have a1 : Blk W1 w.heap.size (blankC 0 0 (.slice none 0 0)) 59 := by rw [hW1]; exact heap_alloc_new w _
  have a2 : Blk W2 (w.heap.size + 1) #[.int .i64 0] 24 := by rw [← s1, hW2]; exact heap_alloc_new W1 _
  have a3 : Blk W3 (w.heap.size + 2) (rdC bo 8 bc 0) 95 := by rw [← s2, hW3]; exact heap_alloc_new W2 _
  have b1 := (a1.on hb2).on hb3
  have b2 := a2.on hb3
  have hbw := below_on (below_on hb1 hb2 (by omega)) hb3 (by omega)
  have hl3 := hl.below hbw (Nat.le_refl _)
  have hg := clock_get t htf
  have he := centry_clock W3 (w.heap.size + 2) bo 8 bc (clockW t) hl3 (fun a ha => by have := hne2 a ha; omega) (fun a ha => by have := hne2 a ha; have := hbw.size; omega) 0 t (by omega) hg.1 hg.2 a3
  rw [hW3, hW2, hW1] at he
  have HE := Lib.hid he
  have H3 := Lib.hid (And.intro hl3 (And.intro b1 (And.intro b2 (And.intro hbw (And.intro hne2 (And.intro hW3 (And.intro hW2 hW1)))))))
  clear hW1 hW2 hW3 hb1 hb2 hb3 s1 s2 a1 a2 a3 b1 b2 hbw hl3 hg he hl hne2 ht htf
  go_enter_defers Tryz.func17, Tryz.ntmps17
  go_upto_region 3 with (first
    | (refine wpList_store_row rfl 59 _ _ rfl w.heap.size (blankC 3 t (.slice none 0 0)) rfl rfl 59 (blankC 0 0 (.slice none 0 0)) H4.out.2.1 entSize rfl (blankC_all 3 t) ?_; have hq := blk_setRow H4.out.2.1 (blankC 3 t (.slice none 0 0)); have hqg := but_setRow W4 w.heap.size (blankC 3 t (.slice none 0 0)); (try change wpList _ _ _ _ _ (W4.setRow w.heap.size (blankC 3 t (.slice none 0 0)))); generalize W4.setRow w.heap.size (blankC 3 t (.slice none 0 0)) = W5 at hq hqg ⊢; have hq2 := H4.out.2.2.1.but hqg (by omega); have hl5 : Byts W5 bo 8 bc (clockW t) := H4.out.1.grown hqg (fun a ha h => by have := H3.out.2.2.2.2.1 a ha; have := Option.some.inj h; omega); have H5 := Lib.hid (And.intro hl5 (And.intro hq (And.intro hq2 (H4.out.2.2.2.trans (below_of_but hqg (Nat.le_refl _) H4.out.2.2.2.size))))); clear hq hqg hq2 hl5)
    | (go_at_call 38; refine HE.out.mono ?_; rintro e W4 ⟨rfl, hr4, hg4⟩; rw [← H3.out.2.2.2.2.2.2.2, ← H3.out.2.2.2.2.2.2.1, ← H3.out.2.2.2.2.2.1] at hg4; have H4 := Lib.hid (show Byts W4 bo 8 bc (clockW t) ∧ Blk W4 w.heap.size (blankC 0 0 (.slice none 0 0)) 59 ∧ Blk W4 (w.heap.size + 1) #[.int .i64 0] 24 ∧ Below w.heap.size w W4 from ⟨H3.out.1.grown hg4 (fun a ha h => by have := H3.out.2.2.2.2.1 a ha; have := Option.some.inj h; omega), H3.out.2.1.but hg4 (by omega), H3.out.2.2.1.but hg4 (by omega), H3.out.2.2.2.1.trans (below_of_but hg4 (by omega) H3.out.2.2.2.1.size)⟩); clear hr4 hg4))
  go_wp2_with (first
    | (refine wpList_load_row rfl 59 _ rfl w.heap.size rfl 59 (blankC 3 t (.slice none 0 0)) (0, 0) _ H7.out.2.1 Tryz.underlying59 rfl entSize ?_)
    | (refine wpList_load_row rfl 59 _ rfl w.heap.size rfl 59 (blankC 3 t (.slice none 0 0)) (0, 0) _ H5.out.2.1 Tryz.underlying59 rfl entSize ?_)
    | (refine wpList_store_row rfl 59 _ _ rfl w.heap.size (blankC 3 t (.slice none 0 0)) rfl rfl 59 (blankC 3 t (.slice none 0 0)) H7.out.2.1 entSize rfl (blankC_all 3 t) ?_; have hq := blk_setRow H7.out.2.1 (blankC 3 t (.slice none 0 0)); have hqg := but_setRow W7 w.heap.size (blankC 3 t (.slice none 0 0)); (try change wpList _ _ _ _ _ (W7.setRow w.heap.size (blankC 3 t (.slice none 0 0)))); generalize W7.setRow w.heap.size (blankC 3 t (.slice none 0 0)) = W8 at hq hqg ⊢; have hq2 := H7.out.2.2.1.but hqg (by omega); have z0 : W8.cell? ⟨w.heap.size + 1, 0, none⟩ = some (.int .i64 0) := hq2.cell 0; have zf : W8.frozen? ⟨w.heap.size + 1, 0, none⟩ = false := hq2.free 0; have H8 := Lib.hid (And.intro hq (And.intro hq2 (H7.out.2.2.2.trans (below_of_but hqg (Nat.le_refl _) H7.out.2.2.2.size)))); clear hq hqg hq2)
    | (go_at_call 40; refine HQ.out.mono ?_; rintro e W7 ⟨rfl, rfl⟩)
    | (go_at_call 41; refine (raw_clock W6 t HT.out.2 _ _ _ _ _ _ _ _ _ _ _ _ _ _).mono ?_; rintro e W7 ⟨⟨ao, c, rfl, ho⟩, hb⟩; clear c0 c1 c2 c3 c4 c5 c6 c7 c8 c9 c10 c11 c12 c13 c14 c15; have hl7 := H6.out.1.below hb (Nat.le_refl _); have hb7 := H6.out.2.1.on hb; have hq7 := H6.out.2.2.1.on hb; have HQ := Lib.hid (bequal_any W7 ao 8 c (clockW t) ho.row bo 8 bc (clockW t) hl7); rw [show decide (clockW t = clockW t) = true from decide_eq_true rfl] at HQ; have H7 := Lib.hid (And.intro hl7 (And.intro hb7 (And.intro hq7 (below_on H6.out.2.2.2 hb (Nat.le_refl _))))); clear ho hb hl7 hb7 hq7)
    | (go_at_call 39; refine (csound_clock W5 t).mono ?_; rintro e W6 ⟨rfl, hb⟩; rw [HT.out.1]; have hl6 := H5.out.1.below hb (Nat.le_refl _); have hb6 := H5.out.2.1.on hb; have hq6 := H5.out.2.2.1.on hb; have c0 := hb6.cell 0; have c1 := hb6.cell 1; have c2 := hb6.cell 2; have c3 := hb6.cell 3; have c4 := hb6.cell 4; have c5 := hb6.cell 5; have c6 := hb6.cell 6; have c7 := hb6.cell 7; have c8 := hb6.cell 8; have c9 := hb6.cell 9; have c10 := hb6.cell 10; have c11 := hb6.cell 11; have c12 := hb6.cell 12; have c13 := hb6.cell 13; have c14 := hb6.cell 14; have c15 := hb6.cell 15; simp [blankC] at c0 c1 c2 c3 c4 c5 c6 c7 c8 c9 c10 c11 c12 c13 c14 c15; have H6 := Lib.hid (And.intro hl6 (And.intro hb6 (And.intro hq6 (below_on H5.out.2.2.2 hb (Nat.le_refl _))))); clear hb hl6 hb6 hq6))
  refine leaves_cons (f := 37) (args := #[.pointer (some ⟨w.heap.size, 0, none⟩), .pointer (some ⟨w.heap.size + 1, 0, none⟩)]) (by simp) (by simp [go_sem]) ?_
  refine (dec_idle ⟨w.heap.size, 0, none⟩ ⟨w.heap.size + 1, 0, none⟩ _).mono ?_
  rintro e u' w'' ⟨rfl, rfl, rfl⟩
  have hgz := but_set W8 (w.heap.size + 1) 0 (.int .i64 0)
  have hB := H8.out.1.but hgz (by omega)
  have hQ := H8.out.2.1.set 0 (.int .i64 0)
  have hbel := H8.out.2.2.trans (below_of_but hgz (by omega) H8.out.2.2.size)
  exact ⟨_, dec_results rfl rfl hB hQ, rfl, hbel⟩
end
section
open Go.ChangeShapes Go.WideShapes Go.ChangeAt Go.RowKit
def maxT (ts : List Int) : Int := ts.foldl max 0
theorem maxT_snoc (ts : List Int) (t : Int) : maxT (ts ++ [t]) = max (maxT ts) t := by simp [maxT]
/-- what the plain side of the log keeps -/
structure TimeP (d : DevP) (l : LogP) (no : Int) (n : Nat) : Prop where
  ex : ∃ (ts : List Int) (sy : Nat), LogOK d l (ts.map clockW) sy ∧ LogBd d l (ts.map clockW) n ∧ (∀ t ∈ ts, timeB t = true) ∧ maxT ts = no
  len : d.sure.length = 20
  room : 6 ≤ roomL d l
  un : d.unsure = []
structure TimeSt (B : Nat) (w : World) (K C L D : Nat) (l : LogP) (d : DevP) (no : Int) (n : Nat) : Prop where
  blk : Blk w K (keepC C L 18 no no false false) 48
  base : B ≤ K
  log : IsLog B w L D l
  dev : IsDev B w D d
  ca : IsCache B w C 5 0 0 []
  pl : TimeP d l no n
theorem time_fit {t : Int} (h : timeB t = true) : fitK t 7 = true := by
  have h2 := timeB_out h
  exact fit_of (by omega) (by have e7 : (256 : Int) ^ 7 = 72057594037927936 := by decide
                              omega)
theorem clock_small (t : Int) : 1 ≤ (clockW t).length ∧ (clockW t).length ≤ 16384 ∧ pN (clockW t) = 1 := by
  rw [clockW_len]
  exact ⟨by omega, by omega, by rw [pN, clockW_len]; rfl⟩
theorem i64_room {r p : Int} (hr : 0 ≤ r ∧ r ≤ 100000) (hp : 0 ≤ p ∧ p ≤ 100) : IntKind.i64.wrap (r - p) = r - p ∧ IntKind.i64.wrap ((18 : Int).tdiv 3) = 6 := ⟨IntWalk.i64_in _ (by omega), by decide⟩
/-- Sync -/
theorem ktsync (w : World) (B K C L D : Nat) (l : LogP) (d : DevP) (no : Int) (n : Nat) (h : TimeSt B w K C L D l d no n) (hn : n ≤ 600000) (now : Int) :
    Calls Tryz.prog 7 #[.pointer (some ⟨K, 0, none⟩), .int .i64 now] w fun e w' => e = .returned (.int .i64 0) ∧ (∃ l' d', TimeSt B w' K C L D l' d' (atT no now) (n + 200)) ∧ Only kT B w w' := by
  obtain ⟨ts, sy, hok, hbd, hts, hmx⟩ := h.pl.ex
  have hBw := h.dev.Ble
  have hr := hok.room
  have hrn : ringN d = 18 := by unfold ringN; rw [h.pl.len]
  have hrm := h.pl.room
  rw [hrn] at hr
  by_cases hlt : no < atT no now
  · have htb : timeB now = true := by
      unfold atT at hlt
      by_cases hb : timeB now = true
      · exact hb
      · rw [if_neg hb] at hlt; omega
    have hnn : atT no now = now ∧ no < now := by
      unfold atT at hlt ⊢
      rw [if_pos htb] at hlt ⊢
      omega
    rw [hnn.1]
    have hcs := clock_small now
    have hcan := hok.can hbd (by omega)
    have hrc := fun W => rec_clock W now htb (time_fit htb)
    have hwr : ∃ l1 d1, (∀ W, Only [48] B w W → Blk W K (keepC C L 18 now no false false) 48 → Calls Tryz.prog 24 #[.pointer (some ⟨K, 0, none⟩), .agg (blankC 3 now (.slice none 0 0))] W fun e w' => e = .returned (.int .i64 0) ∧ (∃ te1, Blk w' K (keepC C L 18 now te1 false false) 48) ∧ IsLog B w' L D l1 ∧ IsDev B w' D d1 ∧ Only kT B W w') ∧
        (∃ (ts1 : List Int) (sy1 : Nat), LogOK d1 l1 (ts1.map clockW) sy1 ∧ LogBd d1 l1 (ts1.map clockW) (n + 150) ∧ (∀ t ∈ ts1, timeB t = true) ∧ maxT ts1 = now) ∧ d1.sure.length = 20 ∧ 6 ≤ roomL d1 l1 := by
      by_cases hroom : 7 ≤ roomL d l
      · obtain ⟨ha, hok1⟩ := hok.app (b := clockW now) ⟨hcs.1, hcs.2.1⟩ (by rw [hcs.2.2]; omega)
        have hlen : (appD d l (clockW now)).sure.length = d.sure.length := putParts_len _ _ _ _
        refine ⟨_, _, fun W ho hk => (kwrite_room W B K C L D 18 now no hk h.base l d (h.log.only ho (by decide) (by decide)) (lg_dv h.dev ho (by decide) (by decide) (by decide) (by decide)) hcan _ (clockW now) rfl (hrc W) hcs.1 hcs.2.1 (by omega) ?_ _ _ _ ha).mono (by rintro e w' ⟨a, b, c⟩; exact ⟨a, ⟨_, b⟩, c⟩), ⟨ts ++ [now], sy, ?_, ?_, ?_, ?_⟩, by rw [hlen]; exact h.pl.len, ?_⟩
        · rw [show partsN (clockW now).length = 1 from hcs.2.2, (i64_room (r := roomL d l) (p := ((1 : Nat) : Int)) (by omega) (by omega)).1, (i64_room (r := 0) (p := 0) (by omega) (by omega)).2]
          exact decide_eq_false (by omega)
        · rw [List.map_append]; exact hok1
        · rw [List.map_append]; exact (app_bd hok hbd hcs.2.1).mono (by omega)
        · intro t ht
          rcases List.mem_append.1 ht with ht | ht
          · exact hts t ht
          · rw [List.mem_singleton.1 ht]; exact htb
        · rw [maxT_snoc, hmx]; omega
        · have hr1 := hok1.room
          rw [sumP_app] at hr1
          have e1 : sumP [clockW now] = 1 := by simp [sumP, hcs.2.2]
          have e2 : ringN (appD d l (clockW now)) = 18 := by unfold ringN; rw [hlen, h.pl.len]
          omega
      · have hr6 : roomL d l = 6 := by omega
        obtain ⟨ha, hok1⟩ := hok.app (b := clockW now) ⟨hcs.1, hcs.2.1⟩ (by rw [hcs.2.2]; omega)
        have hbd1 := app_bd hok hbd hcs.2.1 (b := clockW now)
        have hlen : (appD d l (clockW now)).sure.length = d.sure.length := putParts_len _ _ _ _
        obtain ⟨d1, hd1⟩ : ∃ d1, d1 = appD d l (clockW now) := ⟨_, rfl⟩
        obtain ⟨l1, hl1⟩ : ∃ l1, l1 = appL l (clockW now) := ⟨_, rfl⟩
        rw [← hd1, ← hl1] at ha hok1 hbd1
        rw [← hd1] at hlen
        obtain ⟨s1, s2, s3, s4, s5⟩ := hok1.sync
        have hbd2 := sync_bd hok1 hbd1
        have hsl : (syncP d1).sure.length = d1.sure.length := hok1.calm.sync_len
        have hk : (ts.map clockW).length ≤ (ts.map clockW ++ [clockW now]).length := by simp
        obtain ⟨q1, q2, q3, q4, q5, q6, q7, q8⟩ := drop_ok s5 hbd2 (by omega) hk
        rw [show (ts.map clockW ++ [clockW now]).drop (ts.map clockW).length = [clockW now] from List.drop_left] at q7 q8
        have hll1 := hok1.list_len.1
        have hnl := hok.list_len.2.1
        have hfi : l1.block.first = l.block.first := by rw [hl1]; rfl
        have hdr : ∀ W : World, IsLog B W L D (lsyncL d1 l1) → IsDev B W D (lsyncD d1 l1) → Calls Tryz.prog 79 #[.pointer (some ⟨L, 0, none⟩), .int .i64 (nextL l)] W fun e w' => e = .returned (.int .i64 0) ∧ IsLog B w' L D (dropP (syncP d1) l1 (ts.map clockW).length).2.1 ∧ IsDev B w' D (dropP (syncP d1) l1 (ts.map clockW).length).1 ∧ Only lgT B W w' := by
          intro W a b
          rw [s2] at a
          rw [s3] at b
          have hz := ldrop_any W B L D l1 (syncP d1) a b (by rw [hsl, hlen, h.pl.len]; omega) (ts.map clockW).length (by rw [hll1]; simp) (nextL l) (by rw [hnl, hfi]) (by have := hbd2.fin; omega) q4 q1 (fun _ => q2)
          rw [show (dropP (syncP d1) l1 (ts.map clockW).length).2.2 = 0 by rw [q3]] at hz
          exact hz
        obtain ⟨d3, hd3⟩ : ∃ d3, d3 = (dropP (syncP d1) l1 (ts.map clockW).length).1 := ⟨_, rfl⟩
        obtain ⟨l3, hl3⟩ : ∃ l3, l3 = (dropP (syncP d1) l1 (ts.map clockW).length).2.1 := ⟨_, rfl⟩
        rw [← hd3, ← hl3] at q7 q8 hdr
        rw [← hd3] at q5 q6
        have hlen3 : d3.sure.length = 20 := by rw [q6, hsl, hlen, h.pl.len]
        have e1 : sumP [clockW now] = 1 := by simp [sumP, hcs.2.2]
        have e3 : ringN d3 = 18 := by unfold ringN; rw [hlen3]
        have hr3 := q7.room
        obtain ⟨ha4, hok4⟩ := q7.app (b := clockW now) ⟨hcs.1, hcs.2.1⟩ (by rw [hcs.2.2]; omega)
        have hbd4 := app_bd q7 q8 hcs.2.1 (b := clockW now)
        have hlen4 : (appD d3 l3 (clockW now)).sure.length = d3.sure.length := putParts_len _ _ _ _
        refine ⟨_, _, fun W ho hk => (kwrite_comp W B K C L D 18 now no hk h.base l d (h.log.only ho (by decide) (by decide)) (lg_dv h.dev ho (by decide) (by decide) (by decide) (by decide)) hcan _ (clockW now) rfl (hrc W) hcs.1 hcs.2.1 (by omega) ?_ now d3 l3 (q7.can q8 (by omega)) (fun W2 hb2 => ?_) _ _ _ ha4).mono (by rintro e w' ⟨a, b, c⟩; exact ⟨a, ⟨_, b⟩, c⟩), ⟨[now] ++ [now], (ts.map clockW ++ [clockW now]).length - (ts.map clockW).length, ?_, ?_, ?_, ?_⟩, by rw [hlen4]; exact hlen3, ?_⟩
        · rw [show partsN (clockW now).length = 1 from hcs.2.2, (i64_room (r := roomL d l) (p := ((1 : Nat) : Int)) (by omega) (by omega)).1, (i64_room (r := 0) (p := 0) (by omega) (by omega)).2]
          exact decide_eq_true (by omega)
        · exact kcompact_none W2 B K C L D 18 now no (hk.on hb2) h.base B 5 0 0 ((h.ca.only ho (by decide) (by decide) (by decide)).on hb2) (by decide) l d ((h.log.only ho (by decide) (by decide)).on hb2) ((lg_dv h.dev ho (by decide) (by decide) (by decide) (by decide)).on hb2) hcan htb (time_fit htb) (by omega) d1 l1 _ ha s1 d3 l3 hdr
        · exact hok4
        · exact hbd4.mono (by omega)
        · intro t ht
          have : t = now := by simpa using ht
          rw [this]; exact htb
        · have : 0 ≤ now := (timeB_out htb).1
          simp [maxT]
          omega
        · have hr1 := hok4.room
          rw [sumP_app] at hr1
          have e2 : ringN (appD d3 l3 (clockW now)) = 18 := by unfold ringN; rw [hlen4, hlen3]
          omega
    obtain ⟨l1, d1, hw, ⟨ts1, sy1, hok1, hbd1, hts1, hmx1⟩, hlen1, hrm1⟩ := hwr
    obtain ⟨s1, s2, s3, s4, s5⟩ := hok1.sync
    have hk := ksync_new w B K C L D 18 no no now h.blk h.base hBw hlt l1 d1 (by rw [hnn.1]; exact hw) s1
    rw [s2, s3, hnn.1] at hk
    refine hk.mono ?_
    rintro e w' ⟨rfl, hk', hl', hd', ho'⟩
    have hsl : (syncP d1).sure.length = d1.sure.length := hok1.calm.sync_len
    refine ⟨rfl, ⟨l1, syncP d1, hk', h.base, hl', hd', h.ca.only ho' (by decide) (by decide) (by decide), ⟨ts1, _, s5, (sync_bd hok1 hbd1).mono (by omega), hts1, hmx1⟩, by rw [hsl]; exact hlen1, ?_, s4⟩, ho'⟩
    have hr1 := s5.room
    have hr2 := hok1.room
    have e2 : ringN (syncP d1) = ringN d1 := by unfold ringN; rw [hsl]
    omega
  · have hnn : atT no now = no := by
      unfold atT at hlt ⊢
      split at hlt
      · rename_i hb; rw [if_pos hb]; omega
      · rename_i hb; rw [if_neg hb]
    obtain ⟨s1, s2, s3, s4, s5⟩ := hok.sync
    have hk := ksync_old w B K C L D 18 no no now h.blk h.base hBw l d h.log h.dev hlt s1
    rw [s2, s3, hnn] at hk
    rw [hnn]
    refine hk.mono ?_
    rintro e w' ⟨rfl, hk', hl', hd', ho'⟩
    have hsl : (syncP d).sure.length = d.sure.length := hok.calm.sync_len
    refine ⟨rfl, ⟨l, syncP d, hk', h.base, hl', hd', h.ca.only ho' (by decide) (by decide) (by decide), ⟨ts, _, s5, (sync_bd hok hbd).mono (by omega), hts, hmx⟩, by rw [hsl]; exact h.pl.len, ?_, s4⟩, ho'⟩
    have hr1 := s5.room
    have e2 : ringN (syncP d) = 18 := by unfold ringN; rw [hsl, h.pl.len]
    omega
/-- Crash -/
theorem TimeP.crash {d : DevP} {l : LogP} {no : Int} {n : Nat} (h : TimeP d l no n) : crashP d 0 0 = d := by
  obtain ⟨ts, sy, hok, -⟩ := h.ex
  exact hok.calm.crash h.un 0 0
/-- Open -/
theorem ktopen (w : World) (B D : Nat) (l : LogP) (d : DevP) (no : Int) (n : Nat) (hd : IsDev B w D d) (h : TimeP d l no n) (hn : n ≤ 600000) :
    Calls Tryz.prog 5 #[.pointer (some ⟨D, 0, none⟩), .int .i64 5, .int .i64 0] w fun e w' => (∃ K C L l' d', e = .returned (.tuple #[.pointer (some ⟨K, 0, none⟩), .int .i64 0]) ∧ TimeSt B w' K C L D l' d' no (n + 200)) ∧ Kfr B w w' := by
  obtain ⟨ts, sy, hok, hbd, hts, hmx⟩ := h.ex
  have hcr := h.crash
  have hnums := hok.nums
  have hfit : supFits ⟨l.block.gen + 1, l.block.epoch + 1, l.block.first, l.block.from', l.block.first + ((ts.map clockW).length : Int)⟩ = true := by
    have a1 := (fitK_small (n := l.block.gen + 1) (by omega) (by have := hbd.gen; omega)).1
    have a2 := (fitK_small (n := l.block.epoch + 1) (by omega) (by have := hbd.epoch; omega)).1
    have a3 := (fitK_small (n := l.block.first) (by omega) (by have := hbd.first; omega)).1
    have a4 := (fitK_small (n := l.block.from') (by omega) (by have := hbd.fin; omega)).1
    have a5 := (fitK_small (n := l.block.first + ((ts.map clockW).length : Int)) (by omega) (by have := hbd.first; omega)).1
    simp only [supFits, a1, a2, a3, a4, a5, Bool.and_true]
  obtain ⟨hld, k, hk1, hk2, hk3, hnx, hsb, hnf, hsn, hs2, hsu, hokn⟩ := hok.crash 0 0 hfit (fitK_small (n := l.block.epoch + 1) (by omega) (by have := hbd.epoch; omega)).2
  have hk := hk3 h.un
  subst hk
  rw [List.take_length] at hokn
  rw [hcr] at hld hnx hsb hnf hsn hs2 hsu hokn
  obtain ⟨sd, hsd⟩ : ∃ sd, sd = (saveP d (nextB d l.block)).1 := ⟨_, rfl⟩
  obtain ⟨l', hl'⟩ : ∃ l', { scanL d l.block with block := nextB d l.block } = l' := ⟨_, rfl⟩
  have hsl : sd.sure.length = d.sure.length := by rw [hsd]; exact (save_sup hok.calm (by have := hok.n4; omega) hnf hsn).2.len
  rw [← hsd] at hsu hokn
  rw [hl'] at hokn
  have hbl : l'.block = nextB d l.block := by rw [← hl']
  have hbd' : LogBd sd l' (ts.map clockW) (n + 5) := by
    obtain ⟨f, ep, hB⟩ := hok.body
    obtain ⟨f', ep', hB'⟩ := hokn.body
    have e1 := hB.frm
    have e2 := hB'.frm
    have e3 : l'.block.from' = l.block.from' := by rw [hbl]; rfl
    have e4 : f' = f := by omega
    refine ⟨?_, ?_, ?_, ?_, by rw [hsu]; exact Nat.zero_le _⟩
    · rw [hbl]; show l.block.gen + 1 ≤ _; have := hbd.gen; omega
    · rw [hbl]; show l.block.epoch + 1 ≤ _; have := hbd.epoch; omega
    · rw [hbl]; show l.block.first + _ ≤ _; have := hbd.first; omega
    · rw [hB'.fin, e4, ← hB.fin]; have := hbd.fin; omega
  have hroom : 6 ≤ roomL sd l' := by
    have r1 := hokn.room
    have r2 := hok.room
    have r3 := h.room
    have e2 : ringN sd = ringN d := by unfold ringN; rw [hsl]
    omega
  have hst : ∀ i (hi : i < (ts.map clockW).length), StepOK B (fun i K C L W => Blk W K (keepC C L 18 (maxT (ts.take i)) (maxT (ts.take i)) false false) 48 ∧ B ≤ K ∧ IsCache B W C 5 0 0 []) i (ts.map clockW)[i] := by
    intro i hi K C L W ao c hP hBW hrow
    have hi2 : i < ts.length := by simpa using hi
    rw [List.getElem_map, clockW_len] at hrow
    rw [List.getElem_map, clockW_len]
    have htb := hts ts[i] (List.getElem_mem hi2)
    have htf := time_fit htb
    refine ⟨_, rfl, blankC_all 3 ts[i], (decode_clock W ao c ts[i] hrow.row (fun a ha => tagged_lt (hrow.mem (by omega) a ha).1) htb htf).mono ?_⟩
    rintro e W' ⟨rfl, hb⟩
    refine ⟨rfl, hb, fun W2 hb2 => ?_⟩
    have hbb := below_on hb hb2 (Nat.le_refl _)
    refine (kagain_clock W2 B K C L 18 _ _ false false (hP.1.on hbb) hP.2.1 (by have := hbb.size; omega) ts[i]).mono ?_
    rintro e w' ⟨rfl, hk', ho'⟩
    have e1 : maxT (ts.take (i + 1)) = max (maxT (ts.take i)) ts[i] := by rw [List.take_succ_eq_append_getElem hi2, maxT_snoc]
    exact ⟨rfl, ⟨by rw [e1]; exact hk', hP.2.1, (hP.2.2.on hbb).only ho' (by decide) (by decide) (by decide)⟩, Afr.only ho' (by decide)⟩
  have hko := kopen_any w D B d hd hok.n4 hok.calm.dn l.block hld hok.fits hok.ep1 hok.cnt.1 (by rw [hnx]; have := hok.cnt; omega) hnf (by have := hbd.fin; omega) sd (by rw [hsd, ← hs2]) l' hl' _ _ (n + 5) hokn hbd' (by omega) hsl
    5 0 (by decide) (by decide) (by decide) _ (fun K C L W hb hB hc => ⟨by rw [h.len] at hb; simpa [maxT] using hb, hB, hc⟩) (fun i K C L W W' hP ho => ⟨ho.blk hP.1 (by decide), hP.2.1, hP.2.2.only ho (by decide) (by decide) (by decide)⟩) hst
  refine hko.mono ?_
  rintro e w' ⟨⟨K, C, L, rfl, hP, hl1⟩, hd1, hf1⟩
  rw [List.length_map, List.take_length, hmx] at hP
  exact ⟨⟨K, C, L, l', sd, rfl, hP.1, hP.2.1, hl1, hd1, hP.2.2, ⟨ts, _, hokn, hbd'.mono (by omega), hts, hmx⟩, by rw [hsl]; exact h.len, hroom, hsu⟩, hf1⟩
end
section
open Go.ChangeShapes Go.WideShapes Go.ChangeAt Go.RowKit
theorem born_time : TimeP (bornD 20) ⟨b0, [], 0, false⟩ 0 1 := by
  have hok := born_ok (n := 20) (by decide) (by decide)
  have hr := hok.room
  have hlen : (bornD 20).sure.length = 20 := by simp [bornD]
  have hrn : ringN (bornD 20) = 18 := by unfold ringN; rw [hlen]
  have hs0 : sumP [] = 0 := rfl
  exact ⟨⟨[], 0, hok, born_bd 20, fun t ht => (by cases ht), rfl⟩, hlen, by omega, rfl⟩
theorem TimeSt.mono {B : Nat} {w : World} {K C L D : Nat} {l : LogP} {d : DevP} {no : Int} {n m : Nat} (h : TimeSt B w K C L D l d no n) (hm : n ≤ m) : TimeSt B w K C L D l d no m := by
  obtain ⟨ts, sy, h1, h2, h3, h4⟩ := h.pl.ex
  exact ⟨h.blk, h.base, h.log, h.dev, h.ca, ⟨ts, sy, h1, h2.mono hm, h3, h4⟩, h.pl.len, h.pl.room, h.pl.un⟩
set_option maxHeartbeats 32000000 in
set_option maxRecDepth 100000 in
theorem time_walk (w : World) (ao : Option Addr) (nl nc : Nat) (zs : List Int) (hz : Row w ao nl nc (zs.map (Value.int .i64))) :
    Calls Tryz.prog 3 #[.slice ao nl nc] w fun e w' => e = .returned (.bool true) ∧ Below w.heap.size w w' := by
  have HN := Lib.hid (dnew_any w 20 (by decide) (by decide))
  have hl := hz.hlen
  have hle := hz.hle
  have hcp := hz.hcap
  have hmx := hz.hmax
  have HZ := Lib.hid (And.intro hz hl)
  clear hz hl
  go_enter Tryz.func3, Tryz.ntmps3
  go_wp2_with (first
    | (go_at_call 6; refine (answers16_any W2).mono ?_; rintro e W3 ⟨rfl, hb3⟩; have H3 := Lib.hid hb3; clear hb3)
    | (go_at_call 5; refine (kopen_new W1 D 20 w.heap.size (by decide) H1.out.1 5 0 (by decide) (by decide) (by decide)).mono ?_; rintro e W2 ⟨⟨K, C, L, rfl, hk2, hK2, hc2, hl2⟩, hd2, ho2⟩; have H2 := Lib.hid (show Blk W2 K (keepC C L ((20 : Nat) - 2) 0 0 false false) 48 ∧ w.heap.size ≤ K ∧ IsLog w.heap.size W2 L D _ ∧ IsDev w.heap.size W2 D _ ∧ IsCache w.heap.size W2 C 5 0 0 [] ∧ Below w.heap.size w W2 from ⟨hk2, by have := H1.out.2.size; omega, hl2.mono H1.out.2.size, hd2, cache_low hc2 H1.out.2.size, H1.out.2.trans ho2.bel⟩); clear hk2 hK2 hc2 hl2 hd2 ho2)
    | (go_at_call 4; refine HN.out.mono ?_; rintro e W1 ⟨⟨D, rfl, hd⟩, hb1⟩; have H1 := Lib.hid (And.intro hd hb1); clear hd hb1))
  have HT : Hid (TimeSt w.heap.size W3 K C L D ⟨b0, [], 0, false⟩ (bornD 20) 0 1 ∧ Below w.heap.size w W3) := Lib.hid ⟨⟨by have := H2.out.1.on H3.out; exact this, H2.out.2.1, H2.out.2.2.1.on H3.out, H2.out.2.2.2.1.on H3.out, H2.out.2.2.2.2.1.on H3.out, born_time⟩, below_on H2.out.2.2.2.2.2 H3.out (Nat.le_refl _)⟩
  go_loopw [5, 7, 8, 9, 10] (fun k g i _ _ wr => ∃ (j : Nat) (K : Nat) (no : Int), j ≤ 40 ∧ k = .pointer (some ⟨K, 0, none⟩) ∧ g = .int .i64 no ∧ i = .int .i64 (j : Int) ∧ Hid ((∃ C L l d, TimeSt w.heap.size wr K C L D l d no (1 + 400 * j)) ∧ Below w.heap.size w wr)) (fun _ _ i _ _ _ => 40 - (intOf i).toNat)
  case atStart => exact ⟨0, K, 0, by omega, rfl, rfl, rfl, Lib.hid ⟨⟨C, L, _, _, HT.out.1⟩, HT.out.2⟩⟩
  case round =>
    obtain ⟨j, K, no, hj, rfl, rfl, rfl, hinv⟩ := hrel
    by_cases h1 : j < nl
    · by_cases h2 : j < 40
      · obtain ⟨C, L, l, d, hst⟩ := hinv.out.1
        have hjl : j < (zs.map (Value.int .i64)).length := by rw [HZ.out.2]; exact h1
        obtain ⟨b, off, rfl, hcs⟩ := HZ.out.1.hcells (by omega)
        have hc0 := hcs j hjl
        have hjz : j < zs.length := by simpa using hjl
        obtain ⟨z, hzz⟩ : ∃ z, z = zs[j] := ⟨_, rfl⟩
        rw [List.getElem_map, ← hzz] at hc0
        have hc1 := cell_keep hinv.out.2 hc0
        have HC := Lib.hid hc0
        have HS := Lib.hid (ktsync wr w.heap.size K C L D l d no _ hst (by omega) z)
        have HTM := Lib.hid (fun w' => rtime_any z w')
        have hlb1 : decide ((j : Int) < (nl : Int)) = true := decide_eq_true (by omega)
        have hlb2 : decide ((j : Int) < 40) = true := decide_eq_true (by omega)
        have HW := Lib.hid hinv.out.2
        clear hinv hst hcs hzz hjz hjl hc0
        have hcase : ∃ no' : Int, atT no z = no' ∧ ((timeB z = true ∧ no < z ∧ no' = z) ∨ (timeB z = true ∧ ¬ no < z ∧ no' = no) ∨ (timeB z = false ∧ no' = no)) := by
          cases htz : timeB z with
          | true =>
            by_cases hgt : no < z
            · exact ⟨z, by rw [atT, if_pos htz]; omega, .inl ⟨rfl, hgt, rfl⟩⟩
            · exact ⟨no, by rw [atT, if_pos htz]; omega, .inr (.inl ⟨rfl, hgt, rfl⟩)⟩
          | false => exact ⟨no, by rw [atT, if_neg (by rw [htz]; decide)], .inr (.inr ⟨rfl, rfl⟩)⟩
        obtain ⟨no', hat, hcase⟩ := hcase
        rw [hat] at HS
        clear hat
        have h5 : (j % 5 = 4) ∨ ¬ (j % 5 = 4) := Classical.em _
        rcases hcase with ⟨h3, h4, rfl⟩ | ⟨h3, h4, rfl⟩ | ⟨h3, rfl⟩
        all_goals
          rw [h3] at HTM
          clear h3
          rcases h5 with h5 | h5
        all_goals
          have HJ := Lib.hid h5
          first
            | (have hm : ((j : Int) % 5 == 4) = true := by simpa using (show (j : Int) % 5 = 4 by omega))
            | (have hm : ((j : Int) % 5 == 4) = false := by simpa using (show ¬ (j : Int) % 5 = 4 by omega))
          clear h5
          try (have hgd := decide_eq_true h4)
          try (have hgd := decide_eq_false h4)
          try clear h4
          go_wp2_with (first
            | (go_at_call 9; refine (know_any W6 K2 C2 L2 18 no' no' false false H6.out.1.blk).mono ?_; rintro e W6 ⟨rfl, rfl⟩)
            | (go_at_call 5; refine (ktopen W5 w.heap.size D l4 d4 no' _ H5.out.1 H4.out.1.pl (by omega)).mono ?_; rintro e W6 ⟨⟨K2, C2, L2, l6, d6, rfl, hs6⟩, hf6⟩; have H6 := Lib.hid (And.intro hs6 hf6); clear hs6 hf6)
            | (go_at_call 10; refine (dcrash_any W4 w.heap.size D d4 H4.out.1.dev 0 0 (by decide) (by decide)).mono ?_; rintro e W5 ⟨rfl, hd5, ho5⟩; rw [H4.out.1.pl.crash] at hd5; have H5 := Lib.hid (And.intro hd5 ho5); clear hd5 ho5)
            | (go_at_call 9; refine (know_any W4 K C L 18 no' no' false false H4.out.1.blk).mono ?_; rintro e W4 ⟨rfl, rfl⟩)
            | (go_at_call 8; refine (HTM.out _).mono ?_; rintro e w2 ⟨rfl, rfl⟩)
            | (go_at_call 7; refine HS.out.mono ?_; rintro e W4 ⟨rfl, ⟨l4, d4, hs4⟩, ho4⟩; have hc4 := cell_keep (HW.out.trans ho4.bel) HC.out; have H4 := Lib.hid (And.intro hs4 ho4.bel); clear hs4 ho4))
          first
            | exact ⟨⟨j + 1, K2, no', by omega, rfl, rfl, by simp, Lib.hid ⟨⟨_, _, _, _, H6.out.1.mono (by omega)⟩, ((HW.out.trans H4.out.2).trans H5.out.2.bel).trans H6.out.2.bel⟩⟩, by simp [intOf]; omega⟩
            | exact ⟨⟨j + 1, K, no', by omega, rfl, rfl, by simp, Lib.hid ⟨⟨_, _, _, _, H4.out.1.mono (by omega)⟩, HW.out.trans H4.out.2⟩⟩, by simp [intOf]; omega⟩
      · obtain rfl : j = 40 := by omega
        go_wp2_with fail
        go_ret
        exact ⟨rfl, hinv.out.2⟩
    · have hlb : decide ((j : Int) < (nl : Int)) = false := decide_eq_false (by omega)
      go_wp2_with fail
      go_ret
      exact ⟨rfl, hinv.out.2⟩
end
end Go.Proofs.YtjbaohcofdoinaaGreat

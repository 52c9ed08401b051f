/- The contract of the reference's OwnFact: the same fact, in memory of its own. -/
import Derived.Test.YtpemdieejgldiaaGreatFown
import Derived.Test.YtpemdieejgldiaaGreatRowndata
namespace Go.Proofs.YtpemdieejgldiaaGreat
open Go.ChangeShapes Go.WideShapes Go.ChangeAt Go.RowKit

theorem rownfact_results {tmps : Array Value} {w : World} {R : Nat} {k : FactH} {f : FactP} (h2 : tmps[2]? = some (.pointer (some ⟨R, 0, none⟩))) (hB : Blk w R (factC k f) 36) :
    (results Tryz.f9 tmps).run Tryz.prog w = .ok (.agg (factC k f)) w := by
  have c0 := hB.cell 0
  have c1 := hB.cell 1
  have c2 := hB.cell 2
  have c3 := hB.cell 3
  have c4 := hB.cell 4
  have c5 := hB.cell 5
  have c6 := hB.cell 6
  have c7 := hB.cell 7
  have c8 := hB.cell 8
  have c9 := hB.cell 9
  have c10 := hB.cell 10
  have c11 := hB.cell 11
  have c12 := hB.cell 12
  simp [factC] at c0 c1 c2 c3 c4 c5 c6 c7 c8 c9 c10 c11 c12
  simp [results, go_sem, h2, c0, c1, c2, c3, c4, c5, c6, c7, c8, c9, c10, c11, c12, factC]
/-- what the loop keeps -/
structure RoSt (w wr : World) (kk : DataH) (f : FactP) (a0 : Addr) (nl c0 : Nat) (a1 : Addr) (zl c1 : Nat) (v : Value) (A : Array Value) (j : Nat) : Prop where
  bel : Below w.heap.size w wr
  blkA : Blk wr w.heap.size A 36
  blkR : Blk wr (w.heap.size + 1) noF 36
  name : Own1 [9] (w.heap.size + 2) wr (some a0) nl c0 (f.name.map .string)
  zone : Own1 [9] (w.heap.size + 2) wr (some a1) zl c1 (f.zone.map .string)
  soa : OwnD (w.heap.size + 2) wr kk f.soa
  set : Gath dataK dT 34 (w.heap.size + 2) wr v (f.set.take j)
theorem RoSt.on {w wr w' : World} {kk : DataH} {f : FactP} {a0 : Addr} {nl c0 : Nat} {a1 : Addr} {zl c1 : Nat} {v : Value} {A : Array Value} {j : Nat} (h : RoSt w wr kk f a0 nl c0 a1 zl c1 v A j) (hb : Below wr.heap.size wr w') : RoSt w w' kk f a0 nl c0 a1 zl c1 v A j :=
  ⟨below_on h.bel hb (Nat.le_refl _), h.blkA.on hb, h.blkR.on hb, h.name.on hb, h.zone.on hb, h.soa.on hb, h.set.on hb⟩
/-- an append to the gathered row -/
theorem RoSt.grow {w wr W : World} {kk : DataH} {f : FactP} {a0 : Addr} {nl c0 : Nat} {a1 : Addr} {zl c1 : Nat} {v v' : Value} {A : Array Value} {j : Nat} (h : RoSt w wr kk f a0 nl c0 a1 zl c1 v A j) (hg : wr.grownBy W v.ownBlock) (hrow : ∀ b, v.ownBlock = some b → ∃ cs, Blk wr b cs 34 ∧ w.heap.size + 2 ≤ b)
    (hset : Gath dataK dT 34 (w.heap.size + 2) W v' (f.set.take (j + 1))) : RoSt w W kk f a0 nl c0 a1 zl c1 v' A (j + 1) := by
  have hst : ∀ {T : List TypeId}, 34 ∉ T → Same (fun b => tagged T wr b ∧ w.heap.size + 2 ≤ b) wr W := fun hT => Same.grown hg (fun b hb e => by
    obtain ⟨cs, hB, _⟩ := hrow b e.symm
    exact tagged_ne hB hT hb.1 rfl)
  have hne : ∀ k, k < w.heap.size + 2 → some k ≠ v.ownBlock := fun k hk e => by
    obtain ⟨cs, _, hB⟩ := hrow k e.symm
    omega
  have hlt := h.blkR.lt
  exact ⟨h.bel.trans ⟨hg.os, hg.tape, hg.output, hg.size, fun k hk => hg.block k (by omega) (hne k (by omega))⟩, (by unfold Blk; rw [hg.block _ h.blkA.lt (hne _ (by omega))]; exact h.blkA), (by unfold Blk; rw [hg.block _ hlt (hne _ (by omega))]; exact h.blkR),
    h.name.step (hst (by decide)), h.zone.step (hst (by decide)), h.soa.step (hst (by decide)), hset⟩
theorem dataParts : ∃ (i0 : TypeInfo) (z : Value), Tryz.prog.info? 34 = some i0 ∧ i0.zero = some z ∧ i0.size = 5 ∧ z.cells.size = 5 ∧ i0.bytes ≤ 1000 := by
  obtain ⟨i0, hi, hii⟩ := Option.map_eq_some_iff.1 dataInfo
  simp only [Prod.mk.injEq] at hii
  obtain ⟨z, hz, hzs⟩ := Option.map_eq_some_iff.1 hii.1
  have hby : i0.bytes ≤ 400 := by
    have := dataBytes
    rw [hi] at this
    simpa using this
  exact ⟨i0, z, hi, hz, hii.2, hzs, by omega⟩
theorem src_cells (w : World) (k : DataH) : ∀ j, j < 5 → (w.alloc (.cells (dataC k) 34)).cell? ((⟨w.heap.size, 0, none⟩ : Addr).add j) = (dataC k)[j]? := fun j _ => by
  rw [addr_add, Nat.zero_add]
  exact World.cell?_alloc_new w _ _ j
set_option maxHeartbeats 16000000 in
set_option maxRecDepth 100000 in
theorem rownfact_any (w : World) (S : Nat → Prop) (h : FactH) (f : FactP) (hf : IsFact S w h f) (hl : FLen f) :
    Calls Tryz.prog 9 #[.agg (factC h f)] w fun e w' => (∃ k, e = .returned (.agg (factC k f)) ∧ IsFact (tagged fT w') w' k f ∧ rowIn (fun b => w.heap.size ≤ b) k.na k.nl ∧ rowIn (fun b => w.heap.size ≤ b) k.sa k.sl) ∧ Below w.heap.size w w' := by
  have HSW := Lib.hid (hf.set.mono (S' := fun b => b < w.heap.size) (fun b hb _ => hb))
  have hA0 : Blk (w.alloc (.cells (factC h f) 36)) w.heap.size (factC h f) 36 := heap_alloc_new w _
  have hA : Blk ((w.alloc (.cells (factC h f) 36)).alloc (.cells noF 36)) w.heap.size (factC h f) 36 := hA0.on ((Below.refl _ _).alloc (Nat.le_refl _) _)
  have hN : Blk ((w.alloc (.cells (factC h f) 36)).alloc (.cells noF 36)) (w.heap.size + 1) noF 36 := by
    have := heap_alloc_new (w.alloc (.cells (factC h f) 36)) (.cells noF 36)
    simpa [Blk] using this
  have hsz : ((w.alloc (.cells (factC h f) 36)).alloc (.cells noF 36)).heap.size = w.heap.size + 2 := by simp
  have hb2 : Below w.heap.size w ((w.alloc (.cells (factC h f) 36)).alloc (.cells noF 36)) := ((Below.refl _ _).alloc (Nat.le_refl _) _).alloc (by simp) _
  have HB := Lib.hid hb2
  have HF := Lib.hid ((hf.mono (S' := fun b => b < w.heap.size) (fun b hb _ => hb)).on hb2)
  have HN := Lib.hid hN
  have HA := Lib.hid hA
  have HSZ := Lib.hid hsz
  have HLE := Lib.hid hl
  have hsl := hf.set.hlen
  have hsle := hf.set.hle
  have hsmx := hf.set.hmax
  have hnl := hf.name.len
  have hzl := hf.zone.len
  have h1 := hl.set
  have h2 := hl.name
  have h3 := hl.zone
  have HLS := Lib.hid (And.intro hsl (show h.sl ≤ 1000000 by omega))
  have HSD := Lib.hid (hl.soa.fit hf.soa)
  have HSN := Lib.hid (And.intro hf.name.small hf.zone.small)
  have HI5 := Lib.hid (And.intro hf.typ (And.intro hf.kind (And.intro hf.rank (And.intro hf.got hf.ttl))))
  have hbn : h.nl * 16 ≤ 140737488355328 := by omega
  have hbz : h.zl * 16 ≤ 140737488355328 := by omega
  clear hA0 hA hN hsz hb2 hf hl hsl hnl hzl h1 h2 h3
  obtain ⟨na, nl, nc, sa, sl, sc, za, zl, zc, ⟨ba, bl, bc, ha, hl, hc, ma, ml, mc, xa, xl, xc, ta, tl, tc⟩⟩ := h
  simp only [factC] at HB HF HN HA HSZ
  simp only at hsle hsmx HLS HSD hbn hbz HSW
  obtain ⟨i0, hi, hz0, hz1, hz2⟩ := info_parts strInfo
  have hE : Below ((w.alloc (.cells #[.slice na nl nc, .int .i64 f.typ, .int .i64 f.kind, .int .i64 f.rank, .int .i64 f.got, .int .i64 f.ttl, .slice sa sl sc, .slice za zl zc, .slice ba bl bc, .slice ha hl hc, .slice ma ml mc, .slice xa xl xc, .slice ta tl tc] 36)).alloc (.cells noF 36)).heap.size ((w.alloc (.cells #[.slice na nl nc, .int .i64 f.typ, .int .i64 f.kind, .int .i64 f.rank, .int .i64 f.got, .int .i64 f.ttl, .slice sa sl sc, .slice za zl zc, .slice ba bl bc, .slice ha hl hc, .slice ma ml mc, .slice xa xl xc, .slice ta tl tc] 36)).alloc (.cells noF 36)) (((w.alloc (.cells #[.slice na nl nc, .int .i64 f.typ, .int .i64 f.kind, .int .i64 f.rank, .int .i64 f.got, .int .i64 f.ttl, .slice sa sl sc, .slice za zl zc, .slice ba bl bc, .slice ha hl hc, .slice ma ml mc, .slice xa xl xc, .slice ta tl tc] 36)).alloc (.cells noF 36)).alloc (.cells #[] 9)) := (Below.refl _ _).alloc (Nat.le_refl _) _
  have hsz := HSZ.out
  obtain ⟨a0, c0, X1, hrun1, hr0, hb1⟩ := append_own1 (P := Tryz.prog) (((w.alloc (.cells #[.slice na nl nc, .int .i64 f.typ, .int .i64 f.kind, .int .i64 f.rank, .int .i64 f.got, .int .i64 f.ttl, .slice sa sl sc, .slice za zl zc, .slice ba bl bc, .slice ha hl hc, .slice ma ml mc, .slice xa xl xc, .slice ta tl tc] 36)).alloc (.cells noF 36)).alloc (.cells #[] 9)) 23 23 9 i0 _ 16 Tryz.underlying23 hi hz0 hz1 hz2 (w.heap.size + 2) (by simp) na nl nc _ (HF.out.name.row.below hE (Nat.le_refl _)) hbn
  have hb1' : Below ((w.alloc (.cells #[.slice na nl nc, .int .i64 f.typ, .int .i64 f.kind, .int .i64 f.rank, .int .i64 f.got, .int .i64 f.ttl, .slice sa sl sc, .slice za zl zc, .slice ba bl bc, .slice ha hl hc, .slice ma ml mc, .slice xa xl xc, .slice ta tl tc] 36)).alloc (.cells noF 36)).heap.size ((w.alloc (.cells #[.slice na nl nc, .int .i64 f.typ, .int .i64 f.kind, .int .i64 f.rank, .int .i64 f.got, .int .i64 f.ttl, .slice sa sl sc, .slice za zl zc, .slice ba bl bc, .slice ha hl hc, .slice ma ml mc, .slice xa xl xc, .slice ta tl tc] 36)).alloc (.cells noF 36)) X1 := hE.trans (hb1.mono (by simp))
  have hA1 := HA.out.on hb1'
  have hG1 : X1.grownBy (X1.setCell ⟨w.heap.size, 0, none⟩ (.slice (some a0) nl c0)) (some w.heap.size) := but_set _ _ _ _
  have hA1' : Blk (X1.setCell ⟨w.heap.size, 0, none⟩ (.slice (some a0) nl c0)) w.heap.size _ 36 := hA1.set 0 _
  have hx1 : w.heap.size + 2 ≤ X1.heap.size := by have := hb1'.size; omega
  have hy1 : w.heap.size + 2 ≤ (X1.setCell ⟨w.heap.size, 0, none⟩ (.slice (some a0) nl c0)).heap.size := by have := hG1.size; omega
  have hr0' := hr0.step (Same.grown hG1 (fun b hb e => by have := Option.some.inj e; omega))
  have hN1 := (HN.out.on hb1').but hG1 (by omega)
  have hF1 := (HF.out.on hb1').keep (Same.grown hG1 (S := fun b => b < w.heap.size) (fun b hb e => by have := Option.some.inj e; omega))
  have hB1 : Below w.heap.size w (X1.setCell ⟨w.heap.size, 0, none⟩ (.slice (some a0) nl c0)) := (below_on HB.out hb1' (Nat.le_refl _)).trans (below_of_but hG1 (by omega) (by omega))
  have hE2 : Below (X1.setCell ⟨w.heap.size, 0, none⟩ (.slice (some a0) nl c0)).heap.size (X1.setCell ⟨w.heap.size, 0, none⟩ (.slice (some a0) nl c0)) ((X1.setCell ⟨w.heap.size, 0, none⟩ (.slice (some a0) nl c0)).alloc (.cells #[] 9)) := (Below.refl _ _).alloc (Nat.le_refl _) _
  obtain ⟨a1, c1, X2, hrun2, hr1, hb2⟩ := append_own1 (P := Tryz.prog) ((X1.setCell ⟨w.heap.size, 0, none⟩ (.slice (some a0) nl c0)).alloc (.cells #[] 9)) 23 23 9 i0 _ 16 Tryz.underlying23 hi hz0 hz1 hz2 X1.heap.size (by simp) za zl zc _ (hF1.zone.row.below hE2 (Nat.le_refl _)) hbz
  have hb2' : Below (X1.setCell ⟨w.heap.size, 0, none⟩ (.slice (some a0) nl c0)).heap.size (X1.setCell ⟨w.heap.size, 0, none⟩ (.slice (some a0) nl c0)) X2 := hE2.trans (hb2.mono (by simp))
  have hA2 := hA1'.on hb2'
  have hG2 : X2.grownBy (X2.setCell ⟨w.heap.size, 7, none⟩ (.slice (some a1) zl c1)) (some w.heap.size) := but_set _ _ _ _
  have hA2' : Blk (X2.setCell ⟨w.heap.size, 7, none⟩ (.slice (some a1) zl c1)) w.heap.size _ 36 := hA2.set 7 _
  have hy2 : w.heap.size + 2 ≤ (X2.setCell ⟨w.heap.size, 7, none⟩ (.slice (some a1) zl c1)).heap.size := by have := hG2.size; have := hb2'.size; omega
  have hr0'' := (hr0'.on hb2').step (Same.grown hG2 (fun b hb e => by have := Option.some.inj e; omega))
  have hr1' := (hr1.mono hx1).step (Same.grown hG2 (fun b hb e => by have := Option.some.inj e; omega))
  have hN2 := (hN1.on hb2').but hG2 (by omega)
  have hF2 := (hF1.on hb2').keep (Same.grown hG2 (S := fun b => b < w.heap.size) (fun b hb e => by have := Option.some.inj e; omega))
  have hB2 : Below w.heap.size w (X2.setCell ⟨w.heap.size, 7, none⟩ (.slice (some a1) zl c1)) := (below_on hB1 hb2' (by omega)).trans (below_of_but hG2 (by omega) (by have := hb2'.size; omega))
  have HOD := Lib.hid (rowndata_any (X2.setCell ⟨w.heap.size, 7, none⟩ (.slice (some a1) zl c1)) _ f.soa hF2.soa HSD.out)
  have p7 : ((X1.setCell ⟨w.heap.size, 0, none⟩ (.slice (some a0) nl c0)).alloc (.cells #[] 9)).cell? ⟨w.heap.size, 7, none⟩ = some (.slice za zl zc) := (hA1'.on hE2).cell 7
  have n0 := hA1.cell 0
  have n7 := hA1.cell 7
  have f0 := hA1.free 0
  simp at n0 n7
  have m7 := hA2.cell 7
  have f7 := hA2.free 7
  have m8 := hA2.cell 8
  have m9 := hA2.cell 9
  have m10 := hA2.cell 10
  have m11 := hA2.cell 11
  have m12 := hA2.cell 12
  simp at m7 m8 m9 m10 m11 m12
  have HR1 := Lib.hid hrun1
  have HR2 := Lib.hid hrun2
  have HKP := Lib.hid (And.intro hA2' (And.intro hr0'' (And.intro hr1' (And.intro hN2 (And.intro hF2 (And.intro hB2 hy2))))))
  have hbs : ∀ w : World, (Instr.buildSlice 23 0 #[]).run Tryz.prog w = .ok (.slice (some ⟨w.heap.size, 0, none⟩) 0 0) (w.alloc (.cells #[] 9)) := fun _ => by kernel_rfl
  clear hE hrun1 hr0 hb1 hb1' hA1 hG1 hA1' hx1 hy1 hr0' hN1 hF1 hB1 hE2 hrun2 hr1 hb2 hb2' hA2 hG2 hA2' hy2 hr0'' hr1' hN2 hF2 hB2 hi hz0 hz1 hz2 hsz
  simp only [dataC] at HOD
  go_enter Tryz.func9, Tryz.ntmps9
  simp only [factC]
  go_wp2_with (first | (at_builtin; refine wpList_append_run rfl _ _ _ rfl _ _ rfl rfl HR1.out ?_; clear HR1) | (at_builtin; refine wpList_append_run rfl _ _ _ rfl _ _ rfl rfl HR2.out ?_; clear HR2))
  refine HOD.out.mono ?_
  rintro e X3 ⟨⟨kk, rfl, hk, -⟩, hb3⟩
  rename_i K1 hK1 K0 hK0
  have HK1 := Lib.hid hK1
  clear hK1
  obtain ⟨hA2', hr0, hr1, hN2, hF2, hB2, hy2⟩ := HKP.out
  have hA3 := hA2'.on hb3
  have hG3 : X3.grownBy (((((X3.setCell ⟨w.heap.size, 8, none⟩ (.slice kk.ba kk.bl kk.bc)).setCell ⟨w.heap.size, 9, none⟩ (.slice kk.ha kk.hl kk.hc)).setCell ⟨w.heap.size, 10, none⟩ (.slice kk.ma kk.ml kk.mc)).setCell ⟨w.heap.size, 11, none⟩ (.slice kk.na kk.nl kk.nc)).setCell ⟨w.heap.size, 12, none⟩ (.slice kk.ta kk.tl kk.tc)) (some w.heap.size) := but_trans (but_trans (but_trans (but_trans (but_set _ _ _ _) (but_set _ _ _ _)) (but_set _ _ _ _)) (but_set _ _ _ _)) (but_set _ _ _ _)
  have hA3' : Blk (((((X3.setCell ⟨w.heap.size, 8, none⟩ (.slice kk.ba kk.bl kk.bc)).setCell ⟨w.heap.size, 9, none⟩ (.slice kk.ha kk.hl kk.hc)).setCell ⟨w.heap.size, 10, none⟩ (.slice kk.ma kk.ml kk.mc)).setCell ⟨w.heap.size, 11, none⟩ (.slice kk.na kk.nl kk.nc)).setCell ⟨w.heap.size, 12, none⟩ (.slice kk.ta kk.tl kk.tc)) w.heap.size #[.slice (some a0) nl c0, .int .i64 f.typ, .int .i64 f.kind, .int .i64 f.rank, .int .i64 f.got, .int .i64 f.ttl, .slice sa sl sc, .slice (some a1) zl c1, .slice kk.ba kk.bl kk.bc, .slice kk.ha kk.hl kk.hc, .slice kk.ma kk.ml kk.mc, .slice kk.na kk.nl kk.nc, .slice kk.ta kk.tl kk.tc] 36 := ((((hA3.set 8 _).set 9 _).set 10 _).set 11 _).set 12 _
  have hsz3 := hb3.size
  have HRO := Lib.hid (show RoSt w (((((X3.setCell ⟨w.heap.size, 8, none⟩ (.slice kk.ba kk.bl kk.bc)).setCell ⟨w.heap.size, 9, none⟩ (.slice kk.ha kk.hl kk.hc)).setCell ⟨w.heap.size, 10, none⟩ (.slice kk.ma kk.ml kk.mc)).setCell ⟨w.heap.size, 11, none⟩ (.slice kk.na kk.nl kk.nc)).setCell ⟨w.heap.size, 12, none⟩ (.slice kk.ta kk.tl kk.tc)) kk f a0 nl c0 a1 zl c1 (.slice none 0 0) #[.slice (some a0) nl c0, .int .i64 f.typ, .int .i64 f.kind, .int .i64 f.rank, .int .i64 f.got, .int .i64 f.ttl, .slice sa sl sc, .slice (some a1) zl c1, .slice kk.ba kk.bl kk.bc, .slice kk.ha kk.hl kk.hc, .slice kk.ma kk.ml kk.mc, .slice kk.na kk.nl kk.nc, .slice kk.ta kk.tl kk.tc] 0 from
    ⟨(below_on hB2 hb3 (by omega)).trans (below_of_but hG3 (by omega) (by omega)), hA3', (hN2.on hb3).but hG3 (by omega), (hr0.on hb3).step (Same.grown hG3 (fun b hb e => by have := Option.some.inj e; omega)), (hr1.on hb3).step (Same.grown hG3 (fun b hb e => by have := Option.some.inj e; omega)), (hk.mono hy2).but hG3 (by omega), Gath.nil _ _ _ _ _⟩)
  have k8 := hA3.cell 8
  have f8 := hA3.free 8
  have k9 := hA3.cell 9
  have f9 := hA3.free 9
  have k10 := hA3.cell 10
  have f10 := hA3.free 10
  have k11 := hA3.cell 11
  have f11 := hA3.free 11
  have k12 := hA3.cell 12
  have f12 := hA3.free 12
  simp at k8 k9 k10 k11 k12
  clear p7 n0 n7 f0 m7 m8 m9 m10 m11 m12 f7 hA2' hr0 hr1 hN2 hF2 hB2 hy2 hA3 hG3 hA3' hsz3 hk hb3 HKP HOD HA HB HN HSZ HF
  go_wp2_with fail
  refine HK1.out _ _ ?_
  clear k8 k9 k10 k11 k12 f8 f9 f10 f11 f12
  generalize (((((X3.setCell ⟨w.heap.size, 8, none⟩ (.slice kk.ba kk.bl kk.bc)).setCell ⟨w.heap.size, 9, none⟩ (.slice kk.ha kk.hl kk.hc)).setCell ⟨w.heap.size, 10, none⟩ (.slice kk.ma kk.ml kk.mc)).setCell ⟨w.heap.size, 11, none⟩ (.slice kk.na kk.nl kk.nc)).setCell ⟨w.heap.size, 12, none⟩ (.slice kk.ta kk.tl kk.tc)) = Y at HRO ⊢
  go_wp2_with fail
  go_loopw [4, 3] (fun i v wr => ∃ j : Nat, j ≤ sl ∧ i = .int .i64 j ∧ Hid (RoSt w wr kk f a0 nl c0 a1 zl c1 v #[.slice (some a0) nl c0, .int .i64 f.typ, .int .i64 f.kind, .int .i64 f.rank, .int .i64 f.got, .int .i64 f.ttl, .slice sa sl sc, .slice (some a1) zl c1, .slice kk.ba kk.bl kk.bc, .slice kk.ha kk.hl kk.hc, .slice kk.ma kk.ml kk.mc, .slice kk.na kk.nl kk.nc, .slice kk.ta kk.tl kk.tc] j)) (fun i _ _ => sl - (intOf i).toNat)
  case atStart => exact ⟨0, Nat.zero_le _, rfl, HRO.out⟩
  case round =>
    obtain ⟨j, hj, rfl, hinv⟩ := hrel
    clear HRO
    have m6 := hinv.out.blkA.cell 6
    simp at m6
    by_cases hlt : j < sl
    · have hjs : j < f.set.length := by have := HLS.out.1; omega
      obtain ⟨b, off, rfl⟩ : ∃ b off, sa = some ⟨b, off, none⟩ := HSW.out.addr hlt
      obtain ⟨k, k1, k2, _⟩ := data_elem ((HSW.out.keep (Same.under hinv.out.bel (fun b h => h))).at hlt)
      have hfk := (HLE.out.all _ (List.getElem_mem hjs)).fit k2
      have HOD := Lib.hid (rowndata_any wr k _ k2 hfk)
      have htk : f.set.take j ++ [f.set[j]] = f.set.take (j + 1) := by rw [List.take_succ_eq_append_getElem hjs]
      have HTK := Lib.hid htk
      have e0 := k1 0 (by omega)
      have e1 := k1 1 (by omega)
      have e2 := k1 2 (by omega)
      have e3 := k1 3 (by omega)
      have e4 := k1 4 (by omega)
      have hsx : sl ≤ 1000000 := HLS.out.2
      clear k1 k2 hfk htk
      obtain ⟨ba', bl', bc', ha', hl', hc', ma', ml', mc', xa', xl', xc', ta', tl', tc'⟩ := k
      simp only [dataC] at HOD
      simp [dataC, dataK] at e0 e1 e2 e3 e4
      go_wp2_with fail
      clear e0 e1 e2 e3 e4 m6
      refine HOD.out.mono ?_
      rintro e w5 ⟨⟨kn, rfl, hkn, -⟩, hb5⟩
      have hal : Below w5.heap.size w5 (w5.alloc (.cells (dataC kn) 34)) := (Below.refl _ _).alloc (Nat.le_refl _) _
      have hbw : Below wr.heap.size wr (w5.alloc (.cells (dataC kn) 34)) := below_on hb5 hal (Nat.le_refl _)
      have hst := hinv.out.on hbw
      have hko := hkn.on hal
      obtain ⟨i0, z, hi, hz, hs0, hzs, hby⟩ := dataParts
      obtain ⟨v', w6, hrun, hgath, hgr, hrow, _⟩ := hst.set.push (ts := 30) (by decide) i0 z Tryz.underlying30 hi hz hs0 hzs hby (by rw [List.length_take]; omega) (by have := hst.blkR.lt; omega) kn f.set[j] ⟨hko.is, hko.mem.mono hko.is (fun b _ ht => ht.1)⟩ ⟨w5.heap.size, 0, none⟩ 1 (src_cells w5 kn) 30
      rw [HTK.out] at hgath
      have HST := Lib.hid (hst.grow hgr hrow hgath)
      have HRUN := Lib.hid hrun
      clear hal hbw hst hko hi hz hs0 hzs hby hrun hgath hgr hrow hkn hb5 HOD
      simp only [dataC] at HRUN
      go_wp2_with (at_builtin; refine wpList_append_run rfl _ _ _ rfl _ _ rfl rfl HRUN.out ?_)
      go_roundw
      case rel => exact ⟨j + 1, by omega, by go_num, HST.out⟩
      case measure => simp [intOf]; omega
    · obtain rfl : j = sl := by omega
      have hset := hinv.out.set
      rw [List.take_of_length_le (by have := HLS.out.1; omega)] at hset
      obtain ⟨vo, vc, rfl, hsq, hvb⟩ := hset.seq
      have hls := HLS.out.1
      rw [hls] at hsq ⊢
      have hAw := hinv.out.blkA
      have hGA : wr.grownBy (wr.setCell ⟨w.heap.size, 6, none⟩ (.slice vo j vc)) (some w.heap.size) := but_set _ _ _ _
      have hA9 : Blk (wr.setCell ⟨w.heap.size, 6, none⟩ (.slice vo j vc)) w.heap.size (factC ⟨some a0, nl, c0, vo, j, vc, some a1, zl, c1, kk⟩ f) 36 := hAw.set 6 _
      have hR9 : Blk (wr.setCell ⟨w.heap.size, 6, none⟩ (.slice vo j vc)) (w.heap.size + 1) noF 36 := hinv.out.blkR.but hGA (by omega)
      have hwl := hinv.out.blkR.lt
      have key : IsFact (fun b => tagged fT wr b ∧ b ≠ w.heap.size ∧ b ≠ w.heap.size + 1) wr ⟨some a0, nl, c0, vo, j, vc, some a1, zl, c1, kk⟩ f :=
        have hne : ∀ b, tagged fT wr b → b ≠ w.heap.size ∧ b ≠ w.heap.size + 1 := fun b ht => ⟨tagged_ne hAw (by decide) ht, tagged_ne hinv.out.blkR (by decide) ht⟩
        ⟨⟨hinv.out.name.row, HSN.out.1⟩, fun h0 a ha => have h1 := own1_in (T := fT) hinv.out.name (by decide) h0 a ha; ⟨h1.1, hne _ h1.1⟩, HI5.out.1, HI5.out.2.1, HI5.out.2.2.1, HI5.out.2.2.2.1, HI5.out.2.2.2.2,
          hsq.mono (fun b _ ht => have h1 : tagged fT wr b := tagged_mono ht (by decide); ⟨h1, hne _ h1⟩), ⟨hinv.out.zone.row, HSN.out.2⟩, fun h0 a ha => have h1 := own1_in (T := fT) hinv.out.zone (by decide) h0 a ha; ⟨h1.1, hne _ h1.1⟩,
          hinv.out.soa.is, hinv.out.soa.mem.mono hinv.out.soa.is (fun b _ ht => have h1 : tagged fT wr b := tagged_mono ht.1 (by decide); ⟨h1, hne _ h1⟩)⟩
      have hG13 : (wr.setCell ⟨w.heap.size, 6, none⟩ (.slice vo j vc)).grownBy ((wr.setCell ⟨w.heap.size, 6, none⟩ (.slice vo j vc)).setRow (w.heap.size + 1) (factC ⟨some a0, nl, c0, vo, j, vc, some a1, zl, c1, kk⟩ f)) (some (w.heap.size + 1)) := but_setRow _ _ _
      have hR13 : Blk ((wr.setCell ⟨w.heap.size, 6, none⟩ (.slice vo j vc)).setRow (w.heap.size + 1) (factC ⟨some a0, nl, c0, vo, j, vc, some a1, zl, c1, kk⟩ f)) (w.heap.size + 1) (factC ⟨some a0, nl, c0, vo, j, vc, some a1, zl, c1, kk⟩ f) 36 := blk_setRow hR9 _
      have hsm : Same (fun b => tagged fT wr b ∧ b ≠ w.heap.size ∧ b ≠ w.heap.size + 1) wr ((wr.setCell ⟨w.heap.size, 6, none⟩ (.slice vo j vc)).setRow (w.heap.size + 1) (factC ⟨some a0, nl, c0, vo, j, vc, some a1, zl, c1, kk⟩ f)) := fun b hb ht => by
        rw [hG13.block b (by have := hGA.size; omega) (fun e => ht.2.2 (Option.some.inj e)), hGA.block b hb (fun e => ht.2.1 (Option.some.inj e))]
      have hout : IsFact (tagged fT ((wr.setCell ⟨w.heap.size, 6, none⟩ (.slice vo j vc)).setRow (w.heap.size + 1) (factC ⟨some a0, nl, c0, vo, j, vc, some a1, zl, c1, kk⟩ f))) ((wr.setCell ⟨w.heap.size, 6, none⟩ (.slice vo j vc)).setRow (w.heap.size + 1) (factC ⟨some a0, nl, c0, vo, j, vc, some a1, zl, c1, kk⟩ f)) ⟨some a0, nl, c0, vo, j, vc, some a1, zl, c1, kk⟩ f := by
        have k2 : IsFact (fun b => (tagged fT wr b ∧ b ≠ w.heap.size ∧ b ≠ w.heap.size + 1) ∧ b < wr.heap.size) wr _ f := key.mono (fun b hb ht => ⟨ht, hb⟩)
        exact (k2.keep (hsm.mono (fun b _ ht => ht.1))).mono (fun b _ ht => tagged_keep ht.1.1 (hsm b ht.2 ht.1))
      have hbo := (hinv.out.bel.trans (below_of_but hGA (Nat.le_refl _) (by omega))).trans (below_of_but hG13 (B := w.heap.size) (by omega) (by have := hGA.size; omega))
      have hn0 : rowIn (fun b => w.heap.size ≤ b) (some a0) nl := fun h0 a ha => by have := (hinv.out.name.mem h0 a ha).2; omega
      have hn1 : rowIn (fun b => w.heap.size ≤ b) vo j := fun h0 a ha => by have := hvb a ha; omega
      have HR9 := Lib.hid hR9
      have HH := Lib.hid (And.intro hR13 (And.intro hout (And.intro hbo (And.intro hn0 hn1))))
      have q0 := hAw.cell 0
      have q1 := hAw.cell 1
      have q2 := hAw.cell 2
      have q3 := hAw.cell 3
      have q4 := hAw.cell 4
      have q5 := hAw.cell 5
      have q6 := hAw.cell 6
      have q7 := hAw.cell 7
      have q8 := hAw.cell 8
      have q9 := hAw.cell 9
      have q10 := hAw.cell 10
      have q11 := hAw.cell 11
      have q12 := hAw.cell 12
      have f6 := hAw.free 6
      simp at q0 q1 q2 q3 q4 q5 q6 q7 q8 q9 q10 q11 q12
      clear hAw hGA hA9 hR9 hwl key hG13 hR13 hsm hout hbo hn0 hn1 hsq hvb hset hls m6
      go_wp2_with (refine wpList_store_row rfl 36 _ _ rfl (w.heap.size + 1) (factC ⟨some a0, nl, c0, vo, j, vc, some a1, zl, c1, kk⟩ f) rfl rfl 36 noF HR9.out factSize rfl (factC_all _ _) ?_)
      clear q0 q1 q2 q3 q4 q5 q6 q7 q8 q9 q10 q11 q12 f6
      revert HH
      generalize (wr.setCell ⟨w.heap.size, 6, none⟩ (.slice vo j vc)).setRow (w.heap.size + 1) (factC ⟨some a0, nl, c0, vo, j, vc, some a1, zl, c1, kk⟩ f) = Y
      intro HH
      go_wp2_with fail
      refine bodyPost_ret (v := .agg (factC ⟨some a0, nl, c0, vo, j, vc, some a1, zl, c1, kk⟩ f)) (rownfact_results rfl HH.out.1) rfl ?_
      exact ⟨⟨_, rfl, HH.out.2.1, HH.out.2.2.2.1, HH.out.2.2.2.2⟩, HH.out.2.2.1⟩
end Go.Proofs.YtpemdieejgldiaaGreat

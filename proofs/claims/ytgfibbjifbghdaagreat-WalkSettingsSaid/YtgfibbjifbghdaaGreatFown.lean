/- The contract of fact.Own: the same fact, in memory of its own. -/
import Derived.Test.YtgfibbjifbghdaaGreatRrown
import Derived.Test.YtgfibbjifbghdaaGreatFactLaw
import Derived.Laws.Tables
namespace Go.Proofs.YtgfibbjifbghdaaGreat
open Go.ChangeShapes Go.WideShapes Go.ChangeAt Go.RowKit

def fT : List TypeId := [5, 9, 3, 98]
structure DLen (d : DataP) : Prop where
  host : d.host.length ≤ 1048576
  mail : d.mail.length ≤ 1048576
  nums : d.nums.length ≤ 1048576
  texts : d.texts.length ≤ 8796093022208
theorem DLen.fit {w : World} {k : DataH} {d : DataP} (h : DLen d) (hd : IsData w k d) : FitD k := by
  have hl := hd.len
  exact ⟨by rw [← hl.host]; exact h.host, by rw [← hl.mail]; exact h.mail, by rw [← hl.nums]; exact h.nums, by rw [← hl.texts]; exact h.texts⟩
structure FLen (f : FactP) : Prop where
  name : f.name.length ≤ 1048576
  zone : f.zone.length ≤ 1048576
  set : f.set.length ≤ 1000000
  soa : DLen f.soa
  all : ∀ d ∈ f.set, DLen d
/-- a fact in memory of its own, from block B on -/
abbrev OwnF (B : Nat) (w : World) (k : FactH) (f : FactP) : Prop := IsFact (fun b => tagged fT w b ∧ B ≤ b) w k f
theorem OwnF.step {B : Nat} {w w' : World} {k : FactH} {f : FactP} (h : OwnF B w k f) (hs : Same (fun b => tagged fT w b ∧ B ≤ b) w w') : OwnF B w' k f := by
  have i2 : IsFact (fun b => (tagged fT w b ∧ B ≤ b) ∧ b < w.heap.size) w k f := h.mono (fun b hb ht => ⟨ht, hb⟩)
  exact (i2.keep (hs.mono (fun b _ ht => ht.1))).mono (fun b _ ht => ⟨tagged_keep ht.1.1 (hs b ht.2 ht.1), ht.1.2⟩)
theorem OwnF.on {B : Nat} {w w' : World} {k : FactH} {f : FactP} (h : OwnF B w k f) (hb : Below w.heap.size w w') : OwnF B w' k f := h.step (Same.below hb _)
def noF : Array Value := #[.slice none 0 0, .int .i64 0, .int .i64 0, .int .i64 0, .int .i64 0, .int .i64 0, .slice none 0 0, .slice none 0 0, .slice none 0 0, .slice none 0 0, .slice none 0 0, .slice none 0 0, .slice none 0 0]
theorem fown_results {tmps : Array Value} {w : World} {R : Nat} {k : FactH} {f : FactP} (h2 : tmps[2]? = some (.pointer (some ⟨R, 0, none⟩))) (hB : Blk w R (factC k f) 100) :
    (results Tryz.f144 tmps).run Tryz.prog w = .ok (.agg (factC k f)) w := by
  have c0 := hB.cell 0
  have c1 := hB.cell 1
  have c2 := hB.cell 2
  have c3 := hB.cell 3
  have c4 := hB.cell 4
  have c5 := hB.cell 5
  have c6 := hB.cell 6
  have c7 := hB.cell 7
  have c8 := hB.cell 8
  have c9 := hB.cell 9
  have c10 := hB.cell 10
  have c11 := hB.cell 11
  have c12 := hB.cell 12
  simp [factC] at c0 c1 c2 c3 c4 c5 c6 c7 c8 c9 c10 c11 c12
  simp [results, go_sem, h2, c0, c1, c2, c3, c4, c5, c6, c7, c8, c9, c10, c11, c12, factC]
def set5 (cur : Array Value) (j : Nat) (k : DataH) : Array Value := (((((cur.setIfInBounds (j * 5) (.slice k.ba k.bl k.bc)).setIfInBounds (j * 5 + 1) (.slice k.ha k.hl k.hc)).setIfInBounds (j * 5 + 2) (.slice k.ma k.ml k.mc)).setIfInBounds (j * 5 + 3) (.slice k.na k.nl k.nc)).setIfInBounds (j * 5 + 4) (.slice k.ta k.tl k.tc))
theorem set5_here {cur : Array Value} {j : Nat} {k : DataH} (h : j * 5 + 4 < cur.size) (q : Nat) (hq : q < 5) : (set5 cur j k)[j * 5 + q]? = (dataC k)[q]? := by
  have : q = 0 ∨ q = 1 ∨ q = 2 ∨ q = 3 ∨ q = 4 := by omega
  rcases this with rfl | rfl | rfl | rfl | rfl <;> simp [set5, dataC, Array.getElem?_setIfInBounds] <;> omega
theorem set5_other {cur : Array Value} {i j : Nat} {k : DataH} (h : i ≠ j) (q : Nat) (hq : q < 5) : (set5 cur j k)[i * 5 + q]? = cur[i * 5 + q]? := by
  simp only [set5, Array.getElem?_setIfInBounds]
  rw [if_neg (by omega), if_neg (by omega), if_neg (by omega), if_neg (by omega), if_neg (by omega)]
/-- on the way: the first j of a row's data are the call's own -/
structure OwnSt (w wr : World) (g : Nat) (ds : List DataP) (j : Nat) (cur : Array Value) : Prop where
  blk : Blk wr g cur 98
  els : ∀ i (hi : i < ds.length), ∃ k, (∀ q, q < 5 → cur[i * 5 + q]? = (dataC k)[q]?) ∧ (if i < j then OwnD (w.heap.size + 2) wr k ds[i] else IsData wr k ds[i] ∧ DataIn (fun b => b < w.heap.size) k)
theorem OwnSt.on {w wr w' : World} {g : Nat} {ds : List DataP} {j : Nat} {cur : Array Value} (h : OwnSt w wr g ds j cur) (hb : Below wr.heap.size wr w') : OwnSt w w' g ds j cur :=
  ⟨h.blk.on hb, fun i hi => by
    obtain ⟨k, h1, h2⟩ := h.els i hi
    refine ⟨k, h1, ?_⟩
    split
    · rename_i hij; rw [if_pos hij] at h2; exact h2.on hb
    · rename_i hij; rw [if_neg hij] at h2; exact ⟨h2.1.on hb, h2.2⟩⟩
theorem OwnSt.big {w wr : World} {g : Nat} {ds : List DataP} {j i : Nat} {cur : Array Value} (h : OwnSt w wr g ds j cur) (hi : i < ds.length) : i * 5 + 4 < cur.size := by
  obtain ⟨k, h1, _⟩ := h.els i hi
  have h4 := h1 4 (by decide)
  rcases Nat.lt_or_ge (i * 5 + 4) cur.size with h | h
  · exact h
  · rw [Array.getElem?_eq_none h] at h4
    simp [dataC] at h4
def put5 (W : World) (g j : Nat) (k : DataH) : World := ((((W.setCell ⟨g, j * 5, none⟩ (.slice k.ba k.bl k.bc)).setCell ⟨g, j * 5 + 1, none⟩ (.slice k.ha k.hl k.hc)).setCell ⟨g, j * 5 + 2, none⟩ (.slice k.ma k.ml k.mc)).setCell ⟨g, j * 5 + 3, none⟩ (.slice k.na k.nl k.nc)).setCell ⟨g, j * 5 + 4, none⟩ (.slice k.ta k.tl k.tc)
theorem put5_but (W : World) (g j : Nat) (k : DataH) : W.grownBy (put5 W g j k) (some g) := but_trans (but_trans (but_trans (but_trans (but_set _ _ _ _) (but_set _ _ _ _)) (but_set _ _ _ _)) (but_set _ _ _ _)) (but_set _ _ _ _)
theorem OwnSt.put {w wr W : World} {g : Nat} {ds : List DataP} {j : Nat} {cur : Array Value} (h : OwnSt w wr g ds j cur) (hb : Below wr.heap.size wr W) (hg : w.heap.size ≤ g) (hj : j < ds.length) {k : DataH} (hk : OwnD (w.heap.size + 2) W k (ds[j]'hj)) :
    OwnSt w (put5 W g j k) g ds (j + 1) (set5 cur j k) := by
  have h1 := h.on hb
  have hbut := put5_but W g j k
  have hD : 98 ∉ dT := by decide
  have keep : ∀ {q : DataH} {d : DataP}, OwnD (w.heap.size + 2) W q d → OwnD (w.heap.size + 2) (put5 W g j k) q d := fun hq => hq.step ((Same.but hbut h1.blk hD).mono (fun b _ ht => ht.1))
  refine ⟨((((h1.blk.set (j * 5) _).set (j * 5 + 1) _).set (j * 5 + 2) _).set (j * 5 + 3) _).set (j * 5 + 4) _, fun i hi => ?_⟩
  by_cases hij : i = j
  · subst hij
    exact ⟨k, set5_here (h1.big hi), by rw [if_pos (by omega)]; exact keep hk⟩
  · obtain ⟨q, q1, q2⟩ := h1.els i hi
    refine ⟨q, fun r hr => by rw [set5_other hij r hr]; exact q1 r hr, ?_⟩
    by_cases hlt : i < j
    · rw [if_pos (by omega)]
      rw [if_pos hlt] at q2
      exact keep q2
    · rw [if_neg (by omega)]
      rw [if_neg hlt] at q2
      exact ⟨q2.1.keep q2.2 (Same.grown hbut (fun b hb e => by have := Option.some.inj e; omega)), q2.2⟩
theorem factSize : (Tryz.prog.info? 100).map (·.size) = some 13 := by kernel_rfl
theorem factC_all (k : FactH) (f : FactP) : (factC k f).all (·.oneCell') = true := Array.all_eq_true_iff_forall_mem.2 (fun v hv => factK.one k f v (by simpa [factK] using hv))
theorem blk_setRow {w : World} {g : Nat} {cs : Array Value} {T : TypeId} (h : Blk w g cs T) (cs' : Array Value) : Blk (w.setRow g cs') g cs' T := setRow_heap w g cs cs' T _ h
theorem but_setRow (w : World) (g : Nat) (cs : Array Value) : w.grownBy (w.setRow g cs) (some g) :=
  ⟨rfl, rfl, rfl, by simp [World.setRow], fun k _ hne => by
    simp only [World.setRow, Array.getElem?_modify]
    rw [if_neg (fun e => hne (by rw [e]))]⟩
/-- what the loop over the data keeps -/
structure FoSt (w wr : World) (kk : DataH) (f : FactP) (a0 : Option Addr) (nl c0 : Nat) (a1 : Option Addr) (zl c1 : Nat) (vo : Option Addr) (sl vc : Nat) (A : Array Value) (j : Nat) : Prop where
  bel : Below w.heap.size w wr
  blkA : Blk wr w.heap.size A 100
  blkR : Blk wr (w.heap.size + 1) noF 100
  name : Own1 [9] (w.heap.size + 2) wr a0 nl c0 (f.name.map .string)
  zone : Own1 [9] (w.heap.size + 2) wr a1 zl c1 (f.zone.map .string)
  soa : OwnD (w.heap.size + 2) wr kk f.soa
  set : 0 < sl → ∃ g cur, vo = some ⟨g, 0, none⟩ ∧ w.heap.size + 2 ≤ g ∧ OwnSt w wr g f.set j cur
theorem FoSt.on {w wr w' : World} {kk : DataH} {f : FactP} {a0 : Option Addr} {nl c0 : Nat} {a1 : Option Addr} {zl c1 : Nat} {vo : Option Addr} {sl vc : Nat} {A : Array Value} {j : Nat} (h : FoSt w wr kk f a0 nl c0 a1 zl c1 vo sl vc A j) (hb : Below wr.heap.size wr w') : FoSt w w' kk f a0 nl c0 a1 zl c1 vo sl vc A j :=
  ⟨below_on h.bel hb (Nat.le_refl _), h.blkA.on hb, h.blkR.on hb, h.name.on hb, h.zone.on hb, h.soa.on hb, fun h0 => by
    obtain ⟨g, cur, e, hg, hs⟩ := h.set h0
    exact ⟨g, cur, e, hg, hs.on hb⟩⟩
theorem FoSt.put {w wr W : World} {kk : DataH} {f : FactP} {a0 : Option Addr} {nl c0 : Nat} {a1 : Option Addr} {zl c1 : Nat} {g sl vc : Nat} {A : Array Value} {j : Nat} (h : FoSt w wr kk f a0 nl c0 a1 zl c1 (some ⟨g, 0, none⟩) sl vc A j) (hb : Below wr.heap.size wr W) (h0 : 0 < sl) (hj : j < f.set.length)
    {k : DataH} (hk : OwnD (w.heap.size + 2) W k (f.set[j]'hj)) : FoSt w (put5 W g j k) kk f a0 nl c0 a1 zl c1 (some ⟨g, 0, none⟩) sl vc A (j + 1) := by
  have h1 := h.on hb
  obtain ⟨g', cur, e, hg, hs⟩ := h.set h0
  cases e
  have hbut := put5_but W g j k
  have hw := h1.blkR.lt
  have hB := (hs.on hb).blk
  have hst : ∀ {T : List TypeId}, 98 ∉ T → Same (fun b => tagged T W b ∧ w.heap.size + 2 ≤ b) W (put5 W g j k) := fun hT => (Same.but hbut hB hT).mono (fun b _ ht => ht.1)
  exact ⟨h1.bel.trans (below_of_but hbut (by omega) (by omega)), h1.blkA.but hbut (by omega), h1.blkR.but hbut (by omega), h1.name.step (hst (by decide)), h1.zone.step (hst (by decide)), h1.soa.step (hst (by decide)), fun _ => ⟨g, _, rfl, hg, hs.put hb (by omega) hj hk⟩⟩
theorem FoSt.fact {w wr : World} {kk : DataH} {f : FactP} {a0 : Option Addr} {nl c0 : Nat} {a1 : Option Addr} {zl c1 : Nat} {vo : Option Addr} {sl vc : Nat} {A : Array Value} (h : FoSt w wr kk f a0 nl c0 a1 zl c1 vo sl vc A sl) (hl : f.set.length = sl) (hle : sl ≤ vc) (hmx : vc ≤ 9223372036854775807) (hnil : vo = none → vc = 0)
    (hsn : ∀ s ∈ f.name, s.size ≤ 9223372036854775807) (hsz : ∀ s ∈ f.zone, s.size ≤ 9223372036854775807) (hi : wfi f.typ ∧ wfi f.kind ∧ wfi f.rank ∧ wfi f.got ∧ wfi f.ttl) {W : World} (hb : wr.grownBy W (some (w.heap.size + 1))) :
    OwnF w.heap.size W ⟨a0, nl, c0, vo, sl, vc, a1, zl, c1, kk⟩ f := by
  have key : IsFact (fun b => tagged fT wr b ∧ w.heap.size + 2 ≤ b) wr ⟨a0, nl, c0, vo, sl, vc, a1, zl, c1, kk⟩ f := by
    refine ⟨⟨h.name.row, hsn⟩, own1_in h.name (by decide), hi.1, hi.2.1, hi.2.2.1, hi.2.2.2.1, hi.2.2.2.2, ⟨hl, hle, hmx, hnil, fun h0 => ?_⟩, ⟨h.zone.row, hsz⟩, own1_in h.zone (by decide), h.soa.is, h.soa.mem.mono h.soa.is (fun b _ ht => ⟨tagged_mono ht.1 (by decide), ht.2⟩)⟩
    obtain ⟨g, cur, e, hg, hs⟩ := h.set h0
    refine ⟨g, 0, e, ⟨⟨_, _, hs.blk, by decide⟩, hg⟩, fun i hi => ?_⟩
    obtain ⟨k, k1, k2⟩ := hs.els i hi
    rw [if_pos (by omega)] at k2
    refine ⟨k, fun q hq => ?_, k2.is, ?_⟩
    · rw [Nat.zero_add, hs.blk.cell]; exact k1 q hq
    · exact k2.mem.mono k2.is (fun b _ ht => ⟨tagged_mono ht.1 (by decide), ht.2⟩)
  exact ((OwnF.step (B := w.heap.size + 2) key (Same.grown hb (fun b ht e => by have := Option.some.inj e; omega))).mono (fun b _ ht => ⟨ht.1, by omega⟩))
set_option maxHeartbeats 16000000 in
set_option maxRecDepth 100000 in
theorem fown_any (w : World) (S : Nat → Prop) (h : FactH) (f : FactP) (hf : IsFact S w h f) (hl : FLen f) :
    Calls Tryz.prog 144 #[.agg (factC h f)] w fun e w' => (∃ k, e = .returned (.agg (factC k f)) ∧ OwnF w.heap.size w' k f) ∧ Below w.heap.size w w' := by
  have hA0 : Blk (w.alloc (.cells (factC h f) 100)) w.heap.size (factC h f) 100 := heap_alloc_new w _
  have hA : Blk ((w.alloc (.cells (factC h f) 100)).alloc (.cells noF 100)) w.heap.size (factC h f) 100 := hA0.on ((Below.refl _ _).alloc (Nat.le_refl _) _)
  have hN : Blk ((w.alloc (.cells (factC h f) 100)).alloc (.cells noF 100)) (w.heap.size + 1) noF 100 := by
    have := heap_alloc_new (w.alloc (.cells (factC h f) 100)) (.cells noF 100)
    simpa [Blk] using this
  have hsz : ((w.alloc (.cells (factC h f) 100)).alloc (.cells noF 100)).heap.size = w.heap.size + 2 := by simp
  have hb2 : Below w.heap.size w ((w.alloc (.cells (factC h f) 100)).alloc (.cells noF 100)) := ((Below.refl _ _).alloc (Nat.le_refl _) _).alloc (by simp) _
  have HB := Lib.hid hb2
  have HF := Lib.hid ((hf.mono (S' := fun b => b < w.heap.size) (fun b hb _ => hb)).on hb2)
  have HN := Lib.hid hN
  have HA := Lib.hid hA
  have HSZ := Lib.hid hsz
  have HLE := Lib.hid hl
  have hsl := hf.set.hlen
  have hsle := hf.set.hle
  have hsmx := hf.set.hmax
  have hnl := hf.name.len
  have hzl := hf.zone.len
  have h1 := hl.set
  have h2 := hl.name
  have h3 := hl.zone
  have HLN := Lib.hid (show h.nl * 16 ≤ 140737488355328 by omega)
  have HLZ := Lib.hid (show h.zl * 16 ≤ 140737488355328 by omega)
  have HLS := Lib.hid (And.intro hsl (show h.sl ≤ 1048576 by omega))
  have HSD := Lib.hid (hl.soa.fit hf.soa)
  have HSN := Lib.hid (And.intro hf.name.small hf.zone.small)
  have HI5 := Lib.hid (And.intro hf.typ (And.intro hf.kind (And.intro hf.rank (And.intro hf.got hf.ttl))))
  clear hA0 hA hN hsz hb2 hf hl hsl hnl hzl h1 h2 h3
  obtain ⟨na, nl, nc, sa, sl, sc, za, zl, zc, ⟨ba, bl, bc, ha, hl, hc, ma, ml, mc, xa, xl, xc, ta, tl, tc⟩⟩ := h
  simp only [factC] at HB HF HN HA HSZ
  simp only at hsle hsmx HLN HLZ HLS HSD
  have HC0 := Lib.hid (show ((w.alloc (.cells #[.slice na nl nc, .int .i64 f.typ, .int .i64 f.kind, .int .i64 f.rank, .int .i64 f.got, .int .i64 f.ttl, .slice sa sl sc, .slice za zl zc, .slice ba bl bc, .slice ha hl hc, .slice ma ml mc, .slice xa xl xc, .slice ta tl tc] 100)).alloc (.cells noF 100)).drew.cell? ⟨w.heap.size, 0, none⟩ = some (.slice na nl nc) from HA.out.cell 0)
  have HC1 := Lib.hid (show ((w.alloc (.cells #[.slice na nl nc, .int .i64 f.typ, .int .i64 f.kind, .int .i64 f.rank, .int .i64 f.got, .int .i64 f.ttl, .slice sa sl sc, .slice za zl zc, .slice ba bl bc, .slice ha hl hc, .slice ma ml mc, .slice xa xl xc, .slice ta tl tc] 100)).alloc (.cells noF 100)).drew.cell? ⟨w.heap.size, 1, none⟩ = some (.int .i64 f.typ) from HA.out.cell 1)
  have HC2 := Lib.hid (show ((w.alloc (.cells #[.slice na nl nc, .int .i64 f.typ, .int .i64 f.kind, .int .i64 f.rank, .int .i64 f.got, .int .i64 f.ttl, .slice sa sl sc, .slice za zl zc, .slice ba bl bc, .slice ha hl hc, .slice ma ml mc, .slice xa xl xc, .slice ta tl tc] 100)).alloc (.cells noF 100)).drew.cell? ⟨w.heap.size, 2, none⟩ = some (.int .i64 f.kind) from HA.out.cell 2)
  have HC3 := Lib.hid (show ((w.alloc (.cells #[.slice na nl nc, .int .i64 f.typ, .int .i64 f.kind, .int .i64 f.rank, .int .i64 f.got, .int .i64 f.ttl, .slice sa sl sc, .slice za zl zc, .slice ba bl bc, .slice ha hl hc, .slice ma ml mc, .slice xa xl xc, .slice ta tl tc] 100)).alloc (.cells noF 100)).drew.cell? ⟨w.heap.size, 3, none⟩ = some (.int .i64 f.rank) from HA.out.cell 3)
  have HC4 := Lib.hid (show ((w.alloc (.cells #[.slice na nl nc, .int .i64 f.typ, .int .i64 f.kind, .int .i64 f.rank, .int .i64 f.got, .int .i64 f.ttl, .slice sa sl sc, .slice za zl zc, .slice ba bl bc, .slice ha hl hc, .slice ma ml mc, .slice xa xl xc, .slice ta tl tc] 100)).alloc (.cells noF 100)).drew.cell? ⟨w.heap.size, 4, none⟩ = some (.int .i64 f.got) from HA.out.cell 4)
  have HC5 := Lib.hid (show ((w.alloc (.cells #[.slice na nl nc, .int .i64 f.typ, .int .i64 f.kind, .int .i64 f.rank, .int .i64 f.got, .int .i64 f.ttl, .slice sa sl sc, .slice za zl zc, .slice ba bl bc, .slice ha hl hc, .slice ma ml mc, .slice xa xl xc, .slice ta tl tc] 100)).alloc (.cells noF 100)).drew.cell? ⟨w.heap.size, 5, none⟩ = some (.int .i64 f.ttl) from HA.out.cell 5)
  have HC6 := Lib.hid (show ((w.alloc (.cells #[.slice na nl nc, .int .i64 f.typ, .int .i64 f.kind, .int .i64 f.rank, .int .i64 f.got, .int .i64 f.ttl, .slice sa sl sc, .slice za zl zc, .slice ba bl bc, .slice ha hl hc, .slice ma ml mc, .slice xa xl xc, .slice ta tl tc] 100)).alloc (.cells noF 100)).drew.cell? ⟨w.heap.size, 6, none⟩ = some (.slice sa sl sc) from HA.out.cell 6)
  have HC7 := Lib.hid (show ((w.alloc (.cells #[.slice na nl nc, .int .i64 f.typ, .int .i64 f.kind, .int .i64 f.rank, .int .i64 f.got, .int .i64 f.ttl, .slice sa sl sc, .slice za zl zc, .slice ba bl bc, .slice ha hl hc, .slice ma ml mc, .slice xa xl xc, .slice ta tl tc] 100)).alloc (.cells noF 100)).drew.cell? ⟨w.heap.size, 7, none⟩ = some (.slice za zl zc) from HA.out.cell 7)
  have HC8 := Lib.hid (show ((w.alloc (.cells #[.slice na nl nc, .int .i64 f.typ, .int .i64 f.kind, .int .i64 f.rank, .int .i64 f.got, .int .i64 f.ttl, .slice sa sl sc, .slice za zl zc, .slice ba bl bc, .slice ha hl hc, .slice ma ml mc, .slice xa xl xc, .slice ta tl tc] 100)).alloc (.cells noF 100)).drew.cell? ⟨w.heap.size, 8, none⟩ = some (.slice ba bl bc) from HA.out.cell 8)
  have HC9 := Lib.hid (show ((w.alloc (.cells #[.slice na nl nc, .int .i64 f.typ, .int .i64 f.kind, .int .i64 f.rank, .int .i64 f.got, .int .i64 f.ttl, .slice sa sl sc, .slice za zl zc, .slice ba bl bc, .slice ha hl hc, .slice ma ml mc, .slice xa xl xc, .slice ta tl tc] 100)).alloc (.cells noF 100)).drew.cell? ⟨w.heap.size, 9, none⟩ = some (.slice ha hl hc) from HA.out.cell 9)
  have HC10 := Lib.hid (show ((w.alloc (.cells #[.slice na nl nc, .int .i64 f.typ, .int .i64 f.kind, .int .i64 f.rank, .int .i64 f.got, .int .i64 f.ttl, .slice sa sl sc, .slice za zl zc, .slice ba bl bc, .slice ha hl hc, .slice ma ml mc, .slice xa xl xc, .slice ta tl tc] 100)).alloc (.cells noF 100)).drew.cell? ⟨w.heap.size, 10, none⟩ = some (.slice ma ml mc) from HA.out.cell 10)
  have HC11 := Lib.hid (show ((w.alloc (.cells #[.slice na nl nc, .int .i64 f.typ, .int .i64 f.kind, .int .i64 f.rank, .int .i64 f.got, .int .i64 f.ttl, .slice sa sl sc, .slice za zl zc, .slice ba bl bc, .slice ha hl hc, .slice ma ml mc, .slice xa xl xc, .slice ta tl tc] 100)).alloc (.cells noF 100)).drew.cell? ⟨w.heap.size, 11, none⟩ = some (.slice xa xl xc) from HA.out.cell 11)
  have HC12 := Lib.hid (show ((w.alloc (.cells #[.slice na nl nc, .int .i64 f.typ, .int .i64 f.kind, .int .i64 f.rank, .int .i64 f.got, .int .i64 f.ttl, .slice sa sl sc, .slice za zl zc, .slice ba bl bc, .slice ha hl hc, .slice ma ml mc, .slice xa xl xc, .slice ta tl tc] 100)).alloc (.cells noF 100)).drew.cell? ⟨w.heap.size, 12, none⟩ = some (.slice ta tl tc) from HA.out.cell 12)
  go_enter Tryz.func144, Tryz.ntmps144
  go_wp2_with fail
  (try change Code.wp _ (Code.region _ _ _) _ _ ((w.alloc (.cells #[.slice na nl nc, .int .i64 f.typ, .int .i64 f.kind, .int .i64 f.rank, .int .i64 f.got, .int .i64 f.ttl, .slice sa sl sc, .slice za zl zc, .slice ba bl bc, .slice ha hl hc, .slice ma ml mc, .slice xa xl xc, .slice ta tl tc] 100)).alloc (.cells noF 100)))
  rename_i K0 hK0
  have HK0 := Lib.hid hK0
  clear hK0
  refine wp_soup_tail (m := 38) 10 (by kernel_rfl) (fun x y => Below x.heap.size x y) (fun i v xw => match i with | 0 => v = .pointer (some ⟨w.heap.size, 0, none⟩) | 1 => v = .slice na nl nc | 2 => ∃ a c, v = .slice a nl c ∧ Own1 [9] (w.heap.size + 2) xw a nl c (f.name.map .string) | 3 => v = .pointer (some ⟨w.heap.size, 7, none⟩) | 4 => v = .slice za zl zc | 5 => ∃ a c, v = .slice a zl c ∧ Own1 [9] (w.heap.size + 2) xw a zl c (f.zone.map .string) | 6 => v = .pointer (some ⟨w.heap.size, 8, none⟩) | 7 => v = .agg #[.slice ba bl bc, .slice ha hl hc, .slice ma ml mc, .slice xa xl xc, .slice ta tl tc] | 8 => ∃ k, v = .agg (dataC k) ∧ OwnD (w.heap.size + 2) xw k f.soa | 9 => v = .pointer (some ⟨w.heap.size, 0, none⟩) | _ => True) rfl (by kernel_rfl) (by kernel_rfl) (fun _ _ _ h1 h2 => below_on h1 h2 (Nat.le_refl _)) (Below.refl _ _) (by intro i v x y h hxy; match i, h with | 0, h => exact h | 1, h => exact h | 2, ⟨a, c, e, hr⟩ => exact ⟨a, c, e, hr.on hxy⟩ | 3, h => exact h | 4, h => exact h | 5, ⟨a, c, e, hr⟩ => exact ⟨a, c, e, hr.on hxy⟩ | 6, h => exact h | 7, h => exact h | 8, ⟨k, e, hr⟩ => exact ⟨k, e, hr.on hxy⟩ | 9, h => exact h | _ + 10, _ => trivial) (dst_head (by kernel_rfl)) ?_ ?_
  rotate_left
  · intro a W hR hS hdep
    have e1 : a.tmps.getD 1 undef = .pointer (some ⟨w.heap.size, 0, none⟩) := hS.keep 1 (by kernel_rfl)
    have e2 : a.tmps.getD 2 undef = .pointer (some ⟨(w.heap.size + 1), 0, none⟩) := hS.keep 2 (by kernel_rfl)
    obtain ⟨a0, c0, q, r0⟩ := hdep 2 (by decide +kernel)
    have e6 : a.tmps.getD 6 undef = .slice a0 nl c0 := q
    clear q
    obtain ⟨a1, c1, q, r1⟩ := hdep 5 (by decide +kernel)
    have e9 : a.tmps.getD 9 undef = .slice a1 zl c1 := q
    clear q
    obtain ⟨kk, q, hk⟩ := hdep 8 (by decide +kernel)
    have e12 : a.tmps.getD 12 undef = .agg (dataC kk) := q
    clear q
    have e13 : a.tmps.getD 13 undef = .pointer (some ⟨w.heap.size, 0, none⟩) := hdep 9 (by decide +kernel)
    obtain ⟨T, df⟩ := a
    obtain rfl : df = [] := hS.defers
    have hT : T = #[T.getD 0 undef, T.getD 1 undef, T.getD 2 undef, T.getD 3 undef, T.getD 4 undef, T.getD 5 undef, T.getD 6 undef, T.getD 7 undef, T.getD 8 undef, T.getD 9 undef, T.getD 10 undef, T.getD 11 undef, T.getD 12 undef, T.getD 13 undef, T.getD 14 undef, T.getD 15 undef, T.getD 16 undef, T.getD 17 undef, T.getD 18 undef, T.getD 19 undef, T.getD 20 undef, T.getD 21 undef, T.getD 22 undef, T.getD 23 undef, T.getD 24 undef, T.getD 25 undef, T.getD 26 undef, T.getD 27 undef, T.getD 28 undef, T.getD 29 undef, T.getD 30 undef, T.getD 31 undef, T.getD 32 undef, T.getD 33 undef, T.getD 34 undef, T.getD 35 undef, T.getD 36 undef, T.getD 37 undef] := arr_eta T 38 hS.size
    have k1 : T.getD 1 undef = .pointer (some ⟨w.heap.size, 0, none⟩) := e1
    have k2 : T.getD 2 undef = .pointer (some ⟨(w.heap.size + 1), 0, none⟩) := e2
    have k6 : T.getD 6 undef = .slice a0 nl c0 := e6
    have k9 : T.getD 9 undef = .slice a1 zl c1 := e9
    have k12 : T.getD 12 undef = .agg (dataC kk) := e12
    have k13 : T.getD 13 undef = .pointer (some ⟨w.heap.size, 0, none⟩) := e13
    clear hS hdep
    rw [hT]
    rw [k1]
    clear k1 e1
    rw [k2]
    clear k2 e2
    rw [k6]
    clear k6 e6
    rw [k9]
    clear k9 e9
    rw [k12]
    clear k12 e12
    rw [k13]
    clear k13 e13
    clear hT
    generalize T.getD 0 undef = u0
    generalize T.getD 3 undef = u3
    generalize T.getD 4 undef = u4
    generalize T.getD 5 undef = u5
    generalize T.getD 7 undef = u7
    generalize T.getD 8 undef = u8
    generalize T.getD 10 undef = u10
    generalize T.getD 11 undef = u11
    generalize T.getD 14 undef = u14
    generalize T.getD 15 undef = u15
    generalize T.getD 16 undef = u16
    generalize T.getD 17 undef = u17
    generalize T.getD 18 undef = u18
    generalize T.getD 19 undef = u19
    generalize T.getD 20 undef = u20
    generalize T.getD 21 undef = u21
    generalize T.getD 22 undef = u22
    generalize T.getD 23 undef = u23
    generalize T.getD 24 undef = u24
    generalize T.getD 25 undef = u25
    generalize T.getD 26 undef = u26
    generalize T.getD 27 undef = u27
    generalize T.getD 28 undef = u28
    generalize T.getD 29 undef = u29
    generalize T.getD 30 undef = u30
    generalize T.getD 31 undef = u31
    generalize T.getD 32 undef = u32
    generalize T.getD 33 undef = u33
    generalize T.getD 34 undef = u34
    generalize T.getD 35 undef = u35
    generalize T.getD 36 undef = u36
    generalize T.getD 37 undef = u37
    simp only [List.drop_succ_cons, List.drop_zero]
    have hbx := below_on (B := ((w.alloc (.cells #[.slice na nl nc, .int .i64 f.typ, .int .i64 f.kind, .int .i64 f.rank, .int .i64 f.got, .int .i64 f.ttl, .slice sa sl sc, .slice za zl zc, .slice ba bl bc, .slice ha hl hc, .slice ma ml mc, .slice xa xl xc, .slice ta tl tc] 100)).alloc (.cells noF 100)).heap.size) (Below.drew (Below.refl _ _)) hR (Nat.le_refl _)
    have hAW := HA.out.on hbx
    have n0 := hAW.cell 0
    have n7 := hAW.cell 7
    have n8 := hAW.cell 8
    have n9 := hAW.cell 9
    have n10 := hAW.cell 10
    have n11 := hAW.cell 11
    have n12 := hAW.cell 12
    simp at n0 n7 n8 n9 n10 n11 n12
    have f0 := hAW.free 0
    have f7 := hAW.free 7
    have f8 := hAW.free 8
    have f9 := hAW.free 9
    have f10 := hAW.free 10
    have f11 := hAW.free 11
    have f12 := hAW.free 12
    simp only [dataC]
    go_wp2_with fail
    refine HK0.out _ _ ?_
    have hA7 : Blk (((((((W.setCell ⟨w.heap.size, 0, none⟩ (.slice a0 nl c0)).setCell ⟨w.heap.size, 7, none⟩ (.slice a1 zl c1)).setCell ⟨w.heap.size, 8, none⟩ (.slice kk.ba kk.bl kk.bc)).setCell ⟨w.heap.size, 9, none⟩ (.slice kk.ha kk.hl kk.hc)).setCell ⟨w.heap.size, 10, none⟩ (.slice kk.ma kk.ml kk.mc)).setCell ⟨w.heap.size, 11, none⟩ (.slice kk.na kk.nl kk.nc)).setCell ⟨w.heap.size, 12, none⟩ (.slice kk.ta kk.tl kk.tc)) w.heap.size #[.slice a0 nl c0, .int .i64 f.typ, .int .i64 f.kind, .int .i64 f.rank, .int .i64 f.got, .int .i64 f.ttl, .slice sa sl sc, .slice a1 zl c1, .slice kk.ba kk.bl kk.bc, .slice kk.ha kk.hl kk.hc, .slice kk.ma kk.ml kk.mc, .slice kk.na kk.nl kk.nc, .slice kk.ta kk.tl kk.tc] 100 := ((((((hAW.set 0 _).set 7 _).set 8 _).set 9 _).set 10 _).set 11 _).set 12 _
    have hG7 : W.grownBy (((((((W.setCell ⟨w.heap.size, 0, none⟩ (.slice a0 nl c0)).setCell ⟨w.heap.size, 7, none⟩ (.slice a1 zl c1)).setCell ⟨w.heap.size, 8, none⟩ (.slice kk.ba kk.bl kk.bc)).setCell ⟨w.heap.size, 9, none⟩ (.slice kk.ha kk.hl kk.hc)).setCell ⟨w.heap.size, 10, none⟩ (.slice kk.ma kk.ml kk.mc)).setCell ⟨w.heap.size, 11, none⟩ (.slice kk.na kk.nl kk.nc)).setCell ⟨w.heap.size, 12, none⟩ (.slice kk.ta kk.tl kk.tc)) (some w.heap.size) := but_trans (but_trans (but_trans (but_trans (but_trans (but_trans (but_set _ _ _ _) (but_set _ _ _ _)) (but_set _ _ _ _)) (but_set _ _ _ _)) (but_set _ _ _ _)) (but_set _ _ _ _)) (but_set _ _ _ _)
    generalize (((((((W.setCell ⟨w.heap.size, 0, none⟩ (.slice a0 nl c0)).setCell ⟨w.heap.size, 7, none⟩ (.slice a1 zl c1)).setCell ⟨w.heap.size, 8, none⟩ (.slice kk.ba kk.bl kk.bc)).setCell ⟨w.heap.size, 9, none⟩ (.slice kk.ha kk.hl kk.hc)).setCell ⟨w.heap.size, 10, none⟩ (.slice kk.ma kk.ml kk.mc)).setCell ⟨w.heap.size, 11, none⟩ (.slice kk.na kk.nl kk.nc)).setCell ⟨w.heap.size, 12, none⟩ (.slice kk.ta kk.tl kk.tc)) = X at hA7 hG7 ⊢
    have hsx : w.heap.size + 2 ≤ W.heap.size := Nat.le_trans (Nat.le_of_eq HSZ.out.symm) hbx.size
    have hbe : Below w.heap.size w X := (below_on HB.out hbx (Nat.le_refl _)).trans (below_of_but hG7 (B := w.heap.size) (by omega) (by omega))
    have hs7 : W.heap.size ≤ X.heap.size := hG7.size
    have HR0 := Lib.hid (r0.step (Same.grown hG7 (fun b hb e => by have := Option.some.inj e; omega)))
    have HR1 := Lib.hid (r1.step (Same.grown hG7 (fun b hb e => by have := Option.some.inj e; omega)))
    have HKK := Lib.hid (hk.but hG7 (by omega))
    have HNR := Lib.hid ((HN.out.on hbx).but hG7 (by omega))
    have HST := Lib.hid ((HF.out.set.on hbx).keep (Same.grown hG7 (fun b hb e => by have := Option.some.inj e; omega)))
    have HBE := Lib.hid hbe
    have HA7 := Lib.hid hA7
    have HS7 := Lib.hid (show w.heap.size + 2 ≤ X.heap.size by omega)
    clear hAW hA7 hG7 hsx hbe hs7 hbx r0 r1 hk hR n0 n7 n8 n9 n10 n11 n12 f0 f7 f8 f9 f10 f11 f12 HC0 HC1 HC2 HC3 HC4 HC5 HC6 HC7 HC8 HC9 HC10 HC11 HC12
    have n6 := HA7.out.cell 6
    simp at n6
    go_wp2_with fail
    refine (clone_datas X (fun b => b < w.heap.size) sa sl sc f.set HST.out HLS.out.2).mono ?_
    rintro e X2 ⟨⟨v, ks, rfl, hown, hkl, hks⟩, hb⟩
    obtain ⟨vo, vc, rfl, hvle, hvmx, hvnil, hvg⟩ : ∃ vo vc, v = .slice vo sl vc ∧ sl ≤ vc ∧ vc ≤ 9223372036854775807 ∧ (vo = none → vc = 0) ∧ (0 < sl → ∃ g cur, vo = some ⟨g, 0, none⟩ ∧ w.heap.size + 2 ≤ g ∧ OwnSt w X2 g f.set 0 cur) := by
      rcases hown.2 with ⟨hv, hn⟩ | ⟨g, cap, cur, hv, hg, hh, hn, hm, hs, ht⟩
      · subst hn
        exact ⟨none, 0, hv, Nat.le_refl _, by omega, fun _ => rfl, fun h => absurd h (by omega)⟩
      · refine ⟨_, cap, hv, hn, by unfold maxLen at hm; exact hm, fun e => (by cases e), fun h0 => ⟨g, cur, rfl, by have := HS7.out; omega, hh, fun i hi => ?_⟩⟩
        have hik : i < ks.length := by have := HLS.out.1; omega
        refine ⟨ks[i], fun q hq => ?_, ?_⟩
        · have h5 := dataCells_at ks i q hik hq
          rw [← h5, ← ht, List.getElem?_take, if_pos (by omega)]
          simp
        · rw [if_neg (by omega)]
          have h6 := hks i hik hi
          exact ⟨h6.1, h6.2.mono h6.1 (fun b _ ht => ht.1)⟩
    have HV := Lib.hid (And.intro hvle (And.intro hvmx hvnil))
    have hA8 := HA7.out.on hb
    have n6' := hA8.cell 6
    have f6 := hA8.free 6
    simp at n6'
    have HFO := Lib.hid (show FoSt w (X2.setCell ⟨w.heap.size, 6, none⟩ (.slice vo sl vc)) kk f a0 nl c0 a1 zl c1 vo sl vc #[.slice a0 nl c0, .int .i64 f.typ, .int .i64 f.kind, .int .i64 f.rank, .int .i64 f.got, .int .i64 f.ttl, .slice vo sl vc, .slice a1 zl c1, .slice kk.ba kk.bl kk.bc, .slice kk.ha kk.hl kk.hc, .slice kk.ma kk.ml kk.mc, .slice kk.na kk.nl kk.nc, .slice kk.ta kk.tl kk.tc] 0 by
      have hG : X2.grownBy (X2.setCell ⟨w.heap.size, 6, none⟩ (.slice vo sl vc)) (some w.heap.size) := but_set _ _ _ _
      have hz := HS7.out
      have hz2 := hb.size
      have hB2 := below_on HBE.out hb (Nat.le_refl _)
      refine ⟨hB2.trans (below_of_but hG (Nat.le_refl _) (by omega)), hA8.set 6 _, (HNR.out.on hb).but hG (by omega), (HR0.out.on hb).step (Same.grown hG (fun b ht e => by have := Option.some.inj e; omega)), (HR1.out.on hb).step (Same.grown hG (fun b ht e => by have := Option.some.inj e; omega)), (HKK.out.on hb).but hG (by omega), fun h0 => ?_⟩
      obtain ⟨g, cur, e, hg, hs⟩ := hvg h0
      refine ⟨g, cur, e, hg, hs.blk.but hG (by omega), fun i hi => ?_⟩
      obtain ⟨k, k1, k2⟩ := hs.els i hi
      rw [if_neg (by omega)] at k2
      exact ⟨k, k1, by rw [if_neg (by omega)]; exact ⟨k2.1.keep k2.2 (Same.grown hG (fun b hb e => by have := Option.some.inj e; omega)), k2.2⟩⟩)
    clear n6 hown hkl hks hb hvg hA8 HST HNR HR0 HR1 HKK HBE HA7
    go_wp2_with fail
    clear n6' f6
    go_loopw [23, 3] (fun i _ wr => ∃ j : Nat, j ≤ sl ∧ i = .int .i64 j ∧ Hid (FoSt w wr kk f a0 nl c0 a1 zl c1 vo sl vc #[.slice a0 nl c0, .int .i64 f.typ, .int .i64 f.kind, .int .i64 f.rank, .int .i64 f.got, .int .i64 f.ttl, .slice vo sl vc, .slice a1 zl c1, .slice kk.ba kk.bl kk.bc, .slice kk.ha kk.hl kk.hc, .slice kk.ma kk.ml kk.mc, .slice kk.na kk.nl kk.nc, .slice kk.ta kk.tl kk.tc] j)) (fun i _ _ => sl - (intOf i).toNat)
    case atStart => exact ⟨0, Nat.zero_le _, rfl, HFO.out⟩
    case round =>
      obtain ⟨j, hj, rfl, hinv⟩ := hrel
      clear HFO
      by_cases hlt : j < sl
      · have hjs : j < f.set.length := by have := HLS.out.1; omega
        obtain ⟨g, cur, rfl, hg, hst⟩ := hinv.out.set (by omega)
        obtain ⟨k, k1, k2⟩ := hst.els j hjs
        rw [if_neg (by omega)] at k2
        have hfk := (HLE.out.all _ (List.getElem_mem hjs)).fit k2.1
        have HBG := Lib.hid hst.blk
        have HRO := Lib.hid (fun w' (p : IsData w' k f.set[j]) => rrown_any w' k _ p hfk)
        have HK2 := Lib.hid k2.1
        have HGG := Lib.hid hg
        have HM6 := Lib.hid (show wr.drew.cell? ⟨w.heap.size, 6, none⟩ = some (.slice (some ⟨g, 0, none⟩) sl vc) from hinv.out.blkA.cell 6)
        obtain ⟨ba', bl', bc', ha', hl', hc', ma', ml', mc', xa', xl', xc', ta', tl', tc'⟩ := k
        have HN0 := Lib.hid (show wr.drew.cell? ⟨g, j * 5, none⟩ = some (.slice ba' bl' bc') from (HBG.out.cell _).trans (k1 0 (by omega)))
        have HN1 := Lib.hid (show wr.drew.cell? ⟨g, j * 5 + 1, none⟩ = some (.slice ha' hl' hc') from (HBG.out.cell _).trans (k1 1 (by omega)))
        have HN2 := Lib.hid (show wr.drew.cell? ⟨g, j * 5 + 2, none⟩ = some (.slice ma' ml' mc') from (HBG.out.cell _).trans (k1 2 (by omega)))
        have HN3 := Lib.hid (show wr.drew.cell? ⟨g, j * 5 + 3, none⟩ = some (.slice xa' xl' xc') from (HBG.out.cell _).trans (k1 3 (by omega)))
        have HN4 := Lib.hid (show wr.drew.cell? ⟨g, j * 5 + 4, none⟩ = some (.slice ta' tl' tc') from (HBG.out.cell _).trans (k1 4 (by omega)))
        simp only [dataC] at HRO
        have hjv : j < vc := by have := HV.out.1; omega
        have hsx : sl ≤ 1048576 := HLS.out.2
        clear hst k1 k2 hfk hg
        go_wp2_with fail
        rename_i K1 hK1
        have HK1 := Lib.hid hK1
        clear hK1
        refine wp_soup_tail (m := 38) 10 (by kernel_rfl) (fun x y => Below x.heap.size x y) (fun i v xw => match i with | 0 => v = .pointer (some ⟨w.heap.size, 6, none⟩) | 1 => v = .slice ((some ⟨g, 0, none⟩)) sl vc | 2 => v = .int .i64 ((j : Int)) | 3 => v = .pointer (some ⟨w.heap.size, 6, none⟩) | 4 => v = .slice ((some ⟨g, 0, none⟩)) sl vc | 5 => v = .int .i64 ((j : Int)) | 6 => v = .pointer (some ⟨g, j * 5, none⟩) | 7 => v = .agg #[.slice ba' bl' bc', .slice ha' hl' hc', .slice ma' ml' mc', .slice xa' xl' xc', .slice ta' tl' tc'] | 8 => ∃ k, v = .agg (dataC k) ∧ OwnD (w.heap.size + 2) xw k (f.set[j]'hjs) | 9 => v = .pointer (some ⟨g, j * 5, none⟩) | _ => True) rfl (by kernel_rfl) (by kernel_rfl) (fun _ _ _ h1 h2 => below_on h1 h2 (Nat.le_refl _)) (Below.refl _ _) (by intro i v x y h hxy; match i, h with | 0, h => exact h | 1, h => exact h | 2, h => exact h | 3, h => exact h | 4, h => exact h | 5, h => exact h | 6, h => exact h | 7, h => exact h | 8, ⟨k, e, hr⟩ => exact ⟨k, e, hr.on hxy⟩ | 9, h => exact h | _ + 10, _ => trivial) (dst_head (by kernel_rfl)) ?_ ?_
        rotate_left
        · intro a W hR hS hdep
          obtain ⟨kn, q, hkn⟩ := hdep 8 (by decide +kernel)
          have e34 : a.tmps.getD 34 undef = .agg (dataC kn) := q
          clear q
          have e35 : a.tmps.getD 35 undef = .pointer (some ⟨g, j * 5, none⟩) := hdep 9 (by decide +kernel)
          obtain ⟨T, df⟩ := a
          obtain rfl : df = [] := hS.defers
          have hT := tmps_same hS 38 rfl [26, 27, 28, 29, 30, 31, 32, 33, 34, 35] (by kernel_rfl)
          simp only [List.foldl_cons, List.foldl_nil, List.setIfInBounds_toArray, List.set_cons_succ, List.set_cons_zero] at hT
          have k34 : T.getD 34 undef = .agg (dataC kn) := e34
          have k35 : T.getD 35 undef = .pointer (some ⟨g, j * 5, none⟩) := e35
          clear hS hdep
          rw [hT]
          rw [k34]
          clear k34 e34
          rw [k35]
          clear k35 e35
          clear hT
          generalize T.getD 26 undef = u26
          generalize T.getD 27 undef = u27
          generalize T.getD 28 undef = u28
          generalize T.getD 29 undef = u29
          generalize T.getD 30 undef = u30
          generalize T.getD 31 undef = u31
          generalize T.getD 32 undef = u32
          generalize T.getD 33 undef = u33
          simp only [List.drop_succ_cons, List.drop_zero]
          have hbx := below_on (B := wr.heap.size) (Below.drew (Below.refl _ _)) hR (Nat.le_refl _)
          have hBW := HBG.out.on hbx
          obtain ⟨_, hcur, hgst⟩ : ∃ cur2, cur2 = cur ∧ True := ⟨_, rfl, trivial⟩
          have n0 := cell_keep hbx HN0.out
          have f0 := hBW.free (j * 5)
          have n1 := cell_keep hbx HN1.out
          have f1 := hBW.free (j * 5 + 1)
          have n2 := cell_keep hbx HN2.out
          have f2 := hBW.free (j * 5 + 2)
          have n3 := cell_keep hbx HN3.out
          have f3 := hBW.free (j * 5 + 3)
          have n4 := cell_keep hbx HN4.out
          have f4 := hBW.free (j * 5 + 4)
          have hput := Lib.hid (hinv.out.put hbx (by omega) hjs hkn)
          clear hcur hgst hBW
          simp only [dataC]
          go_wp2_with fail
          refine HK1.out _ _ ?_
          clear n0 n1 n2 n3 n4 f0 f1 f2 f3 f4 hR hkn HM6 HN0 HN1 HN2 HN3 HN4
          have hput2 := hput.out
          unfold put5 at hput2
          have HP := Lib.hid hput2
          clear hput2 hput
          go_wp2_with fail
          go_roundw
          case rel => exact ⟨j + 1, by omega, by go_num, HP.out⟩
          case measure => simp [intOf]; omega
        refine soup_cons rfl rfl (fun a W hR hS hdep K hK => ?_) ?_
        · have e1 : a.tmps[1]?.getD undef = .pointer (some ⟨w.heap.size, 0, none⟩) := slot_of (hS.keep 1 (by kernel_rfl))
          go_simp
          exact hK _ _ (Below.refl _ _) (by first | rfl | simp)
        refine soup_cons rfl rfl (fun a W hR hS hdep K hK => ?_) ?_
        · have e26 : a.tmps[26]?.getD undef = .pointer (some ⟨w.heap.size, 6, none⟩) := slot_of (hdep 0 (by decide +kernel))
          have m0 := cell_keep hR HM6.out
          go_simp
          exact hK _ _ (Below.refl _ _) (by first | rfl | simp)
        refine soup_cons rfl rfl (fun a W hR hS hdep K hK => ?_) ?_
        · have e3 : a.tmps[3]?.getD undef = .int .i64 ((j : Int)) := slot_of (hS.keep 3 (by kernel_rfl))
          go_simp
          exact hK _ _ (Below.refl _ _) (by first | rfl | simp)
        refine soup_cons rfl rfl (fun a W hR hS hdep K hK => ?_) ?_
        · have e1 : a.tmps[1]?.getD undef = .pointer (some ⟨w.heap.size, 0, none⟩) := slot_of (hS.keep 1 (by kernel_rfl))
          go_simp
          exact hK _ _ (Below.refl _ _) (by first | rfl | simp)
        refine soup_cons rfl rfl (fun a W hR hS hdep K hK => ?_) ?_
        · have e29 : a.tmps[29]?.getD undef = .pointer (some ⟨w.heap.size, 6, none⟩) := slot_of (hdep 3 (by decide +kernel))
          have m0 := cell_keep hR HM6.out
          go_simp
          exact hK _ _ (Below.refl _ _) (by first | rfl | simp)
        refine soup_cons rfl rfl (fun a W hR hS hdep K hK => ?_) ?_
        · have e3 : a.tmps[3]?.getD undef = .int .i64 ((j : Int)) := slot_of (hS.keep 3 (by kernel_rfl))
          go_simp
          exact hK _ _ (Below.refl _ _) (by first | rfl | simp)
        refine soup_cons rfl rfl (fun a W hR hS hdep K hK => ?_) ?_
        · have e30 : a.tmps[30]?.getD undef = .slice ((some ⟨g, 0, none⟩)) sl vc := slot_of (hdep 4 (by decide +kernel))
          have e31 : a.tmps[31]?.getD undef = .int .i64 ((j : Int)) := slot_of (hdep 5 (by decide +kernel))
          go_simp
          exact hK _ _ (Below.refl _ _) (by first | rfl | simp)
        refine soup_cons rfl rfl (fun a W hR hS hdep K hK => ?_) ?_
        · have e32 : a.tmps[32]?.getD undef = .pointer (some ⟨g, j * 5, none⟩) := slot_of (hdep 6 (by decide +kernel))
          have m0 := cell_keep hR HN0.out
          have m1 := cell_keep hR HN1.out
          have m2 := cell_keep hR HN2.out
          have m3 := cell_keep hR HN3.out
          have m4 := cell_keep hR HN4.out
          go_simp
          exact hK _ _ (Below.refl _ _) (by first | rfl | simp)
        refine soup_cons rfl rfl (fun a W hR hS hdep K hK => ?_) ?_
        · have e33 : a.tmps[33]?.getD undef = .agg #[.slice ba' bl' bc', .slice ha' hl' hc', .slice ma' ml' mc', .slice xa' xl' xc', .slice ta' tl' tc'] := slot_of (hdep 7 (by decide +kernel))
          go_simp
          have hbx := below_on (B := wr.heap.size) (Below.drew (Below.refl _ _)) hR (Nat.le_refl _)
          refine (HRO.out _ (HK2.out.on hbx)).mono ?_
          rintro e W' ⟨⟨k, rfl, hk, _⟩, hb⟩
          exact hK _ _ hb ⟨k, rfl, hk.mono (by have := hbx.size; have := hinv.out.blkR.lt; omega)⟩
        refine soup_cons rfl rfl (fun a W hR hS hdep K hK => ?_) ?_
        · have e27 : a.tmps[27]?.getD undef = .slice ((some ⟨g, 0, none⟩)) sl vc := slot_of (hdep 1 (by decide +kernel))
          have e28 : a.tmps[28]?.getD undef = .int .i64 ((j : Int)) := slot_of (hdep 2 (by decide +kernel))
          go_simp
          exact hK _ _ (Below.refl _ _) (by first | rfl | simp)
        exact fun j h1 h2 => absurd h1 (by omega)
      · obtain rfl : j = sl := by omega
        have hAe := hinv.out.blkA
        have hRe := hinv.out.blkR
        have n0 := hAe.cell 0
        have n1 := hAe.cell 1
        have n2 := hAe.cell 2
        have n3 := hAe.cell 3
        have n4 := hAe.cell 4
        have n5 := hAe.cell 5
        have n6 := hAe.cell 6
        have n7 := hAe.cell 7
        have n8 := hAe.cell 8
        have n9 := hAe.cell 9
        have n10 := hAe.cell 10
        have n11 := hAe.cell 11
        have n12 := hAe.cell 12
        simp at n0 n1 n2 n3 n4 n5 n6 n7 n8 n9 n10 n11 n12
        have HRE := Lib.hid hRe
        have hR13 : Blk (wr.setRow (w.heap.size + 1) (factC ⟨a0, nl, c0, vo, j, vc, a1, zl, c1, kk⟩ f)) (w.heap.size + 1) (factC ⟨a0, nl, c0, vo, j, vc, a1, zl, c1, kk⟩ f) 100 := blk_setRow hRe _
        have hG13 : wr.grownBy (wr.setRow (w.heap.size + 1) (factC ⟨a0, nl, c0, vo, j, vc, a1, zl, c1, kk⟩ f)) (some (w.heap.size + 1)) := but_setRow _ _ _
        have HR13 := Lib.hid hR13
        have HG13 := Lib.hid hG13
        clear hR13 hG13 hRe hAe
        go_wp2_with (refine wpList_store_row rfl 100 _ _ rfl (w.heap.size + 1) (factC ⟨a0, nl, c0, vo, j, vc, a1, zl, c1, kk⟩ f) rfl rfl 100 noF HRE.out factSize rfl (factC_all _ _) ?_)
        have hR13 := HR13.out
        have hG13 := HG13.out
        have hi := HI5.out
        have hout := hinv.out.fact HLS.out.1 HV.out.1 HV.out.2.1 HV.out.2.2 HSN.out.1 HSN.out.2 hi hG13
        have hbo := hinv.out.bel.trans (below_of_but hG13 (B := w.heap.size) (by omega) (by have := hinv.out.blkR.lt; omega))
        clear HR13 HG13 HRE
        generalize wr.setRow (w.heap.size + 1) (factC ⟨a0, nl, c0, vo, j, vc, a1, zl, c1, kk⟩ f) = Y at hR13 hG13 hout hbo ⊢
        have HH := Lib.hid (And.intro hR13 (And.intro hout hbo))
        clear hR13 hG13 hout hbo n0 n1 n2 n3 n4 n5 n6 n7 n8 n9 n10 n11 n12
        go_wp2_with fail
        refine bodyPost_ret (v := .agg (factC ⟨a0, nl, c0, vo, j, vc, a1, zl, c1, kk⟩ f)) (fown_results rfl HH.out.1) rfl ?_
        exact ⟨⟨_, rfl, HH.out.2.1⟩, HH.out.2.2⟩
  refine soup_cons rfl rfl (fun a W hR hS hdep K hK => ?_) ?_
  · have e1 : a.tmps[1]?.getD undef = .pointer (some ⟨w.heap.size, 0, none⟩) := slot_of (hS.keep 1 (by kernel_rfl))
    go_simp
    exact hK _ _ (Below.refl _ _) (by first | rfl | simp)
  refine soup_cons rfl rfl (fun a W hR hS hdep K hK => ?_) ?_
  · have e4 : a.tmps[4]?.getD undef = .pointer (some ⟨w.heap.size, 0, none⟩) := slot_of (hdep 0 (by decide +kernel))
    have m0 := cell_keep hR HC0.out
    go_simp
    exact hK _ _ (Below.refl _ _) (by first | rfl | simp)
  refine soup_cons rfl rfl (fun a W hR hS hdep K hK => ?_) ?_
  · have e5 : a.tmps[5]?.getD undef = .slice na nl nc := slot_of (hdep 1 (by decide +kernel))
    go_simp
    have hbx := below_on (B := ((w.alloc (.cells #[.slice na nl nc, .int .i64 f.typ, .int .i64 f.kind, .int .i64 f.rank, .int .i64 f.got, .int .i64 f.ttl, .slice sa sl sc, .slice za zl zc, .slice ba bl bc, .slice ha hl hc, .slice ma ml mc, .slice xa xl xc, .slice ta tl tc] 100)).alloc (.cells noF 100)).heap.size) (Below.drew (Below.refl _ _)) hR (Nat.le_refl _)
    have hsx : w.heap.size + 2 ≤ W.heap.size := Nat.le_trans (Nat.le_of_eq HSZ.out.symm) hbx.size
    refine (clone_strs _ na nl nc _ (HF.out.name.row.below hbx (Nat.le_refl _)) (map_oneCell _ (fun _ => rfl) _) HLN.out).mono ?_
    rintro e W' ⟨⟨a', c', rfl, hr⟩, hb⟩
    exact hK _ _ hb ⟨a', c', rfl, hr.mono hsx⟩
  refine soup_cons rfl rfl (fun a W hR hS hdep K hK => ?_) ?_
  · have e1 : a.tmps[1]?.getD undef = .pointer (some ⟨w.heap.size, 0, none⟩) := slot_of (hS.keep 1 (by kernel_rfl))
    go_simp
    exact hK _ _ (Below.refl _ _) (by first | rfl | simp)
  refine soup_cons rfl rfl (fun a W hR hS hdep K hK => ?_) ?_
  · have e7 : a.tmps[7]?.getD undef = .pointer (some ⟨w.heap.size, 7, none⟩) := slot_of (hdep 3 (by decide +kernel))
    have m0 := cell_keep hR HC7.out
    go_simp
    exact hK _ _ (Below.refl _ _) (by first | rfl | simp)
  refine soup_cons rfl rfl (fun a W hR hS hdep K hK => ?_) ?_
  · have e8 : a.tmps[8]?.getD undef = .slice za zl zc := slot_of (hdep 4 (by decide +kernel))
    go_simp
    have hbx := below_on (B := ((w.alloc (.cells #[.slice na nl nc, .int .i64 f.typ, .int .i64 f.kind, .int .i64 f.rank, .int .i64 f.got, .int .i64 f.ttl, .slice sa sl sc, .slice za zl zc, .slice ba bl bc, .slice ha hl hc, .slice ma ml mc, .slice xa xl xc, .slice ta tl tc] 100)).alloc (.cells noF 100)).heap.size) (Below.drew (Below.refl _ _)) hR (Nat.le_refl _)
    have hsx : w.heap.size + 2 ≤ W.heap.size := Nat.le_trans (Nat.le_of_eq HSZ.out.symm) hbx.size
    refine (clone_strs _ za zl zc _ (HF.out.zone.row.below hbx (Nat.le_refl _)) (map_oneCell _ (fun _ => rfl) _) HLZ.out).mono ?_
    rintro e W' ⟨⟨a', c', rfl, hr⟩, hb⟩
    exact hK _ _ hb ⟨a', c', rfl, hr.mono hsx⟩
  refine soup_cons rfl rfl (fun a W hR hS hdep K hK => ?_) ?_
  · have e1 : a.tmps[1]?.getD undef = .pointer (some ⟨w.heap.size, 0, none⟩) := slot_of (hS.keep 1 (by kernel_rfl))
    go_simp
    exact hK _ _ (Below.refl _ _) (by first | rfl | simp)
  refine soup_cons rfl rfl (fun a W hR hS hdep K hK => ?_) ?_
  · have e10 : a.tmps[10]?.getD undef = .pointer (some ⟨w.heap.size, 8, none⟩) := slot_of (hdep 6 (by decide +kernel))
    have m0 := cell_keep hR HC8.out
    have m1 := cell_keep hR HC9.out
    have m2 := cell_keep hR HC10.out
    have m3 := cell_keep hR HC11.out
    have m4 := cell_keep hR HC12.out
    go_simp
    exact hK _ _ (Below.refl _ _) (by first | rfl | simp)
  refine soup_cons rfl rfl (fun a W hR hS hdep K hK => ?_) ?_
  · have e11 : a.tmps[11]?.getD undef = .agg #[.slice ba bl bc, .slice ha hl hc, .slice ma ml mc, .slice xa xl xc, .slice ta tl tc] := slot_of (hdep 7 (by decide +kernel))
    go_simp
    have hbx := below_on (B := ((w.alloc (.cells #[.slice na nl nc, .int .i64 f.typ, .int .i64 f.kind, .int .i64 f.rank, .int .i64 f.got, .int .i64 f.ttl, .slice sa sl sc, .slice za zl zc, .slice ba bl bc, .slice ha hl hc, .slice ma ml mc, .slice xa xl xc, .slice ta tl tc] 100)).alloc (.cells noF 100)).heap.size) (Below.drew (Below.refl _ _)) hR (Nat.le_refl _)
    have hsx : w.heap.size + 2 ≤ W.heap.size := Nat.le_trans (Nat.le_of_eq HSZ.out.symm) hbx.size
    refine (rrown_any _ _ f.soa (HF.out.soa.on hbx) HSD.out).mono ?_
    rintro e W' ⟨⟨k, rfl, hk, _⟩, hb⟩
    exact hK _ _ hb ⟨k, rfl, hk.mono hsx⟩
  refine soup_cons rfl rfl (fun a W hR hS hdep K hK => ?_) ?_
  · have e1 : a.tmps[1]?.getD undef = .pointer (some ⟨w.heap.size, 0, none⟩) := slot_of (hS.keep 1 (by kernel_rfl))
    go_simp
    exact hK _ _ (Below.refl _ _) (by first | rfl | simp)
  exact fun j h1 h2 => absurd h1 (by omega)
end Go.Proofs.YtgfibbjifbghdaaGreat

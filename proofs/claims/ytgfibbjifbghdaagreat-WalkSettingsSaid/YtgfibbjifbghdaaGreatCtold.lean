/- Cache.told, Get and Old: a fact that is told was used. -/
import Derived.Test.YtgfibbjifbghdaaGreatCfind
import Derived.Test.YtgfibbjifbghdaaGreatClaylaw
import Derived.Test.YtgfibbjifbghdaaGreatClook
namespace Go.Proofs.YtgfibbjifbghdaaGreat
open Go.ChangeShapes Go.WideShapes Go.ChangeAt Go.RowKit

theorem pair_ne {L : List Slot} (h : L.Pairwise fun a b => a.b ≠ b.b) {x y : Slot} (hx : x ∈ L) (hy : y ∈ L) (hne : keyF x.f ≠ keyF y.f) : x.b ≠ y.b := by
  induction L with
  | nil => cases hx
  | cons a L ih =>
    obtain ⟨h1, h2⟩ := List.pairwise_cons.1 h
    rcases List.mem_cons.1 hx with ex | hx'
    · rcases List.mem_cons.1 hy with ey | hy'
      · exact absurd (by rw [ex, ey]) hne
      · rw [ex]; exact h1 y hy'
    · rcases List.mem_cons.1 hy with ey | hy'
      · rw [ey]; exact fun e => h1 x hx' e.symm
      · exact ih h2 hx' hy'
theorem MapL.renew {w : World} {M : Nat} {L : List Slot} {key : List UInt8} {s : Slot} (h : MapL w M L) (hk : L.Pairwise fun a b => keyF a.f ≠ keyF b.f) (hat : atL L key = some s) (u : Nat) : MapL w M (offL L key ++ [⟨s.b, s.h, s.f, u⟩]) := by
  obtain ⟨n, D, h1, h2, h3, h4⟩ := h
  have hks := (atL_mem hat).2
  refine ⟨n, D, h1, h2, by rw [h3, List.length_append, List.length_singleton]; exact (off_len hk hat).symm, fun kk z => ?_⟩
  rw [h4, atL_snoc, atL_off]
  by_cases he : kk = key
  · subst he
    rw [hat, if_pos rfl]
    simp [hks]
  · rw [if_neg he]
    cases atL L kk with
    | some x => rfl
    | none => simp only; rw [if_neg (fun e => he (e.symm.trans hks))]
theorem use_law {B : Nat} {w W2 : World} {C M k : Nat} {most stale : Int} {L : List Slot} {s : Slot} {key : List UInt8} (hC : IsCache B w C most stale k L) (hCb : Blk w C (cacheC most stale M k) 131) (hMB : B ≤ M) (hML : MapL w M L) (hat : atL L key = some s)
    (hC2 : Blk W2 C (cacheC most stale M (k + 1)) 131) (hX2 : Blk W2 s.b ((itemC s).setIfInBounds 13 (.int .i64 (k + 1 : Nat))) 203) (hs2 : ∀ j, j ≠ C → j ≠ s.b → W2.heap[j]? = w.heap[j]?)
    (hb2 : ∀ B, B ≤ C → B ≤ s.b → Below B w W2) : IsCache B W2 C most stale (k + 1) (offL L key ++ [⟨s.b, s.h, s.f, k + 1⟩]) ∧ Left B w W2 := by
  obtain ⟨hsL, hsk⟩ := atL_mem hat
  obtain ⟨hsB, hsb, hsf, hsF, hsl⟩ := hC.slot s hsL
  have hCM := blk_map_ne hCb hML
  have hsM := blk_map_ne hsb hML
  have hCs : C ≠ s.b := blk_ne hCb hsb (by decide)
  have hXeq : (itemC s).setIfInBounds 13 (.int .i64 (k + 1 : Nat)) = itemC ⟨s.b, s.h, s.f, k + 1⟩ := by simp [itemC]
  rw [hXeq] at hX2
  have same : Same (tagged gT w) w W2 := fun b _ ht => hs2 b (tagged_ne hCb (by decide) ht) (tagged_ne hsb (by decide) ht)
  have bel := hb2 B hC.base hsB
  refine ⟨⟨⟨M, hC2, hMB, (hML.renew hC.keys hat (k + 1)).on (hs2 M (fun e => hCM e.symm) (fun e => hsM e.symm))⟩, hC.base, ?_, ?_, ?_, ?_, ?_⟩, bel, same⟩
  · intro x hx
    rcases List.mem_append.1 hx with hx | hx
    · obtain ⟨h1, h2⟩ := offL_mem hx
      obtain ⟨a, b, c, d, e⟩ := hC.slot x h1
      refine ⟨a, ?_, c.step (same.mono (fun b hb ht => tagged_mono ht fT_gT)), d, e⟩
      rw [Blk, hs2 x.b (fun h => blk_ne hCb b (by decide) h.symm) (pair_ne hC.apart h1 hsL (by rw [hsk]; exact h2))]
      exact b
    · rw [List.mem_singleton] at hx
      subst hx
      exact ⟨hsB, hX2, hsf.step (same.mono (fun b hb ht => tagged_mono ht fT_gT)), hsF, hsl⟩
  · rw [List.pairwise_append]
    refine ⟨hC.apart.sublist (offL_sub _ _), List.pairwise_singleton _ _, fun a ha b hb => ?_⟩
    rw [List.mem_singleton] at hb
    subst hb
    obtain ⟨h1, h2⟩ := offL_mem ha
    show a.b ≠ s.b
    exact pair_ne hC.apart h1 hsL (by rw [hsk]; exact h2)
  · rw [List.pairwise_append]
    refine ⟨hC.keys.sublist (offL_sub _ _), List.pairwise_singleton _ _, fun a ha b hb => ?_⟩
    rw [List.mem_singleton] at hb
    subst hb
    show keyF a.f ≠ keyF s.f
    rw [hsk]; exact (offL_mem ha).2
  · intro x hx
    rcases List.mem_append.1 hx with hx | hx
    · have := hC.used x (offL_mem hx).1
      omega
    · rw [List.mem_singleton] at hx
      subst hx
      exact Nat.le_refl _
  · rw [List.pairwise_append]
    refine ⟨hC.order.sublist (offL_sub _ _), List.pairwise_singleton _ _, fun a ha b hb => ?_⟩
    rw [List.mem_singleton] at hb
    subst hb
    have := hC.used a (offL_mem ha).1
    show a.used < k + 1
    omega
theorem told_results {tmps : Array Value} {w : World} {R : Nat} {k : FactH} {f : FactP} {b : Bool} (h4 : tmps[4]? = some (.pointer (some ⟨R, 0, none⟩))) (h5 : tmps[5]? = some (.bool b)) (hB : Blk w R (factC k f) 100) :
    (results Tryz.f113 tmps).run Tryz.prog w = .ok (.tuple #[.agg (factC k f), .bool b]) w := by
  have c0 := hB.cell 0
  have c1 := hB.cell 1
  have c2 := hB.cell 2
  have c3 := hB.cell 3
  have c4 := hB.cell 4
  have c5 := hB.cell 5
  have c6 := hB.cell 6
  have c7 := hB.cell 7
  have c8 := hB.cell 8
  have c9 := hB.cell 9
  have c10 := hB.cell 10
  have c11 := hB.cell 11
  have c12 := hB.cell 12
  simp [factC] at c0 c1 c2 c3 c4 c5 c6 c7 c8 c9 c10 c11 c12
  simp [results, go_sem, h4, h5, c0, c1, c2, c3, c4, c5, c6, c7, c8, c9, c10, c11, c12, factC]
theorem get_results {tmps : Array Value} {w : World} {R : Nat} {k : FactH} {f : FactP} {b : Bool} (h4 : tmps[8]? = some (.pointer (some ⟨R, 0, none⟩))) (h5 : tmps[9]? = some (.bool b)) (hB : Blk w R (factC k f) 100) :
    (results Tryz.f74 tmps).run Tryz.prog w = .ok (.tuple #[.agg (factC k f), .bool b]) w := by
  have c0 := hB.cell 0
  have c1 := hB.cell 1
  have c2 := hB.cell 2
  have c3 := hB.cell 3
  have c4 := hB.cell 4
  have c5 := hB.cell 5
  have c6 := hB.cell 6
  have c7 := hB.cell 7
  have c8 := hB.cell 8
  have c9 := hB.cell 9
  have c10 := hB.cell 10
  have c11 := hB.cell 11
  have c12 := hB.cell 12
  simp [factC] at c0 c1 c2 c3 c4 c5 c6 c7 c8 c9 c10 c11 c12
  simp [results, go_sem, h4, h5, c0, c1, c2, c3, c4, c5, c6, c7, c8, c9, c10, c11, c12, factC]
theorem old_results {tmps : Array Value} {w : World} {R : Nat} {k : FactH} {f : FactP} {b : Bool} (h4 : tmps[8]? = some (.pointer (some ⟨R, 0, none⟩))) (h5 : tmps[9]? = some (.bool b)) (hB : Blk w R (factC k f) 100) :
    (results Tryz.f122 tmps).run Tryz.prog w = .ok (.tuple #[.agg (factC k f), .bool b]) w := by
  have c0 := hB.cell 0
  have c1 := hB.cell 1
  have c2 := hB.cell 2
  have c3 := hB.cell 3
  have c4 := hB.cell 4
  have c5 := hB.cell 5
  have c6 := hB.cell 6
  have c7 := hB.cell 7
  have c8 := hB.cell 8
  have c9 := hB.cell 9
  have c10 := hB.cell 10
  have c11 := hB.cell 11
  have c12 := hB.cell 12
  simp [factC] at c0 c1 c2 c3 c4 c5 c6 c7 c8 c9 c10 c11 c12
  simp [results, go_sem, h4, h5, c0, c1, c2, c3, c4, c5, c6, c7, c8, c9, c10, c11, c12, factC]
/-- a cache behind a fact that was told -/
def usedL (L : List Slot) (k : Nat) (o : Option Slot) : List Slot := match o with | none => L | some s => offL L (keyF s.f) ++ [⟨s.b, s.h, s.f, k + 1⟩]
def usedK (k : Nat) (o : Option Slot) : Nat := match o with | none => k | some _ => k + 1
def factO (o : Option Slot) : FactP := (o.map (·.f)).getD zF
/-- what a call hands back that tells a fact -/
structure ToldRes (B N : Nat) (w w' : World) (e : Ending) (C : Nat) (most stale : Int) (k : Nat) (L : List Slot) (o : Option Slot) : Prop where
  ret : ∃ h, e = .returned (.tuple #[.agg (factC h (factO o)), .bool o.isSome]) ∧ OwnF N w' h (factO o)
  ca : IsCache B w' C most stale (usedK k o) (usedL L k o)
  left : Left B w w'
theorem IsCache.but {B : Nat} {w w' : World} {C k R : Nat} {most stale : Int} {L : List Slot} {cs : Array Value} {T : TypeId} (h : IsCache B w C most stale k L) (hg : w.grownBy w' (some R)) (hR : Blk w R cs T) (h1 : T ∉ fT) (h2 : T ≠ 131) (h3 : T ≠ 203) : IsCache B w' C most stale k L := by
  obtain ⟨M, a, b, c⟩ := h.ex
  have hMR := blk_map_ne hR c
  exact ⟨⟨M, a.but hg (blk_ne a hR (fun e => h2 e.symm)), b, c.on (hg.block M c.lt (fun e => hMR (Option.some.inj e).symm))⟩, h.base, fun s hs => by
    obtain ⟨p, q, r, t⟩ := h.slot s hs
    exact ⟨p, q.but hg (blk_ne q hR (fun e => h3 e.symm)), r.step (Same.but hg hR h1), t⟩, h.apart, h.keys, h.used, h.order⟩
theorem Left.row {B : Nat} {w W : World} (h : Left B w W) (hB : B ≤ w.heap.size) {R : Nat} (hR : w.heap.size ≤ R) (cs : Array Value) : Left B w (W.setRow R cs) :=
  ⟨h.bel.grown (but_setRow _ _ _) (by have := h.bel.size; omega) (fun j e => by cases e; omega), fun b hb ht => by
    rw [(but_setRow W R cs).block b (by have := h.bel.size; omega) (fun e => by have := Option.some.inj e; omega)]
    exact h.same b hb ht⟩
theorem blk_left {B b : Nat} {w w' : World} {cs : Array Value} {T : TypeId} (h : Blk w b cs T) (hl : Left B w w') (hT : T ∈ gT) : Blk w' b cs T := by
  have := hl.same b h.lt ⟨cs, T, h, hT⟩
  rw [Blk, this]; exact h
theorem IsCache.B_le {B : Nat} {w : World} {C k : Nat} {most stale : Int} {L : List Slot} (h : IsCache B w C most stale k L) : B ≤ w.heap.size := by
  obtain ⟨M, h1, _⟩ := h.ex
  have := h.base
  have := h1.lt
  omega
set_option maxHeartbeats 16000000 in
set_option maxRecDepth 100000 in
theorem told_any (w : World) (B C : Nat) (most stale : Int) (k : Nat) (L : List Slot) (hC : IsCache B w C most stale k L) (hk : k < 4000000000000000000) (o : Option Slot) (ho : ∀ s, o = some s → atL L (keyF s.f) = some s) :
    Calls Tryz.prog 113 #[.pointer (some ⟨C, 0, none⟩), itemV o] w fun e w' => ToldRes B w.heap.size w w' e C most stale k L o := by
  have hN : Blk (w.alloc (.cells noF 100)) w.heap.size noF 100 := heap_alloc_new w _
  have hb1 : Below w.heap.size w (w.alloc (.cells noF 100)) := (Below.refl _ _).alloc (Nat.le_refl _) _
  have HN := Lib.hid hN
  have HB := Lib.hid hb1
  have HCW := Lib.hid (And.intro hC hk)
  cases o with
  | none =>
    clear hN hb1 hC hk ho
    go_enter Tryz.func113, Tryz.ntmps113
    simp only [itemV]
    go_wp2_with (refine wpList_store_row rfl 100 _ _ rfl w.heap.size noF rfl rfl 100 noF HN.out factSize rfl (factC_all zH zF) ?_)
    refine bodyPost_ret (told_results (k := zH) (f := zF) rfl rfl (blk_setRow HN.out noF)) rfl ?_
    have hb := HB.out.grown (but_setRow _ w.heap.size noF) (HB.out.size) (fun k e => Nat.le_of_eq (Option.some.inj e))
    exact ⟨⟨zH, rfl, zF_is _ _⟩, HCW.out.1.on hb, Left.below hb HCW.out.1.B_le⟩
  | some s =>
    have hat := ho s rfl
    obtain ⟨hsL, hsk⟩ := atL_mem hat
    obtain ⟨hsB, hsb, hsf, hsF, hsl⟩ := hC.slot s hsL
    obtain ⟨M, hCb, hMB, hML⟩ := hC.ex
    have hCs : C ≠ s.b := blk_ne hCb hsb (by decide)
    have HU := Lib.hid (use_any (w.alloc (.cells noF 100)) C s.b M k most stale (itemC s) (hCb.on hb1) (hsb.on hb1) rfl hCs hk)
    have HP := Lib.hid (And.intro hCb (And.intro hMB (And.intro hML (And.intro hat (And.intro hsl hsF)))))
    have HSB := Lib.hid (And.intro hsb hsL)
    clear hN hb1 hC hk ho hat hsL hsk hsB hsb hsf hsF hsl hCb hMB hML hCs
    go_enter Tryz.func113, Tryz.ntmps113
    simp only [itemV]
    go_wp2_with (first | (go_at_call 145; go_loud (refine HU.out.mono ?_; rintro e W ⟨rfl, hC2, hX2, sz2, hs2, hb2⟩; have HLW := Lib.hid (use_law (HCW.out.1.on HB.out) (HP.out.1.on HB.out) HP.out.2.1 (HP.out.2.2.1.on (HB.out.block _ HP.out.2.2.1.lt)) HP.out.2.2.2.1 hC2 hX2 hs2 hb2); have HN2 := Lib.hid (show Blk W w.heap.size noF 100 by rw [Blk, hs2 _ (fun e => by have := HP.out.1.lt; omega) (fun e => by have := HSB.out.1.lt; omega)]; exact HN.out); have hi : Blk W s.b (itemC ⟨s.b, s.h, s.f, k + 1⟩) 203 := (by simpa [itemC] using hX2); have m0 : W.cell? ⟨s.b, 0, none⟩ = some (.slice s.h.na s.h.nl s.h.nc) := hi.cell 0; have m1 : W.cell? ⟨s.b, 1, none⟩ = some (.int .i64 s.f.typ) := hi.cell 1; have m2 : W.cell? ⟨s.b, 2, none⟩ = some (.int .i64 s.f.kind) := hi.cell 2; have m3 : W.cell? ⟨s.b, 3, none⟩ = some (.int .i64 s.f.rank) := hi.cell 3; have m4 : W.cell? ⟨s.b, 4, none⟩ = some (.int .i64 s.f.got) := hi.cell 4; have m5 : W.cell? ⟨s.b, 5, none⟩ = some (.int .i64 s.f.ttl) := hi.cell 5; have m6 : W.cell? ⟨s.b, 6, none⟩ = some (.slice s.h.sa s.h.sl s.h.sc) := hi.cell 6; have m7 : W.cell? ⟨s.b, 7, none⟩ = some (.slice s.h.za s.h.zl s.h.zc) := hi.cell 7; have m8 : W.cell? ⟨s.b, 8, none⟩ = some (.slice s.h.d.ba s.h.d.bl s.h.d.bc) := hi.cell 8; have m9 : W.cell? ⟨s.b, 9, none⟩ = some (.slice s.h.d.ha s.h.d.hl s.h.d.hc) := hi.cell 9; have m10 : W.cell? ⟨s.b, 10, none⟩ = some (.slice s.h.d.ma s.h.d.ml s.h.d.mc) := hi.cell 10; have m11 : W.cell? ⟨s.b, 11, none⟩ = some (.slice s.h.d.na s.h.d.nl s.h.d.nc) := hi.cell 11; have m12 : W.cell? ⟨s.b, 12, none⟩ = some (.slice s.h.d.ta s.h.d.tl s.h.d.tc) := hi.cell 12; clear hi hC2 hX2 sz2 hs2 hb2)) | (go_at_call 144; go_loud (refine (fown_any _ (tagged fT W) s.h s.f ((HLW.out.1.slot ⟨s.b, s.h, s.f, k + 1⟩ (List.mem_append_right _ (List.mem_singleton.2 rfl))).2.2.1) HP.out.2.2.2.2.1).mono ?_; rintro e W3 ⟨⟨kk, rfl, hown⟩, hb3⟩; have HN3 := Lib.hid (HN2.out.on hb3); have HOW := Lib.hid hown; have HBF := Lib.hid hb3; clear hb3 hown m0 m1 m2 m3 m4 m5 m6 m7 m8 m9 m10 m11 m12)) | (refine wpList_store_row rfl 100 _ _ rfl w.heap.size (factC kk s.f) rfl rfl 100 noF HN3.out factSize rfl (factC_all kk s.f) ?_))
    refine bodyPost_ret (told_results (k := kk) (f := s.f) rfl rfl (blk_setRow HN3.out _)) rfl ?_
    have hsz : w.heap.size < W.heap.size := HN2.out.lt
    have hgB : Below w.heap.size W3 (W3.setRow w.heap.size (factC kk s.f)) := (Below.refl _ _).grown (but_setRow _ _ _) (by have := HBF.out.size; omega) (fun k e => Nat.le_of_eq (Option.some.inj e))
    have hLB : Left B w (W3.setRow w.heap.size (factC kk s.f)) :=
      Left.row (((Left.below HB.out HCW.out.1.B_le).trans HLW.out.2).trans (Left.below HBF.out (by have := HCW.out.1.B_le; omega))) HCW.out.1.B_le (Nat.le_refl _) _
    refine ⟨⟨kk, rfl, ?_⟩, ?_, hLB⟩
    · exact (HOW.out.step (Same.grown (but_setRow _ _ _) (fun b ht e => by have := Option.some.inj e; omega))).mono (fun b _ ht => ⟨ht.1, by omega⟩)
    · have hca := (HLW.out.1.on HBF.out).but (but_setRow W3 w.heap.size (factC kk s.f)) HN3.out (by decide) (by decide) (by decide)
      rwa [← (atL_mem HP.out.2.2.2.1).2] at hca
theorem find_at {L : List Slot} {nm : List ByteArray} {typ : Int} {p : Slot → Bool} {s : Slot} (h : findL L nm typ p = some s) : atL L (keyF s.f) = some s := by
  have key : ∀ t, fitO (atL L (keyP nm t)) p = some s → atL L (keyF s.f) = some s := by
    intro t h
    cases hat : atL L (keyP nm t) with
    | none => rw [hat] at h; cases h
    | some x =>
      rw [hat] at h
      simp only [fitO] at h
      split at h
      · cases h; rw [(atL_mem hat).2]; exact hat
      · cases h
  rw [findL] at h
  split at h
  · cases h1 : fitO (atL L (keyP nm typ)) p with
    | some x => rw [h1] at h; cases h; exact key _ h1
    | none => rw [h1] at h; exact key _ h
  · cases h
set_option maxHeartbeats 16000000 in
set_option maxRecDepth 100000 in
theorem get_any (w : World) (B C : Nat) (most stale : Int) (k : Nat) (L : List Slot) (hC : IsCache B w C most stale k L) (hk : k < 4000000000000000000) (na : Option Addr) (nl nc : Nat) (nm : List ByteArray) (typ : Int) (hn : Strs w na nl nc nm) (hz : sizeN nm ≤ 1099511627776) (now : Int) :
    Calls Tryz.prog 74 #[.pointer (some ⟨C, 0, none⟩), .slice na nl nc, .int .i64 typ, .int .i64 now] w fun e w' => ToldRes B w.heap.size w w' e C most stale k L (findL L nm typ (fitsF now)) := by
  have hN : Blk (w.alloc (.cells noF 100)) w.heap.size noF 100 := heap_alloc_new w _
  have hb1 : Below w.heap.size w (w.alloc (.cells noF 100)) := (Below.refl _ _).alloc (Nat.le_refl _) _
  have HN := Lib.hid hN
  have HB := Lib.hid hb1
  have HC := Lib.hid (And.intro hC (And.intro hn (And.intro hz hk)))
  clear hN hb1 hC hk hn hz
  go_enter Tryz.func74, Tryz.ntmps74
  go_wp2_with (first | (go_at_call 115; refine (when_any _ B C most stale k L (HC.out.1.on HB.out) now).mono ?_; rintro e W1 ⟨rfl, hb⟩; have HW1 := Lib.hid (And.intro (below_on HB.out hb (Nat.le_refl _)) (HN.out.on hb)); clear hb) | (go_at_call 114; refine (findF_any _ B C most stale k L (HC.out.1.on HW1.out.1) na nl nc nm typ (HC.out.2.1.below HW1.out.1 (Nat.le_refl _)) HC.out.2.2.1 now stale).mono ?_; rintro e W2 ⟨rfl, hb⟩; have HW2 := Lib.hid (And.intro (below_on HW1.out.1 hb (Nat.le_refl _)) (HW1.out.2.on hb)); clear hb) | (go_at_call 113; refine (told_any _ B C most stale k L (HC.out.1.on HW2.out.1) HC.out.2.2.2 (findL L nm typ (fitsF now)) (fun s h => find_at h)).mono ?_; rintro e W3 ⟨⟨kk, rfl, hown⟩, hca, hleft⟩; have HR := Lib.hid (And.intro hown (And.intro hca hleft)); have HN3 := Lib.hid (show Blk W3 w.heap.size noF 100 from blk_left HW2.out.2 hleft (by decide)); clear hown hca hleft) | (refine wpList_store_row rfl 100 _ _ rfl w.heap.size (factC kk (factO (findL L nm typ (fitsF now)))) rfl rfl 100 noF HN3.out factSize rfl (factC_all kk _) ?_))
  refine bodyPost_ret (get_results (k := kk) (f := factO (findL L nm typ (fitsF now))) rfl rfl (blk_setRow HN3.out _)) rfl ?_
  have h12 := HW2.out.1.size
  have hlt := HW2.out.2.lt
  refine ⟨⟨kk, rfl, ?_⟩, HR.out.2.1.but (but_setRow W3 w.heap.size _) HN3.out (by decide) (by decide) (by decide), Left.row ((Left.below HW2.out.1 HC.out.1.B_le).trans HR.out.2.2) HC.out.1.B_le (Nat.le_refl _) _⟩
  exact (HR.out.1.step (Same.grown (but_setRow _ _ _) (fun b ht e => by have := Option.some.inj e; omega))).mono (fun b _ ht => ⟨ht.1, by omega⟩)
def oldO (L : List Slot) (nm : List ByteArray) (typ now stale : Int) : Option Slot := match findL L nm typ (fitsF now) with | some _ => none | none => findL L nm typ (fitsS now stale)
set_option maxHeartbeats 16000000 in
set_option maxRecDepth 100000 in
theorem old_any (w : World) (B C : Nat) (most stale : Int) (k : Nat) (L : List Slot) (hC : IsCache B w C most stale k L) (hk : k < 4000000000000000000) (na : Option Addr) (nl nc : Nat) (nm : List ByteArray) (typ : Int) (hn : Strs w na nl nc nm) (hz : sizeN nm ≤ 1099511627776) (now : Int) :
    Calls Tryz.prog 122 #[.pointer (some ⟨C, 0, none⟩), .slice na nl nc, .int .i64 typ, .int .i64 now] w fun e w' => ToldRes B w.heap.size w w' e C most stale k L (oldO L nm typ now stale) := by
  have hN : Blk (w.alloc (.cells noF 100)) w.heap.size noF 100 := heap_alloc_new w _
  have hb1 : Below w.heap.size w (w.alloc (.cells noF 100)) := (Below.refl _ _).alloc (Nat.le_refl _) _
  have HN := Lib.hid hN
  have HB := Lib.hid hb1
  have HC := Lib.hid (And.intro hC (And.intro hn (And.intro hz hk)))
  clear hN hb1 hC hk hn hz
  cases hff : findL L nm typ (fitsF now) with
  | some s =>
    have HO := Lib.hid (show oldO L nm typ now stale = none by rw [oldO, hff])
    have HFF := Lib.hid hff
    clear hff
    go_enter Tryz.func122, Tryz.ntmps122
    go_wp2_with (first | (go_at_call 115; refine (when_any _ B C most stale k L (HC.out.1.on HB.out) now).mono ?_; rintro e W1 ⟨rfl, hb⟩; have HB1 := Lib.hid (below_on HB.out hb (Nat.le_refl _)); have HW1 := Lib.hid (And.intro ((below_on HB.out hb (Nat.le_refl _)).alloc (below_on HB.out hb (Nat.le_refl _)).size (.cells #[.int .i64 now, .int .i64 stale] 208)) ((HN.out.on hb).on ((Below.refl _ _).alloc (Nat.le_refl _) (.cells #[.int .i64 now, .int .i64 stale] 208)))); have x0 : (W1.alloc (.cells #[.int .i64 now, .int .i64 stale] 208)).cell? ⟨W1.heap.size, 0, none⟩ = some (.int .i64 now) := Blk.cell (heap_alloc_new _ _) 0; have x1 : (W1.alloc (.cells #[.int .i64 now, .int .i64 stale] 208)).cell? ⟨W1.heap.size, 1, none⟩ = some (.int .i64 stale) := Blk.cell (heap_alloc_new _ _) 1; clear hb) | (go_at_call 114; refine (findF_any _ B C most stale k L (HC.out.1.on HW1.out.1) na nl nc nm typ (HC.out.2.1.below HW1.out.1 (Nat.le_refl _)) HC.out.2.2.1 now stale).mono ?_; rintro e W2 ⟨rfl, hb⟩; rw [HFF.out]; simp only [itemV]; have HW2 := Lib.hid (And.intro (below_on HW1.out.1 hb (Nat.le_refl _)) (HW1.out.2.on hb)); clear hb x0 x1) | (refine wpList_store_row rfl 100 _ _ rfl w.heap.size noF rfl rfl 100 noF HW2.out.2 factSize rfl (factC_all zH zF) ?_))
    refine bodyPost_ret (old_results (k := zH) (f := zF) rfl rfl (blk_setRow HW2.out.2 noF)) rfl ?_
    rw [HO.out]
    have hlt := HW2.out.2.lt
    have hb := HW2.out.1.grown (but_setRow _ w.heap.size noF) (HW2.out.1.size) (fun k e => Nat.le_of_eq (Option.some.inj e))
    exact ⟨⟨zH, rfl, zF_is _ _⟩, HC.out.1.on hb, Left.below hb HC.out.1.B_le⟩
  | none =>
    have HO := Lib.hid (show oldO L nm typ now stale = findL L nm typ (fitsS now stale) by rw [oldO, hff])
    have HFF := Lib.hid hff
    clear hff
    go_enter Tryz.func122, Tryz.ntmps122
    go_wp2_with (first | (have hprobe := HW2.out; go_at_call 114; refine (findS_any _ B C most stale k L (HC.out.1.on HW2.out.1) na nl nc nm typ (HC.out.2.1.below HW2.out.1 (Nat.le_refl _)) HC.out.2.2.1 now stale).mono ?_; rintro e W4 ⟨rfl, hb⟩; have HW4 := Lib.hid (And.intro (below_on HW2.out.1 hb (Nat.le_refl _)) (HW2.out.2.on hb)); clear hb x0 x1 hprobe) | (go_at_call 115; refine (when_any _ B C most stale k L (HC.out.1.on HB.out) now).mono ?_; rintro e W1 ⟨rfl, hb⟩; have HB1 := Lib.hid (below_on HB.out hb (Nat.le_refl _)); have HW1 := Lib.hid (And.intro ((below_on HB.out hb (Nat.le_refl _)).alloc (below_on HB.out hb (Nat.le_refl _)).size (.cells #[.int .i64 now, .int .i64 stale] 208)) ((HN.out.on hb).on ((Below.refl _ _).alloc (Nat.le_refl _) (.cells #[.int .i64 now, .int .i64 stale] 208)))); have HXX := Lib.hid (show Blk (W1.alloc (.cells #[.int .i64 now, .int .i64 stale] 208)) W1.heap.size #[.int .i64 now, .int .i64 stale] 208 from heap_alloc_new _ _); have x0 : (W1.alloc (.cells #[.int .i64 now, .int .i64 stale] 208)).cell? ⟨W1.heap.size, 0, none⟩ = some (.int .i64 now) := Blk.cell (heap_alloc_new _ _) 0; have x1 : (W1.alloc (.cells #[.int .i64 now, .int .i64 stale] 208)).cell? ⟨W1.heap.size, 1, none⟩ = some (.int .i64 stale) := Blk.cell (heap_alloc_new _ _) 1; clear hb) | (go_at_call 114; refine (findF_any _ B C most stale k L (HC.out.1.on HW1.out.1) na nl nc nm typ (HC.out.2.1.below HW1.out.1 (Nat.le_refl _)) HC.out.2.2.1 now stale).mono ?_; rintro e W2 ⟨rfl, hb⟩; rw [HFF.out]; simp only [itemV]; have HW2 := Lib.hid (And.intro (below_on HW1.out.1 hb (Nat.le_refl _)) (HW1.out.2.on hb)); replace x0 : W2.cell? ⟨W1.heap.size, 0, none⟩ = some (.int .i64 now) := (HXX.out.on hb).cell 0; replace x1 : W2.cell? ⟨W1.heap.size, 1, none⟩ = some (.int .i64 stale) := (HXX.out.on hb).cell 1; clear hb) | (go_at_call 113; refine (told_any _ B C most stale k L (HC.out.1.on HW4.out.1) HC.out.2.2.2 (findL L nm typ (fitsS now stale)) (fun s h => find_at h)).mono ?_; rintro e W3 ⟨⟨kk, rfl, hown⟩, hca, hleft⟩; have HR := Lib.hid (And.intro hown (And.intro hca hleft)); have HN3 := Lib.hid (show Blk W3 w.heap.size noF 100 from blk_left HW4.out.2 hleft (by decide)); clear hown hca hleft) | (refine wpList_store_row rfl 100 _ _ rfl w.heap.size (factC kk (factO (findL L nm typ (fitsS now stale)))) rfl rfl 100 noF HN3.out factSize rfl (factC_all kk _) ?_))
    refine bodyPost_ret (old_results (k := kk) (f := factO (findL L nm typ (fitsS now stale))) rfl rfl (blk_setRow HN3.out _)) rfl ?_
    rw [HO.out]
    have h12 := HW4.out.1.size
    have hlt := HW4.out.2.lt
    refine ⟨⟨kk, rfl, ?_⟩, HR.out.2.1.but (but_setRow W3 w.heap.size _) HN3.out (by decide) (by decide) (by decide), Left.row ((Left.below HW4.out.1 HC.out.1.B_le).trans HR.out.2.2) HC.out.1.B_le (Nat.le_refl _) _⟩
    exact (HR.out.1.step (Same.grown (but_setRow _ _ _) (fun b ht e => by have := Option.some.inj e; omega))).mono (fun b _ ht => ⟨ht.1, by omega⟩)
end Go.Proofs.YtgfibbjifbghdaaGreat

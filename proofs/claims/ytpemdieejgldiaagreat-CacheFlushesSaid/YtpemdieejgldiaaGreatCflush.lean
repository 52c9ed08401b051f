/- Cache.Lay: a fact, whatever is there. Cache.Flush: all under a zone is gone. -/
import Derived.Test.YtpemdieejgldiaaGreatClay
import Derived.Test.YtpemdieejgldiaaGreatClayfl
import Derived.Test.YtpemdieejgldiaaGreatCnew
import Derived.Test.YtpemdieejgldiaaGreatClook
namespace Go.Proofs.YtpemdieejgldiaaGreat
open Go.ChangeShapes Go.WideShapes Go.ChangeAt Go.RowKit

def ptrO (o : Option Nat) : Value := match o with | some b => .pointer (some ⟨b, 0, none⟩) | none => .pointer none
theorem ptrR_shape (v : Value) (y : DataW Unit × List MemPlace) (h : ptrR v = some y) : ∃ o, v = ptrO o := by
  unfold ptrR at h
  split at h
  · exact ⟨some _, rfl⟩
  · exact ⟨none, rfl⟩
  · cases h
theorem str_key (key : Value) (kl : Lit) (h : keyOf Tryz.prog 9 key = some kl) : ∃ x : ByteArray, key = .string x := by
  rw [keyOf_string Tryz.underlying9] at h
  cases key <;> simp [mapKey, Tryz.underlying9] at h
  exact ⟨_, rfl⟩
theorem str_key_lit {x : ByteArray} {kl : Lit} (h : keyOf Tryz.prog 9 (.string x) = some kl) : kl = .string x.data.toList := by
  rw [keyOf_string Tryz.underlying9] at h
  simp [mapKey, Tryz.underlying9] at h
  exact h.2.symm
theorem ptrO_at {D : DataW Unit} {L : List Slot} (h4 : ∀ key z, D.atKey (.string key) z = (match atL L key with | some s => .lit (.int .i64 s.b) | none => z)) {x : ByteArray} {o : Option Nat} {y : DataW Unit × List MemPlace} (hR : ptrR (ptrO o) = some y) (hat : ∀ zd, D.atKey (.string x.data.toList) zd = y.1) :
    ∃ s ∈ L, o = some s.b ∧ x.data.toList = keyF s.f := by
  have h5 := hat .nil
  have h6 := hat (.lit (.bool true))
  rw [h4] at h5 h6
  cases ha : atL L x.data.toList with
  | none => rw [ha] at h5 h6; rw [← h5] at h6; cases h6
  | some s =>
    rw [ha] at h5
    obtain ⟨hs, hk⟩ := atL_mem ha
    refine ⟨s, hs, ?_, hk.symm⟩
    cases o with
    | none => simp [ptrO, ptrR] at hR; rw [← hR] at h5; cases h5
    | some b =>
      simp [ptrO, ptrR] at hR
      rw [← hR] at h5
      injection h5 with e
      injection e with _ e
      have : s.b = b := by omega
      rw [this]
set_option maxHeartbeats 16000000 in
set_option maxRecDepth 100000 in
theorem lays_any (w : World) (S : Nat → Prop) (B C : Nat) (most stale : Int) (k : Nat) (L : List Slot) (hC : IsCache B w C most stale k L) (hk : k < 4000000000000000000) (hL : L.length < 100000) (h : FactH) (f : FactP) (hf : IsFact S w h f) (hl : FLen f)
    (hroom : (((offL L (keyF f)).length + 1 : Nat) : Int) ≤ most) :
    Calls Tryz.prog 8 #[.pointer (some ⟨C, 0, none⟩), .agg (factC h f)] w fun e w' => e = .returned (.bool (factB f)) ∧ Left B w w' ∧ (factB f = true → ∃ b kk, IsCache B w' C most stale (k + 1) (offL L (keyF f) ++ [⟨b, kk, f, k + 1⟩])) ∧ (factB f = false → IsCache B w' C most stale k L) := by
  have hb1 : Below w.heap.size w (w.alloc (.cells (factC h f) 36)) := (Below.refl _ _).alloc (Nat.le_refl _) _
  have hA : Blk (w.alloc (.cells (factC h f) 36)) w.heap.size (factC h f) 36 := heap_alloc_new w _
  have hBw : B ≤ w.heap.size := by
    obtain ⟨M, h1, _⟩ := hC.ex
    have := hC.base
    have := h1.lt
    omega
  have HA := Lib.hid hA
  have HB := Lib.hid (And.intro hb1 hBw)
  have HCC := Lib.hid hC
  have HF1 := Lib.hid (hf.on hb1)
  have HV := Lib.hid (And.intro hl (And.intro hk (And.intro hL hroom)))
  have m0 : (w.alloc (.cells (factC h f) 36)).cell? ⟨w.heap.size, 0, none⟩ = some (.slice h.na h.nl h.nc) := hA.cell 0
  have m1 : (w.alloc (.cells (factC h f) 36)).cell? ⟨w.heap.size, 1, none⟩ = some (.int .i64 f.typ) := hA.cell 1
  have m2 : (w.alloc (.cells (factC h f) 36)).cell? ⟨w.heap.size, 2, none⟩ = some (.int .i64 f.kind) := hA.cell 2
  have m3 : (w.alloc (.cells (factC h f) 36)).cell? ⟨w.heap.size, 3, none⟩ = some (.int .i64 f.rank) := hA.cell 3
  have m4 : (w.alloc (.cells (factC h f) 36)).cell? ⟨w.heap.size, 4, none⟩ = some (.int .i64 f.got) := hA.cell 4
  have m5 : (w.alloc (.cells (factC h f) 36)).cell? ⟨w.heap.size, 5, none⟩ = some (.int .i64 f.ttl) := hA.cell 5
  have m6 : (w.alloc (.cells (factC h f) 36)).cell? ⟨w.heap.size, 6, none⟩ = some (.slice h.sa h.sl h.sc) := hA.cell 6
  have m7 : (w.alloc (.cells (factC h f) 36)).cell? ⟨w.heap.size, 7, none⟩ = some (.slice h.za h.zl h.zc) := hA.cell 7
  have m8 : (w.alloc (.cells (factC h f) 36)).cell? ⟨w.heap.size, 8, none⟩ = some (.slice h.d.ba h.d.bl h.d.bc) := hA.cell 8
  have m9 : (w.alloc (.cells (factC h f) 36)).cell? ⟨w.heap.size, 9, none⟩ = some (.slice h.d.ha h.d.hl h.d.hc) := hA.cell 9
  have m10 : (w.alloc (.cells (factC h f) 36)).cell? ⟨w.heap.size, 10, none⟩ = some (.slice h.d.ma h.d.ml h.d.mc) := hA.cell 10
  have m11 : (w.alloc (.cells (factC h f) 36)).cell? ⟨w.heap.size, 11, none⟩ = some (.slice h.d.na h.d.nl h.d.nc) := hA.cell 11
  have m12 : (w.alloc (.cells (factC h f) 36)).cell? ⟨w.heap.size, 12, none⟩ = some (.slice h.d.ta h.d.tl h.d.tc) := hA.cell 12
  have HS := Lib.hid (fsound_any _ S _ _ HF1.out)
  clear hA hC hf hl hb1 hk hL hroom hBw
  cases hFB : factB f with
  | false =>
    rw [hFB] at HS
    go_enter Tryz.func8, Tryz.ntmps8
    simp only [factC]
    go_wp2_with (go_at_call 22; refine HS.out.mono ?_; rintro e W ⟨rfl, hb⟩; have HW := Lib.hid (below_on HB.out.1 hb (Nat.le_refl _)); clear hb)
    go_ret
    exact ⟨rfl, Left.below HW.out HB.out.2, fun e => absurd e (by simp), fun _ => HCC.out.on HW.out⟩
  | true =>
    rw [hFB] at HS
    go_enter Tryz.func8, Tryz.ntmps8
    simp only [factC]
    go_wp2_with (first | (go_at_call 22; go_loud (refine HS.out.mono ?_; rintro e W ⟨rfl, hb⟩; have HW := Lib.hid (below_on HB.out.1 hb (Nat.le_refl _)); have hAW := HA.out.on hb; have HFW := Lib.hid (HF1.out.on hb); clear m0 m1 m2 m3 m4 m5 m6 m7 m8 m9 m10 m11 m12; have n0 : W.cell? ⟨w.heap.size, 0, none⟩ = some (.slice h.na h.nl h.nc) := hAW.cell 0; have n1 : W.cell? ⟨w.heap.size, 1, none⟩ = some (.int .i64 f.typ) := hAW.cell 1; have n2 : W.cell? ⟨w.heap.size, 2, none⟩ = some (.int .i64 f.kind) := hAW.cell 2; have n3 : W.cell? ⟨w.heap.size, 3, none⟩ = some (.int .i64 f.rank) := hAW.cell 3; have n4 : W.cell? ⟨w.heap.size, 4, none⟩ = some (.int .i64 f.got) := hAW.cell 4; have n5 : W.cell? ⟨w.heap.size, 5, none⟩ = some (.int .i64 f.ttl) := hAW.cell 5; have n6 : W.cell? ⟨w.heap.size, 6, none⟩ = some (.slice h.sa h.sl h.sc) := hAW.cell 6; have n7 : W.cell? ⟨w.heap.size, 7, none⟩ = some (.slice h.za h.zl h.zc) := hAW.cell 7; have n8 : W.cell? ⟨w.heap.size, 8, none⟩ = some (.slice h.d.ba h.d.bl h.d.bc) := hAW.cell 8; have n9 : W.cell? ⟨w.heap.size, 9, none⟩ = some (.slice h.d.ha h.d.hl h.d.hc) := hAW.cell 9; have n10 : W.cell? ⟨w.heap.size, 10, none⟩ = some (.slice h.d.ma h.d.ml h.d.mc) := hAW.cell 10; have n11 : W.cell? ⟨w.heap.size, 11, none⟩ = some (.slice h.d.na h.d.nl h.d.nc) := hAW.cell 11; have n12 : W.cell? ⟨w.heap.size, 12, none⟩ = some (.slice h.d.ta h.d.tl h.d.tc) := hAW.cell 12; clear hb hAW)) | (go_at_call 23; go_loud (refine (lay_any W S B C most stale k L (HCC.out.on HW.out) HV.out.2.1 HV.out.2.2.1 h f HFW.out hFB HV.out.1 HV.out.2.2.2).mono ?_; rintro e V2 ⟨rfl, b, kk, hI, hL⟩; have HQ := Lib.hid (And.intro hI hL); clear hI hL)))
    go_ret
    exact ⟨rfl, (Left.below HW.out HB.out.2).trans HQ.out.2, fun _ => ⟨b, kk, HQ.out.1⟩, fun e => absurd e (by simp)⟩
/-- the map forgets some -/
theorem sub_law {B : Nat} {w w' : World} {C k M : Nat} {most stale : Int} {L T : List Slot} (hs : T.Sublist L) (hC : IsCache B w C most stale k L) (hCb : Blk w C #[.int .i64 most, .int .i64 stale, .map (some M), .int .i64 k] 52) (hMB : B ≤ M) (hML : MapL w M L)
    (hM' : MapL w' M T) (hg : w.grownBy w' (some M)) : IsCache B w' C most stale k T ∧ Left B w w' := by
  have hCM := blk_map_ne hCb hML
  have same : Same (tagged gT w) w w' := fun b hb ht => hg.block b hb (fun e => tagged_mapL hML ht (Option.some.inj e))
  refine ⟨⟨⟨M, hCb.but hg hCM, hMB, hM'⟩, hC.base, fun x hx => ?_, hC.apart.sublist hs, hC.keys.sublist hs, fun x hx => hC.used x (hs.mem hx), hC.order.sublist hs⟩, ?_, same⟩
  · obtain ⟨a, b, c, d⟩ := hC.slot x (hs.mem hx)
    exact ⟨a, b.but hg (blk_map_ne b hML), c.step (same.mono (fun _ _ ht => tagged_mono ht fT_gT)), d⟩
  · exact (Below.refl B w).grown hg (by have := hML.lt; omega) (fun j e => by cases e; exact hMB)
def overL (L : List Slot) (z : List ByteArray) : List Slot := L.filter fun s => !underB s.f.name z
/-- what the loop keeps: not yet visited, or not under -/
def flL (L : List Slot) (z : List ByteArray) (left : Lit → Bool) : List Slot := L.filter fun s => left (.string (keyF s.f)) || !underB s.f.name z
theorem fl_start {L : List Slot} {z : List ByteArray} {left : Lit → Bool} (h : ∀ s ∈ L, left (.string (keyF s.f)) = true) : flL L z left = L := by
  rw [flL, List.filter_eq_self]
  intro s hs; rw [h s hs]; rfl
theorem fl_end {L : List Slot} {z : List ByteArray} {left : Lit → Bool} (h : ∀ kl, left kl = false) : flL L z left = overL L z := by
  simp only [flL, overL, h, Bool.false_or]
theorem fl_stay {L : List Slot} {z : List ByteArray} {left : Lit → Bool} {key : List UInt8} (h : ∀ s ∈ L, keyF s.f = key → underB s.f.name z = false) : flL L z (fun q => left q && !q.sameKey (.string key)) = flL L z left := by
  apply List.filter_congr
  intro s hs
  try dsimp only
  rw [sameKey_str]
  by_cases he : keyF s.f = key
  · rw [h s hs he]; simp
  · simp [he]
theorem fl_drop {L : List Slot} {z : List ByteArray} {left : Lit → Bool} {key : List UInt8} (h : ∀ s ∈ L, keyF s.f = key → underB s.f.name z = true) : flL L z (fun q => left q && !q.sameKey (.string key)) = offL (flL L z left) key := by
  rw [flL, flL, offL, List.filter_filter]
  apply List.filter_congr
  intro s hs
  try dsimp only
  rw [sameKey_str]
  by_cases he : keyF s.f = key
  · rw [h s hs he]; simp [he]
  · simp [he]
structure FlSt (B : Nat) (W wr : World) (C M r n : Nat) (most stale : Int) (k : Nat) (L : List Slot) (z : List ByteArray) (left : Lit → Bool) (cnt : Nat) (D : DataW Unit) : Prop where
  rg : wr.ranges Tryz.prog 9 ptrR M r n D left cnt
  size : Maps.size D = (flL L z left).length
  at_ : ∀ key zd, D.atKey (.string key) zd = (match atL (flL L z left) key with | some s => .lit (.int .i64 s.b) | none => zd)
  ca : IsCache B wr C most stale k (flL L z left)
  blk : Blk wr C #[.int .i64 most, .int .i64 stale, .map (some M), .int .i64 k] 52
  left : Left B W wr
  only : ∀ b, b < W.heap.size → b ≠ M → wr.heap[b]? = W.heap[b]?
theorem IsCache.iter {B : Nat} {w w' : World} {C k r : Nat} {most stale : Int} {L : List Slot} (h : IsCache B w C most stale k L) (hg : w.grownBy w' (some r)) (hr : ∀ cs t q, w.heap[r]? ≠ some (.cells cs t q)) (hr2 : ∀ es c, w.heap[r]? ≠ some (.map es c)) (hB : B ≤ r) (hrl : r < w.heap.size) : IsCache B w' C most stale k L ∧ Left B w w' := by
  obtain ⟨M, a, b, c⟩ := h.ex
  have hMr : M ≠ r := by
    rintro rfl
    obtain ⟨_, _, ⟨es, clock, h1, _⟩, _⟩ := c
    exact hr2 _ _ h1
  have hbl : ∀ {g : Nat} {cs : Array Value} {T : TypeId}, Blk w g cs T → g ≠ r := by
    intro g cs T hx e
    subst e
    exact hr _ _ _ hx
  have same : Same (tagged gT w) w w' := fun b hb ht => hg.block b hb (fun e => by
    obtain ⟨cs, t, h1, _⟩ := ht
    exact hr _ _ _ (Option.some.inj e ▸ h1))
  refine ⟨⟨⟨M, a.but hg (hbl a), b, c.on (hg.block M c.lt (fun e => hMr (Option.some.inj e)))⟩, h.base, fun s hs => ?_, h.apart, h.keys, h.used, h.order⟩, (Below.refl B w).grown hg (by omega) (fun j e => by cases e; exact hB), same⟩
  obtain ⟨p, q, i, d⟩ := h.slot s hs
  exact ⟨p, q.but hg (hbl q), i.step (same.mono (fun _ _ ht => tagged_mono ht fT_gT)), d⟩
theorem iter_cells {w : World} {M r n cnt : Nat} {D : DataW Unit} {left : Lit → Bool} (h : w.ranges Tryz.prog 9 ptrR M r n D left cnt) : (∀ cs t q, w.heap[r]? ≠ some (.cells cs t q)) ∧ (∀ es c, w.heap[r]? ≠ some (.map es c)) := by
  obtain ⟨es, clock, since, seen, c0, h1, h2, h3, h4, h5, h6⟩ := h
  exact ⟨fun _ _ _ e => (by rw [h5] at e; cases e), fun _ _ e => (by rw [h5] at e; cases e)⟩
theorem del_reads {w : World} {M n : Nat} {L : List Slot} {D : DataW Unit} {key : List UInt8} {s : Slot} (h1 : w.ownsMap Tryz.prog 9 ptrR M n D) (h3 : Maps.size D = L.length) (h4 : ∀ key z, D.atKey (.string key) z = (match atL L key with | some s => .lit (.int .i64 s.b) | none => z))
    (hk : L.Pairwise fun a b => keyF a.f ≠ keyF b.f) (hat : atL L key = some s) : Maps.size (D.del (.string key)) = (offL L key).length ∧ ∀ kk z, (D.del (.string key)).atKey (.string kk) z = (match atL (offL L key) kk with | some s => .lit (.int .i64 s.b) | none => z) := by
  refine ⟨?_, fun kk z => ?_⟩
  · have hh : Maps.has D (.string key) = true := by
      have := h4 key
      rw [hat] at this
      exact Maps.has_true_of_atKey this
    have := Maps.size_del (k := .string key) (h1.tidy lawK)
    rw [hh, if_pos rfl, h3] at this
    have := off_len hk hat
    omega
  · rw [atL_off]
    by_cases he : kk = key
    · subst he
      rw [if_pos rfl, Maps.atKey_del_same]
    · rw [if_neg he, Maps.atKey_del_other (by intro e; cases e; exact he rfl), h4]
set_option maxHeartbeats 16000000 in
set_option maxRecDepth 100000 in
theorem flush_any (w : World) (B C : Nat) (most stale : Int) (k : Nat) (L : List Slot) (hC : IsCache B w C most stale k L) (za : Option Addr) (zl zc : Nat) (z : List ByteArray) (hz : Strs w za zl zc z) (hzi : rowIn (tagged gT w) za zl) :
    Calls Tryz.prog 11 #[.pointer (some ⟨C, 0, none⟩), .slice za zl zc] w fun e w' => e = .returned (.int .i64 ((L.length : Int) - ((overL L z).length : Int))) ∧ IsCache B w' C most stale k (overL L z) ∧ Left B w w' ∧ ∀ m, w.cell? ⟨C, 2, none⟩ = some (.map (some m)) → ∀ b, b < w.heap.size → b ≠ m → w'.heap[b]? = w.heap[b]? := by
  obtain ⟨M, hCb, hMB, hML⟩ := hC.ex
  have m2 : w.cell? ⟨C, 2, none⟩ = some (.map (some M)) := hCb.cell 2
  have hlen := hML.len
  have HLN := Lib.hid (show L.length ≤ 1000000 by
    obtain ⟨n, D, h1, h2, h3, _⟩ := hML
    have := h1.size_le
    omega)
  obtain ⟨n, D, h1, h2, h3, h4⟩ := hML
  have HC := Lib.hid (And.intro hC (And.intro hCb (And.intro hMB (And.intro h2 (And.intro h3 h4)))))
  have HO := Lib.hid h1
  have HZ := Lib.hid (And.intro hz hzi)
  clear hC hCb hMB h1 h2 h3 h4 hz hzi
  go_enter Tryz.func11, Tryz.ntmps11
  go_wp2_with (at_range; go_loud (refine wpList_range_own _ rfl _ 50 rfl 9 56 lawK Tryz.underlying50 ptrR M n D rfl HO.out ?_; intro W6 hrg0 hg0 hs0))
  try go_frame
  clear m2 hlen
  have hb6 : Below w.heap.size w W6 := (Below.refl _ _).grown hg0 (Nat.le_refl _) (fun k e => by cases e)
  have HST : Hid (FlSt B w W6 C M w.heap.size n most stale k L z (Maps.has D) (Maps.size D) D) := Lib.hid (by
    have hall : ∀ s ∈ L, Maps.has D (.string (keyF s.f)) = true := fun s hs => by
      have := HC.out.2.2.2.2.2 (keyF s.f)
      rw [atL_of_mem HC.out.1.keys hs] at this
      exact Maps.has_true_of_atKey this
    have e := fl_start (z := z) hall
    have hBw : B ≤ w.heap.size := by have := HC.out.1.base; have := HC.out.2.1.lt; omega
    exact ⟨hrg0, by rw [e]; exact HC.out.2.2.2.2.1, by rw [e]; exact HC.out.2.2.2.2.2, by rw [e]; exact HC.out.1.on hb6, HC.out.2.1.on hb6, Left.below hb6 hBw, fun b hb _ => hb6.block b hb⟩)
  have HBW := Lib.hid (show B ≤ w.heap.size by have := HC.out.1.base; have := HC.out.2.1.lt; omega)
  clear hrg0 hg0 hs0 hb6
  go_loopw [6] (fun _ wr => Hid (∃ left cnt D, FlSt B w wr C M w.heap.size n most stale k L z left cnt D)) (fun _ wr => wr.rangeLeft M w.heap.size)
  case atStart => exact Lib.hid ⟨_, _, _, HST.out⟩
  case round =>
    obtain ⟨left, cnt, D1, hst⟩ := hrel.out
    have HF := Lib.hid hst
    clear hrel hst
    go_wp2_with (at_next; refine wpList_next_ranges _ rfl _ rfl 9 lawK ptrR Value.string ptrO str_key ptrR_shape M w.heap.size n D1 left cnt rfl HF.out.rg ?_ ?_)
    · intro hc0 hl0
      have hfe := fl_end (L := L) (z := z) hl0
      have hca := HF.out.ca
      rw [hfe] at hca
      have HE := Lib.hid hca
      have q2 : wr.cell? ⟨C, 2, none⟩ = some (.map (some M)) := HF.out.blk.cell 2
      have hM : MapL wr M (overL L z) := by
        have h1 := HF.out.size
        have h2 := HF.out.at_
        rw [hfe] at h1 h2
        exact ⟨n, D1, HF.out.rg.owns, HC.out.2.2.2.1, h1, h2⟩
      have hlen := hM.len
      obtain ⟨a, ha⟩ : ∃ a, a = L.length := ⟨_, rfl⟩
      obtain ⟨b, hb⟩ : ∃ b, b = (overL L z).length := ⟨_, rfl⟩
      have ha1 : a ≤ 1000000 := by rw [ha]; exact HLN.out
      have hb1 : b ≤ a := by rw [ha, hb]; exact List.length_filter_le _ _
      rw [← hb] at hlen
      rw [← ha]
      have HAB := Lib.hid (And.intro ha hb)
      clear hl0 hfe hca hM ha hb
      go_wp2_with fail
      go_ret
      exact ⟨by rw [← HAB.out.1, ← HAB.out.2]; rfl, HE.out, HF.out.left, fun m hm b hb hne => HF.out.only b hb (fun e => hne (by
        have h2 := HC.out.2.1.cell 2
        rw [hm] at h2
        rw [e]
        injection h2 with h2; injection h2 with h2; injection h2 with h2; exact h2.symm))⟩
    · intro x o kl y1 y2 w1 cnt1 hxk hlk hRy hat hrg1 hlt hg1 hs1 hen
      obtain rfl := str_key_lit hxk
      obtain ⟨s, hsL, rfl, hxs⟩ := ptrO_at (y := (y1, y2)) HF.out.at_ hRy hat
      simp only [ptrO] at hen ⊢
      have hic := iter_cells HF.out.rg
      obtain ⟨hca1, hle1⟩ := HF.out.ca.iter hg1 hic.1 hic.2 HBW.out HF.out.rg.lt
      have hbl1 : Blk w1 C #[.int .i64 most, .int .i64 stale, .map (some M), .int .i64 k] 52 := HF.out.blk.but hg1 (by rintro rfl; exact hic.1 _ _ _ HF.out.blk)
      have hon1 : ∀ b, b < w.heap.size → b ≠ M → w1.heap[b]? = w.heap[b]? := fun b hb hne => (hg1.block b (by have := HF.out.rg.lt; omega) (fun e => by have := Option.some.inj e; omega)).trans (HF.out.only b hb hne)
      have HC1 := Lib.hid (And.intro hca1 (And.intro hbl1 (And.intro (HF.out.left.trans hle1) hon1)))
      have HR1 := Lib.hid (And.intro hrg1 hlt)
      have HSL := Lib.hid (And.intro hsL hxs)
      have hit := (hca1.slot s hsL).2.1
      have hnm := (hca1.slot s hsL).2.2.1.name
      have q0 : w1.cell? ⟨s.b, 0, none⟩ = some (.slice s.h.na s.h.nl s.h.nc) := hit.cell 0
      have HUN := Lib.hid (under_any w1 _ _ _ _ _ _ s.f.name z hnm (HZ.out.1.keep HZ.out.2 HC1.out.2.2.1.same))
      have HSB := Lib.hid ((List.mem_filter.1 hsL).1)
      clear hxk hlk hRy hat hrg1 hlt hg1 hs1 hsL hxs hic hca1 hle1 hbl1 hit hnm hon1
      cases hun : underB s.f.name z with
      | false =>
        rw [hun] at HUN
        have HU := Lib.hid hun
        clear hun
        go_wp2_with (go_at_call 28; go_loud (refine HUN.out.mono ?_; rintro e w2 ⟨rfl, hb2⟩; have HB2 := Lib.hid hb2; clear hb2 hen q0))
        go_roundw
        case rel =>
          have hfs := fl_stay (L := L) (z := z) (left := left) (key := x.data.toList) (fun t ht e => by rw [key_inj HC.out.1.keys ht HSB.out (e.trans HSL.out.2)]; exact HU.out)
          have hrg2 := ranges_on HR1.out.1 (HB2.out.block M HR1.out.1.owns.lt) (HB2.out.block _ HR1.out.1.lt)
          exact Lib.hid ⟨_, _, D1, hrg2, by rw [hfs]; exact HF.out.size, by rw [hfs]; exact HF.out.at_, by rw [hfs]; exact HC1.out.1.on HB2.out, HC1.out.2.1.on HB2.out, HC1.out.2.2.1.trans (Left.below HB2.out (by have := HC1.out.1.base; have := HC1.out.2.1.lt; omega)), fun b hb hne => (HB2.out.block b (by have := HR1.out.1.lt; omega)).trans (HC1.out.2.2.2 b hb hne)⟩
        case measure =>
          have hrg2 := ranges_on HR1.out.1 (HB2.out.block M HR1.out.1.owns.lt) (HB2.out.block _ HR1.out.1.lt)
          rw [hrg2.left_eq, HF.out.rg.left_eq]; exact HR1.out.2
      | true =>
        rw [hun] at HUN
        have HU := Lib.hid hun
        clear hun
        have hkey : keyOf Tryz.prog 9 (.string x) = some (.string x.data.toList) := by
          have : x = ⟨(keyF s.f).toArray⟩ := by rw [← HSL.out.2]
          rw [this]; exact keyStr (by have := fact_small (HF.out.ca.slot s HSL.out.1).2.2.2.1; rw [keyF, keyP_size]; omega)
        have HKY := Lib.hid hkey
        clear hkey
        go_wp2_with (first | (go_at_call 28; go_loud (refine HUN.out.mono ?_; rintro e w2 ⟨rfl, hb2⟩; have HB2 := Lib.hid hb2; have q2 : w2.cell? ⟨C, 2, none⟩ = some (.map (some M)) := (HC1.out.2.1.on hb2).cell 2; clear hb2 hen q0)) | (at_delete; go_loud (refine wpList_delete_ranges _ rfl _ _ 50 9 rfl 56 lawK Tryz.underlying50 ptrR M w.heap.size n D1 (fun z => left z && !z.sameKey (.string x.data.toList)) cnt1 rfl (ranges_on HR1.out.1 (HB2.out.block M HR1.out.1.owns.lt) (HB2.out.block _ HR1.out.1.lt)) _ _ rfl HKY.out ?_; intro w3 cnt3 hrg3 hle3 hturn; rw [Maps.strike_twice] at hrg3; have HD3 := Lib.hid (And.intro hrg3 (And.intro hle3 hturn)); clear hrg3 hle3 hturn q2; try go_frame)))
        go_roundw
        case rel =>
          have hfd := fl_drop (L := L) (z := z) (left := left) (key := x.data.toList) (fun t ht e => by rw [key_inj HC.out.1.keys ht HSB.out (e.trans HSL.out.2)]; exact HU.out)
          have hrg2 := ranges_on HR1.out.1 (HB2.out.block M HR1.out.1.owns.lt) (HB2.out.block _ HR1.out.1.lt)
          have hat := atL_of_mem HF.out.ca.keys HSL.out.1
          rw [← HSL.out.2] at hat
          have hM3 := MapL.dropped hrg2.owns HC.out.2.2.2.1 HF.out.size HF.out.at_ HF.out.ca.keys hat HD3.out.1.owns
          have hca2 := HC1.out.1.on HB2.out
          have hbl2 := HC1.out.2.1.on HB2.out
          obtain ⟨t1, t2⟩ := sub_law (offL_sub _ _) hca2 hbl2 HC.out.2.2.1 ⟨n, D1, hrg2.owns, HC.out.2.2.2.1, HF.out.size, HF.out.at_⟩ hM3 HD3.out.2.2.grown
          have hCM := blk_map_ne hbl2 ⟨n, D1, hrg2.owns, HC.out.2.2.2.1, HF.out.size, HF.out.at_⟩
          have hBl : B ≤ w1.heap.size := by have := HC1.out.1.base; have := HC1.out.2.1.lt; omega
          obtain ⟨r1, r2⟩ := del_reads hrg2.owns HF.out.size HF.out.at_ HF.out.ca.keys hat
          rw [← hfd] at t1 r1 r2
          exact Lib.hid ⟨_, _, _, HD3.out.1, r1, r2, t1, hbl2.but HD3.out.2.2.grown hCM, (HC1.out.2.2.1.trans (Left.below HB2.out hBl)).trans t2, fun b hb hne => (HD3.out.2.2.grown.block b (by have := HR1.out.1.lt; have := HB2.out.size; omega) (fun e => hne (Option.some.inj e))).trans ((HB2.out.block b (by have := HR1.out.1.lt; omega)).trans (HC1.out.2.2.2 b hb hne))⟩
        case measure => rw [HD3.out.1.left_eq, HF.out.rg.left_eq]; have := HR1.out.2; have := HD3.out.2.1; omega
end Go.Proofs.YtpemdieejgldiaaGreat

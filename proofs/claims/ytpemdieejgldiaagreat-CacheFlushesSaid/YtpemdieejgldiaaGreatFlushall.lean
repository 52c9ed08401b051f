/- Merged texts: Call, Csort, Ccopyl, Callw, Callx, Freach, TmpsMix, Flushes. -/
import Derived.Test.YtpemdieejgldiaaGreatCflush
import Derived.Test.YtpemdieejgldiaaGreatShelfS
import Derived.Test.YtpemdieejgldiaaGreatFown
import Derived.Test.YtpemdieejgldiaaGreatFact
import Derived.Test.YtpemdieejgldiaaGreatRows
import Derived.LaidLaws
import Derived.Test.YtpemdieejgldiaaGreatTmpsSame
import Derived.Test.YtpemdieejgldiaaGreatAnswers
import Derived.Test.YtpemdieejgldiaaGreatLight
import Derived.Test.YtpemdieejgldiaaGreatTailp
import Derived.Test.YtpemdieejgldiaaGreatRownfact
import Derived.Test.YtpemdieejgldiaaGreatRfsame
namespace Go.Proofs.YtpemdieejgldiaaGreat
section
open Go.ChangeShapes Go.WideShapes Go.ChangeAt Go.RowKit

set_option maxHeartbeats 16000000 in
set_option maxRecDepth 100000 in
theorem allcmp_any (w : World) (s t : Slot) (hs : Blk w s.b (itemC s) 59) (ht : Blk w t.b (itemC t) 59) (h1 : s.used < 4000000000000000000) (h2 : t.used < 4000000000000000000) :
    Calls Tryz.prog 26 #[.pointer (some ⟨s.b, 0, none⟩), .pointer (some ⟨t.b, 0, none⟩)] w fun e w' => e = .returned (.int .i64 ((s.used : Int) - t.used)) ∧ ∃ n, w' = w.drewN n := by
  have HM0 := Lib.hid (show w.drew.cell? ⟨s.b, 13, none⟩ = some (.int .i64 (s.used : Int)) from hs.cell 13)
  have HM1 := Lib.hid (show w.drew.cell? ⟨t.b, 13, none⟩ = some (.int .i64 (t.used : Int)) from ht.cell 13)
  clear hs ht
  go_enter Tryz.func26, Tryz.ntmps26
  go_wp2_with fail
  have m0 := HM0.out
  have m1 := HM1.out
  go_region
  go_wp2_with fail
  go_ret
  exact ⟨rfl, 1, rfl⟩
end
section
open Go.ChangeShapes Go.WideShapes Go.ChangeAt Go.RowKit Go.Shelf Go.Sort Go.Lib

abbrev InL (T : List Slot) := {s : Slot // s ∈ T}
def ptrE (T : List Slot) (x : InL T) : Value := .pointer (some ⟨x.1.b, 0, none⟩)
def usedC (T : List Slot) (x y : InL T) : Int := (x.1.used : Int) - y.1.used
theorem ltU {T : List Slot} (x y : InL T) : ltOf (usedC T) x y = decide (x.1.used < y.1.used) := by
  have : ((x.1.used : Int) - y.1.used < 0) ↔ x.1.used < y.1.used := by omega
  show decide (((x.1.used : Int) - y.1.used) < 0) = _
  exact decide_eq_decide.2 this
theorem usedC_swo (T : List Slot) : SWO (ltOf (usedC T)) := by
  refine ⟨fun x => ?_, fun x y z h1 h2 => ?_, fun x y z h1 h2 => ?_⟩
  · simp [ltU]
  · simp only [ltU, decide_eq_true_eq] at h1 h2 ⊢; omega
  · simp only [ltU, decide_eq_false_iff_not] at h1 h2 ⊢; omega
theorem used_inj {L : List Slot} (h : L.Pairwise fun a b => a.used < b.used) {x y : Slot} (hx : x ∈ L) (hy : y ∈ L) (he : x.used = y.used) : x = y := by
  induction L with
  | nil => cases hx
  | cons a L ih =>
    obtain ⟨h1, h2⟩ := List.pairwise_cons.1 h
    rcases List.mem_cons.1 hx with ex | hx'
    · rcases List.mem_cons.1 hy with ey | hy'
      · rw [ex, ey]
      · have := h1 y hy'; rw [← ex] at this; omega
    · rcases List.mem_cons.1 hy with ey | hy'
      · have := h1 x hx'; rw [← ey] at this; omega
      · exact ih h2 hx' hy'
/-- two rows of the same items, both in the order of use, are one -/
theorem used_one : ∀ {L T : List Slot}, L.Pairwise (fun a b => a.used < b.used) → T.Pairwise (fun a b => a.used ≤ b.used) → T.Perm L → T = L
  | [], T, _, _, hp => hp.eq_nil
  | a :: L, [], _, _, hp => absurd hp.symm.eq_nil (by simp)
  | a :: L, b :: T, h1, h2, hp => by
    obtain ⟨p1, p2⟩ := List.pairwise_cons.1 h1
    obtain ⟨q1, q2⟩ := List.pairwise_cons.1 h2
    have hb : b ∈ a :: L := hp.subset (List.mem_cons_self ..)
    have ha : a ∈ b :: T := hp.symm.subset (List.mem_cons_self ..)
    have e : b = a := by
      rcases List.mem_cons.1 hb with e | hb'
      · exact e
      · rcases List.mem_cons.1 ha with e | ha'
        · exact e.symm
        · have := p1 b hb'; have := q1 a ha'; omega
    subst e
    rw [used_one p2 q2 (List.Perm.cons_inv hp)]
theorem sort_block {α : Type} [Inhabited α] (enc : α → Value) (w : World) (blk off m : Nat) (dk : Array α) (os : Array Obj) {b : Nat} (hb : b < w.heap.size) (hne : b ≠ blk) : (sortWorld enc w blk off m dk os).heap[b]? = w.heap[b]? := by
  unfold sortWorld
  rw [heap_grow_old _ _ (by simp [Go.Sort.ahead]; exact hb)]
  simp [putRow, mapBlock, Go.Sort.ahead, Array.getElem?_modify, Ne.symm hne]
/-- the items' pointers, sorted -/
theorem sortptr_any (c0 : Array Value) (w : World) (L T : List Slot) (hp : T.Perm L) (hne : T ≠ []) (ho : L.Pairwise fun a b => a.used < b.used) (hu : ∀ s ∈ L, s.used < 4000000000000000000) (hI : ∀ s ∈ L, Blk w s.b (itemC s) 59) (blk cap : Nat) (hblk : blk < w.heap.size) (hsb : ∀ s ∈ L, s.b ≠ blk) (hsz : T.length < 1000000)
    (hB0 : Blk w blk c0 56) (hR : ∀ i (h : i < T.length), w.cell? ⟨blk, 0 + i, none⟩ = some (.pointer (some ⟨T[i].b, 0, none⟩)) ∧ w.frozen? ⟨blk, 0 + i, none⟩ = false) :
    Calls Tryz.prog 25 #[.slice (some ⟨blk, 0, none⟩) T.length cap, .func (.func 26) #[] #[]] w fun e w' => e = .returned (.tuple #[]) ∧ (∀ i (h : i < L.length), w'.cell? ⟨blk, 0 + i, none⟩ = some (.pointer (some ⟨L[i].b, 0, none⟩))) ∧ w.grownBy w' (some blk) ∧ ∃ c1, Blk w' blk c1 56 := by
  haveI : Inhabited (InL T) := ⟨⟨T.head hne, List.head_mem hne⟩⟩
  have hd : (T.attach.toArray).size = T.length := by simp
  have hH : Holds (ptrE T) w blk 0 T.attach.toArray := fun j hj => by
    rw [hd] at hj
    have h1 := hR j hj
    rw [getElem!_pos _ j (by simpa using hj)]
    simpa [ptrE] using h1
  have h := Any.slices_SortFunc_total Tryz.sortF (ptrE T) (fun _ => rfl) (usedC T) (usedC_swo T) 26 #[] blk 0 cap T.attach.toArray w (enters_of Tryz.func26 (by kernel_rfl) rfl)
    (CmpReads.lays (fun m os dk hs x y => by
      have hx := hp.subset x.2
      have hy := hp.subset y.2
      have bx : Blk (sortWorld (ptrE T) w blk 0 m dk os) x.1.b (itemC x.1) 59 := (sort_block _ _ _ _ _ _ _ (hI _ hx).lt (hsb _ hx)).trans (hI _ hx)
      have by_ : Blk (sortWorld (ptrE T) w blk 0 m dk os) y.1.b (itemC y.1) 59 := (sort_block _ _ _ _ _ _ _ (hI _ hy).lt (hsb _ hy)).trans (hI _ hy)
      exact allcmp_any _ x.1 y.1 bx by_ (hu _ hx) (hu _ hy)))
    hH hblk (by rw [hd]; omega) (fun x y h1 h2 => Subtype.ext (used_inj ho (hp.subset x.2) (hp.subset y.2) (by simp only [ltU, decide_eq_false_iff_not] at h1 h2; omega)))
  rw [hd] at h
  change Calls Tryz.prog 25 _ _ _ at h
  refine h.mono ?_
  rintro e w' ⟨he, n, os, hw⟩
  have hsorted := List.pairwise_mergeSort (le := fun x y : InL T => !(ltOf (usedC T)) y x) (fun x y z h1 h2 => by simp only [ltU, Bool.not_eq_true', decide_eq_false_iff_not] at h1 h2 ⊢; omega) (fun x y => by simp only [ltU, Bool.or_eq_true, Bool.not_eq_true', decide_eq_false_iff_not]; omega) T.attach
  have hperm := List.mergeSort_perm T.attach (fun x y : InL T => !(ltOf (usedC T)) y x)
  have hL : (T.attach.mergeSort fun x y : InL T => !(ltOf (usedC T)) y x).map (·.1) = L := by
    refine used_one ho ?_ (((hperm.map (·.1)).trans (by simp)).trans hp)
    refine List.pairwise_map.2 (hsorted.imp fun {x y} hxy => ?_)
    simp only [ltU, Bool.not_eq_true', decide_eq_false_iff_not] at hxy; omega
  have hlen := congrArg List.length hL
  rw [List.length_map] at hlen
  refine ⟨he, fun i hi => ?_, ⟨by rw [hw]; rfl, by rw [hw]; rfl, by rw [hw]; rfl, ?_, fun b hb hne => ?_⟩, ?_⟩
  · rw [hw]
    have hh := (holds_sortWorld (ptrE T) w blk 0 n T.attach.toArray (T.attach.mergeSort fun x y : InL T => !(ltOf (usedC T)) y x).toArray os hblk hH (by simp)) i (by simp at hlen ⊢; omega)
    have hi' : i < (T.attach.mergeSort fun x y : InL T => !(ltOf (usedC T)) y x).length := by omega
    rw [getElem!_pos _ i (by simpa using hi')] at hh
    have hLi : L[i] = ((T.attach.mergeSort fun x y : InL T => !(ltOf (usedC T)) y x)[i]'hi').1 := by
      simp only [← hL, List.getElem_map]
    rw [hLi]
    have := hh.1
    simpa [ptrE] using this
  · rw [hw]; exact SW.le ⟨n, _, rfl⟩
  · rw [hw]; exact sort_block _ _ _ _ _ _ _ hb (fun e => hne (by rw [e]))
  · refine ⟨putCells (ptrE T) 0 (T.attach.mergeSort fun x y : InL T => !(ltOf (usedC T)) y x).toArray c0, ?_⟩
    rw [hw]
    show (sortWorld _ _ _ _ _ _ _).heap[blk]? = _
    unfold sortWorld
    rw [heap_grow_old _ _ (by simp [Go.Sort.ahead]; exact hblk)]
    have hB0' : w.heap[blk]? = some (.cells c0 56 (0, 0)) := hB0
    simp [putRow, mapBlock, Go.Sort.ahead, Array.getElem?_modify, hB0', onCells]
end
section
open Go.ChangeShapes Go.WideShapes Go.ChangeAt Go.RowKit

/-- those that have been copied -/
def cpL (L : List Slot) (left : Lit → Bool) (g : Slot → Slot) : List Slot := (L.filter fun s => !left (.string (keyF s.f))).map g
theorem atL_cp {L : List Slot} {left : Lit → Bool} {g : Slot → Slot} (hk : L.Pairwise fun a b => keyF a.f ≠ keyF b.f) (hg : ∀ s ∈ L, (g s).f = s.f) (key : List UInt8) :
    atL (cpL L left g) key = (match atL L key with | some s => if left (.string key) = true then none else some (g s) | none => none) := by
  induction L with
  | nil => rfl
  | cons a L ih =>
    obtain ⟨h1, h2⟩ := List.pairwise_cons.1 hk
    have ih := ih h2 (fun s hs => hg s (List.mem_cons_of_mem _ hs))
    have hga := hg a (List.mem_cons_self ..)
    by_cases ha : keyF a.f = key
    · have hn : atL L key = none := List.find?_eq_none.2 fun y hy => by simp; exact fun e => h1 y hy (ha.trans e.symm)
      have e1 : atL (a :: L) key = some a := by simp [atL, ha]
      rw [e1]
      show atL _ key = if left (.string key) = true then none else some (g a)
      by_cases hl : left (.string key) = true
      · rw [cpL, List.filter_cons_of_neg (by simp [ha, hl])]
        rw [hn] at ih
        rw [if_pos hl]; exact ih
      · rw [cpL, List.filter_cons_of_pos (by simp [ha, hl]), List.map_cons, if_neg hl]
        simp [atL, hga, ha]
    · have e1 : atL (a :: L) key = atL L key := by simp [atL, ha]
      rw [e1, ← ih]
      by_cases hl : left (.string (keyF a.f)) = true
      · rw [cpL, List.filter_cons_of_neg (by simp [hl])]; rfl
      · rw [cpL, List.filter_cons_of_pos (by simp [hl]), List.map_cons]
        simp only [atL, cpL]
        rw [List.find?_cons_of_neg (by simp [hga, ha])]
theorem MapL.same_at {w : World} {M : Nat} {L T : List Slot} (h : MapL w M L) (hl : L.length = T.length) (ha : ∀ key, (atL L key).map (·.b) = (atL T key).map (·.b)) : MapL w M T := by
  obtain ⟨n, D, h1, h2, h3, h4⟩ := h
  refine ⟨n, D, h1, h2, h3.trans hl, fun key z => ?_⟩
  rw [h4]
  have := ha key
  cases h5 : atL L key <;> cases h6 : atL T key <;> rw [h5, h6] at this <;> simp at this ⊢
  rw [this]
theorem cp_len {L : List Slot} {left : Lit → Bool} {g g' : Slot → Slot} (hk : L.Pairwise fun a b => keyF a.f ≠ keyF b.f) {s : Slot} (hs : s ∈ L) (hl : left (.string (keyF s.f)) = true) :
    (cpL L (fun q => left q && !q.sameKey (.string (keyF s.f))) g').length = (cpL L left g).length + 1 := by
  simp only [cpL, List.length_map]
  induction L with
  | nil => cases hs
  | cons a L ih =>
    obtain ⟨h1, h2⟩ := List.pairwise_cons.1 hk
    rcases List.mem_cons.1 hs with e | hs'
    · subst e
      have hsame : ∀ t ∈ L, (!(left (.string (keyF t.f)) && !(Lit.string (keyF t.f)).sameKey (.string (keyF s.f)))) = !left (.string (keyF t.f)) := fun t ht => by
        rw [sameKey_str]
        have : ¬ keyF t.f = keyF s.f := fun e => h1 t ht e.symm
        simp [this]
      rw [List.filter_cons_of_pos (by rw [sameKey_str]; simp), List.filter_cons_of_neg (by simp [hl]), List.length_cons, List.filter_congr hsame]
    · have ih := ih h2 hs'
      have hne : ¬ keyF a.f = keyF s.f := h1 s hs'
      by_cases hla : left (.string (keyF a.f)) = true
      · rw [List.filter_cons_of_neg (by rw [sameKey_str]; simp [hla, hne]), List.filter_cons_of_neg (by simp [hla])]
        exact ih
      · rw [List.filter_cons_of_pos (by rw [sameKey_str]; simp [hla]), List.filter_cons_of_pos (by simp [hla]), List.length_cons, List.length_cons, ih]
theorem pw_map {α β : Type} {R : α → α → Prop} {Q : β → β → Prop} {g : α → β} : ∀ {l : List α}, l.Pairwise R → (∀ a ∈ l, ∀ b ∈ l, R a b → Q (g a) (g b)) → (l.map g).Pairwise Q
  | [], _, _ => List.Pairwise.nil
  | a :: l, h, hq => by
    obtain ⟨h1, h2⟩ := List.pairwise_cons.1 h
    refine List.pairwise_cons.2 ⟨fun b hb => ?_, pw_map h2 (fun x hx y hy => hq x (List.mem_cons_of_mem _ hx) y (List.mem_cons_of_mem _ hy))⟩
    obtain ⟨x, hx, rfl⟩ := List.mem_map.1 hb
    exact hq a (List.mem_cons_self ..) x (List.mem_cons_of_mem _ hx) (h1 x hx)
theorem cp_mem {L : List Slot} {left : Lit → Bool} {g : Slot → Slot} {x : Slot} (h : x ∈ cpL L left g) : ∃ s ∈ L, left (.string (keyF s.f)) = false ∧ x = g s := by
  obtain ⟨s, hs, rfl⟩ := List.mem_map.1 h
  obtain ⟨h1, h2⟩ := List.mem_filter.1 hs
  exact ⟨s, h1, by simpa using h2, rfl⟩
theorem pair_ne2 {L : List Slot} (h : L.Pairwise fun a b => a.b ≠ b.b) {x y : Slot} (hx : x ∈ L) (hy : y ∈ L) (hne : keyF x.f ≠ keyF y.f) : x.b ≠ y.b := by
  induction L with
  | nil => cases hx
  | cons a L ih =>
    obtain ⟨h1, h2⟩ := List.pairwise_cons.1 h
    rcases List.mem_cons.1 hx with ex | hx'
    · rcases List.mem_cons.1 hy with ey | hy'
      · exact absurd (by rw [ex, ey]) hne
      · rw [ex]; exact h1 y hy'
    · rcases List.mem_cons.1 hy with ey | hy'
      · rw [ey]; exact fun e => h1 x hx' e.symm
      · exact ih h2 hx' hy'
/-- one more has been copied -/
theorem cp_step {B : Nat} {W1 W2 W3 : World} {D k M X : Nat} {most stale : Int} {L : List Slot} {left : Lit → Bool} {g : Slot → Slot} {s : Slot} {kk : FactH} (hk : L.Pairwise fun a b => keyF a.f ≠ keyF b.f) (hord : L.Pairwise fun a b => a.used < b.used) (hu : ∀ t ∈ L, t.used ≤ k)
    (hg : ∀ t ∈ L, (g t).f = t.f ∧ (g t).used = t.used) (hs : s ∈ L) (hl : left (.string (keyF s.f)) = true)
    (hC : IsCache B W1 D most stale k (cpL L left g)) (hDb : Blk W1 D #[.int .i64 most, .int .i64 stale, .map (some M), .int .i64 k] 52) (hMB : B ≤ M) (hML : MapL W1 M (cpL L left g))
    (h12 : Below W1.heap.size W1 W2) (hX : W1.heap.size ≤ X) (hXb : Blk W2 X (itemC ⟨X, kk, s.f, s.used⟩) 59) (hF : IsFact (tagged fT W2) W2 kk s.f) (hfB : factB s.f = true) (hlen : FLen s.f)
    (hM3 : MapL W3 M (offL (cpL L left g) (keyF s.f) ++ [⟨X, kk, s.f, s.used⟩])) (g3 : W2.grownBy W3 (some M)) :
    ∃ g', (∀ t ∈ L, (g' t).f = t.f ∧ (g' t).used = t.used) ∧ IsCache B W3 D most stale k (cpL L (fun q => left q && !q.sameKey (.string (keyF s.f))) g') ∧ Blk W3 D #[.int .i64 most, .int .i64 stale, .map (some M), .int .i64 k] 52 ∧ MapL W3 M (cpL L (fun q => left q && !q.sameKey (.string (keyF s.f))) g') := by
  have hDM := blk_map_ne hDb hML
  have hM2 := hML.on (h12.block M hML.lt)
  have hXM := blk_map_ne hXb hM2
  refine ⟨fun t => if keyF t.f = keyF s.f then ⟨X, kk, s.f, s.used⟩ else g t, ?_⟩
  have hg' : ∀ t ∈ L, ((if keyF t.f = keyF s.f then (⟨X, kk, s.f, s.used⟩ : Slot) else g t)).f = t.f ∧ ((if keyF t.f = keyF s.f then (⟨X, kk, s.f, s.used⟩ : Slot) else g t)).used = t.used := fun t ht => by
    by_cases he : keyF t.f = keyF s.f
    · rw [if_pos he, key_inj hk ht hs he]; exact ⟨rfl, rfl⟩
    · rw [if_neg he]; exact hg t ht
  have hD3 : Blk W3 D #[.int .i64 most, .int .i64 stale, .map (some M), .int .i64 k] 52 := (hDb.on h12).but g3 hDM
  have hnone : atL (cpL L left g) (keyF s.f) = none := by rw [atL_cp hk (fun t ht => (hg t ht).1), atL_of_mem hk hs]; simp [hl]
  rw [off_none hnone] at hM3
  have hMM : MapL W3 M (cpL L (fun q => left q && !q.sameKey (.string (keyF s.f))) (fun t => if keyF t.f = keyF s.f then ⟨X, kk, s.f, s.used⟩ else g t)) := by
    refine hM3.same_at (by rw [List.length_append, List.length_singleton]; exact (cp_len hk hs hl).symm) (fun key => ?_)
    rw [atL_snoc, atL_cp hk (fun t ht => (hg t ht).1), atL_cp hk (fun t ht => (hg' t ht).1)]
    by_cases hks : key = keyF s.f
    · subst hks
      rw [atL_of_mem hk hs, sameKey_str]
      simp [hl]
    · have hks' : ¬ keyF s.f = key := fun e => hks e.symm
      cases hat : atL L key with
      | none => simp [hks']
      | some t =>
        have htk := (atL_mem hat).2
        have : ¬ keyF t.f = keyF s.f := fun e => hks (htk.symm.trans e)
        rw [sameKey_str]
        by_cases hlt : left (.string key) = true <;> simp [hlt, hks, hks', this]
  refine ⟨hg', ⟨⟨M, hD3, hMB, hMM⟩, hC.base, fun x hx => ?_, ?_, ?_, fun x hx => ?_, ?_⟩, hD3, hMM⟩
  · obtain ⟨t, ht, hlt, rfl⟩ := cp_mem hx
    by_cases he : keyF t.f = keyF s.f
    · rw [if_pos he]
      refine ⟨?_, hXb.but g3 hXM, hF.step (fun b hb ht => g3.block b hb (fun e => tagged_mapL hM2 ht (Option.some.inj e))), hfB, hlen⟩
      have := hC.base; have := hDb.lt
      show B ≤ X
      omega
    · rw [if_neg he]
      have hlt2 : left (.string (keyF t.f)) = false := by rw [sameKey_str] at hlt; simpa [he] using hlt
      have hin : g t ∈ cpL L left g := List.mem_map.2 ⟨t, List.mem_filter.2 ⟨ht, by simp [hlt2]⟩, rfl⟩
      obtain ⟨p, q, i, d⟩ := hC.slot _ hin
      have q2 := q.on h12
      exact ⟨p, q2.but g3 (blk_map_ne q2 hM2), (i.step (Same.below h12 _)).step (fun b hb ht => g3.block b hb (fun e => tagged_mapL hM2 ht (Option.some.inj e))), d⟩
  · refine pw_map (R := fun a b => keyF a.f ≠ keyF b.f) (hk.sublist List.filter_sublist) (fun a ha b hb hab => ?_)
    obtain ⟨ha1, ha2⟩ := List.mem_filter.1 ha
    obtain ⟨hb1, hb2⟩ := List.mem_filter.1 hb
    have old : ∀ t ∈ L, (!(left (.string (keyF t.f)) && !(Lit.string (keyF t.f)).sameKey (.string (keyF s.f)))) = true → ¬ keyF t.f = keyF s.f → (g t).b < W1.heap.size ∧ g t ∈ cpL L left g := fun t ht h1 he => by
      have hlt2 : left (.string (keyF t.f)) = false := by rw [sameKey_str] at h1; simpa [he] using h1
      have hin : g t ∈ cpL L left g := List.mem_map.2 ⟨t, List.mem_filter.2 ⟨ht, by simp [hlt2]⟩, rfl⟩
      exact ⟨(hC.slot _ hin).2.1.lt, hin⟩
    by_cases ea : keyF a.f = keyF s.f
    · have eb : ¬ keyF b.f = keyF s.f := fun e => hab (ea.trans e.symm)
      rw [if_pos ea, if_neg eb]
      have := (old b hb1 hb2 eb).1
      show X ≠ (g b).b
      omega
    · by_cases eb : keyF b.f = keyF s.f
      · rw [if_neg ea, if_pos eb]
        have := (old a ha1 ha2 ea).1
        show (g a).b ≠ X
        omega
      · rw [if_neg ea, if_neg eb]
        refine pair_ne2 hC.apart (old a ha1 ha2 ea).2 (old b hb1 hb2 eb).2 ?_
        rw [(hg a ha1).1, (hg b hb1).1]; exact hab
  · refine pw_map (R := fun a b => keyF a.f ≠ keyF b.f) (hk.sublist List.filter_sublist) (fun a ha b hb hab => ?_)
    rw [(hg' a (List.mem_filter.1 ha).1).1, (hg' b (List.mem_filter.1 hb).1).1]; exact hab
  · obtain ⟨t, ht, _, rfl⟩ := cp_mem hx
    rw [(hg' t ht).2]; exact hu t ht
  · refine pw_map (R := fun a b => a.used < b.used) (hord.sublist List.filter_sublist) (fun a ha b hb hab => ?_)
    rw [(hg' a (List.mem_filter.1 ha).1).2, (hg' b (List.mem_filter.1 hb).1).2]; exact hab
end
section
open Go.ChangeShapes Go.WideShapes Go.ChangeAt Go.RowKit

/-- a row of pointers to items -/
def ptrK : Kind Slot where
  H := Unit
  size := 1
  cells := fun _ s => #[.pointer (some ⟨s.b, 0, none⟩)]
  is := fun _ _ _ _ => True
  hsize := fun _ _ => rfl
  pos := by decide
  one := fun h x u hu => by
    simp at hu
    rw [hu]; rfl
  mono := fun h _ => h
  keep := fun h _ => h
/-- those that have been collected -/
def seenL (L : List Slot) (left : Lit → Bool) : List Slot := L.filter fun s => !left (.string (keyF s.f))
theorem seen_step {L : List Slot} {left : Lit → Bool} (hk : L.Pairwise fun a b => keyF a.f ≠ keyF b.f) {s : Slot} (hs : s ∈ L) (hl : left (.string (keyF s.f)) = true) {T : List Slot} (hT : T.Perm (seenL L left)) :
    (T ++ [s]).Perm (seenL L (fun q => left q && !q.sameKey (.string (keyF s.f)))) := by
  refine (hT.append_right [s]).trans ?_
  clear hT
  simp only [seenL]
  induction L with
  | nil => cases hs
  | cons a L ih =>
    obtain ⟨h1, h2⟩ := List.pairwise_cons.1 hk
    rcases List.mem_cons.1 hs with e | hs'
    · subst e
      have hsame : ∀ t ∈ L, (!(left (.string (keyF t.f)) && !(Lit.string (keyF t.f)).sameKey (.string (keyF s.f)))) = !left (.string (keyF t.f)) := fun t ht => by
        rw [sameKey_str]
        have : ¬ keyF t.f = keyF s.f := fun e => h1 t ht e.symm
        simp [this]
      have e1 : (!left (.string (keyF s.f))) = false := by simp [hl]
      have e2 : (!(left (.string (keyF s.f)) && !(Lit.string (keyF s.f)).sameKey (.string (keyF s.f)))) = true := by rw [sameKey_str]; simp
      simp only [List.filter_cons, e1, e2, if_true, Bool.false_eq_true, if_false]
      rw [List.filter_congr hsame]
      exact List.perm_append_singleton _ _
    · have ih := ih h2 hs'
      have hne : ¬ keyF a.f = keyF s.f := h1 s hs'
      have hsk : (Lit.string (keyF a.f)).sameKey (.string (keyF s.f)) = false := by rw [sameKey_str]; simp [hne]
      cases hla : left (.string (keyF a.f)) with
      | true =>
        simp only [List.filter_cons, hla, hsk, Bool.not_true, Bool.not_false, Bool.and_self, Bool.false_eq_true, if_false]
        exact ih
      | false =>
        simp only [List.filter_cons, hla, hsk, Bool.not_false, Bool.false_and, if_true, List.cons_append]
        exact ih.cons a
theorem seen_all {L : List Slot} {left : Lit → Bool} (h : ∀ kl, left kl = false) : seenL L left = L := List.filter_eq_self.2 fun s _ => by simp [h]
theorem seen_none {L : List Slot} {left : Lit → Bool} (h : ∀ s ∈ L, left (.string (keyF s.f)) = true) : seenL L left = [] := by
  rw [seenL, List.filter_eq_nil_iff]
  intro s hs; simp [h s hs]
theorem ptrParts : ∃ (i0 : TypeInfo) (z : Value), Tryz.prog.info? 56 = some i0 ∧ i0.zero = some z ∧ i0.size = 1 ∧ z.cells.size = 1 ∧ i0.bytes ≤ 1000 := by
  have h : (Tryz.prog.info? 56).map (fun i => (i.zero.map (·.cells.size), i.size, decide (i.bytes ≤ 1000))) = some (some 1, 1, true) := by kernel_rfl
  obtain ⟨i0, hi, hii⟩ := Option.map_eq_some_iff.1 h
  simp only [Prod.mk.injEq, decide_eq_true_eq] at hii
  obtain ⟨z, hz, hzs⟩ := Option.map_eq_some_iff.1 hii.1
  exact ⟨i0, z, hi, hz, hii.2.1, hzs, hii.2.2⟩
/-- what the first loop keeps -/
structure AlSt (w wr : World) (M r n : Nat) (D : DataW Unit) (L : List Slot) (left : Lit → Bool) (cnt : Nat) (v : Value) : Prop where
  rg : wr.ranges Tryz.prog 9 ptrR M r n D left cnt
  bel : Below w.heap.size w wr
  row : ∃ T : List Slot, T.Perm (seenL L left) ∧ Gath ptrK [] 56 w.heap.size wr v T
/-- what was collected, sorted -/
theorem sortrow_any (w : World) (B : Nat) (v : Value) (L T : List Slot) (hp : T.Perm L) (hG : Gath ptrK [] 56 B w v T) (ho : L.Pairwise fun a b => a.used < b.used) (hu : ∀ s ∈ L, s.used < 4000000000000000000) (hI : ∀ s ∈ L, Blk w s.b (itemC s) 59) (hsz : L.length < 100000) (hBw : B ≤ w.heap.size) :
    Calls Tryz.prog 25 #[v, .func (.func 26) #[] #[]] w fun e w' => e = .returned (.tuple #[]) ∧ (∃ ao c, v = .slice ao L.length c ∧ Seq ptrK (tagged [56] w') w' ao L.length c L) ∧ Below B w w' := by
  have hlen := hp.length_eq
  obtain ⟨cs, ⟨hl, ho1⟩, hcs⟩ := hG
  rcases ho1 with ⟨rfl, h0⟩ | ⟨g, cap, cur, rfl, hg, hh, hn, hc, hs, ht⟩
  · have hT0 : T = [] := List.eq_nil_of_length_eq_zero h0
    subst hT0
    have hL0 : L = [] := List.eq_nil_of_length_eq_zero hlen.symm
    subst hL0
    have h := AnyF.slices_SortFunc_none { Tryz.sortF with } none 0 (.func (.func 26) #[] #[]) w
    change Calls Tryz.prog 25 _ _ _ at h
    refine h.mono ?_
    rintro e w' ⟨he, rfl⟩
    exact ⟨he, ⟨none, 0, rfl, Seq.nil _ _ (by omega) (fun _ => rfl)⟩, Below.refl _ _⟩
  · by_cases hT1 : T = []
    · subst hT1
      have hL0 : L = [] := List.eq_nil_of_length_eq_zero hlen.symm
      subst hL0
      have h := AnyF.slices_SortFunc_none { Tryz.sortF with } (some ⟨g, 0, none⟩) cap (.func (.func 26) #[] #[]) w
      change Calls Tryz.prog 25 _ _ _ at h
      refine h.mono ?_
      rintro e w' ⟨he, rfl⟩
      exact ⟨he, ⟨_, cap, rfl, Seq.nil _ _ (by unfold maxLen at hc; omega) (fun e => by cases e)⟩, Below.refl _ _⟩
    · have hB0 : Blk w g cur 56 := hh
      have hsb : ∀ s ∈ L, s.b ≠ g := fun s hs e => by
        have h1 : w.heap[s.b]? = _ := hI s hs
        rw [e, hh] at h1
        simp at h1
      refine (sortptr_any cur w L T hp hT1 ho hu hI g cap hB0.lt hsb (by omega) hB0 (fun i hi => ?_)).mono ?_
      · obtain ⟨_, k1, _⟩ := hcs i hi
        have k2 := k1 0 (by decide)
        refine ⟨?_, hB0.free _⟩
        rw [Nat.zero_add, Lib.cell_of_heap hh, ← Array.getElem?_toList]
        have k3 : cs[i]? = some (.pointer (some ⟨T[i].b, 0, none⟩)) := by simpa [ptrK] using k2
        rw [← ht, List.getElem?_take, if_pos (by simp [ptrK]; omega)] at k3
        exact k3
      · rintro e w' ⟨he, hcell, hgr, c1, hc1⟩
        refine ⟨he, ⟨_, cap, by rw [hlen], ⟨rfl, by omega, (by unfold maxLen at hc; omega), fun e => (by cases e), fun h0 => ⟨g, 0, rfl, ⟨_, _, hc1, List.mem_cons_self⟩, fun i hi => ⟨(), fun j hj => ?_, trivial⟩⟩⟩⟩, (Below.refl _ _).grown hgr hBw (fun k e => by cases e; exact hg)⟩
        have hj0 : j = 0 := by have : j < 1 := hj; omega
        subst hj0
        have := hcell i hi
        simpa [ptrK] using this
end
section
open Go.ChangeShapes Go.WideShapes Go.ChangeAt Go.RowKit

/-- what the second loop keeps -/
structure A2St (w wr : World) (ao : Option Addr) (c : Nat) (L : List Slot) (v : Value) (j : Nat) : Prop where
  bel : Below w.heap.size w wr
  keys : Seq ptrK (tagged [56] wr) wr ao L.length c L
  out : Gath factK fT 36 w.heap.size wr v ((L.take j).map (·.f))
theorem factParts : ∃ (i0 : TypeInfo) (z : Value), Tryz.prog.info? 36 = some i0 ∧ i0.zero = some z ∧ i0.size = 13 ∧ z.cells.size = 13 ∧ i0.bytes ≤ 1000 := by
  have h : (Tryz.prog.info? 36).map (fun i => (i.zero.map (·.cells.size), i.size, decide (i.bytes ≤ 1000))) = some (some 13, 13, true) := by kernel_rfl
  obtain ⟨i0, hi, hii⟩ := Option.map_eq_some_iff.1 h
  simp only [Prod.mk.injEq, decide_eq_true_eq] at hii
  obtain ⟨z, hz, hzs⟩ := Option.map_eq_some_iff.1 hii.1
  exact ⟨i0, z, hi, hz, hii.2.1, hzs, hii.2.2⟩
set_option maxHeartbeats 64000000 in
set_option maxRecDepth 100000 in
theorem all_any (w : World) (B C : Nat) (most stale : Int) (k : Nat) (L : List Slot) (hC : IsCache B w C most stale k L) (hk : k < 4000000000000000000) (hL : L.length < 100000) :
    Calls Tryz.prog 10 #[.pointer (some ⟨C, 0, none⟩)] w fun e w' => (∃ ao c, e = .returned (.slice ao L.length c) ∧ Seq factK (tagged (36 :: fT) w') w' ao L.length c (L.map (·.f)) ∧ ∀ a, ao = some a → w.heap.size ≤ a.block) ∧ Below w.heap.size w w' := by
  obtain ⟨M, hCb, hMB, hML⟩ := hC.ex
  have m2 : w.cell? ⟨C, 2, none⟩ = some (.map (some M)) := hCb.cell 2
  have HLN := Lib.hid (And.intro hk hL)
  clear hL hk
  obtain ⟨n, D, h1, h2, h3, h4⟩ := hML
  have HC := Lib.hid (And.intro hC (And.intro hCb (And.intro hMB (And.intro h2 (And.intro h3 h4)))))
  have HO := Lib.hid h1
  clear hC hCb hMB h1 h2 h3 h4
  go_enter Tryz.func10, Tryz.ntmps10
  go_wp2_with (at_range; go_loud (refine wpList_range_own _ rfl _ 50 rfl 9 56 lawK Tryz.underlying50 ptrR M n D rfl HO.out ?_; intro W6 hrg0 hg0 hs0))
  try go_frame
  clear m2
  have hb6 : Below w.heap.size w W6 := (Below.refl _ _).grown hg0 (Nat.le_refl _) (fun k e => by cases e)
  have HST : Hid (AlSt w W6 M w.heap.size n D L (Maps.has D) (Maps.size D) (.slice none 0 0)) := Lib.hid (by
    have hall : ∀ s ∈ L, Maps.has D (.string (keyF s.f)) = true := fun s hs => by
      have := HC.out.2.2.2.2.2 (keyF s.f)
      rw [atL_of_mem HC.out.1.keys hs] at this
      exact Maps.has_true_of_atKey this
    exact ⟨hrg0, hb6, [], by rw [seen_none hall], Gath.nil _ _ _ _ _⟩)
  clear hrg0 hg0 hs0 hb6
  go_loopw [3] (fun v wr => Hid (∃ left cnt, AlSt w wr M w.heap.size n D L left cnt v)) (fun _ wr => wr.rangeLeft M w.heap.size)
  case atStart => exact Lib.hid ⟨_, _, HST.out⟩
  case round =>
    obtain ⟨left, cnt, hst⟩ := hrel.out
    have HF := Lib.hid hst
    clear hrel hst
    go_wp2_with (at_next; refine wpList_next_ranges _ rfl _ rfl 9 lawK ptrR Value.string ptrO str_key ptrR_shape M w.heap.size n D left cnt rfl HF.out.rg ?_ ?_)
    · intro hc0 hl0
      obtain ⟨T, hT, hrow⟩ := HF.out.row
      rw [seen_all hl0] at hT
      have HSR := Lib.hid (sortrow_any wr w.heap.size u3 L T hT hrow HC.out.1.order (fun s hs => by have := HC.out.1.used s hs; have := HLN.out.1; omega) (fun s hs => (HC.out.1.slot s hs).2.1.on HF.out.bel) HLN.out.2 HF.out.bel.size)
      obtain ⟨ao0, c0, hv0, -, -⟩ := hrow.seq
      rw [hT.length_eq] at hv0
      clear hl0 hT hrow
      subst hv0
      go_wp2_with (go_at_call 25; go_loud (refine HSR.out.mono ?_; rintro e W2 ⟨rfl, ⟨ao, c, hv, hsq⟩, hb2⟩; injection hv with hv1 hv2 hv3; clear hv2; have HSQ := Lib.hid (show Seq ptrK (tagged [56] W2) W2 ao0 L.length c0 L from by rw [hv1, hv3]; exact hsq); have HB2 := Lib.hid (show Below w.heap.size w W2 from HF.out.bel.trans hb2); clear hsq hb2 hv1 hv3))
      have hLL : L.length < 9223372036854775807 := by have := HLN.out.2; omega
      obtain ⟨m, hm⟩ : ∃ m, m = L.length := ⟨_, rfl⟩
      have HM := Lib.hid hm
      rw [← hm] at HSQ hLL ⊢
      clear hm
      have HA2 : Hid (A2St w W2 ao0 c0 L (.slice none 0 0) 0) := Lib.hid ⟨HB2.out, by rw [← HM.out]; exact HSQ.out, Gath.nil _ _ _ _ _⟩
      clear HSR
      go_loopw [6, 28] (fun v i wr => ∃ j : Nat, j ≤ m ∧ i = .int .i64 j ∧ Hid (A2St w wr ao0 c0 L v j)) (fun _ i _ => m - (intOf i).toNat)
      case atStart => exact ⟨0, Nat.zero_le _, rfl, HA2⟩
      case round =>
        rename World => w3
        obtain ⟨j, hj, rfl, hinv⟩ := hrel
        by_cases hlt : j < m
        · have hjL : j < L.length := by rw [← HM.out]; exact hlt
          obtain ⟨b0, off, rfl⟩ := HSQ.out.addr hlt
          obtain ⟨s, hs⟩ : ∃ s, s = L[j] := ⟨_, rfl⟩
          obtain ⟨uu, hc, -⟩ := hinv.out.keys.at hjL
          have hc0 := hc 0 (by decide)
          rw [← hs] at hc0
          have q : w3.cell? ⟨b0, off + j, none⟩ = some (.pointer (some ⟨s.b, 0, none⟩)) := by simpa [ptrK] using hc0
          have hsl := HC.out.1.slot s (by rw [hs]; exact List.getElem_mem _)
          have hit := hsl.2.1.on hinv.out.bel
          have HF3 := Lib.hid (And.intro (hsl.2.2.1.on hinv.out.bel) hsl.2.2.2.2)
          have HTK := Lib.hid (show (L.take j).map (·.f) ++ [s.f] = (L.take (j + 1)).map (·.f) by rw [List.take_succ_eq_append_getElem hjL, List.map_append, hs]; rfl)
          have HJ := Lib.hid (show ((L.take j).map (·.f)).length ≤ 1000000 by have := HLN.out.2; rw [List.length_map, List.length_take]; omega)
          have q0 : w3.cell? ⟨s.b, 0, none⟩ = some (.slice s.h.na s.h.nl s.h.nc) := hit.cell 0
          have q1 : w3.cell? ⟨s.b, 1, none⟩ = some (.int .i64 s.f.typ) := hit.cell 1
          have q2 : w3.cell? ⟨s.b, 2, none⟩ = some (.int .i64 s.f.kind) := hit.cell 2
          have q3 : w3.cell? ⟨s.b, 3, none⟩ = some (.int .i64 s.f.rank) := hit.cell 3
          have q4 : w3.cell? ⟨s.b, 4, none⟩ = some (.int .i64 s.f.got) := hit.cell 4
          have q5 : w3.cell? ⟨s.b, 5, none⟩ = some (.int .i64 s.f.ttl) := hit.cell 5
          have q6 : w3.cell? ⟨s.b, 6, none⟩ = some (.slice s.h.sa s.h.sl s.h.sc) := hit.cell 6
          have q7 : w3.cell? ⟨s.b, 7, none⟩ = some (.slice s.h.za s.h.zl s.h.zc) := hit.cell 7
          have q8 : w3.cell? ⟨s.b, 8, none⟩ = some (.slice s.h.d.ba s.h.d.bl s.h.d.bc) := hit.cell 8
          have q9 : w3.cell? ⟨s.b, 9, none⟩ = some (.slice s.h.d.ha s.h.d.hl s.h.d.hc) := hit.cell 9
          have q10 : w3.cell? ⟨s.b, 10, none⟩ = some (.slice s.h.d.ma s.h.d.ml s.h.d.mc) := hit.cell 10
          have q11 : w3.cell? ⟨s.b, 11, none⟩ = some (.slice s.h.d.na s.h.d.nl s.h.d.nc) := hit.cell 11
          have q12 : w3.cell? ⟨s.b, 12, none⟩ = some (.slice s.h.d.ta s.h.d.tl s.h.d.tc) := hit.cell 12
          clear hs hc hc0 hsl hit hjL uu
          have HOW := Lib.hid (fown_any w3 _ s.h s.f HF3.out.1 HF3.out.2)
          simp only [factC] at HOW
          go_wp2_with fail
          clear q q0 q1 q2 q3 q4 q5 q6 q7 q8 q9 q10 q11 q12
          refine HOW.out.mono ?_
          rintro e w5 ⟨⟨kn, rfl, hkn⟩, hb5⟩
          have hal : Below w5.heap.size w5 (w5.alloc (.cells (factC kn s.f) 36)) := (Below.refl _ _).alloc (Nat.le_refl _) _
          have hbw : Below w3.heap.size w3 (w5.alloc (.cells (factC kn s.f) 36)) := below_on hb5 hal (Nat.le_refl _)
          have hko := hkn.on hal
          obtain ⟨i0, z, hi, hz, hs0, hzs, hby⟩ := factParts
          obtain ⟨v', w6, hrun, hgath, hgr, hrow, _⟩ := (hinv.out.out.on hbw).push (ts := 22) (by decide) i0 z Tryz.underlying22 hi hz hs0 hzs hby HJ.out (by have := hinv.out.bel.size; have := hbw.size; omega) kn s.f (hko.mono (fun b _ ht => ht.1)) ⟨w5.heap.size, 0, none⟩ 1 (fun j _ => by rw [addr_add, Nat.zero_add]; exact World.cell?_alloc_new w5 _ _ j) 22
          rw [HTK.out] at hgath
          have HST := Lib.hid (show A2St w w6 (some ⟨b0, off, none⟩) c0 L v' (j + 1) from ⟨(below_on hinv.out.bel hbw (Nat.le_refl _)).grown hgr (below_on hinv.out.bel hbw (Nat.le_refl _)).size (fun b e => (hrow b e).elim fun _ h => h.2), ((hinv.out.keys.on hbw).mono (fun b hb ht => tagged_keep (w := w3) ht (hbw.block b (tagged_lt ht)))).step (Same.grown hgr (fun b ht e => by
            obtain ⟨cs, hB, _⟩ := hrow b e.symm
            exact tagged_ne hB (by decide) ht rfl)), hgath⟩)
          have HRUN := Lib.hid hrun
          clear hal hbw hko hi hz hs0 hzs hby hrun hgath hgr hrow hkn hb5 HOW
          simp only [factC] at HRUN
          go_wp2_with (at_builtin; refine wpList_append_run rfl _ _ _ rfl _ _ rfl rfl HRUN.out ?_)
          go_roundw
          case rel => exact ⟨j + 1, by omega, by go_num, HST⟩
          case measure => simp [intOf]; omega
        · obtain rfl : j = m := by omega
          have HE := Lib.hid hinv.out
          clear hinv
          obtain ⟨ao, c, hv, hsq, hba⟩ := HE.out.out.seq
          have hln : ((L.take j).map (·.f)).length = L.length := by rw [List.length_map, List.length_take, ← HM.out]; omega
          have htk : (L.take j).map (·.f) = L.map (·.f) := by rw [HM.out, List.take_length]
          rw [hln] at hv hsq
          rw [htk] at hsq
          have HR := Lib.hid (And.intro hsq hba)
          clear hln htk hsq hba
          subst hv
          go_wp2_with fail
          go_ret
          exact ⟨⟨_, _, rfl, HR.out.1, HR.out.2⟩, HE.out.bel⟩
    · intro x o kl y1 y2 w1 cnt1 hxk hlk hRy hat hrg1 hlt hg1 hs1 hen
      obtain rfl := str_key_lit hxk
      obtain ⟨s, hsL, rfl, hxs⟩ := ptrO_at (y := (y1, y2)) HC.out.2.2.2.2.2 hRy hat
      simp only [ptrO] at hen ⊢
      have hbw1 : Below w.heap.size w w1 := HF.out.bel.grown hg1 HF.out.bel.size (fun k e => by cases e; exact Nat.le_refl _)
      have hic := iter_cells HF.out.rg
      obtain ⟨T, hT, hrow⟩ := HF.out.row
      have hlk' : left (.string (keyF s.f)) = true := by rw [← hxs]; exact hlk
      have hp := seen_step HC.out.1.keys hsL hlk' hT
      rw [← hxs] at hp
      have hlenT : T.length ≤ 1000000 := by
        have h1 := hT.length_eq
        have h2 : (seenL L left).length ≤ L.length := List.length_filter_le _ _
        have := HLN.out.2
        omega
      have hrow1 := hrow.step (Same.grown hg1 (fun b hb e => by
        have e := Option.some.inj e
        obtain ⟨cs, t, h, _⟩ := hb
        subst e
        exact hic.1 _ _ _ h))
      have hal : Below w1.heap.size w1 (w1.alloc (.cells #[.pointer (some ⟨s.b, 0, none⟩)] 56)) := (Below.refl _ _).alloc (Nat.le_refl _) _
      obtain ⟨i0, z, hi, hz, hs0, hzs, hby⟩ := ptrParts
      obtain ⟨v', w6, hrun, hgath, hgr, hrw, _⟩ := (hrow1.on hal).push (ts := 55) (by decide) i0 z Tryz.underlying55 hi hz hs0 hzs hby hlenT (by have := hbw1.size; have := hal.size; omega) () s trivial ⟨w1.heap.size, 0, none⟩ 1 (fun j _ => by rw [addr_add, Nat.zero_add]; exact World.cell?_alloc_new w1 _ _ j) 55
      have HRUN := Lib.hid hrun
      have HPP := Lib.hid (And.intro hp (And.intro hgath (And.intro hgr hrw)))
      have HB1 := Lib.hid (And.intro hbw1 hal)
      have HR1 := Lib.hid (And.intro hrg1 hlt)
      clear hxk hlk hRy hat hrg1 hlt hg1 hs1 hsL hxs hic hbw1 hal hrun hgath hgr hrw hp hT hrow hrow1 hlk' hi hz hs0 hzs hby
      go_wp2_with (at_builtin; refine wpList_append_run rfl _ _ _ rfl _ _ rfl rfl HRUN.out ?_)
      have hM1 : (w1.alloc (.cells #[.pointer (some ⟨s.b, 0, none⟩)] 56)).heap[M]? = w1.heap[M]? := HB1.out.2.block M HR1.out.1.owns.lt
      have hr1 : (w1.alloc (.cells #[.pointer (some ⟨s.b, 0, none⟩)] 56)).heap[w.heap.size]? = w1.heap[w.heap.size]? := HB1.out.2.block _ HR1.out.1.lt
      have hrg6 := ranges_on HR1.out.1 (w' := w6) ((HPP.out.2.2.1.block M (by have := HR1.out.1.owns.lt; have := HB1.out.2.size; omega) (fun e => by
          obtain ⟨cs, hB, _⟩ := HPP.out.2.2.2 M e.symm
          obtain ⟨es, clock, h, _⟩ := HR1.out.1.owns
          have hB' : _ = _ := hB
          rw [hM1, h] at hB'
          cases hB')).trans hM1) ((HPP.out.2.2.1.block _ (by have := HR1.out.1.lt; have := HB1.out.2.size; omega) (fun e => by
          obtain ⟨cs, hB, _⟩ := HPP.out.2.2.2 _ e.symm
          have hB' : _ = _ := hB
          rw [hr1] at hB'
          exact (iter_cells HR1.out.1).1 _ _ _ hB')).trans hr1)
      have HG6 := Lib.hid hrg6
      clear hrg6 hM1 hr1
      go_roundw
      case rel =>
        have hx := below_on HB1.out.1 HB1.out.2 (Nat.le_refl _)
        have hy := hx.grown HPP.out.2.2.1 hx.size (fun b e => (HPP.out.2.2.2 b e).elim fun _ h => h.2)
        exact Lib.hid ⟨_, _, HG6.out, hy, ⟨_, HPP.out.1, HPP.out.2.1⟩⟩
      case measure => rw [HG6.out.left_eq, HF.out.rg.left_eq]; exact HR1.out.2
end
section
open Go.ChangeShapes Go.WideShapes Go.ChangeAt Go.RowKit

theorem open_strs_reach {H : Type} {enc : TypeId × Value → H} {W : World} {fuel : Nat} {c : Value} {y : DataW H × List MemPlace} (h : DataW.trod enc Tryz.prog W 0 (fun _ => true) true fuel 23 [c] = some y)
    (hsz : (y.1.weights Tryz.prog 23).all (· ≤ reachBytes) = true) : ∃ ao n k ss, c = .slice ao n k ∧ Strs W ao n k ss ∧ ss.length ≤ 8796093022208 := by
  obtain ⟨a, n, k, rfl⟩ := slice_of Tryz.underlying23 h
  obtain ⟨ao, n2, k2, ss, e, hs, hby⟩ := open_strs_arg (ts := [23]) (ds := [y.1]) (j := 0) Tryz.underlying23 (show DataW.Trod enc Tryz.prog W 0 (fun _ => true) true 23 (.slice a n k) y.1 y.2 from ⟨fuel, by simpa [Value.cells] using h⟩) (by simpa [DataW.weightsEach] using hsz) rfl rfl ⟨_, _, _, rfl⟩
  exact ⟨_, _, _, ss, e, hs, by have := hs.len; have := hs.row.hle; omega⟩
set_option maxRecDepth 100000 in
theorem open_data_reach {H : Type} {enc : TypeId × Value → H} {W : World} {fuel : Nat} {cs : List Value} {x : DataW H × List MemPlace} (h : DataW.trod enc Tryz.prog W 0 (fun _ => true) true fuel 34 cs = some x)
    (hsz : (x.1.weights Tryz.prog 34).all (· ≤ reachBytes) = true) :
    ∃ (d : DataP) (k : DataH), cs = (dataC k).toList ∧ IsData W k d ∧ d.texts.length ≤ 8796093022208 := by
  obtain ⟨xs, n, rfl, rfl, hl, hx, hf⟩ := DataW.trod_struct Tryz.underlying34 h
  rw [cellsData] at hl
  match cs, hl, xs, hx with
  | [c0, c1, c2, c3, c4], _, [y0, y1, y2, y3, y4], _ =>
    have g0 := hf 0 _ rfl
    have g1 := hf 1 _ rfl
    have g2 := hf 2 _ rfl
    have g3 := hf 3 _ rfl
    have g4 := hf 4 _ rfl
    simp [cellsStrs, cellsByts, cellsNums] at g0 g1 g2 g3 g4
    simp only [DataW.weights, Tryz.underlying34, List.map_cons, List.map_nil, DataW.weightsEach, List.append_nil, List.all_append, Bool.and_eq_true] at hsz
    obtain ⟨ba, bl, bc, l0, rfl, h0⟩ := open_byts_cell g0 hsz.1
    obtain ⟨ha, hl, hc, l1, rfl, h1⟩ := open_strs_cell g1 hsz.2.1
    obtain ⟨ma, ml, mc, l2, rfl, h2⟩ := open_strs_cell g2 hsz.2.2.1
    obtain ⟨na, nl, nc, l3, rfl, h3, h3'⟩ := open_nums_cell g3 hsz.2.2.2.1
    obtain ⟨ta, tl, tc, l4, rfl, h4, hlen⟩ := open_strs_reach g4 hsz.2.2.2.2
    exact ⟨⟨l0, l1, l2, l3, l4⟩, ⟨ba, bl, bc, ha, hl, hc, ma, ml, mc, na, nl, nc, ta, tl, tc⟩, rfl, ⟨h0, h1, h2, h3, h4, h3'⟩, hlen⟩
/-- a slice of structs that came in -/
theorem open_seq_reach {H α : Type} [Inhabited α] {enc : TypeId × Value → H} {W : World} {fuel : Nat} {c : Value} {d : DataW H × List MemPlace} (K : Kind α) (Q : α → Prop) (t e : TypeId) (ht : Tryz.prog.underlying t = some (.slice e)) (hce : Tryz.prog.cellsOf e = K.size) (hbe : 1 ≤ Tryz.prog.bytesOf e)
    (hopen : ∀ {fuel : Nat} {cs : List Value} {x : DataW H × List MemPlace}, DataW.trod enc Tryz.prog W 0 (fun _ => true) true fuel e cs = some x → (x.1.weights Tryz.prog e).all (· ≤ reachBytes) = true → ∃ (a : α) (k : K.H), cs = (K.cells k a).toList ∧ K.is (fun b => b < W.heap.size) W k a ∧ Q a)
    (hf : DataW.trod enc Tryz.prog W 0 (fun _ => true) true fuel t [c] = some d)
    (hsz : (d.1.weights Tryz.prog t).all (· ≤ reachBytes) = true) : ∃ ao n k xs, c = .slice ao n k ∧ Seq K (fun b => b < W.heap.size) W ao n k xs ∧ ∀ x ∈ xs, Q x := by
  obtain ⟨a0, n0, c0, rfl⟩ := slice_of ht hf
  obtain ⟨d, ps⟩ := d
  rcases Deep.open_slice ht hf with ⟨hcs, _⟩ | ⟨a, len, cap, m, n, D, Pl, hcs, _, hl, hm, hmm, hx, hel⟩
  · simp at hcs
    obtain ⟨rfl, rfl, rfl⟩ := hcs
    exact ⟨_, _, _, [], rfl, Seq.nil _ _ (by omega) (fun _ => rfl), fun x hx => by cases hx⟩
  · simp at hcs
    obtain ⟨rfl, rfl, rfl⟩ := hcs
    simp only [if_true] at hmm
    subst hmm
    simp only [Prod.mk.injEq] at hx
    rw [hx.1] at hsz
    simp only [DataW.weights, ht, List.all_cons, Bool.and_eq_true, List.all_append] at hsz
    have hr := reach_le
    have hw := of_decide_eq_true hsz.1
    simp only [List.length_map, List.length_range] at hw
    have hw2 : (n0 + (m - n0)) * 1 ≤ (n0 + (m - n0)) * Tryz.prog.bytesOf e := Nat.mul_le_mul (Nat.le_refl _) hbe
    have hsp : 0 < n0 → ∃ b off, a = ⟨b, off, none⟩ := by
      intro h0
      obtain ⟨cs', h1, h2⟩ := hel 0 (by omega)
      rw [hce, Nat.zero_mul] at h1
      obtain ⟨x, k, e', _⟩ := hopen h2 (weightsAllF hsz.2.1 (D 0) (List.mem_map_of_mem (List.mem_range.2 h0)))
      subst e'
      obtain ⟨_, _, hcell⟩ := World.cells?_some h1
      obtain ⟨b, off, spot⟩ := a
      have h3 := hcell 0 K.pos
      have hks := K.hsize k x
      rw [Array.getElem?_toList, Array.getElem?_eq_getElem (by rw [hks]; exact K.pos)] at h3
      have h5 := World.cell?_spot h3
      have : spot = none := by simpa [Addr.add] using h5
      subst this
      exact ⟨b, off, rfl⟩
    have key : ∀ i, i < n0 → ∃ x : α, ∃ b off, a = ⟨b, off, none⟩ ∧ Elem1 K (fun b => b < W.heap.size) W b (off + i * K.size) x ∧ Q x := by
      intro i hi
      obtain ⟨b, off, rfl⟩ := hsp (by omega)
      obtain ⟨cs', h1, h2⟩ := hel i (by omega)
      rw [hce] at h1
      obtain ⟨x, k, e', hR, hq⟩ := hopen h2 (weightsAllF hsz.2.1 (D i) (List.mem_map_of_mem (List.mem_range.2 hi)))
      subst e'
      obtain ⟨_, _, hcell⟩ := World.cells?_some h1
      refine ⟨x, b, off, rfl, ⟨k, fun j hj => ?_, hR⟩, hq⟩
      have := hcell j hj
      rw [addr_add, addr_add, Array.getElem?_toList] at this
      exact this
    obtain ⟨f, hfn⟩ := Deep.choose_lt key
    refine ⟨_, _, _, (List.range n0).map f, rfl, ⟨by simp, hl, by omega, fun e => (by cases e), fun h0 => ?_⟩, fun x hx' => ?_⟩
    rotate_left
    · obtain ⟨i, hi, rfl⟩ := List.mem_map.1 hx'
      obtain ⟨_, _, _, _, h⟩ := hfn i (List.mem_range.1 hi)
      exact h
    obtain ⟨b, off, e, he, _⟩ := hfn 0 h0
    refine ⟨b, off, by rw [e], by simpa using he.lt, fun i hi => ?_⟩
    have hi' : i < n0 := by simpa using hi
    obtain ⟨b2, off2, e2, h2, _⟩ := hfn i hi'
    rw [e] at e2
    cases e2
    simpa using h2
def soaR (f : FactP) : Prop := f.soa.texts.length ≤ 8796093022208
set_option maxHeartbeats 2000000 in
set_option maxRecDepth 100000 in
theorem open_fact_reach {H : Type} {enc : TypeId × Value → H} {W : World} {fuel : Nat} {cs : List Value} {x : DataW H × List MemPlace} (h : DataW.trod enc Tryz.prog W 0 (fun _ => true) true fuel 36 cs = some x)
    (hsz : (x.1.weights Tryz.prog 36).all (· ≤ reachBytes) = true) :
    ∃ (f : FactP) (k : FactH), cs = (factC k f).toList ∧ IsFact (fun b => b < W.heap.size) W k f ∧ soaR f := by
  obtain ⟨xs, n, rfl, rfl, hl, hx, hf⟩ := DataW.trod_struct Tryz.underlying36 h
  rw [cellsFact] at hl
  match cs, hl, xs, hx with
  | [c0, c1, c2, c3, c4, c5, c6, c7, c8, c9, c10, c11, c12], _, [y0, y1, y2, y3, y4, y5, y6, y7, y8], _ =>
    have g0 := hf 0 _ rfl
    have g1 := hf 1 _ rfl
    have g2 := hf 2 _ rfl
    have g3 := hf 3 _ rfl
    have g4 := hf 4 _ rfl
    have g5 := hf 5 _ rfl
    have g6 := hf 6 _ rfl
    have g7 := hf 7 _ rfl
    have g8 := hf 8 _ rfl
    simp [cellsInt, cellsStrs, cellsData, cellsDatas] at g0 g1 g2 g3 g4 g5 g6 g7 g8
    obtain ⟨k1, e1, rfl, w1⟩ := DataW.trod_int Tryz.underlying3 g1
    obtain ⟨k2, e2, rfl, w2⟩ := DataW.trod_int Tryz.underlying3 g2
    obtain ⟨k3, e3, rfl, w3⟩ := DataW.trod_int Tryz.underlying3 g3
    obtain ⟨k4, e4, rfl, w4⟩ := DataW.trod_int Tryz.underlying3 g4
    obtain ⟨k5, e5, rfl, w5⟩ := DataW.trod_int Tryz.underlying3 g5
    cases e1; cases e2; cases e3; cases e4; cases e5
    simp only [DataW.weights, Tryz.underlying36, List.map_cons, List.map_nil, DataW.weightsEach, List.nil_append, List.append_nil, List.all_append, Bool.and_eq_true] at hsz
    obtain ⟨nao, nl, nc, ss, rfl, hS⟩ := open_strs_cell g0 hsz.1
    obtain ⟨sao, sl, sc, ds, rfl, hDs⟩ := open_datas_cell g6 hsz.2.1
    obtain ⟨zao, zl, zc, zs, rfl, hZ⟩ := open_strs_cell g7 hsz.2.2.1
    obtain ⟨d, k, e, hD, hb8⟩ := open_data_reach g8 hsz.2.2.2
    exact ⟨⟨ss, k1, k2, k3, k4, k5, ds, zs, d⟩, ⟨nao, nl, nc, sao, sl, sc, zao, zl, zc, k⟩, by simp [dataC] at e; obtain ⟨rfl, rfl, rfl, rfl, rfl⟩ := e; rfl,
      ⟨hS, hS.row.mem_lt, bounds_i64 w1, bounds_i64 w2, bounds_i64 w3, bounds_i64 w4, bounds_i64 w5, hDs, hZ, hZ.row.mem_lt, hD, hD.all⟩, hb8⟩
set_option maxRecDepth 100000 in
theorem open_facts_reach {H : Type} {enc : TypeId × Value → H} {W : World} {v : Value} {d : DataW H} {ps : List MemPlace} (h : DataW.Trod enc Tryz.prog W 0 (fun _ => true) true 22 v d ps)
    (hsz : (d.weights Tryz.prog 22).all (· ≤ reachBytes) = true) (hv : ∃ a n c, v = .slice a n c) : ∃ ao n k fs, v = .slice ao n k ∧ Facts (fun b => b < W.heap.size) W ao n k fs ∧ ∀ f ∈ fs, soaR f := by
  obtain ⟨a, n, c, rfl⟩ := hv
  obtain ⟨fuel, hf⟩ := h
  exact open_seq_reach (d := (d, ps)) factK soaR 22 36 Tryz.underlying22 cellsFact (by decide +kernel) (fun h1 h2 => open_fact_reach h1 h2) (by simpa [Value.cells] using hf) hsz
theorem weights_at {H : Type} {P : Program} {ts : List TypeId} {ds : List (DataW H)} {t : TypeId} {d : DataW H} {j : Nat} (h : (DataW.weightsEach P ts ds).all (· ≤ reachBytes) = true) (ht : ts[j]? = some t) (hd : ds[j]? = some d) : (d.weights P t).all (· ≤ reachBytes) = true :=
  List.all_eq_true.2 fun n hn => List.all_eq_true.1 h n (DataW.weights_mem_each ht hd n hn)
end
section
open Go
/-- a list with some of its places set anew: each pair is how many places stay ahead, and the value -/
def mixL : List Value → List (Nat × Value) → List Value
  | [], _ => []
  | l, [] => l
  | _ :: l, (0, v) :: ds => v :: mixL l ds
  | x :: l, (n + 1, v) :: ds => x :: mixL l ((n, v) :: ds)
theorem mixL_nil (l : List Value) : mixL l [] = l := by cases l <;> rfl
theorem mixL_zero (x v : Value) (l : List Value) (ds : List (Nat × Value)) : mixL (x :: l) ((0, v) :: ds) = v :: mixL l ds := rfl
theorem mixL_succ (x v : Value) (l : List Value) (n : Nat) (ds : List (Nat × Value)) : mixL (x :: l) ((n + 1, v) :: ds) = x :: mixL l ((n, v) :: ds) := rfl
/-- where the pairs lead -/
def places : Nat → List (Nat × Value) → List Nat
  | _, [] => []
  | b, (n, _) :: ds => (b + n) :: places (b + n + 1) ds
theorem mixL_length : ∀ (l : List Value) (ds : List (Nat × Value)), (mixL l ds).length = l.length
  | [], ds => by simp [mixL]
  | x :: l, [] => by simp [mixL]
  | x :: l, (0, v) :: ds => by rw [mixL_zero, List.length_cons, mixL_length l ds, List.length_cons]
  | x :: l, (n + 1, v) :: ds => by rw [mixL_succ, List.length_cons, mixL_length l _, List.length_cons]
theorem mixL_get : ∀ (l T : List Value) (ds : List (Nat × Value)) (b : Nat), (∀ i, i < l.length → b + i ∉ places b ds → T[b + i]? = l[i]?) → (∀ p ∈ (places b ds).zip (ds.map (·.2)), T[p.1]? = some p.2) → ∀ i, i < l.length → (mixL l ds)[i]? = T[b + i]?
  | [], T, ds, b, _, _, i, hi => absurd hi (by simp)
  | x :: l, T, [], b, h1, _, i, hi => by rw [mixL_nil]; exact (h1 i hi (by simp [places])).symm
  | x :: l, T, (0, v) :: ds, b, h1, h2, i, hi => by
    rw [mixL_zero]
    cases i with
    | zero =>
      have := h2 (b, v) (by simp [places])
      simpa using this.symm
    | succ i =>
      rw [List.getElem?_cons_succ, mixL_get l T ds (b + 1) (fun k hk hn => ?_) (fun p hp => h2 p ?_) i (by simpa using hi)]
      · rw [show b + 1 + i = b + (i + 1) from by omega]
      · have := h1 (k + 1) (by simpa using hk) (by
          rw [show b + (k + 1) = b + 1 + k from by omega]
          simp only [places, Nat.add_zero, List.mem_cons, not_or]
          exact ⟨by omega, hn⟩)
        rw [show b + 1 + k = b + (k + 1) from by omega, this]; simp
      · simp only [places, Nat.add_zero, List.map_cons, List.zip_cons_cons]
        exact List.mem_cons_of_mem _ hp
  | x :: l, T, (n + 1, v) :: ds, b, h1, h2, i, hi => by
    rw [mixL_succ]
    have e : places b ((n + 1, v) :: ds) = places (b + 1) ((n, v) :: ds) := by
      simp only [places]
      rw [show b + (n + 1) = b + 1 + n from by omega]
    have hge : ∀ (ds : List (Nat × Value)) (b k : Nat), k ∈ places b ds → b ≤ k := by
      intro ds
      induction ds with
      | nil => intro b k h; cases h
      | cons a ds ih =>
        intro b k h
        simp only [places, List.mem_cons] at h
        rcases h with h | h
        · omega
        · have := ih _ _ h; omega
    cases i with
    | zero =>
      have := h1 0 (by simp) (by rw [e]; intro h; have := hge _ _ _ h; omega)
      simpa using this.symm
    | succ i =>
      rw [List.getElem?_cons_succ, mixL_get l T ((n, v) :: ds) (b + 1) (fun k hk hn => ?_) (fun p hp => h2 p ?_) i (by simpa using hi)]
      · rw [show b + 1 + i = b + (i + 1) from by omega]
      · have := h1 (k + 1) (by simpa using hk) (by rw [e, show b + (k + 1) = b + 1 + k from by omega]; exact hn)
        rw [show b + 1 + k = b + (k + 1) from by omega, this]; simp
      · rw [e]; exact hp
/-- the frame behind a region, its list written out -/
theorem tmps_mix {ks : Array Oper} {a0 a : Act} (h : SameBut ks a0 a) (m : Nat) (hm : a0.tmps.size = m) (ds : List (Nat × Value)) (hds : coverB ks m (places 0 ds) = true) (hl : (places 0 ds).all (· < m) = true)
    (hv : ∀ p ∈ (places 0 ds).zip (ds.map (·.2)), a.tmps.getD p.1 undef = p.2) : a.tmps = (mixL a0.tmps.toList ds).toArray := by
  have hs := h.size
  have hlt : ∀ k ∈ places 0 ds, k < m := fun k hk => by have := List.all_eq_true.1 hl k hk; simpa using this
  have key : a.tmps.toList = mixL a0.tmps.toList ds := by
   apply List.ext_getElem?
   intro i
   by_cases hi : i < m
   · have := mixL_get a0.tmps.toList a.tmps.toList ds 0 (fun k hk hn => ?_) (fun p hp => ?_) i (by simpa [hm] using hi)
     · rw [this, Nat.zero_add]
     · rw [Nat.zero_add] at hn ⊢
       have hk' : k < a0.tmps.size := by simpa using hk
       have h4 := List.all_eq_true.1 hds k (List.mem_range.2 (by omega))
       simp only [Bool.or_eq_true, List.contains_iff_mem, hn, false_or] at h4
       have h5 := h.keep k h4
       have h6 : k < a.tmps.size := by omega
       rw [Array.getD_eq_getD_getElem?, Array.getElem?_eq_getElem h6, Array.getD_eq_getD_getElem?, Array.getElem?_eq_getElem hk'] at h5
       rw [Array.getElem?_toList, Array.getElem?_toList, Array.getElem?_eq_getElem h6, Array.getElem?_eq_getElem hk']
       simpa using h5
     · have h1 := hv p hp
       have h2 : p.1 < a.tmps.size := by have := hlt p.1 (List.of_mem_zip hp).1; omega
       rw [Array.getD_eq_getD_getElem?, Array.getElem?_eq_getElem h2] at h1
       rw [Array.getElem?_toList, Array.getElem?_eq_getElem h2]
       simpa using h1
   · rw [List.getElem?_eq_none (by simp; omega), List.getElem?_eq_none (by rw [mixL_length]; simp; omega)]
  rw [← key]
/-- the places' gaps, with what stands there -/
def pairsT (T : Array Value) : Nat → List Nat → List (Nat × Value)
  | _, [] => []
  | b, n :: gs => (n, T.getD (b + n) undef) :: pairsT T (b + n + 1) gs
def placesG : Nat → List Nat → List Nat
  | _, [] => []
  | b, n :: gs => (b + n) :: placesG (b + n + 1) gs
theorem places_pairs (T : Array Value) : ∀ (gs : List Nat) (b : Nat), places b (pairsT T b gs) = placesG b gs
  | [], _ => rfl
  | n :: gs, b => by simp only [places, pairsT, placesG]; rw [places_pairs T gs]
theorem pairs_at (T : Array Value) : ∀ (gs : List Nat) (b : Nat) (p : Nat × Value), p ∈ (placesG b gs).zip ((pairsT T b gs).map (·.2)) → T.getD p.1 undef = p.2
  | [], _, p, h => by cases h
  | n :: gs, b, p, h => by
    simp only [placesG, pairsT, List.map_cons, List.zip_cons_cons, List.mem_cons] at h
    rcases h with rfl | h
    · rfl
    · exact pairs_at T gs _ p h
theorem tmps_gaps {ks : Array Oper} {a0 a : Act} (h : SameBut ks a0 a) (m : Nat) (hm : a0.tmps.size = m) (gs : List Nat) (hds : coverB ks m (placesG 0 gs) = true) (hl : (placesG 0 gs).all (· < m) = true) : a.tmps = (mixL a0.tmps.toList (pairsT a.tmps 0 gs)).toArray :=
  tmps_mix h m hm _ (by rw [places_pairs]; exact hds) (by rw [places_pairs]; exact hl) (by rw [places_pairs]; exact pairs_at _ _ _)
end
section
open Go.ChangeShapes Go.WideShapes Go.ChangeAt Go.RowKit

/-- what the first loop keeps -/
structure F1St (w wr : World) (C j : Nat) : Prop where
  bel : Below w.heap.size w wr
  ca : ∃ k L, IsCache w.heap.size wr C 200 0 k L ∧ k ≤ j ∧ L.length ≤ j
/-- what the second loop keeps -/
structure F2St (w wr : World) (C k : Nat) (L : List Slot) (z : List ByteArray) (ba : Option Addr) (bc : Nat) (j q : Nat) : Prop where
  bel : Below w.heap.size w wr
  ca : IsCache w.heap.size wr C 200 0 k (overL L z)
  bf : Seq factK (tagged (36 :: fT) wr) wr ba L.length bc (L.map (·.f))
  cnt : q = ((L.take j).filter fun s => underB s.f.name z).length
theorem over_at {L : List Slot} {z : List ByteArray} (hk : L.Pairwise fun a b => keyF a.f ≠ keyF b.f) {s : Slot} (hs : s ∈ L) : atL (overL L z) (keyF s.f) = if underB s.f.name z = true then none else some s := by
  have h := atL_of_mem hk hs
  by_cases hu : underB s.f.name z = true
  · rw [if_pos hu]
    refine List.find?_eq_none.2 fun t ht => ?_
    obtain ⟨h1, h2⟩ := List.mem_filter.1 ht
    simp only [decide_eq_true_eq]
    intro e
    rw [key_inj hk h1 hs e, hu] at h2
    cases h2
  · rw [if_neg hu]
    have h3 : s ∈ overL L z := List.mem_filter.2 ⟨hs, by simp [hu]⟩
    exact atL_of_mem (hk.sublist List.filter_sublist) h3
theorem over_len (L : List Slot) (z : List ByteArray) : (L.filter fun s => underB s.f.name z).length + (overL L z).length = L.length := by
  induction L with
  | nil => rfl
  | cons a L ih =>
    simp only [overL] at ih ⊢
    cases h : underB a.f.name z <;> simp [h] <;> omega
theorem over_nil (L : List Slot) : overL L [] = [] := by
  rw [overL, List.filter_eq_nil_iff]
  intro s _
  simp [underB, eqB]
theorem cnt_step {L : List Slot} {z : List ByteArray} {j : Nat} (hj : j < L.length) : ((L.take (j + 1)).filter fun s => underB s.f.name z).length = ((L.take j).filter fun s => underB s.f.name z).length + (if underB (L[j]).f.name z = true then 1 else 0) := by
  rw [List.take_succ_eq_append_getElem hj, List.filter_append, List.length_append]
  cases h : underB (L[j]).f.name z <;> simp [h]
theorem look_two (w : World) (N C : Nat) (k : Nat) (L : List Slot) (B : Nat) (hN : N ≤ w.heap.size) (hC : IsCache B w C 200 0 k L) (S : Nat → Prop) (h : FactH) (o g : FactP) (th : Bool) (hf : IsFact S w h o) (hz : sizeN o.name ≤ 1099511627776) (hth : th = (atL L (keyF o)).isSome) (hg : g = ((atL L (keyF o)).map (·.f)).getD zF) :
    Calls Tryz.prog 12 #[.pointer (some ⟨C, 0, none⟩), .slice h.na h.nl h.nc, .int .i64 o.typ] w fun e w' => (∃ q, e = .returned (.tuple #[.agg (factC q g), .bool th]) ∧ OwnF N w' q g) ∧ Below w.heap.size w w' := by
  refine (look_any w B C 200 0 k L hC _ _ _ _ _ hf.name hz).mono ?_
  rintro e w' ⟨⟨q, f', b, rfl, h1, rfl, rfl⟩, hb⟩
  refine ⟨⟨q, ?_, ?_⟩, hb⟩
  · rw [hth, hg]; rfl
  · rw [hg]; exact h1.mono (fun b _ ht => ⟨ht.1, by omega⟩)
theorem under_r (w : World) (ao bo : Option Addr) (la ca lb cb : Nat) (sa sb : List ByteArray) (u : Bool) (hu : underB sa sb = u) (ha : Strs w ao la ca sa) (hb : Strs w bo lb cb sb) :
    Calls Tryz.prog 13 #[.slice ao la ca, .slice bo lb cb] w fun e w' => e = .returned (.bool u) ∧ Below w.heap.size w w' := by
  rw [← hu]
  exact runder_any w ao bo la ca lb cb sa sb ha hb
theorem same_two (w : World) (S R : Nat → Prop) (h k : FactH) (f : FactP) (hB : factB f = true) (hf : IsFact S w h f) (hg : IsFact R w k f) :
    Calls Tryz.prog 14 #[.agg (factC h f), .agg (factC k f)] w fun e w' => e = .returned (.bool true) ∧ Below w.heap.size w w' := by
  have := rsame12_any w S R h k f f hf hg
  rwa [sameF_refl hB] at this
set_option maxHeartbeats 64000000 in
set_option maxRecDepth 100000 in
theorem flushes_walk (w : World) (S : Nat → Prop) (ao : Option Addr) (n c : Nat) (fs : List FactP) (hfs : Seq factK S w ao n c fs) (zo : Option Addr) (zn zc : Nat) (z : List ByteArray) (hz : Strs w zo zn zc z) (hzc : zc * 16 ≤ 140737488355328) (hsz : ∀ f ∈ fs, soaR f) :
    Calls Tryz.prog 3 #[.slice ao n c, .slice zo zn zc] w fun e w' => e = .returned (.bool true) ∧ Below w.heap.size w w' := by
  have HNW := Lib.hid (new_any w w.heap.size (Nat.le_refl _) 200 0 (by decide) (by decide) (by decide))
  have hl := hfs.hlen
  have hle := hfs.hle
  have hmx := hfs.hmax
  have hzl := hz.len
  have hzle := hz.row.hle
  have HFS := Lib.hid hfs
  have HL := Lib.hid hl
  have HSZ := Lib.hid hsz
  have HZ := Lib.hid (And.intro hz (And.intro hzl (show zn * 16 ≤ 140737488355328 by omega)))
  clear hfs hl hsz hz hzl
  by_cases hbig : 60 < n ∨ 200 < zn
  · rcases hbig with h | h
    all_goals
      go_enter Tryz.func3, Tryz.ntmps3
      go_wp2_with (first | (go_at_call 5; refine HNW.out.mono ?_; rintro e W ⟨⟨C, rfl, hC⟩, hb⟩; have HW := Lib.hid hb; clear hC hb) | (go_at_call 6; refine (answers_any _).mono ?_; rintro e W2 ⟨rfl, hb2⟩; replace HW := Lib.hid (below_on HW.out hb2 (Nat.le_refl _)); clear hb2))
      all_goals (go_ret; exact ⟨rfl, HW.out⟩)
  have hn60 : n ≤ 60 := by omega
  have hz200 : zn ≤ 200 := by omega
  clear hbig hzc
  go_enter Tryz.func3, Tryz.ntmps3
  go_wp2_with (first | (go_at_call 5; refine HNW.out.mono ?_; rintro e W ⟨⟨C, rfl, hC⟩, hb⟩; have HW := Lib.hid (And.intro hb hC); clear hC hb) | (go_at_call 6; refine (answers_any _).mono ?_; rintro e W2 ⟨rfl, hb2⟩; have HV := Lib.hid (And.intro (below_on HW.out.1 hb2 (Nat.le_refl _)) (HW.out.2.on hb2)); clear hb2))
  go_loopw [7] (fun i wr => ∃ j : Nat, j ≤ n ∧ i = .int .i64 j ∧ Hid (F1St w wr C j)) (fun i _ => n - (intOf i).toNat)
  case atStart => exact ⟨0, Nat.zero_le _, rfl, Lib.hid ⟨HV.out.1, 0, [], HV.out.2, Nat.le_refl _, Nat.le_refl _⟩⟩
  case round =>
    obtain ⟨j, hj, rfl, hinv⟩ := hrel
    by_cases hlt : j < n
    · obtain ⟨b0, off, rfl⟩ := HFS.out.addr hlt
      obtain ⟨h, hcs, ho⟩ := fact_elem (HFS.out.at hlt)
      obtain ⟨o, hox⟩ : ∃ o, o = fs[j]'(by have := HL.out; omega) := ⟨_, rfl⟩
      rw [← hox] at ho hcs
      have HSO := Lib.hid (HSZ.out o (by rw [hox]; exact List.getElem_mem _))
      obtain ⟨k, L, hC, hk, hLn⟩ := hinv.out.ca
      have HC := Lib.hid hC
      have HK := Lib.hid (And.intro hk hLn)
      have HB := Lib.hid hinv.out.bel
      have HO := Lib.hid ho
      have HOW := Lib.hid (ho.on hinv.out.bel)
      clear hox ho hC hk hLn hinv
      have E0 := Lib.hid (show w.cell? ⟨b0, off + j * 13, none⟩ = some (.slice h.na h.nl h.nc) from hcs 0 (by omega))
      have E1 := Lib.hid (show w.cell? ⟨b0, off + j * 13 + 1, none⟩ = some (.int .i64 o.typ) from hcs 1 (by omega))
      have E2 := Lib.hid (show w.cell? ⟨b0, off + j * 13 + 2, none⟩ = some (.int .i64 o.kind) from hcs 2 (by omega))
      have E3 := Lib.hid (show w.cell? ⟨b0, off + j * 13 + 3, none⟩ = some (.int .i64 o.rank) from hcs 3 (by omega))
      have E4 := Lib.hid (show w.cell? ⟨b0, off + j * 13 + 4, none⟩ = some (.int .i64 o.got) from hcs 4 (by omega))
      have E5 := Lib.hid (show w.cell? ⟨b0, off + j * 13 + 5, none⟩ = some (.int .i64 o.ttl) from hcs 5 (by omega))
      have E6 := Lib.hid (show w.cell? ⟨b0, off + j * 13 + 6, none⟩ = some (.slice h.sa h.sl h.sc) from hcs 6 (by omega))
      have E7 := Lib.hid (show w.cell? ⟨b0, off + j * 13 + 7, none⟩ = some (.slice h.za h.zl h.zc) from hcs 7 (by omega))
      have E8 := Lib.hid (show w.cell? ⟨b0, off + j * 13 + 8, none⟩ = some (.slice h.d.ba h.d.bl h.d.bc) from hcs 8 (by omega))
      have E9 := Lib.hid (show w.cell? ⟨b0, off + j * 13 + 9, none⟩ = some (.slice h.d.ha h.d.hl h.d.hc) from hcs 9 (by omega))
      have E10 := Lib.hid (show w.cell? ⟨b0, off + j * 13 + 10, none⟩ = some (.slice h.d.ma h.d.ml h.d.mc) from hcs 10 (by omega))
      have E11 := Lib.hid (show w.cell? ⟨b0, off + j * 13 + 11, none⟩ = some (.slice h.d.na h.d.nl h.d.nc) from hcs 11 (by omega))
      have E12 := Lib.hid (show w.cell? ⟨b0, off + j * 13 + 12, none⟩ = some (.slice h.d.ta h.d.tl h.d.tc) from hcs 12 (by omega))
      clear hcs
      have m0 := cell_keep HB.out E0.out
      have m1 := cell_keep HB.out E1.out
      have m2 := cell_keep HB.out E2.out
      have m3 := cell_keep HB.out E3.out
      have m4 := cell_keep HB.out E4.out
      have m5 := cell_keep HB.out E5.out
      have m6 := cell_keep HB.out E6.out
      have m7 := cell_keep HB.out E7.out
      have m8 := cell_keep HB.out E8.out
      have m9 := cell_keep HB.out E9.out
      have m10 := cell_keep HB.out E10.out
      have m11 := cell_keep HB.out E11.out
      have m12 := cell_keep HB.out E12.out
      have HLT := Lib.hid (light_any wr S h o HOW.out)
      simp only [factC] at HLT
      go_wp2_with fail
      clear m0 m1 m2 m3 m4 m5 m6 m7 m8 m9 m10 m11 m12
      refine HLT.out.mono ?_
      rintro e Y ⟨⟨⟨lb, rfl, hlb⟩⟩, hby⟩
      clear HLT
      cases lb with
      | false =>
        have HYY := Lib.hid (below_on HB.out hby (Nat.le_refl _))
        clear hlb hby
        go_wp2_with fail
        go_ret
        exact ⟨rfl, HYY.out⟩
      | true =>
        have HFL := Lib.hid (hlb rfl HSO.out)
        have hwy := below_on HB.out hby (Nat.le_refl _)
        have HWZ := Lib.hid hwy
        have HCZ := Lib.hid (HC.out.on hby)
        have hk1 : k < 4000000000000000000 := by have := HK.out; omega
        have hk2 : L.length < 100000 := by have := HK.out; omega
        have hroom : (((offL L (keyF o)).length + 1 : Nat) : Int) ≤ 200 := by have := HK.out; have : (offL L (keyF o)).length ≤ L.length := List.length_filter_le _ _; omega
        have HRM := Lib.hid (And.intro hk1 (And.intro hk2 hroom))
        have m0 := cell_keep hwy E0.out
        have m1 := cell_keep hwy E1.out
        have m2 := cell_keep hwy E2.out
        have m3 := cell_keep hwy E3.out
        have m4 := cell_keep hwy E4.out
        have m5 := cell_keep hwy E5.out
        have m6 := cell_keep hwy E6.out
        have m7 := cell_keep hwy E7.out
        have m8 := cell_keep hwy E8.out
        have m9 := cell_keep hwy E9.out
        have m10 := cell_keep hwy E10.out
        have m11 := cell_keep hwy E11.out
        have m12 := cell_keep hwy E12.out
        clear hlb hby hk1 hk2 hroom hwy
        go_wp2_with (first | (go_at_call 9; refine (rownfact_any Y S h o (HO.out.on HWZ.out) HFL.out).mono ?_; rintro e V ⟨⟨kf, rfl, hkf, _, _⟩, hbv⟩; have HKF := Lib.hid hkf; have HBV := Lib.hid hbv; clear hkf hbv; simp only [factC]) | (go_at_call 8; refine (lays_any V (tagged fT V) w.heap.size C 200 0 k L (HCZ.out.on HBV.out) HRM.out.1 HRM.out.2.1 kf o HKF.out HFL.out HRM.out.2.2).mono ?_; rintro e V2 ⟨rfl, hle, hp1, hp2⟩; have HPD := Lib.hid (And.intro hle (And.intro hp1 hp2)); clear hle hp1 hp2))
        go_roundw
        case rel =>
          refine ⟨j + 1, by omega, by go_num, Lib.hid ⟨(below_on HWZ.out HBV.out (Nat.le_refl _)).trans HPD.out.1.bel, ?_⟩⟩
          cases hfb : factB o with
          | true =>
            obtain ⟨b, kk, hc⟩ := HPD.out.2.1 hfb
            refine ⟨_, _, hc, by have := HK.out; omega, ?_⟩
            have : (offL L (keyF o)).length ≤ L.length := List.length_filter_le _ _
            have := HK.out
            rw [List.length_append, List.length_singleton]; omega
          | false => exact ⟨_, _, HPD.out.2.2 hfb, by have := HK.out; omega, by have := HK.out; omega⟩
        case measure => simp [intOf]; omega
    · obtain ⟨k, L, hC, hk, hLn⟩ := hinv.out.ca
      have hkk : k < 4000000000000000000 := by omega
      have hll : L.length < 100000 := by omega
      have HC := Lib.hid hC
      have HB := Lib.hid hinv.out.bel
      have HALL := Lib.hid (all_any wr w.heap.size C 200 0 k L hC hkk hll)
      have HLL := Lib.hid hll
      clear hinv hC hk hLn hkk hll
      go_wp2_with fail
      refine HALL.out.mono ?_
      rintro e W ⟨⟨ba, bc, rfl, hsq, hba⟩, hbW⟩
      have hw := below_on HB.out hbW (Nat.le_refl _)
      have hE : Below W.heap.size W (W.alloc (.cells #[] 9)) := (Below.refl _ _).alloc (Nat.le_refl _) _
      obtain ⟨i0, hi, hz0, hz1, hz2⟩ := info_parts strInfo
      obtain ⟨a0, c0, X1, hrun1, hr0, hb1⟩ := append_own1 (P := Tryz.prog) (W.alloc (.cells #[] 9)) 23 23 9 i0 _ 16 Tryz.underlying23 hi hz0 hz1 hz2 W.heap.size (by simp) zo zn zc _ ((HZ.out.1.row.below hw (Nat.le_refl _)).below hE (by have := hw.size; omega)) HZ.out.2.2
      have hb1' : Below W.heap.size W X1 := hE.trans (hb1.mono (by simp))
      obtain ⟨nn, hnn⟩ : ∃ x : Int, x = (L.length : Int) - ((overL L z).length : Int) := ⟨_, rfl⟩
      have hfl := flush_any X1 w.heap.size C 200 0 k L ((HC.out.on hbW).on hb1') (some a0) zn c0 z ⟨hr0.row, HZ.out.1.small⟩ (fun h0 a ha => (own1_in (T := gT) hr0 (by decide) h0 a ha).1)
      rw [← hnn] at hfl
      have HFL := Lib.hid hfl
      have HNN := Lib.hid hnn
      have HR1 := Lib.hid hrun1
      have HBF := Lib.hid (And.intro (hsq.step (Same.below hb1' _)) (And.intro (below_on hw hb1' (Nat.le_refl _)) hba))
      have hbs : ∀ w : World, (Instr.buildSlice 23 0 #[]).run Tryz.prog w = .ok (.slice (some ⟨w.heap.size, 0, none⟩) 0 0) (w.alloc (.cells #[] 9)) := fun _ => by kernel_rfl
      clear hsq hba hbW hw hE hi hz0 hz1 hz2 hrun1 hr0 hb1 hb1' hnn hfl HALL
      go_wp2_with (first | (at_builtin; refine wpList_append_run rfl _ _ _ rfl _ _ rfl rfl HR1.out ?_; clear HR1) | (go_at_call 11; refine HFL.out.mono ?_; rintro e V ⟨rfl, hcv, hlv, -⟩; have HCV := Lib.hid (And.intro hcv hlv); clear hcv hlv HFL))
      have hst := (show F2St w V C k L z ba bc 0 0 from ⟨HBF.out.2.1.trans HCV.out.2.bel, HCV.out.1, HBF.out.1.step (HCV.out.2.same.mono (fun b _ ht => tagged_mono ht (by decide))), by simp⟩)
      have HST := Lib.hid hst
      clear hbs hst
      obtain ⟨m, hm⟩ : ∃ m, m = L.length := ⟨_, rfl⟩
      have hm1 : m < 100000 := by rw [hm]; exact HLL.out
      have HM := Lib.hid hm
      rw [← hm] at ⊢
      clear hm
      go_loopw [10, 11] (fun kv i wr => ∃ j q : Nat, j ≤ m ∧ q ≤ j ∧ i = .int .i64 j ∧ kv = .int .i64 q ∧ Hid (F2St w wr C k L z ba bc j q)) (fun _ i _ => m - (intOf i).toNat)
      case atStart => exact ⟨0, 0, Nat.zero_le _, Nat.le_refl _, rfl, rfl, HST⟩
      case round =>
        rename World => w3
        obtain ⟨j, q, hj, hq, rfl, rfl, hinv⟩ := hrel
        by_cases hlt : j < m
        · have hjL : j < L.length := by rw [← HM.out]; exact hlt
          obtain ⟨b0, off, rfl⟩ := HST.out.bf.addr hjL
          obtain ⟨s, hs⟩ : ∃ s, s = L[j] := ⟨_, rfl⟩
          have he := hinv.out.bf.at hjL
          simp only [List.getElem_map] at he
          rw [← hs] at he
          obtain ⟨hb, hcb, hfb⟩ := fact_elem he
          have hsL : s ∈ L := by rw [hs]; exact List.getElem_mem _
          have hsl := HC.out.slot s hsL
          have hat := over_at (z := z) HC.out.keys hsL
          have hsm := fact_small hsl.2.2.2.1
          have hct := cnt_step (z := z) hjL
          rw [← hs] at hct
          have HFB := Lib.hid hfb
          have HSB := Lib.hid hsl.2.2.2.1
          have HIN := Lib.hid hinv.out
          have HSM := Lib.hid (show sizeN s.f.name ≤ 1099511627776 by omega)
          have HZ3 := Lib.hid (HZ.out.1.below hinv.out.bel (Nat.le_refl _))
          have HP0 := Lib.hid (show w3.cell? ⟨b0, off + j * 13, none⟩ = some (.slice hb.na hb.nl hb.nc) from hcb 0 (by omega))
          have HP1 := Lib.hid (show w3.cell? ⟨b0, off + j * 13 + 1, none⟩ = some (.int .i64 s.f.typ) from hcb 1 (by omega))
          have HP2 := Lib.hid (show w3.cell? ⟨b0, off + j * 13 + 2, none⟩ = some (.int .i64 s.f.kind) from hcb 2 (by omega))
          have HP3 := Lib.hid (show w3.cell? ⟨b0, off + j * 13 + 3, none⟩ = some (.int .i64 s.f.rank) from hcb 3 (by omega))
          have HP4 := Lib.hid (show w3.cell? ⟨b0, off + j * 13 + 4, none⟩ = some (.int .i64 s.f.got) from hcb 4 (by omega))
          have HP5 := Lib.hid (show w3.cell? ⟨b0, off + j * 13 + 5, none⟩ = some (.int .i64 s.f.ttl) from hcb 5 (by omega))
          have HP6 := Lib.hid (show w3.cell? ⟨b0, off + j * 13 + 6, none⟩ = some (.slice hb.sa hb.sl hb.sc) from hcb 6 (by omega))
          have HP7 := Lib.hid (show w3.cell? ⟨b0, off + j * 13 + 7, none⟩ = some (.slice hb.za hb.zl hb.zc) from hcb 7 (by omega))
          have HP8 := Lib.hid (show w3.cell? ⟨b0, off + j * 13 + 8, none⟩ = some (.slice hb.d.ba hb.d.bl hb.d.bc) from hcb 8 (by omega))
          have HP9 := Lib.hid (show w3.cell? ⟨b0, off + j * 13 + 9, none⟩ = some (.slice hb.d.ha hb.d.hl hb.d.hc) from hcb 9 (by omega))
          have HP10 := Lib.hid (show w3.cell? ⟨b0, off + j * 13 + 10, none⟩ = some (.slice hb.d.ma hb.d.ml hb.d.mc) from hcb 10 (by omega))
          have HP11 := Lib.hid (show w3.cell? ⟨b0, off + j * 13 + 11, none⟩ = some (.slice hb.d.na hb.d.nl hb.d.nc) from hcb 11 (by omega))
          have HP12 := Lib.hid (show w3.cell? ⟨b0, off + j * 13 + 12, none⟩ = some (.slice hb.d.ta hb.d.tl hb.d.tc) from hcb 12 (by omega))
          have HQ0 := Lib.hid (show w3.drew.cell? ⟨b0, off + j * 13, none⟩ = some (.slice hb.na hb.nl hb.nc) from hcb 0 (by omega))
          have HQ1 := Lib.hid (show w3.drew.cell? ⟨b0, off + j * 13 + 1, none⟩ = some (.int .i64 s.f.typ) from hcb 1 (by omega))
          clear hs he hcb hfb hsL hsl hsm hinv hjL
          cases hu : underB s.f.name z with
          | true =>
            rw [hu, if_pos rfl] at hat
            rw [hu, if_pos rfl] at hct
            have HCT := Lib.hid (show q + 1 = ((L.take (j + 1)).filter fun s => underB s.f.name z).length by rw [hct, ← HIN.out.cnt])
            have HUN := Lib.hid (fun w' (p : Below w3.heap.size w3 w') => under_r w' _ _ _ _ _ _ s.f.name z true hu (HFB.out.on p).name (HZ3.out.below p (Nat.le_refl _)))
            have HLK := Lib.hid (fun w' (p : Below w3.heap.size w3 w') => look_two w' w3.heap.size C k (overL L z) _ p.size (HIN.out.ca.on p) _ hb s.f zF false (HFB.out.on p) HSM.out (by rw [hat]; rfl) (by rw [hat]; rfl))
            clear hat hct hu
            go_wp2_with fail
            refine wp_soup_pend (m := 137) 16 14 (by kernel_rfl) (fun x y => Below x.heap.size x y) (fun i v xw => match i with | 0 => v = .pointer (some ⟨C, 0, none⟩) | 1 => v = .slice ((some ⟨b0, off, none⟩)) m bc | 2 => v = .int .i64 ((j : Int)) | 3 => v = .pointer (some ⟨b0, off + j * 13, none⟩) | 4 => v = .pointer (some ⟨b0, off + j * 13, none⟩) | 5 => v = .slice hb.na hb.nl hb.nc | 6 => v = .slice ((some ⟨b0, off, none⟩)) m bc | 7 => v = .int .i64 ((j : Int)) | 8 => v = .pointer (some ⟨b0, off + j * 13, none⟩) | 9 => v = .pointer (some ⟨b0, off + j * 13 + 1, none⟩) | 10 => v = .int .i64 s.f.typ | 11 => ∃ h, v = .tuple #[.agg (factC h (zF)), .bool false] ∧ OwnF w3.heap.size xw h (zF) | 12 => ∃ h, v = .tuple #[.agg (factC h (zF)), .bool false] ∧ OwnF w3.heap.size xw h (zF) | 13 => ∃ h, v = .agg (factC h (zF)) ∧ OwnF w3.heap.size xw h (zF) | 14 => v = .bool false | 15 => ∃ b, v = .pointer (some ⟨b, 0, none⟩) ∧ w3.heap.size ≤ b ∧ Blk xw b noF 36 | _ => True) rfl (by kernel_rfl) (by kernel_rfl) (fun _ _ _ h1 h2 => below_on h1 h2 (Nat.le_refl _)) (Below.refl _ _) (by intro i v x y h hxy; match i, h with | 0, h => exact h | 1, h => exact h | 2, h => exact h | 3, h => exact h | 4, h => exact h | 5, h => exact h | 6, h => exact h | 7, h => exact h | 8, h => exact h | 9, h => exact h | 10, h => exact h | 11, ⟨h, e, hr⟩ => exact ⟨h, e, hr.on hxy⟩ | 12, ⟨h, e, hr⟩ => exact ⟨h, e, hr.on hxy⟩ | 13, ⟨h, e, hr⟩ => exact ⟨h, e, hr.on hxy⟩ | 14, h => exact h | 15, ⟨b, e, hl, hr⟩ => exact ⟨b, e, hl, hr.on hxy⟩ | _ + 16, _ => trivial) (dst_head (by kernel_rfl)) ?_ ?_
            rotate_left
            · intro a W hR hS hdep
              obtain ⟨hq2, q, rhq2⟩ := hdep 12 (by decide +kernel) (by decide)
              have e71 : a.tmps.getD 71 undef = .tuple #[.agg (factC hq2 (zF)), .bool false] := q
              clear q
              obtain ⟨hq3, q, rhq3⟩ := hdep 13 (by decide +kernel) (by decide)
              have e84 : a.tmps.getD 84 undef = .agg (factC hq3 (zF)) := q
              clear q
              obtain ⟨bq, q, hbq, rbq⟩ := hdep 15 (by decide +kernel) (by decide)
              have e12 : a.tmps.getD 12 undef = .pointer (some ⟨bq, 0, none⟩) := q
              clear q
              obtain ⟨T, df⟩ := a
              obtain rfl : df = [] := hS.defers
              have hT : T = (mixL _ [(12, T.getD 12 undef), (58, T.getD 71 undef), (0, T.getD 72 undef), (0, T.getD 73 undef), (0, T.getD 74 undef), (0, T.getD 75 undef), (0, T.getD 76 undef), (0, T.getD 77 undef), (0, T.getD 78 undef), (0, T.getD 79 undef), (0, T.getD 80 undef), (0, T.getD 81 undef), (0, T.getD 82 undef), (0, T.getD 83 undef), (0, T.getD 84 undef), (0, T.getD 85 undef)]).toArray := tmps_gaps hS 137 rfl [12, 58, 0, 0, 0, 0, 0, 0, 0, 0, 0, 0, 0, 0, 0, 0] (by kernel_rfl) (by kernel_rfl)
              simp only [mixL_succ, mixL_zero, mixL_nil] at hT
              have k71 : T.getD 71 undef = .tuple #[.agg (factC hq2 (zF)), .bool false] := e71
              have k84 : T.getD 84 undef = .agg (factC hq3 (zF)) := e84
              have k12 : T.getD 12 undef = .pointer (some ⟨bq, 0, none⟩) := e12
              clear hS hdep
              rw [k71] at hT
              clear k71 e71
              rw [k84] at hT
              clear k84 e84
              rw [k12] at hT
              clear k12 e12
              generalize T.getD 72 undef = u72 at hT
              generalize T.getD 73 undef = u73 at hT
              generalize T.getD 74 undef = u74 at hT
              generalize T.getD 75 undef = u75 at hT
              generalize T.getD 76 undef = u76 at hT
              generalize T.getD 77 undef = u77 at hT
              generalize T.getD 78 undef = u78 at hT
              generalize T.getD 79 undef = u79 at hT
              generalize T.getD 80 undef = u80 at hT
              generalize T.getD 81 undef = u81 at hT
              generalize T.getD 82 undef = u82 at hT
              generalize T.getD 83 undef = u83 at hT
              generalize T.getD 85 undef = u85 at hT
              subst hT
              have hbx := below_on (B := w3.heap.size) (Below.drew (Below.refl _ _)) hR (Nat.le_refl _)
              clear hR
              simp only [List.filterMap_cons, List.filterMap_nil, List.getElem?_toArray, List.getElem?_cons_succ, List.getElem?_cons_zero]
              have hbz : Below w3.heap.size w3 (W.setRow bq (factC hq3 (zF))) := hbx.grown (but_setRow W bq _) hbx.size (fun k e => by cases e; exact hbq)
              have hoz := rhq3.step ((Same.but (but_setRow W bq (factC hq3 (zF))) rbq (by decide)).mono (fun b _ ht => ht.1))
              have hqz := blk_setRow rbq (factC hq3 (zF))
              refine ⟨fun hp => ?_, ?_⟩
              · as_aux_lemma =>
                have e85 : u85 = .bool false := hp
                subst e85
                clear hp
                refine wpList_store_row rfl 36 _ _ rfl bq (factC hq3 (zF)) rfl rfl 36 noF rbq factSize rfl (factC_all hq3 (zF)) ?_
                have HBZ := Lib.hid hbz
                have HQZ := Lib.hid (And.intro hqz (hoz.mono (fun b _ ht => ht.1)))
                clear hbz hqz hoz hbx rhq3 rbq
                generalize W.setRow bq (factC hq3 (zF)) = Z at HBZ HQZ ⊢
                have HZZ := Lib.hid (HBZ.out)
                have hwz := HBZ.out
                have HO0 := Lib.hid (show Z.drew.cell? ⟨b0, off + j * 13, none⟩ = some (.slice hb.na hb.nl hb.nc) from cell_keep (Below.drew hwz) HP0.out)
                have HO1 := Lib.hid (show Z.drew.cell? ⟨b0, off + j * 13 + 1, none⟩ = some (.int .i64 s.f.typ) from cell_keep (Below.drew hwz) HP1.out)
                have HO2 := Lib.hid (show Z.drew.cell? ⟨b0, off + j * 13 + 2, none⟩ = some (.int .i64 s.f.kind) from cell_keep (Below.drew hwz) HP2.out)
                have HO3 := Lib.hid (show Z.drew.cell? ⟨b0, off + j * 13 + 3, none⟩ = some (.int .i64 s.f.rank) from cell_keep (Below.drew hwz) HP3.out)
                have HO4 := Lib.hid (show Z.drew.cell? ⟨b0, off + j * 13 + 4, none⟩ = some (.int .i64 s.f.got) from cell_keep (Below.drew hwz) HP4.out)
                have HO5 := Lib.hid (show Z.drew.cell? ⟨b0, off + j * 13 + 5, none⟩ = some (.int .i64 s.f.ttl) from cell_keep (Below.drew hwz) HP5.out)
                have HO6 := Lib.hid (show Z.drew.cell? ⟨b0, off + j * 13 + 6, none⟩ = some (.slice hb.sa hb.sl hb.sc) from cell_keep (Below.drew hwz) HP6.out)
                have HO7 := Lib.hid (show Z.drew.cell? ⟨b0, off + j * 13 + 7, none⟩ = some (.slice hb.za hb.zl hb.zc) from cell_keep (Below.drew hwz) HP7.out)
                have HO8 := Lib.hid (show Z.drew.cell? ⟨b0, off + j * 13 + 8, none⟩ = some (.slice hb.d.ba hb.d.bl hb.d.bc) from cell_keep (Below.drew hwz) HP8.out)
                have HO9 := Lib.hid (show Z.drew.cell? ⟨b0, off + j * 13 + 9, none⟩ = some (.slice hb.d.ha hb.d.hl hb.d.hc) from cell_keep (Below.drew hwz) HP9.out)
                have HO10 := Lib.hid (show Z.drew.cell? ⟨b0, off + j * 13 + 10, none⟩ = some (.slice hb.d.ma hb.d.ml hb.d.mc) from cell_keep (Below.drew hwz) HP10.out)
                have HO11 := Lib.hid (show Z.drew.cell? ⟨b0, off + j * 13 + 11, none⟩ = some (.slice hb.d.na hb.d.nl hb.d.nc) from cell_keep (Below.drew hwz) HP11.out)
                have HO12 := Lib.hid (show Z.drew.cell? ⟨b0, off + j * 13 + 12, none⟩ = some (.slice hb.d.ta hb.d.tl hb.d.tc) from cell_keep (Below.drew hwz) HP12.out)
                have HUZ := Lib.hid (fun w' (p : Below Z.heap.size Z w') => HUN.out w' (below_on HBZ.out p (Nat.le_refl _)))
                clear hwz
                go_wp2_with fail
                refine wp_soup0 (m := 137) (by kernel_rfl) (fun x y => Below x.heap.size x y) (fun i v xw => match i with | 0 => v = .bool false | 1 => v = .slice ((some ⟨b0, off, none⟩)) m bc | 2 => v = .int .i64 ((j : Int)) | 3 => v = .pointer (some ⟨b0, off + j * 13, none⟩) | 4 => v = .pointer (some ⟨b0, off + j * 13, none⟩) | 5 => v = .slice hb.na hb.nl hb.nc | 6 => v = .slice zo zn zc | 7 => v = .bool true | 8 => v = .bool false | 9 => v = .bool false | 10 => v = .bool false | 11 => v = .bool false | 12 => v = undef | 13 => v = undef | 14 => v = undef | 15 => v = undef | 16 => v = undef | 17 => v = undef | 18 => v = undef | 19 => v = .bool false | 20 => v = .bool false | _ => True) rfl (by kernel_rfl) (fun _ _ _ h1 h2 => below_on h1 h2 (Nat.le_refl _)) (Below.refl _ _) (fun _ _ _ _ h _ => h) (dst_but 21 (by kernel_rfl) (fun _ _ h => h)) ?_ ?_
                rotate_left
                · intro a W hR hS hdep
                  have e106 : a.tmps.getD 106 undef = .bool false := hdep 20 (by decide +kernel)
                  obtain ⟨T, df⟩ := a
                  obtain rfl : df = [] := hS.defers
                  have hT : T = (mixL _ [(86, T.getD 86 undef), (0, T.getD 87 undef), (0, T.getD 88 undef), (0, T.getD 89 undef), (0, T.getD 90 undef), (0, T.getD 91 undef), (0, T.getD 92 undef), (0, T.getD 93 undef), (0, T.getD 94 undef), (0, T.getD 95 undef), (0, T.getD 96 undef), (0, T.getD 97 undef), (0, T.getD 98 undef), (0, T.getD 99 undef), (0, T.getD 100 undef), (0, T.getD 101 undef), (0, T.getD 102 undef), (0, T.getD 103 undef), (0, T.getD 104 undef), (0, T.getD 105 undef), (0, T.getD 106 undef)]).toArray := tmps_gaps hS 137 rfl [86, 0, 0, 0, 0, 0, 0, 0, 0, 0, 0, 0, 0, 0, 0, 0, 0, 0, 0, 0, 0] (by kernel_rfl) (by kernel_rfl)
                  simp only [mixL_succ, mixL_zero, mixL_nil] at hT
                  have k106 : T.getD 106 undef = .bool false := e106
                  clear hS hdep
                  rw [k106] at hT
                  clear k106 e106
                  generalize T.getD 86 undef = u86 at hT
                  generalize T.getD 87 undef = u87 at hT
                  generalize T.getD 88 undef = u88 at hT
                  generalize T.getD 89 undef = u89 at hT
                  generalize T.getD 90 undef = u90 at hT
                  generalize T.getD 91 undef = u91 at hT
                  generalize T.getD 92 undef = u92 at hT
                  generalize T.getD 93 undef = u93 at hT
                  generalize T.getD 94 undef = u94 at hT
                  generalize T.getD 95 undef = u95 at hT
                  generalize T.getD 96 undef = u96 at hT
                  generalize T.getD 97 undef = u97 at hT
                  generalize T.getD 98 undef = u98 at hT
                  generalize T.getD 99 undef = u99 at hT
                  generalize T.getD 100 undef = u100 at hT
                  generalize T.getD 101 undef = u101 at hT
                  generalize T.getD 102 undef = u102 at hT
                  generalize T.getD 103 undef = u103 at hT
                  generalize T.getD 104 undef = u104 at hT
                  generalize T.getD 105 undef = u105 at hT
                  subst hT
                  have hbz2 := below_on (B := Z.heap.size) (Below.drew (Below.refl _ _)) hR (Nat.le_refl _)
                  clear hR
                  have HWF := Lib.hid (below_on HBZ.out hbz2 (Nat.le_refl _))
                  clear hbz2
                  go_wp2_with fail
                  go_roundw
                  case rel => exact ⟨j + 1, q + 1, by omega, by omega, by go_num, by go_num, Lib.hid ⟨below_on HIN.out.bel HWF.out (Nat.le_refl _), HIN.out.ca.on HWF.out, HIN.out.bf.step (Same.below HWF.out _), HCT.out⟩⟩
                  case measure => simp [intOf]; omega
                refine soup_cons rfl rfl (fun a W hR hS hdep K hK => ?_) ?_
                · have e13 : a.tmps[13]?.getD undef = .bool false := slot_of (hS.keep 13 (by kernel_rfl))
                  go_simp
                  exact hK _ _ (Below.refl _ _) (by first | rfl | simp)
                refine soup_cons rfl rfl (fun a W hR hS hdep K hK => ?_) ?_
                · have e8 : a.tmps[8]?.getD undef = .slice ((some ⟨b0, off, none⟩)) m bc := slot_of (hS.keep 8 (by kernel_rfl))
                  go_simp
                  exact hK _ _ (Below.refl _ _) (by first | rfl | simp)
                refine soup_cons rfl rfl (fun a W hR hS hdep K hK => ?_) ?_
                · have e11 : a.tmps[11]?.getD undef = .int .i64 ((j : Int)) := slot_of (hS.keep 11 (by kernel_rfl))
                  go_simp
                  exact hK _ _ (Below.refl _ _) (by first | rfl | simp)
                refine soup_cons rfl rfl (fun a W hR hS hdep K hK => ?_) ?_
                · have e87 : a.tmps[87]?.getD undef = .slice ((some ⟨b0, off, none⟩)) m bc := slot_of (hdep 1 (by decide +kernel))
                  have e88 : a.tmps[88]?.getD undef = .int .i64 ((j : Int)) := slot_of (hdep 2 (by decide +kernel))
                  go_simp
                  exact hK _ _ (Below.refl _ _) (by first | rfl | simp)
                refine soup_cons rfl rfl (fun a W hR hS hdep K hK => ?_) ?_
                · have e89 : a.tmps[89]?.getD undef = .pointer (some ⟨b0, off + j * 13, none⟩) := slot_of (hdep 3 (by decide +kernel))
                  go_simp
                  exact hK _ _ (Below.refl _ _) (by first | rfl | simp)
                refine soup_cons rfl rfl (fun a W hR hS hdep K hK => ?_) ?_
                · have e90 : a.tmps[90]?.getD undef = .pointer (some ⟨b0, off + j * 13, none⟩) := slot_of (hdep 4 (by decide +kernel))
                  have m0 := cell_keep hR HO0.out
                  go_simp
                  exact hK _ _ (Below.refl _ _) (by first | rfl | simp)
                refine soup_cons rfl rfl (fun a W hR hS hdep K hK => ?_) ?_
                · have e1 : a.tmps[1]?.getD undef = .slice zo zn zc := slot_of (hS.keep 1 (by kernel_rfl))
                  go_simp
                  exact hK _ _ (Below.refl _ _) (by first | rfl | simp)
                refine soup_cons rfl rfl (fun a W hR hS hdep K hK => ?_) ?_
                · have e91 : a.tmps[91]?.getD undef = .slice hb.na hb.nl hb.nc := slot_of (hdep 5 (by decide +kernel))
                  have e92 : a.tmps[92]?.getD undef = .slice zo zn zc := slot_of (hdep 6 (by decide +kernel))
                  go_simp
                  have hbx := below_on (B := Z.heap.size) (Below.drew (Below.refl _ _)) hR (Nat.le_refl _)
                  refine (HUZ.out _ hbx).mono ?_
                  rintro e W' ⟨rfl, hb⟩
                  exact hK _ _ hb rfl
                refine soup_cons rfl rfl (fun a W hR hS hdep K hK => ?_) ?_
                · have e86 : a.tmps[86]?.getD undef = .bool false := slot_of (hdep 0 (by decide +kernel))
                  have e93 : a.tmps[93]?.getD undef = .bool true := slot_of (hdep 7 (by decide +kernel))
                  go_simp
                  exact hK _ _ (Below.refl _ _) rfl
                refine soup_cons rfl rfl (fun a W hR hS hdep K hK => ?_) ?_
                · have e94 : a.tmps[94]?.getD undef = .bool false := slot_of (hdep 8 (by decide +kernel))
                  go_simp
                  exact hK _ _ (Below.refl _ _) rfl
                refine soup_cons rfl rfl (fun a W hR hS hdep K hK => ?_) ?_
                · have e13 : a.tmps[13]?.getD undef = .bool false := slot_of (hS.keep 13 (by kernel_rfl))
                  have e95 : a.tmps[95]?.getD undef = .bool false := slot_of (hdep 9 (by decide +kernel))
                  have g95 : a.tmps[95]? = some (.bool false) := slot_at (show _ = 137 from hS.size) (by decide) (hdep 9 (by decide +kernel))
                  go_simp
                  exact hK _ _ (Below.refl _ _) rfl
                refine soup_cons rfl rfl (fun a W hR hS hdep K hK => ?_) ?_
                · have e96 : a.tmps[96]?.getD undef = .bool false := slot_of (hdep 10 (by decide +kernel))
                  have e95 : a.tmps[95]?.getD undef = .bool false := slot_of (hdep 9 (by decide +kernel))
                  have g95 : a.tmps[95]? = some (.bool false) := slot_at (show _ = 137 from hS.size) (by decide) (hdep 9 (by decide +kernel))
                  go_simp
                  exact hK _ _ (Below.refl _ _) rfl
                refine soup_cons rfl rfl (fun a W hR hS hdep K hK => ?_) ?_
                · have e97 : a.tmps[97]?.getD undef = .bool false := slot_of (hdep 11 (by decide +kernel))
                  have g97 : a.tmps[97]? = some (.bool false) := slot_at (show _ = 137 from hS.size) (by decide) (hdep 11 (by decide +kernel))
                  go_simp
                  exact hK _ _ (Below.refl _ _) (by first | rfl | simp)
                refine soup_cons rfl rfl (fun a W hR hS hdep K hK => ?_) ?_
                · have e97 : a.tmps[97]?.getD undef = .bool false := slot_of (hdep 11 (by decide +kernel))
                  have g97 : a.tmps[97]? = some (.bool false) := slot_at (show _ = 137 from hS.size) (by decide) (hdep 11 (by decide +kernel))
                  go_simp
                  exact hK _ _ (Below.refl _ _) (by first | rfl | simp)
                refine soup_cons rfl rfl (fun a W hR hS hdep K hK => ?_) ?_
                · have e97 : a.tmps[97]?.getD undef = .bool false := slot_of (hdep 11 (by decide +kernel))
                  have g97 : a.tmps[97]? = some (.bool false) := slot_at (show _ = 137 from hS.size) (by decide) (hdep 11 (by decide +kernel))
                  go_simp
                  exact hK _ _ (Below.refl _ _) (by first | rfl | simp)
                refine soup_cons rfl rfl (fun a W hR hS hdep K hK => ?_) ?_
                · have e97 : a.tmps[97]?.getD undef = .bool false := slot_of (hdep 11 (by decide +kernel))
                  have g97 : a.tmps[97]? = some (.bool false) := slot_at (show _ = 137 from hS.size) (by decide) (hdep 11 (by decide +kernel))
                  go_simp
                  exact hK _ _ (Below.refl _ _) (by first | rfl | simp)
                refine soup_cons rfl rfl (fun a W hR hS hdep K hK => ?_) ?_
                · have e97 : a.tmps[97]?.getD undef = .bool false := slot_of (hdep 11 (by decide +kernel))
                  have g97 : a.tmps[97]? = some (.bool false) := slot_at (show _ = 137 from hS.size) (by decide) (hdep 11 (by decide +kernel))
                  go_simp
                  exact hK _ _ (Below.refl _ _) (by first | rfl | simp)
                refine soup_cons rfl rfl (fun a W hR hS hdep K hK => ?_) ?_
                · have e97 : a.tmps[97]?.getD undef = .bool false := slot_of (hdep 11 (by decide +kernel))
                  have g97 : a.tmps[97]? = some (.bool false) := slot_at (show _ = 137 from hS.size) (by decide) (hdep 11 (by decide +kernel))
                  go_simp
                  exact hK _ _ (Below.refl _ _) (by first | rfl | simp)
                refine soup_cons rfl rfl (fun a W hR hS hdep K hK => ?_) ?_
                · have e97 : a.tmps[97]?.getD undef = .bool false := slot_of (hdep 11 (by decide +kernel))
                  have g97 : a.tmps[97]? = some (.bool false) := slot_at (show _ = 137 from hS.size) (by decide) (hdep 11 (by decide +kernel))
                  go_simp
                  exact hK _ _ (Below.refl _ _) (by first | rfl | simp)
                refine soup_cons rfl rfl (fun a W hR hS hdep K hK => ?_) ?_
                · have e97 : a.tmps[97]?.getD undef = .bool false := slot_of (hdep 11 (by decide +kernel))
                  have e104 : a.tmps[104]?.getD undef = undef := slot_of (hdep 18 (by decide +kernel))
                  have e95 : a.tmps[95]?.getD undef = .bool false := slot_of (hdep 9 (by decide +kernel))
                  have g95 : a.tmps[95]? = some (.bool false) := slot_at (show _ = 137 from hS.size) (by decide) (hdep 9 (by decide +kernel))
                  go_simp
                  exact hK _ _ (Below.refl _ _) rfl
                refine soup_cons rfl rfl (fun a W hR hS hdep K hK => ?_) ?_
                · have e95 : a.tmps[95]?.getD undef = .bool false := slot_of (hdep 9 (by decide +kernel))
                  have e105 : a.tmps[105]?.getD undef = .bool false := slot_of (hdep 19 (by decide +kernel))
                  go_simp
                  exact hK _ _ (Below.refl _ _) rfl
                exact fun j h1 h2 => absurd h1 (by simp only [List.size_toArray, List.length_cons, List.length_nil]; omega)
              · as_aux_lemma =>
                refine wpList_store_row rfl 36 _ _ rfl bq (factC hq3 (zF)) rfl rfl 36 noF rbq factSize rfl (factC_all hq3 (zF)) ?_
                have HBZ := Lib.hid hbz
                have HQZ := Lib.hid (And.intro hqz (hoz.mono (fun b _ ht => ht.1)))
                clear hbz hqz hoz hbx rhq3 rbq
                generalize W.setRow bq (factC hq3 (zF)) = Z at HBZ HQZ ⊢
                have HZZ := Lib.hid (HBZ.out)
                have hwz := HBZ.out
                have HO0 := Lib.hid (show Z.drew.cell? ⟨b0, off + j * 13, none⟩ = some (.slice hb.na hb.nl hb.nc) from cell_keep (Below.drew hwz) HP0.out)
                have HO1 := Lib.hid (show Z.drew.cell? ⟨b0, off + j * 13 + 1, none⟩ = some (.int .i64 s.f.typ) from cell_keep (Below.drew hwz) HP1.out)
                have HO2 := Lib.hid (show Z.drew.cell? ⟨b0, off + j * 13 + 2, none⟩ = some (.int .i64 s.f.kind) from cell_keep (Below.drew hwz) HP2.out)
                have HO3 := Lib.hid (show Z.drew.cell? ⟨b0, off + j * 13 + 3, none⟩ = some (.int .i64 s.f.rank) from cell_keep (Below.drew hwz) HP3.out)
                have HO4 := Lib.hid (show Z.drew.cell? ⟨b0, off + j * 13 + 4, none⟩ = some (.int .i64 s.f.got) from cell_keep (Below.drew hwz) HP4.out)
                have HO5 := Lib.hid (show Z.drew.cell? ⟨b0, off + j * 13 + 5, none⟩ = some (.int .i64 s.f.ttl) from cell_keep (Below.drew hwz) HP5.out)
                have HO6 := Lib.hid (show Z.drew.cell? ⟨b0, off + j * 13 + 6, none⟩ = some (.slice hb.sa hb.sl hb.sc) from cell_keep (Below.drew hwz) HP6.out)
                have HO7 := Lib.hid (show Z.drew.cell? ⟨b0, off + j * 13 + 7, none⟩ = some (.slice hb.za hb.zl hb.zc) from cell_keep (Below.drew hwz) HP7.out)
                have HO8 := Lib.hid (show Z.drew.cell? ⟨b0, off + j * 13 + 8, none⟩ = some (.slice hb.d.ba hb.d.bl hb.d.bc) from cell_keep (Below.drew hwz) HP8.out)
                have HO9 := Lib.hid (show Z.drew.cell? ⟨b0, off + j * 13 + 9, none⟩ = some (.slice hb.d.ha hb.d.hl hb.d.hc) from cell_keep (Below.drew hwz) HP9.out)
                have HO10 := Lib.hid (show Z.drew.cell? ⟨b0, off + j * 13 + 10, none⟩ = some (.slice hb.d.ma hb.d.ml hb.d.mc) from cell_keep (Below.drew hwz) HP10.out)
                have HO11 := Lib.hid (show Z.drew.cell? ⟨b0, off + j * 13 + 11, none⟩ = some (.slice hb.d.na hb.d.nl hb.d.nc) from cell_keep (Below.drew hwz) HP11.out)
                have HO12 := Lib.hid (show Z.drew.cell? ⟨b0, off + j * 13 + 12, none⟩ = some (.slice hb.d.ta hb.d.tl hb.d.tc) from cell_keep (Below.drew hwz) HP12.out)
                have HUZ := Lib.hid (fun w' (p : Below Z.heap.size Z w') => HUN.out w' (below_on HBZ.out p (Nat.le_refl _)))
                clear hwz
                go_wp2_with fail
                refine wp_soup0 (m := 137) (by kernel_rfl) (fun x y => Below x.heap.size x y) (fun i v xw => match i with | 0 => v = .bool false | 1 => v = .slice ((some ⟨b0, off, none⟩)) m bc | 2 => v = .int .i64 ((j : Int)) | 3 => v = .pointer (some ⟨b0, off + j * 13, none⟩) | 4 => v = .pointer (some ⟨b0, off + j * 13, none⟩) | 5 => v = .slice hb.na hb.nl hb.nc | 6 => v = .slice zo zn zc | 7 => v = .bool true | 8 => v = .bool false | 9 => v = .bool false | 10 => v = .bool false | 11 => v = .bool false | 12 => v = undef | 13 => v = undef | 14 => v = undef | 15 => v = undef | 16 => v = undef | 17 => v = undef | 18 => v = undef | 19 => v = .bool false | 20 => v = .bool false | _ => True) rfl (by kernel_rfl) (fun _ _ _ h1 h2 => below_on h1 h2 (Nat.le_refl _)) (Below.refl _ _) (fun _ _ _ _ h _ => h) (dst_but 21 (by kernel_rfl) (fun _ _ h => h)) ?_ ?_
                rotate_left
                · intro a W hR hS hdep
                  have e106 : a.tmps.getD 106 undef = .bool false := hdep 20 (by decide +kernel)
                  obtain ⟨T, df⟩ := a
                  obtain rfl : df = [] := hS.defers
                  have hT : T = (mixL _ [(86, T.getD 86 undef), (0, T.getD 87 undef), (0, T.getD 88 undef), (0, T.getD 89 undef), (0, T.getD 90 undef), (0, T.getD 91 undef), (0, T.getD 92 undef), (0, T.getD 93 undef), (0, T.getD 94 undef), (0, T.getD 95 undef), (0, T.getD 96 undef), (0, T.getD 97 undef), (0, T.getD 98 undef), (0, T.getD 99 undef), (0, T.getD 100 undef), (0, T.getD 101 undef), (0, T.getD 102 undef), (0, T.getD 103 undef), (0, T.getD 104 undef), (0, T.getD 105 undef), (0, T.getD 106 undef)]).toArray := tmps_gaps hS 137 rfl [86, 0, 0, 0, 0, 0, 0, 0, 0, 0, 0, 0, 0, 0, 0, 0, 0, 0, 0, 0, 0] (by kernel_rfl) (by kernel_rfl)
                  simp only [mixL_succ, mixL_zero, mixL_nil] at hT
                  have k106 : T.getD 106 undef = .bool false := e106
                  clear hS hdep
                  rw [k106] at hT
                  clear k106 e106
                  generalize T.getD 86 undef = u86 at hT
                  generalize T.getD 87 undef = u87 at hT
                  generalize T.getD 88 undef = u88 at hT
                  generalize T.getD 89 undef = u89 at hT
                  generalize T.getD 90 undef = u90 at hT
                  generalize T.getD 91 undef = u91 at hT
                  generalize T.getD 92 undef = u92 at hT
                  generalize T.getD 93 undef = u93 at hT
                  generalize T.getD 94 undef = u94 at hT
                  generalize T.getD 95 undef = u95 at hT
                  generalize T.getD 96 undef = u96 at hT
                  generalize T.getD 97 undef = u97 at hT
                  generalize T.getD 98 undef = u98 at hT
                  generalize T.getD 99 undef = u99 at hT
                  generalize T.getD 100 undef = u100 at hT
                  generalize T.getD 101 undef = u101 at hT
                  generalize T.getD 102 undef = u102 at hT
                  generalize T.getD 103 undef = u103 at hT
                  generalize T.getD 104 undef = u104 at hT
                  generalize T.getD 105 undef = u105 at hT
                  subst hT
                  have hbz2 := below_on (B := Z.heap.size) (Below.drew (Below.refl _ _)) hR (Nat.le_refl _)
                  clear hR
                  have HWF := Lib.hid (below_on HBZ.out hbz2 (Nat.le_refl _))
                  clear hbz2
                  go_wp2_with fail
                  go_roundw
                  case rel => exact ⟨j + 1, q + 1, by omega, by omega, by go_num, by go_num, Lib.hid ⟨below_on HIN.out.bel HWF.out (Nat.le_refl _), HIN.out.ca.on HWF.out, HIN.out.bf.step (Same.below HWF.out _), HCT.out⟩⟩
                  case measure => simp [intOf]; omega
                refine soup_cons rfl rfl (fun a W hR hS hdep K hK => ?_) ?_
                · have e13 : a.tmps[13]?.getD undef = .bool false := slot_of (hS.keep 13 (by kernel_rfl))
                  go_simp
                  exact hK _ _ (Below.refl _ _) (by first | rfl | simp)
                refine soup_cons rfl rfl (fun a W hR hS hdep K hK => ?_) ?_
                · have e8 : a.tmps[8]?.getD undef = .slice ((some ⟨b0, off, none⟩)) m bc := slot_of (hS.keep 8 (by kernel_rfl))
                  go_simp
                  exact hK _ _ (Below.refl _ _) (by first | rfl | simp)
                refine soup_cons rfl rfl (fun a W hR hS hdep K hK => ?_) ?_
                · have e11 : a.tmps[11]?.getD undef = .int .i64 ((j : Int)) := slot_of (hS.keep 11 (by kernel_rfl))
                  go_simp
                  exact hK _ _ (Below.refl _ _) (by first | rfl | simp)
                refine soup_cons rfl rfl (fun a W hR hS hdep K hK => ?_) ?_
                · have e87 : a.tmps[87]?.getD undef = .slice ((some ⟨b0, off, none⟩)) m bc := slot_of (hdep 1 (by decide +kernel))
                  have e88 : a.tmps[88]?.getD undef = .int .i64 ((j : Int)) := slot_of (hdep 2 (by decide +kernel))
                  go_simp
                  exact hK _ _ (Below.refl _ _) (by first | rfl | simp)
                refine soup_cons rfl rfl (fun a W hR hS hdep K hK => ?_) ?_
                · have e89 : a.tmps[89]?.getD undef = .pointer (some ⟨b0, off + j * 13, none⟩) := slot_of (hdep 3 (by decide +kernel))
                  go_simp
                  exact hK _ _ (Below.refl _ _) (by first | rfl | simp)
                refine soup_cons rfl rfl (fun a W hR hS hdep K hK => ?_) ?_
                · have e90 : a.tmps[90]?.getD undef = .pointer (some ⟨b0, off + j * 13, none⟩) := slot_of (hdep 4 (by decide +kernel))
                  have m0 := cell_keep hR HO0.out
                  go_simp
                  exact hK _ _ (Below.refl _ _) (by first | rfl | simp)
                refine soup_cons rfl rfl (fun a W hR hS hdep K hK => ?_) ?_
                · have e1 : a.tmps[1]?.getD undef = .slice zo zn zc := slot_of (hS.keep 1 (by kernel_rfl))
                  go_simp
                  exact hK _ _ (Below.refl _ _) (by first | rfl | simp)
                refine soup_cons rfl rfl (fun a W hR hS hdep K hK => ?_) ?_
                · have e91 : a.tmps[91]?.getD undef = .slice hb.na hb.nl hb.nc := slot_of (hdep 5 (by decide +kernel))
                  have e92 : a.tmps[92]?.getD undef = .slice zo zn zc := slot_of (hdep 6 (by decide +kernel))
                  go_simp
                  have hbx := below_on (B := Z.heap.size) (Below.drew (Below.refl _ _)) hR (Nat.le_refl _)
                  refine (HUZ.out _ hbx).mono ?_
                  rintro e W' ⟨rfl, hb⟩
                  exact hK _ _ hb rfl
                refine soup_cons rfl rfl (fun a W hR hS hdep K hK => ?_) ?_
                · have e86 : a.tmps[86]?.getD undef = .bool false := slot_of (hdep 0 (by decide +kernel))
                  have e93 : a.tmps[93]?.getD undef = .bool true := slot_of (hdep 7 (by decide +kernel))
                  go_simp
                  exact hK _ _ (Below.refl _ _) rfl
                refine soup_cons rfl rfl (fun a W hR hS hdep K hK => ?_) ?_
                · have e94 : a.tmps[94]?.getD undef = .bool false := slot_of (hdep 8 (by decide +kernel))
                  go_simp
                  exact hK _ _ (Below.refl _ _) rfl
                refine soup_cons rfl rfl (fun a W hR hS hdep K hK => ?_) ?_
                · have e13 : a.tmps[13]?.getD undef = .bool false := slot_of (hS.keep 13 (by kernel_rfl))
                  have e95 : a.tmps[95]?.getD undef = .bool false := slot_of (hdep 9 (by decide +kernel))
                  have g95 : a.tmps[95]? = some (.bool false) := slot_at (show _ = 137 from hS.size) (by decide) (hdep 9 (by decide +kernel))
                  go_simp
                  exact hK _ _ (Below.refl _ _) rfl
                refine soup_cons rfl rfl (fun a W hR hS hdep K hK => ?_) ?_
                · have e96 : a.tmps[96]?.getD undef = .bool false := slot_of (hdep 10 (by decide +kernel))
                  have e95 : a.tmps[95]?.getD undef = .bool false := slot_of (hdep 9 (by decide +kernel))
                  have g95 : a.tmps[95]? = some (.bool false) := slot_at (show _ = 137 from hS.size) (by decide) (hdep 9 (by decide +kernel))
                  go_simp
                  exact hK _ _ (Below.refl _ _) rfl
                refine soup_cons rfl rfl (fun a W hR hS hdep K hK => ?_) ?_
                · have e97 : a.tmps[97]?.getD undef = .bool false := slot_of (hdep 11 (by decide +kernel))
                  have g97 : a.tmps[97]? = some (.bool false) := slot_at (show _ = 137 from hS.size) (by decide) (hdep 11 (by decide +kernel))
                  go_simp
                  exact hK _ _ (Below.refl _ _) (by first | rfl | simp)
                refine soup_cons rfl rfl (fun a W hR hS hdep K hK => ?_) ?_
                · have e97 : a.tmps[97]?.getD undef = .bool false := slot_of (hdep 11 (by decide +kernel))
                  have g97 : a.tmps[97]? = some (.bool false) := slot_at (show _ = 137 from hS.size) (by decide) (hdep 11 (by decide +kernel))
                  go_simp
                  exact hK _ _ (Below.refl _ _) (by first | rfl | simp)
                refine soup_cons rfl rfl (fun a W hR hS hdep K hK => ?_) ?_
                · have e97 : a.tmps[97]?.getD undef = .bool false := slot_of (hdep 11 (by decide +kernel))
                  have g97 : a.tmps[97]? = some (.bool false) := slot_at (show _ = 137 from hS.size) (by decide) (hdep 11 (by decide +kernel))
                  go_simp
                  exact hK _ _ (Below.refl _ _) (by first | rfl | simp)
                refine soup_cons rfl rfl (fun a W hR hS hdep K hK => ?_) ?_
                · have e97 : a.tmps[97]?.getD undef = .bool false := slot_of (hdep 11 (by decide +kernel))
                  have g97 : a.tmps[97]? = some (.bool false) := slot_at (show _ = 137 from hS.size) (by decide) (hdep 11 (by decide +kernel))
                  go_simp
                  exact hK _ _ (Below.refl _ _) (by first | rfl | simp)
                refine soup_cons rfl rfl (fun a W hR hS hdep K hK => ?_) ?_
                · have e97 : a.tmps[97]?.getD undef = .bool false := slot_of (hdep 11 (by decide +kernel))
                  have g97 : a.tmps[97]? = some (.bool false) := slot_at (show _ = 137 from hS.size) (by decide) (hdep 11 (by decide +kernel))
                  go_simp
                  exact hK _ _ (Below.refl _ _) (by first | rfl | simp)
                refine soup_cons rfl rfl (fun a W hR hS hdep K hK => ?_) ?_
                · have e97 : a.tmps[97]?.getD undef = .bool false := slot_of (hdep 11 (by decide +kernel))
                  have g97 : a.tmps[97]? = some (.bool false) := slot_at (show _ = 137 from hS.size) (by decide) (hdep 11 (by decide +kernel))
                  go_simp
                  exact hK _ _ (Below.refl _ _) (by first | rfl | simp)
                refine soup_cons rfl rfl (fun a W hR hS hdep K hK => ?_) ?_
                · have e97 : a.tmps[97]?.getD undef = .bool false := slot_of (hdep 11 (by decide +kernel))
                  have g97 : a.tmps[97]? = some (.bool false) := slot_at (show _ = 137 from hS.size) (by decide) (hdep 11 (by decide +kernel))
                  go_simp
                  exact hK _ _ (Below.refl _ _) (by first | rfl | simp)
                refine soup_cons rfl rfl (fun a W hR hS hdep K hK => ?_) ?_
                · have e97 : a.tmps[97]?.getD undef = .bool false := slot_of (hdep 11 (by decide +kernel))
                  have e104 : a.tmps[104]?.getD undef = undef := slot_of (hdep 18 (by decide +kernel))
                  have e95 : a.tmps[95]?.getD undef = .bool false := slot_of (hdep 9 (by decide +kernel))
                  have g95 : a.tmps[95]? = some (.bool false) := slot_at (show _ = 137 from hS.size) (by decide) (hdep 9 (by decide +kernel))
                  go_simp
                  exact hK _ _ (Below.refl _ _) rfl
                refine soup_cons rfl rfl (fun a W hR hS hdep K hK => ?_) ?_
                · have e95 : a.tmps[95]?.getD undef = .bool false := slot_of (hdep 9 (by decide +kernel))
                  have e105 : a.tmps[105]?.getD undef = .bool false := slot_of (hdep 19 (by decide +kernel))
                  go_simp
                  exact hK _ _ (Below.refl _ _) rfl
                exact fun j h1 h2 => absurd h1 (by simp only [List.size_toArray, List.length_cons, List.length_nil]; omega)
            refine soup_cons rfl rfl (fun a W hR hS hdep K hK => ?_) ?_
            · have e5 : a.tmps[5]?.getD undef = .pointer (some ⟨C, 0, none⟩) := slot_of (hS.keep 5 (by kernel_rfl))
              go_simp
              exact hK _ _ (Below.refl _ _) (by first | rfl | simp)
            refine soup_cons rfl rfl (fun a W hR hS hdep K hK => ?_) ?_
            · have e8 : a.tmps[8]?.getD undef = .slice ((some ⟨b0, off, none⟩)) m bc := slot_of (hS.keep 8 (by kernel_rfl))
              go_simp
              exact hK _ _ (Below.refl _ _) (by first | rfl | simp)
            refine soup_cons rfl rfl (fun a W hR hS hdep K hK => ?_) ?_
            · have e11 : a.tmps[11]?.getD undef = .int .i64 ((j : Int)) := slot_of (hS.keep 11 (by kernel_rfl))
              go_simp
              exact hK _ _ (Below.refl _ _) (by first | rfl | simp)
            refine soup_cons rfl rfl (fun a W hR hS hdep K hK => ?_) ?_
            · have e73 : a.tmps[73]?.getD undef = .slice ((some ⟨b0, off, none⟩)) m bc := slot_of (hdep 1 (by decide +kernel))
              have e74 : a.tmps[74]?.getD undef = .int .i64 ((j : Int)) := slot_of (hdep 2 (by decide +kernel))
              go_simp
              exact hK _ _ (Below.refl _ _) (by first | rfl | simp)
            refine soup_cons rfl rfl (fun a W hR hS hdep K hK => ?_) ?_
            · have e75 : a.tmps[75]?.getD undef = .pointer (some ⟨b0, off + j * 13, none⟩) := slot_of (hdep 3 (by decide +kernel))
              go_simp
              exact hK _ _ (Below.refl _ _) (by first | rfl | simp)
            refine soup_cons rfl rfl (fun a W hR hS hdep K hK => ?_) ?_
            · have e76 : a.tmps[76]?.getD undef = .pointer (some ⟨b0, off + j * 13, none⟩) := slot_of (hdep 4 (by decide +kernel))
              have m0 := cell_keep hR HQ0.out
              go_simp
              exact hK _ _ (Below.refl _ _) (by first | rfl | simp)
            refine soup_cons rfl rfl (fun a W hR hS hdep K hK => ?_) ?_
            · have e8 : a.tmps[8]?.getD undef = .slice ((some ⟨b0, off, none⟩)) m bc := slot_of (hS.keep 8 (by kernel_rfl))
              go_simp
              exact hK _ _ (Below.refl _ _) (by first | rfl | simp)
            refine soup_cons rfl rfl (fun a W hR hS hdep K hK => ?_) ?_
            · have e11 : a.tmps[11]?.getD undef = .int .i64 ((j : Int)) := slot_of (hS.keep 11 (by kernel_rfl))
              go_simp
              exact hK _ _ (Below.refl _ _) (by first | rfl | simp)
            refine soup_cons rfl rfl (fun a W hR hS hdep K hK => ?_) ?_
            · have e78 : a.tmps[78]?.getD undef = .slice ((some ⟨b0, off, none⟩)) m bc := slot_of (hdep 6 (by decide +kernel))
              have e79 : a.tmps[79]?.getD undef = .int .i64 ((j : Int)) := slot_of (hdep 7 (by decide +kernel))
              go_simp
              exact hK _ _ (Below.refl _ _) (by first | rfl | simp)
            refine soup_cons rfl rfl (fun a W hR hS hdep K hK => ?_) ?_
            · have e80 : a.tmps[80]?.getD undef = .pointer (some ⟨b0, off + j * 13, none⟩) := slot_of (hdep 8 (by decide +kernel))
              go_simp
              exact hK _ _ (Below.refl _ _) (by first | rfl | simp)
            refine soup_cons rfl rfl (fun a W hR hS hdep K hK => ?_) ?_
            · have e81 : a.tmps[81]?.getD undef = .pointer (some ⟨b0, off + j * 13 + 1, none⟩) := slot_of (hdep 9 (by decide +kernel))
              have m0 := cell_keep hR HQ1.out
              go_simp
              exact hK _ _ (Below.refl _ _) (by first | rfl | simp)
            refine soup_cons rfl rfl (fun a W hR hS hdep K hK => ?_) ?_
            · have e72 : a.tmps[72]?.getD undef = .pointer (some ⟨C, 0, none⟩) := slot_of (hdep 0 (by decide +kernel))
              have e77 : a.tmps[77]?.getD undef = .slice hb.na hb.nl hb.nc := slot_of (hdep 5 (by decide +kernel))
              have e82 : a.tmps[82]?.getD undef = .int .i64 s.f.typ := slot_of (hdep 10 (by decide +kernel))
              go_simp
              have hbx := below_on (B := w3.heap.size) (Below.drew (Below.refl _ _)) hR (Nat.le_refl _)
              refine (HLK.out _ hbx).mono ?_
              rintro e W' ⟨⟨hq, rfl, ho⟩, hb⟩
              exact hK _ _ hb ⟨hq, rfl, ho⟩
            refine soup_cons rfl rfl (fun a W hR hS hdep K hK => ?_) ?_
            · obtain ⟨hq1, q, rhq1⟩ := hdep 11 (by decide +kernel)
              have e83 : a.tmps[83]?.getD undef = .tuple #[.agg (factC hq1 (zF)), .bool false] := slot_of q
              clear q
              go_simp
              exact hK _ _ (Below.refl _ _) ⟨hq1, rfl, rhq1⟩
            refine soup_cons rfl rfl (fun a W hR hS hdep K hK => ?_) ?_
            · obtain ⟨hq2, q, rhq2⟩ := hdep 12 (by decide +kernel)
              have e71 : a.tmps[71]?.getD undef = .tuple #[.agg (factC hq2 (zF)), .bool false] := slot_of q
              clear q
              go_simp
              exact hK _ _ (Below.refl _ _) ⟨hq2, rfl, rhq2⟩
            refine soup_cons rfl rfl (fun a W hR hS hdep K hK => ?_) ?_
            · obtain ⟨hq2, q, rhq2⟩ := hdep 12 (by decide +kernel)
              have e71 : a.tmps[71]?.getD undef = .tuple #[.agg (factC hq2 (zF)), .bool false] := slot_of q
              clear q
              go_simp
              exact hK _ _ (Below.refl _ _) rfl
            refine soup_cons rfl rfl (fun a W hR hS hdep K hK => ?_) ?_
            · go_simp
              have hbx := below_on (B := w3.heap.size) (Below.drew (Below.refl _ _)) hR (Nat.le_refl _)
              exact hK _ _ ((Below.refl _ _).alloc (Nat.le_refl _) _) ⟨_, rfl, hbx.size, heap_alloc_new _ _⟩
            exact fun j h1 h2 => absurd h1 (by omega)
          | false =>
            rw [hu, if_neg (by simp)] at hat
            rw [hu, if_neg (by simp)] at hct
            have HCT := Lib.hid (show q = ((L.take (j + 1)).filter fun s => underB s.f.name z).length by rw [hct, ← HIN.out.cnt]; rfl)
            have HUN := Lib.hid (fun w' (p : Below w3.heap.size w3 w') => under_r w' _ _ _ _ _ _ s.f.name z false hu (HFB.out.on p).name (HZ3.out.below p (Nat.le_refl _)))
            have HLK := Lib.hid (fun w' (p : Below w3.heap.size w3 w') => look_two w' w3.heap.size C k (overL L z) _ p.size (HIN.out.ca.on p) _ hb s.f s.f true (HFB.out.on p) HSM.out (by rw [hat]; rfl) (by rw [hat]; rfl))
            clear hat hct hu
            go_wp2_with fail
            refine wp_soup_pend (m := 137) 16 14 (by kernel_rfl) (fun x y => Below x.heap.size x y) (fun i v xw => match i with | 0 => v = .pointer (some ⟨C, 0, none⟩) | 1 => v = .slice ((some ⟨b0, off, none⟩)) m bc | 2 => v = .int .i64 ((j : Int)) | 3 => v = .pointer (some ⟨b0, off + j * 13, none⟩) | 4 => v = .pointer (some ⟨b0, off + j * 13, none⟩) | 5 => v = .slice hb.na hb.nl hb.nc | 6 => v = .slice ((some ⟨b0, off, none⟩)) m bc | 7 => v = .int .i64 ((j : Int)) | 8 => v = .pointer (some ⟨b0, off + j * 13, none⟩) | 9 => v = .pointer (some ⟨b0, off + j * 13 + 1, none⟩) | 10 => v = .int .i64 s.f.typ | 11 => ∃ h, v = .tuple #[.agg (factC h (s.f)), .bool true] ∧ OwnF w3.heap.size xw h (s.f) | 12 => ∃ h, v = .tuple #[.agg (factC h (s.f)), .bool true] ∧ OwnF w3.heap.size xw h (s.f) | 13 => ∃ h, v = .agg (factC h (s.f)) ∧ OwnF w3.heap.size xw h (s.f) | 14 => v = .bool true | 15 => ∃ b, v = .pointer (some ⟨b, 0, none⟩) ∧ w3.heap.size ≤ b ∧ Blk xw b noF 36 | _ => True) rfl (by kernel_rfl) (by kernel_rfl) (fun _ _ _ h1 h2 => below_on h1 h2 (Nat.le_refl _)) (Below.refl _ _) (by intro i v x y h hxy; match i, h with | 0, h => exact h | 1, h => exact h | 2, h => exact h | 3, h => exact h | 4, h => exact h | 5, h => exact h | 6, h => exact h | 7, h => exact h | 8, h => exact h | 9, h => exact h | 10, h => exact h | 11, ⟨h, e, hr⟩ => exact ⟨h, e, hr.on hxy⟩ | 12, ⟨h, e, hr⟩ => exact ⟨h, e, hr.on hxy⟩ | 13, ⟨h, e, hr⟩ => exact ⟨h, e, hr.on hxy⟩ | 14, h => exact h | 15, ⟨b, e, hl, hr⟩ => exact ⟨b, e, hl, hr.on hxy⟩ | _ + 16, _ => trivial) (dst_head (by kernel_rfl)) ?_ ?_
            rotate_left
            · intro a W hR hS hdep
              obtain ⟨hq2, q, rhq2⟩ := hdep 12 (by decide +kernel) (by decide)
              have e71 : a.tmps.getD 71 undef = .tuple #[.agg (factC hq2 (s.f)), .bool true] := q
              clear q
              obtain ⟨hq3, q, rhq3⟩ := hdep 13 (by decide +kernel) (by decide)
              have e84 : a.tmps.getD 84 undef = .agg (factC hq3 (s.f)) := q
              clear q
              obtain ⟨bq, q, hbq, rbq⟩ := hdep 15 (by decide +kernel) (by decide)
              have e12 : a.tmps.getD 12 undef = .pointer (some ⟨bq, 0, none⟩) := q
              clear q
              obtain ⟨T, df⟩ := a
              obtain rfl : df = [] := hS.defers
              have hT : T = (mixL _ [(12, T.getD 12 undef), (58, T.getD 71 undef), (0, T.getD 72 undef), (0, T.getD 73 undef), (0, T.getD 74 undef), (0, T.getD 75 undef), (0, T.getD 76 undef), (0, T.getD 77 undef), (0, T.getD 78 undef), (0, T.getD 79 undef), (0, T.getD 80 undef), (0, T.getD 81 undef), (0, T.getD 82 undef), (0, T.getD 83 undef), (0, T.getD 84 undef), (0, T.getD 85 undef)]).toArray := tmps_gaps hS 137 rfl [12, 58, 0, 0, 0, 0, 0, 0, 0, 0, 0, 0, 0, 0, 0, 0] (by kernel_rfl) (by kernel_rfl)
              simp only [mixL_succ, mixL_zero, mixL_nil] at hT
              have k71 : T.getD 71 undef = .tuple #[.agg (factC hq2 (s.f)), .bool true] := e71
              have k84 : T.getD 84 undef = .agg (factC hq3 (s.f)) := e84
              have k12 : T.getD 12 undef = .pointer (some ⟨bq, 0, none⟩) := e12
              clear hS hdep
              rw [k71] at hT
              clear k71 e71
              rw [k84] at hT
              clear k84 e84
              rw [k12] at hT
              clear k12 e12
              generalize T.getD 72 undef = u72 at hT
              generalize T.getD 73 undef = u73 at hT
              generalize T.getD 74 undef = u74 at hT
              generalize T.getD 75 undef = u75 at hT
              generalize T.getD 76 undef = u76 at hT
              generalize T.getD 77 undef = u77 at hT
              generalize T.getD 78 undef = u78 at hT
              generalize T.getD 79 undef = u79 at hT
              generalize T.getD 80 undef = u80 at hT
              generalize T.getD 81 undef = u81 at hT
              generalize T.getD 82 undef = u82 at hT
              generalize T.getD 83 undef = u83 at hT
              generalize T.getD 85 undef = u85 at hT
              subst hT
              have hbx := below_on (B := w3.heap.size) (Below.drew (Below.refl _ _)) hR (Nat.le_refl _)
              clear hR
              simp only [List.filterMap_cons, List.filterMap_nil, List.getElem?_toArray, List.getElem?_cons_succ, List.getElem?_cons_zero]
              have hbz : Below w3.heap.size w3 (W.setRow bq (factC hq3 (s.f))) := hbx.grown (but_setRow W bq _) hbx.size (fun k e => by cases e; exact hbq)
              have hoz := rhq3.step ((Same.but (but_setRow W bq (factC hq3 (s.f))) rbq (by decide)).mono (fun b _ ht => ht.1))
              have hqz := blk_setRow rbq (factC hq3 (s.f))
              refine ⟨fun hp => ?_, ?_⟩
              · as_aux_lemma =>
                have e85 : u85 = .bool true := hp
                subst e85
                clear hp
                refine wpList_store_row rfl 36 _ _ rfl bq (factC hq3 (s.f)) rfl rfl 36 noF rbq factSize rfl (factC_all hq3 (s.f)) ?_
                have HBZ := Lib.hid hbz
                have HQZ := Lib.hid (And.intro hqz (hoz.mono (fun b _ ht => ht.1)))
                clear hbz hqz hoz hbx rhq3 rbq
                generalize W.setRow bq (factC hq3 (s.f)) = Z at HBZ HQZ ⊢
                have HZZ := Lib.hid (HBZ.out)
                have hwz := HBZ.out
                have HO0 := Lib.hid (show Z.drew.cell? ⟨b0, off + j * 13, none⟩ = some (.slice hb.na hb.nl hb.nc) from cell_keep (Below.drew hwz) HP0.out)
                have HO1 := Lib.hid (show Z.drew.cell? ⟨b0, off + j * 13 + 1, none⟩ = some (.int .i64 s.f.typ) from cell_keep (Below.drew hwz) HP1.out)
                have HO2 := Lib.hid (show Z.drew.cell? ⟨b0, off + j * 13 + 2, none⟩ = some (.int .i64 s.f.kind) from cell_keep (Below.drew hwz) HP2.out)
                have HO3 := Lib.hid (show Z.drew.cell? ⟨b0, off + j * 13 + 3, none⟩ = some (.int .i64 s.f.rank) from cell_keep (Below.drew hwz) HP3.out)
                have HO4 := Lib.hid (show Z.drew.cell? ⟨b0, off + j * 13 + 4, none⟩ = some (.int .i64 s.f.got) from cell_keep (Below.drew hwz) HP4.out)
                have HO5 := Lib.hid (show Z.drew.cell? ⟨b0, off + j * 13 + 5, none⟩ = some (.int .i64 s.f.ttl) from cell_keep (Below.drew hwz) HP5.out)
                have HO6 := Lib.hid (show Z.drew.cell? ⟨b0, off + j * 13 + 6, none⟩ = some (.slice hb.sa hb.sl hb.sc) from cell_keep (Below.drew hwz) HP6.out)
                have HO7 := Lib.hid (show Z.drew.cell? ⟨b0, off + j * 13 + 7, none⟩ = some (.slice hb.za hb.zl hb.zc) from cell_keep (Below.drew hwz) HP7.out)
                have HO8 := Lib.hid (show Z.drew.cell? ⟨b0, off + j * 13 + 8, none⟩ = some (.slice hb.d.ba hb.d.bl hb.d.bc) from cell_keep (Below.drew hwz) HP8.out)
                have HO9 := Lib.hid (show Z.drew.cell? ⟨b0, off + j * 13 + 9, none⟩ = some (.slice hb.d.ha hb.d.hl hb.d.hc) from cell_keep (Below.drew hwz) HP9.out)
                have HO10 := Lib.hid (show Z.drew.cell? ⟨b0, off + j * 13 + 10, none⟩ = some (.slice hb.d.ma hb.d.ml hb.d.mc) from cell_keep (Below.drew hwz) HP10.out)
                have HO11 := Lib.hid (show Z.drew.cell? ⟨b0, off + j * 13 + 11, none⟩ = some (.slice hb.d.na hb.d.nl hb.d.nc) from cell_keep (Below.drew hwz) HP11.out)
                have HO12 := Lib.hid (show Z.drew.cell? ⟨b0, off + j * 13 + 12, none⟩ = some (.slice hb.d.ta hb.d.tl hb.d.tc) from cell_keep (Below.drew hwz) HP12.out)
                have HG0 := Lib.hid (show Z.drew.cell? ⟨bq, 0, none⟩ = some (.slice hq3.na hq3.nl hq3.nc) from HQZ.out.1.cell 0)
                have HG1 := Lib.hid (show Z.drew.cell? ⟨bq, 1, none⟩ = some (.int .i64 s.f.typ) from HQZ.out.1.cell 1)
                have HG2 := Lib.hid (show Z.drew.cell? ⟨bq, 2, none⟩ = some (.int .i64 s.f.kind) from HQZ.out.1.cell 2)
                have HG3 := Lib.hid (show Z.drew.cell? ⟨bq, 3, none⟩ = some (.int .i64 s.f.rank) from HQZ.out.1.cell 3)
                have HG4 := Lib.hid (show Z.drew.cell? ⟨bq, 4, none⟩ = some (.int .i64 s.f.got) from HQZ.out.1.cell 4)
                have HG5 := Lib.hid (show Z.drew.cell? ⟨bq, 5, none⟩ = some (.int .i64 s.f.ttl) from HQZ.out.1.cell 5)
                have HG6 := Lib.hid (show Z.drew.cell? ⟨bq, 6, none⟩ = some (.slice hq3.sa hq3.sl hq3.sc) from HQZ.out.1.cell 6)
                have HG7 := Lib.hid (show Z.drew.cell? ⟨bq, 7, none⟩ = some (.slice hq3.za hq3.zl hq3.zc) from HQZ.out.1.cell 7)
                have HG8 := Lib.hid (show Z.drew.cell? ⟨bq, 8, none⟩ = some (.slice hq3.d.ba hq3.d.bl hq3.d.bc) from HQZ.out.1.cell 8)
                have HG9 := Lib.hid (show Z.drew.cell? ⟨bq, 9, none⟩ = some (.slice hq3.d.ha hq3.d.hl hq3.d.hc) from HQZ.out.1.cell 9)
                have HG10 := Lib.hid (show Z.drew.cell? ⟨bq, 10, none⟩ = some (.slice hq3.d.ma hq3.d.ml hq3.d.mc) from HQZ.out.1.cell 10)
                have HG11 := Lib.hid (show Z.drew.cell? ⟨bq, 11, none⟩ = some (.slice hq3.d.na hq3.d.nl hq3.d.nc) from HQZ.out.1.cell 11)
                have HG12 := Lib.hid (show Z.drew.cell? ⟨bq, 12, none⟩ = some (.slice hq3.d.ta hq3.d.tl hq3.d.tc) from HQZ.out.1.cell 12)
                have HSZ2 := Lib.hid (fun w' (p : Below Z.heap.size Z w') => same_two w' _ _ hq3 hb s.f HSB.out (HQZ.out.2.on p) (HFB.out.on (below_on HBZ.out p (Nat.le_refl _))))
                simp only [factC] at HSZ2
                have HUZ := Lib.hid (fun w' (p : Below Z.heap.size Z w') => HUN.out w' (below_on HBZ.out p (Nat.le_refl _)))
                clear hwz
                go_wp2_with fail
                refine wp_soup0 (m := 137) (by kernel_rfl) (fun x y => Below x.heap.size x y) (fun i v xw => match i with | 0 => v = .bool true | 1 => v = .slice ((some ⟨b0, off, none⟩)) m bc | 2 => v = .int .i64 ((j : Int)) | 3 => v = .pointer (some ⟨b0, off + j * 13, none⟩) | 4 => v = .pointer (some ⟨b0, off + j * 13, none⟩) | 5 => v = .slice hb.na hb.nl hb.nc | 6 => v = .slice zo zn zc | 7 => v = .bool false | 8 => v = .bool false | 9 => v = .bool false | 10 => v = .bool true | 11 => v = .bool true | 12 => v = .agg #[.slice hq3.na hq3.nl hq3.nc, .int .i64 s.f.typ, .int .i64 s.f.kind, .int .i64 s.f.rank, .int .i64 s.f.got, .int .i64 s.f.ttl, .slice hq3.sa hq3.sl hq3.sc, .slice hq3.za hq3.zl hq3.zc, .slice hq3.d.ba hq3.d.bl hq3.d.bc, .slice hq3.d.ha hq3.d.hl hq3.d.hc, .slice hq3.d.ma hq3.d.ml hq3.d.mc, .slice hq3.d.na hq3.d.nl hq3.d.nc, .slice hq3.d.ta hq3.d.tl hq3.d.tc] | 13 => v = .slice ((some ⟨b0, off, none⟩)) m bc | 14 => v = .int .i64 ((j : Int)) | 15 => v = .pointer (some ⟨b0, off + j * 13, none⟩) | 16 => v = .agg #[.slice hb.na hb.nl hb.nc, .int .i64 s.f.typ, .int .i64 s.f.kind, .int .i64 s.f.rank, .int .i64 s.f.got, .int .i64 s.f.ttl, .slice hb.sa hb.sl hb.sc, .slice hb.za hb.zl hb.zc, .slice hb.d.ba hb.d.bl hb.d.bc, .slice hb.d.ha hb.d.hl hb.d.hc, .slice hb.d.ma hb.d.ml hb.d.mc, .slice hb.d.na hb.d.nl hb.d.nc, .slice hb.d.ta hb.d.tl hb.d.tc] | 17 => v = .bool true | 18 => v = .bool false | 19 => v = .bool false | 20 => v = .bool false | _ => True) rfl (by kernel_rfl) (fun _ _ _ h1 h2 => below_on h1 h2 (Nat.le_refl _)) (Below.refl _ _) (fun _ _ _ _ h _ => h) (dst_but 21 (by kernel_rfl) (fun _ _ h => h)) ?_ ?_
                rotate_left
                · intro a W hR hS hdep
                  have e106 : a.tmps.getD 106 undef = .bool false := hdep 20 (by decide +kernel)
                  obtain ⟨T, df⟩ := a
                  obtain rfl : df = [] := hS.defers
                  have hT : T = (mixL _ [(86, T.getD 86 undef), (0, T.getD 87 undef), (0, T.getD 88 undef), (0, T.getD 89 undef), (0, T.getD 90 undef), (0, T.getD 91 undef), (0, T.getD 92 undef), (0, T.getD 93 undef), (0, T.getD 94 undef), (0, T.getD 95 undef), (0, T.getD 96 undef), (0, T.getD 97 undef), (0, T.getD 98 undef), (0, T.getD 99 undef), (0, T.getD 100 undef), (0, T.getD 101 undef), (0, T.getD 102 undef), (0, T.getD 103 undef), (0, T.getD 104 undef), (0, T.getD 105 undef), (0, T.getD 106 undef)]).toArray := tmps_gaps hS 137 rfl [86, 0, 0, 0, 0, 0, 0, 0, 0, 0, 0, 0, 0, 0, 0, 0, 0, 0, 0, 0, 0] (by kernel_rfl) (by kernel_rfl)
                  simp only [mixL_succ, mixL_zero, mixL_nil] at hT
                  have k106 : T.getD 106 undef = .bool false := e106
                  clear hS hdep
                  rw [k106] at hT
                  clear k106 e106
                  generalize T.getD 86 undef = u86 at hT
                  generalize T.getD 87 undef = u87 at hT
                  generalize T.getD 88 undef = u88 at hT
                  generalize T.getD 89 undef = u89 at hT
                  generalize T.getD 90 undef = u90 at hT
                  generalize T.getD 91 undef = u91 at hT
                  generalize T.getD 92 undef = u92 at hT
                  generalize T.getD 93 undef = u93 at hT
                  generalize T.getD 94 undef = u94 at hT
                  generalize T.getD 95 undef = u95 at hT
                  generalize T.getD 96 undef = u96 at hT
                  generalize T.getD 97 undef = u97 at hT
                  generalize T.getD 98 undef = u98 at hT
                  generalize T.getD 99 undef = u99 at hT
                  generalize T.getD 100 undef = u100 at hT
                  generalize T.getD 101 undef = u101 at hT
                  generalize T.getD 102 undef = u102 at hT
                  generalize T.getD 103 undef = u103 at hT
                  generalize T.getD 104 undef = u104 at hT
                  generalize T.getD 105 undef = u105 at hT
                  subst hT
                  have hbz2 := below_on (B := Z.heap.size) (Below.drew (Below.refl _ _)) hR (Nat.le_refl _)
                  clear hR
                  have HWF := Lib.hid (below_on HBZ.out hbz2 (Nat.le_refl _))
                  clear hbz2
                  go_wp2_with fail
                  go_roundw
                  case rel => exact ⟨j + 1, q, by omega, by omega, by go_num, by go_num, Lib.hid ⟨below_on HIN.out.bel HWF.out (Nat.le_refl _), HIN.out.ca.on HWF.out, HIN.out.bf.step (Same.below HWF.out _), HCT.out⟩⟩
                  case measure => simp [intOf]; omega
                refine soup_cons rfl rfl (fun a W hR hS hdep K hK => ?_) ?_
                · have e13 : a.tmps[13]?.getD undef = .bool true := slot_of (hS.keep 13 (by kernel_rfl))
                  go_simp
                  exact hK _ _ (Below.refl _ _) (by first | rfl | simp)
                refine soup_cons rfl rfl (fun a W hR hS hdep K hK => ?_) ?_
                · have e8 : a.tmps[8]?.getD undef = .slice ((some ⟨b0, off, none⟩)) m bc := slot_of (hS.keep 8 (by kernel_rfl))
                  go_simp
                  exact hK _ _ (Below.refl _ _) (by first | rfl | simp)
                refine soup_cons rfl rfl (fun a W hR hS hdep K hK => ?_) ?_
                · have e11 : a.tmps[11]?.getD undef = .int .i64 ((j : Int)) := slot_of (hS.keep 11 (by kernel_rfl))
                  go_simp
                  exact hK _ _ (Below.refl _ _) (by first | rfl | simp)
                refine soup_cons rfl rfl (fun a W hR hS hdep K hK => ?_) ?_
                · have e87 : a.tmps[87]?.getD undef = .slice ((some ⟨b0, off, none⟩)) m bc := slot_of (hdep 1 (by decide +kernel))
                  have e88 : a.tmps[88]?.getD undef = .int .i64 ((j : Int)) := slot_of (hdep 2 (by decide +kernel))
                  go_simp
                  exact hK _ _ (Below.refl _ _) (by first | rfl | simp)
                refine soup_cons rfl rfl (fun a W hR hS hdep K hK => ?_) ?_
                · have e89 : a.tmps[89]?.getD undef = .pointer (some ⟨b0, off + j * 13, none⟩) := slot_of (hdep 3 (by decide +kernel))
                  go_simp
                  exact hK _ _ (Below.refl _ _) (by first | rfl | simp)
                refine soup_cons rfl rfl (fun a W hR hS hdep K hK => ?_) ?_
                · have e90 : a.tmps[90]?.getD undef = .pointer (some ⟨b0, off + j * 13, none⟩) := slot_of (hdep 4 (by decide +kernel))
                  have m0 := cell_keep hR HO0.out
                  go_simp
                  exact hK _ _ (Below.refl _ _) (by first | rfl | simp)
                refine soup_cons rfl rfl (fun a W hR hS hdep K hK => ?_) ?_
                · have e1 : a.tmps[1]?.getD undef = .slice zo zn zc := slot_of (hS.keep 1 (by kernel_rfl))
                  go_simp
                  exact hK _ _ (Below.refl _ _) (by first | rfl | simp)
                refine soup_cons rfl rfl (fun a W hR hS hdep K hK => ?_) ?_
                · have e91 : a.tmps[91]?.getD undef = .slice hb.na hb.nl hb.nc := slot_of (hdep 5 (by decide +kernel))
                  have e92 : a.tmps[92]?.getD undef = .slice zo zn zc := slot_of (hdep 6 (by decide +kernel))
                  go_simp
                  have hbx := below_on (B := Z.heap.size) (Below.drew (Below.refl _ _)) hR (Nat.le_refl _)
                  refine (HUZ.out _ hbx).mono ?_
                  rintro e W' ⟨rfl, hb⟩
                  exact hK _ _ hb rfl
                refine soup_cons rfl rfl (fun a W hR hS hdep K hK => ?_) ?_
                · have e86 : a.tmps[86]?.getD undef = .bool true := slot_of (hdep 0 (by decide +kernel))
                  have e93 : a.tmps[93]?.getD undef = .bool false := slot_of (hdep 7 (by decide +kernel))
                  go_simp
                  exact hK _ _ (Below.refl _ _) rfl
                refine soup_cons rfl rfl (fun a W hR hS hdep K hK => ?_) ?_
                · have e94 : a.tmps[94]?.getD undef = .bool false := slot_of (hdep 8 (by decide +kernel))
                  go_simp
                  exact hK _ _ (Below.refl _ _) rfl
                refine soup_cons rfl rfl (fun a W hR hS hdep K hK => ?_) ?_
                · have e13 : a.tmps[13]?.getD undef = .bool true := slot_of (hS.keep 13 (by kernel_rfl))
                  have e95 : a.tmps[95]?.getD undef = .bool false := slot_of (hdep 9 (by decide +kernel))
                  have g95 : a.tmps[95]? = some (.bool false) := slot_at (show _ = 137 from hS.size) (by decide) (hdep 9 (by decide +kernel))
                  go_simp
                  exact hK _ _ (Below.refl _ _) rfl
                refine soup_cons rfl rfl (fun a W hR hS hdep K hK => ?_) ?_
                · have e96 : a.tmps[96]?.getD undef = .bool true := slot_of (hdep 10 (by decide +kernel))
                  have e95 : a.tmps[95]?.getD undef = .bool false := slot_of (hdep 9 (by decide +kernel))
                  have g95 : a.tmps[95]? = some (.bool false) := slot_at (show _ = 137 from hS.size) (by decide) (hdep 9 (by decide +kernel))
                  go_simp
                  exact hK _ _ (Below.refl _ _) rfl
                refine soup_cons rfl rfl (fun a W hR hS hdep K hK => ?_) ?_
                · have e12 : a.tmps[12]?.getD undef = .pointer (some ⟨bq, 0, none⟩) := slot_of (hS.keep 12 (by kernel_rfl))
                  have e97 : a.tmps[97]?.getD undef = .bool true := slot_of (hdep 11 (by decide +kernel))
                  have g97 : a.tmps[97]? = some (.bool true) := slot_at (show _ = 137 from hS.size) (by decide) (hdep 11 (by decide +kernel))
                  have m0 := cell_keep hR HG0.out
                  have m1 := cell_keep hR HG1.out
                  have m2 := cell_keep hR HG2.out
                  have m3 := cell_keep hR HG3.out
                  have m4 := cell_keep hR HG4.out
                  have m5 := cell_keep hR HG5.out
                  have m6 := cell_keep hR HG6.out
                  have m7 := cell_keep hR HG7.out
                  have m8 := cell_keep hR HG8.out
                  have m9 := cell_keep hR HG9.out
                  have m10 := cell_keep hR HG10.out
                  have m11 := cell_keep hR HG11.out
                  have m12 := cell_keep hR HG12.out
                  go_simp
                  exact hK _ _ (Below.refl _ _) (by first | rfl | simp)
                refine soup_cons rfl rfl (fun a W hR hS hdep K hK => ?_) ?_
                · have e8 : a.tmps[8]?.getD undef = .slice ((some ⟨b0, off, none⟩)) m bc := slot_of (hS.keep 8 (by kernel_rfl))
                  have e97 : a.tmps[97]?.getD undef = .bool true := slot_of (hdep 11 (by decide +kernel))
                  have g97 : a.tmps[97]? = some (.bool true) := slot_at (show _ = 137 from hS.size) (by decide) (hdep 11 (by decide +kernel))
                  go_simp
                  exact hK _ _ (Below.refl _ _) (by first | rfl | simp)
                refine soup_cons rfl rfl (fun a W hR hS hdep K hK => ?_) ?_
                · have e11 : a.tmps[11]?.getD undef = .int .i64 ((j : Int)) := slot_of (hS.keep 11 (by kernel_rfl))
                  have e97 : a.tmps[97]?.getD undef = .bool true := slot_of (hdep 11 (by decide +kernel))
                  have g97 : a.tmps[97]? = some (.bool true) := slot_at (show _ = 137 from hS.size) (by decide) (hdep 11 (by decide +kernel))
                  go_simp
                  exact hK _ _ (Below.refl _ _) (by first | rfl | simp)
                refine soup_cons rfl rfl (fun a W hR hS hdep K hK => ?_) ?_
                · have e99 : a.tmps[99]?.getD undef = .slice ((some ⟨b0, off, none⟩)) m bc := slot_of (hdep 13 (by decide +kernel))
                  have e100 : a.tmps[100]?.getD undef = .int .i64 ((j : Int)) := slot_of (hdep 14 (by decide +kernel))
                  have e97 : a.tmps[97]?.getD undef = .bool true := slot_of (hdep 11 (by decide +kernel))
                  have g97 : a.tmps[97]? = some (.bool true) := slot_at (show _ = 137 from hS.size) (by decide) (hdep 11 (by decide +kernel))
                  go_simp
                  exact hK _ _ (Below.refl _ _) (by first | rfl | simp)
                refine soup_cons rfl rfl (fun a W hR hS hdep K hK => ?_) ?_
                · have e101 : a.tmps[101]?.getD undef = .pointer (some ⟨b0, off + j * 13, none⟩) := slot_of (hdep 15 (by decide +kernel))
                  have e97 : a.tmps[97]?.getD undef = .bool true := slot_of (hdep 11 (by decide +kernel))
                  have g97 : a.tmps[97]? = some (.bool true) := slot_at (show _ = 137 from hS.size) (by decide) (hdep 11 (by decide +kernel))
                  have m0 := cell_keep hR HO0.out
                  have m1 := cell_keep hR HO1.out
                  have m2 := cell_keep hR HO2.out
                  have m3 := cell_keep hR HO3.out
                  have m4 := cell_keep hR HO4.out
                  have m5 := cell_keep hR HO5.out
                  have m6 := cell_keep hR HO6.out
                  have m7 := cell_keep hR HO7.out
                  have m8 := cell_keep hR HO8.out
                  have m9 := cell_keep hR HO9.out
                  have m10 := cell_keep hR HO10.out
                  have m11 := cell_keep hR HO11.out
                  have m12 := cell_keep hR HO12.out
                  go_simp
                  exact hK _ _ (Below.refl _ _) (by first | rfl | simp)
                refine soup_cons rfl rfl (fun a W hR hS hdep K hK => ?_) ?_
                · have e98 : a.tmps[98]?.getD undef = .agg #[.slice hq3.na hq3.nl hq3.nc, .int .i64 s.f.typ, .int .i64 s.f.kind, .int .i64 s.f.rank, .int .i64 s.f.got, .int .i64 s.f.ttl, .slice hq3.sa hq3.sl hq3.sc, .slice hq3.za hq3.zl hq3.zc, .slice hq3.d.ba hq3.d.bl hq3.d.bc, .slice hq3.d.ha hq3.d.hl hq3.d.hc, .slice hq3.d.ma hq3.d.ml hq3.d.mc, .slice hq3.d.na hq3.d.nl hq3.d.nc, .slice hq3.d.ta hq3.d.tl hq3.d.tc] := slot_of (hdep 12 (by decide +kernel))
                  have e102 : a.tmps[102]?.getD undef = .agg #[.slice hb.na hb.nl hb.nc, .int .i64 s.f.typ, .int .i64 s.f.kind, .int .i64 s.f.rank, .int .i64 s.f.got, .int .i64 s.f.ttl, .slice hb.sa hb.sl hb.sc, .slice hb.za hb.zl hb.zc, .slice hb.d.ba hb.d.bl hb.d.bc, .slice hb.d.ha hb.d.hl hb.d.hc, .slice hb.d.ma hb.d.ml hb.d.mc, .slice hb.d.na hb.d.nl hb.d.nc, .slice hb.d.ta hb.d.tl hb.d.tc] := slot_of (hdep 16 (by decide +kernel))
                  have e97 : a.tmps[97]?.getD undef = .bool true := slot_of (hdep 11 (by decide +kernel))
                  have g97 : a.tmps[97]? = some (.bool true) := slot_at (show _ = 137 from hS.size) (by decide) (hdep 11 (by decide +kernel))
                  go_simp
                  have hbx := below_on (B := Z.heap.size) (Below.drew (Below.refl _ _)) hR (Nat.le_refl _)
                  refine (HSZ2.out _ hbx).mono ?_
                  rintro e W' ⟨rfl, hb⟩
                  exact hK _ _ hb rfl
                refine soup_cons rfl rfl (fun a W hR hS hdep K hK => ?_) ?_
                · have e103 : a.tmps[103]?.getD undef = .bool true := slot_of (hdep 17 (by decide +kernel))
                  have e97 : a.tmps[97]?.getD undef = .bool true := slot_of (hdep 11 (by decide +kernel))
                  have g97 : a.tmps[97]? = some (.bool true) := slot_at (show _ = 137 from hS.size) (by decide) (hdep 11 (by decide +kernel))
                  go_simp
                  exact hK _ _ (Below.refl _ _) rfl
                refine soup_cons rfl rfl (fun a W hR hS hdep K hK => ?_) ?_
                · have e97 : a.tmps[97]?.getD undef = .bool true := slot_of (hdep 11 (by decide +kernel))
                  have e104 : a.tmps[104]?.getD undef = .bool false := slot_of (hdep 18 (by decide +kernel))
                  have e95 : a.tmps[95]?.getD undef = .bool false := slot_of (hdep 9 (by decide +kernel))
                  have g95 : a.tmps[95]? = some (.bool false) := slot_at (show _ = 137 from hS.size) (by decide) (hdep 9 (by decide +kernel))
                  go_simp
                  exact hK _ _ (Below.refl _ _) rfl
                refine soup_cons rfl rfl (fun a W hR hS hdep K hK => ?_) ?_
                · have e95 : a.tmps[95]?.getD undef = .bool false := slot_of (hdep 9 (by decide +kernel))
                  have e105 : a.tmps[105]?.getD undef = .bool false := slot_of (hdep 19 (by decide +kernel))
                  go_simp
                  exact hK _ _ (Below.refl _ _) rfl
                exact fun j h1 h2 => absurd h1 (by simp only [List.size_toArray, List.length_cons, List.length_nil]; omega)
              · as_aux_lemma =>
                refine wpList_store_row rfl 36 _ _ rfl bq (factC hq3 (s.f)) rfl rfl 36 noF rbq factSize rfl (factC_all hq3 (s.f)) ?_
                have HBZ := Lib.hid hbz
                have HQZ := Lib.hid (And.intro hqz (hoz.mono (fun b _ ht => ht.1)))
                clear hbz hqz hoz hbx rhq3 rbq
                generalize W.setRow bq (factC hq3 (s.f)) = Z at HBZ HQZ ⊢
                have HZZ := Lib.hid (HBZ.out)
                have hwz := HBZ.out
                have HO0 := Lib.hid (show Z.drew.cell? ⟨b0, off + j * 13, none⟩ = some (.slice hb.na hb.nl hb.nc) from cell_keep (Below.drew hwz) HP0.out)
                have HO1 := Lib.hid (show Z.drew.cell? ⟨b0, off + j * 13 + 1, none⟩ = some (.int .i64 s.f.typ) from cell_keep (Below.drew hwz) HP1.out)
                have HO2 := Lib.hid (show Z.drew.cell? ⟨b0, off + j * 13 + 2, none⟩ = some (.int .i64 s.f.kind) from cell_keep (Below.drew hwz) HP2.out)
                have HO3 := Lib.hid (show Z.drew.cell? ⟨b0, off + j * 13 + 3, none⟩ = some (.int .i64 s.f.rank) from cell_keep (Below.drew hwz) HP3.out)
                have HO4 := Lib.hid (show Z.drew.cell? ⟨b0, off + j * 13 + 4, none⟩ = some (.int .i64 s.f.got) from cell_keep (Below.drew hwz) HP4.out)
                have HO5 := Lib.hid (show Z.drew.cell? ⟨b0, off + j * 13 + 5, none⟩ = some (.int .i64 s.f.ttl) from cell_keep (Below.drew hwz) HP5.out)
                have HO6 := Lib.hid (show Z.drew.cell? ⟨b0, off + j * 13 + 6, none⟩ = some (.slice hb.sa hb.sl hb.sc) from cell_keep (Below.drew hwz) HP6.out)
                have HO7 := Lib.hid (show Z.drew.cell? ⟨b0, off + j * 13 + 7, none⟩ = some (.slice hb.za hb.zl hb.zc) from cell_keep (Below.drew hwz) HP7.out)
                have HO8 := Lib.hid (show Z.drew.cell? ⟨b0, off + j * 13 + 8, none⟩ = some (.slice hb.d.ba hb.d.bl hb.d.bc) from cell_keep (Below.drew hwz) HP8.out)
                have HO9 := Lib.hid (show Z.drew.cell? ⟨b0, off + j * 13 + 9, none⟩ = some (.slice hb.d.ha hb.d.hl hb.d.hc) from cell_keep (Below.drew hwz) HP9.out)
                have HO10 := Lib.hid (show Z.drew.cell? ⟨b0, off + j * 13 + 10, none⟩ = some (.slice hb.d.ma hb.d.ml hb.d.mc) from cell_keep (Below.drew hwz) HP10.out)
                have HO11 := Lib.hid (show Z.drew.cell? ⟨b0, off + j * 13 + 11, none⟩ = some (.slice hb.d.na hb.d.nl hb.d.nc) from cell_keep (Below.drew hwz) HP11.out)
                have HO12 := Lib.hid (show Z.drew.cell? ⟨b0, off + j * 13 + 12, none⟩ = some (.slice hb.d.ta hb.d.tl hb.d.tc) from cell_keep (Below.drew hwz) HP12.out)
                have HG0 := Lib.hid (show Z.drew.cell? ⟨bq, 0, none⟩ = some (.slice hq3.na hq3.nl hq3.nc) from HQZ.out.1.cell 0)
                have HG1 := Lib.hid (show Z.drew.cell? ⟨bq, 1, none⟩ = some (.int .i64 s.f.typ) from HQZ.out.1.cell 1)
                have HG2 := Lib.hid (show Z.drew.cell? ⟨bq, 2, none⟩ = some (.int .i64 s.f.kind) from HQZ.out.1.cell 2)
                have HG3 := Lib.hid (show Z.drew.cell? ⟨bq, 3, none⟩ = some (.int .i64 s.f.rank) from HQZ.out.1.cell 3)
                have HG4 := Lib.hid (show Z.drew.cell? ⟨bq, 4, none⟩ = some (.int .i64 s.f.got) from HQZ.out.1.cell 4)
                have HG5 := Lib.hid (show Z.drew.cell? ⟨bq, 5, none⟩ = some (.int .i64 s.f.ttl) from HQZ.out.1.cell 5)
                have HG6 := Lib.hid (show Z.drew.cell? ⟨bq, 6, none⟩ = some (.slice hq3.sa hq3.sl hq3.sc) from HQZ.out.1.cell 6)
                have HG7 := Lib.hid (show Z.drew.cell? ⟨bq, 7, none⟩ = some (.slice hq3.za hq3.zl hq3.zc) from HQZ.out.1.cell 7)
                have HG8 := Lib.hid (show Z.drew.cell? ⟨bq, 8, none⟩ = some (.slice hq3.d.ba hq3.d.bl hq3.d.bc) from HQZ.out.1.cell 8)
                have HG9 := Lib.hid (show Z.drew.cell? ⟨bq, 9, none⟩ = some (.slice hq3.d.ha hq3.d.hl hq3.d.hc) from HQZ.out.1.cell 9)
                have HG10 := Lib.hid (show Z.drew.cell? ⟨bq, 10, none⟩ = some (.slice hq3.d.ma hq3.d.ml hq3.d.mc) from HQZ.out.1.cell 10)
                have HG11 := Lib.hid (show Z.drew.cell? ⟨bq, 11, none⟩ = some (.slice hq3.d.na hq3.d.nl hq3.d.nc) from HQZ.out.1.cell 11)
                have HG12 := Lib.hid (show Z.drew.cell? ⟨bq, 12, none⟩ = some (.slice hq3.d.ta hq3.d.tl hq3.d.tc) from HQZ.out.1.cell 12)
                have HSZ2 := Lib.hid (fun w' (p : Below Z.heap.size Z w') => same_two w' _ _ hq3 hb s.f HSB.out (HQZ.out.2.on p) (HFB.out.on (below_on HBZ.out p (Nat.le_refl _))))
                simp only [factC] at HSZ2
                have HUZ := Lib.hid (fun w' (p : Below Z.heap.size Z w') => HUN.out w' (below_on HBZ.out p (Nat.le_refl _)))
                clear hwz
                go_wp2_with fail
                refine wp_soup0 (m := 137) (by kernel_rfl) (fun x y => Below x.heap.size x y) (fun i v xw => match i with | 0 => v = .bool true | 1 => v = .slice ((some ⟨b0, off, none⟩)) m bc | 2 => v = .int .i64 ((j : Int)) | 3 => v = .pointer (some ⟨b0, off + j * 13, none⟩) | 4 => v = .pointer (some ⟨b0, off + j * 13, none⟩) | 5 => v = .slice hb.na hb.nl hb.nc | 6 => v = .slice zo zn zc | 7 => v = .bool false | 8 => v = .bool false | 9 => v = .bool false | 10 => v = .bool true | 11 => v = .bool true | 12 => v = .agg #[.slice hq3.na hq3.nl hq3.nc, .int .i64 s.f.typ, .int .i64 s.f.kind, .int .i64 s.f.rank, .int .i64 s.f.got, .int .i64 s.f.ttl, .slice hq3.sa hq3.sl hq3.sc, .slice hq3.za hq3.zl hq3.zc, .slice hq3.d.ba hq3.d.bl hq3.d.bc, .slice hq3.d.ha hq3.d.hl hq3.d.hc, .slice hq3.d.ma hq3.d.ml hq3.d.mc, .slice hq3.d.na hq3.d.nl hq3.d.nc, .slice hq3.d.ta hq3.d.tl hq3.d.tc] | 13 => v = .slice ((some ⟨b0, off, none⟩)) m bc | 14 => v = .int .i64 ((j : Int)) | 15 => v = .pointer (some ⟨b0, off + j * 13, none⟩) | 16 => v = .agg #[.slice hb.na hb.nl hb.nc, .int .i64 s.f.typ, .int .i64 s.f.kind, .int .i64 s.f.rank, .int .i64 s.f.got, .int .i64 s.f.ttl, .slice hb.sa hb.sl hb.sc, .slice hb.za hb.zl hb.zc, .slice hb.d.ba hb.d.bl hb.d.bc, .slice hb.d.ha hb.d.hl hb.d.hc, .slice hb.d.ma hb.d.ml hb.d.mc, .slice hb.d.na hb.d.nl hb.d.nc, .slice hb.d.ta hb.d.tl hb.d.tc] | 17 => v = .bool true | 18 => v = .bool false | 19 => v = .bool false | 20 => v = .bool false | _ => True) rfl (by kernel_rfl) (fun _ _ _ h1 h2 => below_on h1 h2 (Nat.le_refl _)) (Below.refl _ _) (fun _ _ _ _ h _ => h) (dst_but 21 (by kernel_rfl) (fun _ _ h => h)) ?_ ?_
                rotate_left
                · intro a W hR hS hdep
                  have e106 : a.tmps.getD 106 undef = .bool false := hdep 20 (by decide +kernel)
                  obtain ⟨T, df⟩ := a
                  obtain rfl : df = [] := hS.defers
                  have hT : T = (mixL _ [(86, T.getD 86 undef), (0, T.getD 87 undef), (0, T.getD 88 undef), (0, T.getD 89 undef), (0, T.getD 90 undef), (0, T.getD 91 undef), (0, T.getD 92 undef), (0, T.getD 93 undef), (0, T.getD 94 undef), (0, T.getD 95 undef), (0, T.getD 96 undef), (0, T.getD 97 undef), (0, T.getD 98 undef), (0, T.getD 99 undef), (0, T.getD 100 undef), (0, T.getD 101 undef), (0, T.getD 102 undef), (0, T.getD 103 undef), (0, T.getD 104 undef), (0, T.getD 105 undef), (0, T.getD 106 undef)]).toArray := tmps_gaps hS 137 rfl [86, 0, 0, 0, 0, 0, 0, 0, 0, 0, 0, 0, 0, 0, 0, 0, 0, 0, 0, 0, 0] (by kernel_rfl) (by kernel_rfl)
                  simp only [mixL_succ, mixL_zero, mixL_nil] at hT
                  have k106 : T.getD 106 undef = .bool false := e106
                  clear hS hdep
                  rw [k106] at hT
                  clear k106 e106
                  generalize T.getD 86 undef = u86 at hT
                  generalize T.getD 87 undef = u87 at hT
                  generalize T.getD 88 undef = u88 at hT
                  generalize T.getD 89 undef = u89 at hT
                  generalize T.getD 90 undef = u90 at hT
                  generalize T.getD 91 undef = u91 at hT
                  generalize T.getD 92 undef = u92 at hT
                  generalize T.getD 93 undef = u93 at hT
                  generalize T.getD 94 undef = u94 at hT
                  generalize T.getD 95 undef = u95 at hT
                  generalize T.getD 96 undef = u96 at hT
                  generalize T.getD 97 undef = u97 at hT
                  generalize T.getD 98 undef = u98 at hT
                  generalize T.getD 99 undef = u99 at hT
                  generalize T.getD 100 undef = u100 at hT
                  generalize T.getD 101 undef = u101 at hT
                  generalize T.getD 102 undef = u102 at hT
                  generalize T.getD 103 undef = u103 at hT
                  generalize T.getD 104 undef = u104 at hT
                  generalize T.getD 105 undef = u105 at hT
                  subst hT
                  have hbz2 := below_on (B := Z.heap.size) (Below.drew (Below.refl _ _)) hR (Nat.le_refl _)
                  clear hR
                  have HWF := Lib.hid (below_on HBZ.out hbz2 (Nat.le_refl _))
                  clear hbz2
                  go_wp2_with fail
                  go_roundw
                  case rel => exact ⟨j + 1, q, by omega, by omega, by go_num, by go_num, Lib.hid ⟨below_on HIN.out.bel HWF.out (Nat.le_refl _), HIN.out.ca.on HWF.out, HIN.out.bf.step (Same.below HWF.out _), HCT.out⟩⟩
                  case measure => simp [intOf]; omega
                refine soup_cons rfl rfl (fun a W hR hS hdep K hK => ?_) ?_
                · have e13 : a.tmps[13]?.getD undef = .bool true := slot_of (hS.keep 13 (by kernel_rfl))
                  go_simp
                  exact hK _ _ (Below.refl _ _) (by first | rfl | simp)
                refine soup_cons rfl rfl (fun a W hR hS hdep K hK => ?_) ?_
                · have e8 : a.tmps[8]?.getD undef = .slice ((some ⟨b0, off, none⟩)) m bc := slot_of (hS.keep 8 (by kernel_rfl))
                  go_simp
                  exact hK _ _ (Below.refl _ _) (by first | rfl | simp)
                refine soup_cons rfl rfl (fun a W hR hS hdep K hK => ?_) ?_
                · have e11 : a.tmps[11]?.getD undef = .int .i64 ((j : Int)) := slot_of (hS.keep 11 (by kernel_rfl))
                  go_simp
                  exact hK _ _ (Below.refl _ _) (by first | rfl | simp)
                refine soup_cons rfl rfl (fun a W hR hS hdep K hK => ?_) ?_
                · have e87 : a.tmps[87]?.getD undef = .slice ((some ⟨b0, off, none⟩)) m bc := slot_of (hdep 1 (by decide +kernel))
                  have e88 : a.tmps[88]?.getD undef = .int .i64 ((j : Int)) := slot_of (hdep 2 (by decide +kernel))
                  go_simp
                  exact hK _ _ (Below.refl _ _) (by first | rfl | simp)
                refine soup_cons rfl rfl (fun a W hR hS hdep K hK => ?_) ?_
                · have e89 : a.tmps[89]?.getD undef = .pointer (some ⟨b0, off + j * 13, none⟩) := slot_of (hdep 3 (by decide +kernel))
                  go_simp
                  exact hK _ _ (Below.refl _ _) (by first | rfl | simp)
                refine soup_cons rfl rfl (fun a W hR hS hdep K hK => ?_) ?_
                · have e90 : a.tmps[90]?.getD undef = .pointer (some ⟨b0, off + j * 13, none⟩) := slot_of (hdep 4 (by decide +kernel))
                  have m0 := cell_keep hR HO0.out
                  go_simp
                  exact hK _ _ (Below.refl _ _) (by first | rfl | simp)
                refine soup_cons rfl rfl (fun a W hR hS hdep K hK => ?_) ?_
                · have e1 : a.tmps[1]?.getD undef = .slice zo zn zc := slot_of (hS.keep 1 (by kernel_rfl))
                  go_simp
                  exact hK _ _ (Below.refl _ _) (by first | rfl | simp)
                refine soup_cons rfl rfl (fun a W hR hS hdep K hK => ?_) ?_
                · have e91 : a.tmps[91]?.getD undef = .slice hb.na hb.nl hb.nc := slot_of (hdep 5 (by decide +kernel))
                  have e92 : a.tmps[92]?.getD undef = .slice zo zn zc := slot_of (hdep 6 (by decide +kernel))
                  go_simp
                  have hbx := below_on (B := Z.heap.size) (Below.drew (Below.refl _ _)) hR (Nat.le_refl _)
                  refine (HUZ.out _ hbx).mono ?_
                  rintro e W' ⟨rfl, hb⟩
                  exact hK _ _ hb rfl
                refine soup_cons rfl rfl (fun a W hR hS hdep K hK => ?_) ?_
                · have e86 : a.tmps[86]?.getD undef = .bool true := slot_of (hdep 0 (by decide +kernel))
                  have e93 : a.tmps[93]?.getD undef = .bool false := slot_of (hdep 7 (by decide +kernel))
                  go_simp
                  exact hK _ _ (Below.refl _ _) rfl
                refine soup_cons rfl rfl (fun a W hR hS hdep K hK => ?_) ?_
                · have e94 : a.tmps[94]?.getD undef = .bool false := slot_of (hdep 8 (by decide +kernel))
                  go_simp
                  exact hK _ _ (Below.refl _ _) rfl
                refine soup_cons rfl rfl (fun a W hR hS hdep K hK => ?_) ?_
                · have e13 : a.tmps[13]?.getD undef = .bool true := slot_of (hS.keep 13 (by kernel_rfl))
                  have e95 : a.tmps[95]?.getD undef = .bool false := slot_of (hdep 9 (by decide +kernel))
                  have g95 : a.tmps[95]? = some (.bool false) := slot_at (show _ = 137 from hS.size) (by decide) (hdep 9 (by decide +kernel))
                  go_simp
                  exact hK _ _ (Below.refl _ _) rfl
                refine soup_cons rfl rfl (fun a W hR hS hdep K hK => ?_) ?_
                · have e96 : a.tmps[96]?.getD undef = .bool true := slot_of (hdep 10 (by decide +kernel))
                  have e95 : a.tmps[95]?.getD undef = .bool false := slot_of (hdep 9 (by decide +kernel))
                  have g95 : a.tmps[95]? = some (.bool false) := slot_at (show _ = 137 from hS.size) (by decide) (hdep 9 (by decide +kernel))
                  go_simp
                  exact hK _ _ (Below.refl _ _) rfl
                refine soup_cons rfl rfl (fun a W hR hS hdep K hK => ?_) ?_
                · have e12 : a.tmps[12]?.getD undef = .pointer (some ⟨bq, 0, none⟩) := slot_of (hS.keep 12 (by kernel_rfl))
                  have e97 : a.tmps[97]?.getD undef = .bool true := slot_of (hdep 11 (by decide +kernel))
                  have g97 : a.tmps[97]? = some (.bool true) := slot_at (show _ = 137 from hS.size) (by decide) (hdep 11 (by decide +kernel))
                  have m0 := cell_keep hR HG0.out
                  have m1 := cell_keep hR HG1.out
                  have m2 := cell_keep hR HG2.out
                  have m3 := cell_keep hR HG3.out
                  have m4 := cell_keep hR HG4.out
                  have m5 := cell_keep hR HG5.out
                  have m6 := cell_keep hR HG6.out
                  have m7 := cell_keep hR HG7.out
                  have m8 := cell_keep hR HG8.out
                  have m9 := cell_keep hR HG9.out
                  have m10 := cell_keep hR HG10.out
                  have m11 := cell_keep hR HG11.out
                  have m12 := cell_keep hR HG12.out
                  go_simp
                  exact hK _ _ (Below.refl _ _) (by first | rfl | simp)
                refine soup_cons rfl rfl (fun a W hR hS hdep K hK => ?_) ?_
                · have e8 : a.tmps[8]?.getD undef = .slice ((some ⟨b0, off, none⟩)) m bc := slot_of (hS.keep 8 (by kernel_rfl))
                  have e97 : a.tmps[97]?.getD undef = .bool true := slot_of (hdep 11 (by decide +kernel))
                  have g97 : a.tmps[97]? = some (.bool true) := slot_at (show _ = 137 from hS.size) (by decide) (hdep 11 (by decide +kernel))
                  go_simp
                  exact hK _ _ (Below.refl _ _) (by first | rfl | simp)
                refine soup_cons rfl rfl (fun a W hR hS hdep K hK => ?_) ?_
                · have e11 : a.tmps[11]?.getD undef = .int .i64 ((j : Int)) := slot_of (hS.keep 11 (by kernel_rfl))
                  have e97 : a.tmps[97]?.getD undef = .bool true := slot_of (hdep 11 (by decide +kernel))
                  have g97 : a.tmps[97]? = some (.bool true) := slot_at (show _ = 137 from hS.size) (by decide) (hdep 11 (by decide +kernel))
                  go_simp
                  exact hK _ _ (Below.refl _ _) (by first | rfl | simp)
                refine soup_cons rfl rfl (fun a W hR hS hdep K hK => ?_) ?_
                · have e99 : a.tmps[99]?.getD undef = .slice ((some ⟨b0, off, none⟩)) m bc := slot_of (hdep 13 (by decide +kernel))
                  have e100 : a.tmps[100]?.getD undef = .int .i64 ((j : Int)) := slot_of (hdep 14 (by decide +kernel))
                  have e97 : a.tmps[97]?.getD undef = .bool true := slot_of (hdep 11 (by decide +kernel))
                  have g97 : a.tmps[97]? = some (.bool true) := slot_at (show _ = 137 from hS.size) (by decide) (hdep 11 (by decide +kernel))
                  go_simp
                  exact hK _ _ (Below.refl _ _) (by first | rfl | simp)
                refine soup_cons rfl rfl (fun a W hR hS hdep K hK => ?_) ?_
                · have e101 : a.tmps[101]?.getD undef = .pointer (some ⟨b0, off + j * 13, none⟩) := slot_of (hdep 15 (by decide +kernel))
                  have e97 : a.tmps[97]?.getD undef = .bool true := slot_of (hdep 11 (by decide +kernel))
                  have g97 : a.tmps[97]? = some (.bool true) := slot_at (show _ = 137 from hS.size) (by decide) (hdep 11 (by decide +kernel))
                  have m0 := cell_keep hR HO0.out
                  have m1 := cell_keep hR HO1.out
                  have m2 := cell_keep hR HO2.out
                  have m3 := cell_keep hR HO3.out
                  have m4 := cell_keep hR HO4.out
                  have m5 := cell_keep hR HO5.out
                  have m6 := cell_keep hR HO6.out
                  have m7 := cell_keep hR HO7.out
                  have m8 := cell_keep hR HO8.out
                  have m9 := cell_keep hR HO9.out
                  have m10 := cell_keep hR HO10.out
                  have m11 := cell_keep hR HO11.out
                  have m12 := cell_keep hR HO12.out
                  go_simp
                  exact hK _ _ (Below.refl _ _) (by first | rfl | simp)
                refine soup_cons rfl rfl (fun a W hR hS hdep K hK => ?_) ?_
                · have e98 : a.tmps[98]?.getD undef = .agg #[.slice hq3.na hq3.nl hq3.nc, .int .i64 s.f.typ, .int .i64 s.f.kind, .int .i64 s.f.rank, .int .i64 s.f.got, .int .i64 s.f.ttl, .slice hq3.sa hq3.sl hq3.sc, .slice hq3.za hq3.zl hq3.zc, .slice hq3.d.ba hq3.d.bl hq3.d.bc, .slice hq3.d.ha hq3.d.hl hq3.d.hc, .slice hq3.d.ma hq3.d.ml hq3.d.mc, .slice hq3.d.na hq3.d.nl hq3.d.nc, .slice hq3.d.ta hq3.d.tl hq3.d.tc] := slot_of (hdep 12 (by decide +kernel))
                  have e102 : a.tmps[102]?.getD undef = .agg #[.slice hb.na hb.nl hb.nc, .int .i64 s.f.typ, .int .i64 s.f.kind, .int .i64 s.f.rank, .int .i64 s.f.got, .int .i64 s.f.ttl, .slice hb.sa hb.sl hb.sc, .slice hb.za hb.zl hb.zc, .slice hb.d.ba hb.d.bl hb.d.bc, .slice hb.d.ha hb.d.hl hb.d.hc, .slice hb.d.ma hb.d.ml hb.d.mc, .slice hb.d.na hb.d.nl hb.d.nc, .slice hb.d.ta hb.d.tl hb.d.tc] := slot_of (hdep 16 (by decide +kernel))
                  have e97 : a.tmps[97]?.getD undef = .bool true := slot_of (hdep 11 (by decide +kernel))
                  have g97 : a.tmps[97]? = some (.bool true) := slot_at (show _ = 137 from hS.size) (by decide) (hdep 11 (by decide +kernel))
                  go_simp
                  have hbx := below_on (B := Z.heap.size) (Below.drew (Below.refl _ _)) hR (Nat.le_refl _)
                  refine (HSZ2.out _ hbx).mono ?_
                  rintro e W' ⟨rfl, hb⟩
                  exact hK _ _ hb rfl
                refine soup_cons rfl rfl (fun a W hR hS hdep K hK => ?_) ?_
                · have e103 : a.tmps[103]?.getD undef = .bool true := slot_of (hdep 17 (by decide +kernel))
                  have e97 : a.tmps[97]?.getD undef = .bool true := slot_of (hdep 11 (by decide +kernel))
                  have g97 : a.tmps[97]? = some (.bool true) := slot_at (show _ = 137 from hS.size) (by decide) (hdep 11 (by decide +kernel))
                  go_simp
                  exact hK _ _ (Below.refl _ _) rfl
                refine soup_cons rfl rfl (fun a W hR hS hdep K hK => ?_) ?_
                · have e97 : a.tmps[97]?.getD undef = .bool true := slot_of (hdep 11 (by decide +kernel))
                  have e104 : a.tmps[104]?.getD undef = .bool false := slot_of (hdep 18 (by decide +kernel))
                  have e95 : a.tmps[95]?.getD undef = .bool false := slot_of (hdep 9 (by decide +kernel))
                  have g95 : a.tmps[95]? = some (.bool false) := slot_at (show _ = 137 from hS.size) (by decide) (hdep 9 (by decide +kernel))
                  go_simp
                  exact hK _ _ (Below.refl _ _) rfl
                refine soup_cons rfl rfl (fun a W hR hS hdep K hK => ?_) ?_
                · have e95 : a.tmps[95]?.getD undef = .bool false := slot_of (hdep 9 (by decide +kernel))
                  have e105 : a.tmps[105]?.getD undef = .bool false := slot_of (hdep 19 (by decide +kernel))
                  go_simp
                  exact hK _ _ (Below.refl _ _) rfl
                exact fun j h1 h2 => absurd h1 (by simp only [List.size_toArray, List.length_cons, List.length_nil]; omega)
            refine soup_cons rfl rfl (fun a W hR hS hdep K hK => ?_) ?_
            · have e5 : a.tmps[5]?.getD undef = .pointer (some ⟨C, 0, none⟩) := slot_of (hS.keep 5 (by kernel_rfl))
              go_simp
              exact hK _ _ (Below.refl _ _) (by first | rfl | simp)
            refine soup_cons rfl rfl (fun a W hR hS hdep K hK => ?_) ?_
            · have e8 : a.tmps[8]?.getD undef = .slice ((some ⟨b0, off, none⟩)) m bc := slot_of (hS.keep 8 (by kernel_rfl))
              go_simp
              exact hK _ _ (Below.refl _ _) (by first | rfl | simp)
            refine soup_cons rfl rfl (fun a W hR hS hdep K hK => ?_) ?_
            · have e11 : a.tmps[11]?.getD undef = .int .i64 ((j : Int)) := slot_of (hS.keep 11 (by kernel_rfl))
              go_simp
              exact hK _ _ (Below.refl _ _) (by first | rfl | simp)
            refine soup_cons rfl rfl (fun a W hR hS hdep K hK => ?_) ?_
            · have e73 : a.tmps[73]?.getD undef = .slice ((some ⟨b0, off, none⟩)) m bc := slot_of (hdep 1 (by decide +kernel))
              have e74 : a.tmps[74]?.getD undef = .int .i64 ((j : Int)) := slot_of (hdep 2 (by decide +kernel))
              go_simp
              exact hK _ _ (Below.refl _ _) (by first | rfl | simp)
            refine soup_cons rfl rfl (fun a W hR hS hdep K hK => ?_) ?_
            · have e75 : a.tmps[75]?.getD undef = .pointer (some ⟨b0, off + j * 13, none⟩) := slot_of (hdep 3 (by decide +kernel))
              go_simp
              exact hK _ _ (Below.refl _ _) (by first | rfl | simp)
            refine soup_cons rfl rfl (fun a W hR hS hdep K hK => ?_) ?_
            · have e76 : a.tmps[76]?.getD undef = .pointer (some ⟨b0, off + j * 13, none⟩) := slot_of (hdep 4 (by decide +kernel))
              have m0 := cell_keep hR HQ0.out
              go_simp
              exact hK _ _ (Below.refl _ _) (by first | rfl | simp)
            refine soup_cons rfl rfl (fun a W hR hS hdep K hK => ?_) ?_
            · have e8 : a.tmps[8]?.getD undef = .slice ((some ⟨b0, off, none⟩)) m bc := slot_of (hS.keep 8 (by kernel_rfl))
              go_simp
              exact hK _ _ (Below.refl _ _) (by first | rfl | simp)
            refine soup_cons rfl rfl (fun a W hR hS hdep K hK => ?_) ?_
            · have e11 : a.tmps[11]?.getD undef = .int .i64 ((j : Int)) := slot_of (hS.keep 11 (by kernel_rfl))
              go_simp
              exact hK _ _ (Below.refl _ _) (by first | rfl | simp)
            refine soup_cons rfl rfl (fun a W hR hS hdep K hK => ?_) ?_
            · have e78 : a.tmps[78]?.getD undef = .slice ((some ⟨b0, off, none⟩)) m bc := slot_of (hdep 6 (by decide +kernel))
              have e79 : a.tmps[79]?.getD undef = .int .i64 ((j : Int)) := slot_of (hdep 7 (by decide +kernel))
              go_simp
              exact hK _ _ (Below.refl _ _) (by first | rfl | simp)
            refine soup_cons rfl rfl (fun a W hR hS hdep K hK => ?_) ?_
            · have e80 : a.tmps[80]?.getD undef = .pointer (some ⟨b0, off + j * 13, none⟩) := slot_of (hdep 8 (by decide +kernel))
              go_simp
              exact hK _ _ (Below.refl _ _) (by first | rfl | simp)
            refine soup_cons rfl rfl (fun a W hR hS hdep K hK => ?_) ?_
            · have e81 : a.tmps[81]?.getD undef = .pointer (some ⟨b0, off + j * 13 + 1, none⟩) := slot_of (hdep 9 (by decide +kernel))
              have m0 := cell_keep hR HQ1.out
              go_simp
              exact hK _ _ (Below.refl _ _) (by first | rfl | simp)
            refine soup_cons rfl rfl (fun a W hR hS hdep K hK => ?_) ?_
            · have e72 : a.tmps[72]?.getD undef = .pointer (some ⟨C, 0, none⟩) := slot_of (hdep 0 (by decide +kernel))
              have e77 : a.tmps[77]?.getD undef = .slice hb.na hb.nl hb.nc := slot_of (hdep 5 (by decide +kernel))
              have e82 : a.tmps[82]?.getD undef = .int .i64 s.f.typ := slot_of (hdep 10 (by decide +kernel))
              go_simp
              have hbx := below_on (B := w3.heap.size) (Below.drew (Below.refl _ _)) hR (Nat.le_refl _)
              refine (HLK.out _ hbx).mono ?_
              rintro e W' ⟨⟨hq, rfl, ho⟩, hb⟩
              exact hK _ _ hb ⟨hq, rfl, ho⟩
            refine soup_cons rfl rfl (fun a W hR hS hdep K hK => ?_) ?_
            · obtain ⟨hq1, q, rhq1⟩ := hdep 11 (by decide +kernel)
              have e83 : a.tmps[83]?.getD undef = .tuple #[.agg (factC hq1 (s.f)), .bool true] := slot_of q
              clear q
              go_simp
              exact hK _ _ (Below.refl _ _) ⟨hq1, rfl, rhq1⟩
            refine soup_cons rfl rfl (fun a W hR hS hdep K hK => ?_) ?_
            · obtain ⟨hq2, q, rhq2⟩ := hdep 12 (by decide +kernel)
              have e71 : a.tmps[71]?.getD undef = .tuple #[.agg (factC hq2 (s.f)), .bool true] := slot_of q
              clear q
              go_simp
              exact hK _ _ (Below.refl _ _) ⟨hq2, rfl, rhq2⟩
            refine soup_cons rfl rfl (fun a W hR hS hdep K hK => ?_) ?_
            · obtain ⟨hq2, q, rhq2⟩ := hdep 12 (by decide +kernel)
              have e71 : a.tmps[71]?.getD undef = .tuple #[.agg (factC hq2 (s.f)), .bool true] := slot_of q
              clear q
              go_simp
              exact hK _ _ (Below.refl _ _) rfl
            refine soup_cons rfl rfl (fun a W hR hS hdep K hK => ?_) ?_
            · go_simp
              have hbx := below_on (B := w3.heap.size) (Below.drew (Below.refl _ _)) hR (Nat.le_refl _)
              exact hK _ _ ((Below.refl _ _).alloc (Nat.le_refl _) _) ⟨_, rfl, hbx.size, heap_alloc_new _ _⟩
            exact fun j h1 h2 => absurd h1 (by omega)
        · obtain rfl : j = m := by omega
          have hcn := hinv.out.cnt
          have hov := over_len L z
          have hnn := HNN.out
          have hmm := HM.out
          rw [hmm, List.take_length] at hcn
          rw [← hcn, ← hmm] at hov
          rw [← hmm] at hnn
          obtain ⟨b, hb⟩ : ∃ b, b = (overL L z).length := ⟨_, rfl⟩
          rw [← hb] at hov hnn
          obtain rfl : nn = (q : Int) := by omega
          have hsub : (j : Int) - (q : Int) = (b : Int) := by omega
          have hbm : b < 100000 := by omega
          have hlen := len_any w3 w.heap.size C 200 0 k (overL L z) hinv.out.ca
          rw [← hb] at hlen
          have hfl := flush_any w3 w.heap.size C 200 0 k (overL L z) hinv.out.ca none 0 0 [] ⟨Row.empty (by omega) (fun _ => rfl), fun s hs => by cases hs⟩ (rowIn_zero _ _)
          rw [over_nil, ← hb, show ((b : Int) - (([] : List Slot).length : Int)) = (b : Int) from by simp] at hfl
          have HLE := Lib.hid hlen
          have HFE := Lib.hid hfl
          have HBE := Lib.hid hinv.out.bel
          clear hcn hov hnn hmm hb hlen hfl hinv HST
          go_wp2_with (first | (go_at_call 15; refine HLE.out.mono ?_; rintro e W4 ⟨rfl, rfl⟩; clear HLE) | (go_at_call 11; refine HFE.out.mono ?_; rintro e V4 ⟨rfl, hcv, hlv, -⟩; have HV4 := Lib.hid (And.intro (len_any V4 _ C 200 0 k [] hcv) hlv.bel); clear hcv hlv HFE) | (go_at_call 15; refine HV4.out.1.mono ?_; rintro e W5 ⟨rfl, rfl⟩))
          go_ret
          exact ⟨rfl, HBE.out.trans HV4.out.2⟩
end
end Go.Proofs.YtpemdieejgldiaaGreat

/- Cache.lay, the law: what the cache is behind it. -/
import Derived.Test.YtgfibbjifbghdaaGreatCuse
import Derived.Test.YtgfibbjifbghdaaGreatFown
namespace Go.Proofs.YtgfibbjifbghdaaGreat
open Go.ChangeShapes Go.WideShapes Go.ChangeAt Go.RowKit

theorem blk_map_ne {w : World} {b M : Nat} {cs : Array Value} {T : TypeId} {L : List Slot} (h : Blk w b cs T) (hM : MapL w M L) : b ≠ M := by
  intro e
  subst e
  obtain ⟨n, D, ⟨es, clock, h1, _⟩, _⟩ := hM
  rw [Blk, h1] at h
  cases h
theorem blk_ne {w : World} {b c : Nat} {cs cs' : Array Value} {T T' : TypeId} (h : Blk w b cs T) (h' : Blk w c cs' T') (hT : T ≠ T') : b ≠ c := by
  intro e
  subst e
  rw [Blk, h'] at h
  cases h
  exact hT rfl
theorem tagged_mapL {T : List TypeId} {w : World} {b M : Nat} {L : List Slot} (hM : MapL w M L) (h : tagged T w b) : b ≠ M := by
  obtain ⟨n, D, ⟨es, clock, h1, _⟩, _⟩ := hM
  exact tagged_map h1 h
theorem offL_mem {L : List Slot} {key : List UInt8} {s : Slot} (h : s ∈ offL L key) : s ∈ L ∧ keyF s.f ≠ key := by
  simpa [offL] using h
theorem offL_sub (L : List Slot) (key : List UInt8) : (offL L key).Sublist L := List.filter_sublist
theorem fT_gT : ∀ t ∈ fT, t ∈ gT := by decide
/-- what a step of the cache leaves as it was -/
structure Left (B : Nat) (w w' : World) : Prop where
  bel : Below B w w'
  same : Same (tagged gT w) w w'
theorem Left.trans {B : Nat} {a b c : World} (h : Left B a b) (k : Left B b c) : Left B a c := ⟨h.bel.trans k.bel, h.same.step k.same⟩
theorem Left.below {B : Nat} {w w' : World} (h : Below w.heap.size w w') (hB : B ≤ w.heap.size) : Left B w w' := ⟨h.mono hB, Same.below h _⟩
theorem lay_law {B : Nat} {w W0 W1 W2 : World} {C M X k : Nat} {most stale : Int} {L : List Slot} {kk : FactH} {f : FactP} (hC : IsCache B w C most stale k L) (hCb : Blk w C (cacheC most stale M k) 131) (hMB : B ≤ M) (hML : MapL w M L)
    (h0 : Below w.heap.size w W0) (hX : w.heap.size ≤ X) (hXB : Blk W0 X (itemC ⟨X, kk, f, 0⟩) 203) (hF : IsFact (tagged fT W0) W0 kk f) (hfB : factB f = true) (hl : FLen f)
    (hM1 : MapL W1 M (offL L (keyF f) ++ [⟨X, kk, f, k + 1⟩])) (g1 : W0.grownBy W1 (some M)) (sz1 : W1.heap.size = W0.heap.size)
    (hC2 : Blk W2 C (cacheC most stale M (k + 1)) 131) (hX2 : Blk W2 X ((itemC ⟨X, kk, f, 0⟩).setIfInBounds 13 (.int .i64 (k + 1 : Nat))) 203) (sz2 : W2.heap.size = W1.heap.size) (hs2 : ∀ j, j ≠ C → j ≠ X → W2.heap[j]? = W1.heap[j]?)
    (hb2 : ∀ B, B ≤ C → B ≤ X → Below B W1 W2) : IsCache B W2 C most stale (k + 1) (offL L (keyF f) ++ [⟨X, kk, f, k + 1⟩]) ∧ Left B w W2 := by
  have hCw := hCb.lt
  have hMw := hML.lt
  have hBC := hC.base
  have hCM := blk_map_ne hCb hML
  have hM0 : MapL W0 M L := hML.on (h0.block M hMw)
  have hXM := blk_map_ne hXB hM0
  have old : ∀ j, j < w.heap.size → j ≠ M → j ≠ C → W2.heap[j]? = w.heap[j]? := fun j h1 h2 h3 => by
    rw [hs2 j h3 (by omega), g1.block j (by have := h0.size; omega) (by intro e; exact h2 (Option.some.inj e)), h0.block j h1]
  have hXeq : (itemC ⟨X, kk, f, 0⟩).setIfInBounds 13 (.int .i64 (k + 1 : Nat)) = itemC ⟨X, kk, f, k + 1⟩ := by simp [itemC]
  rw [hXeq] at hX2
  have bel1 : Below B w W1 := (h0.mono (by omega : B ≤ w.heap.size)).grown g1 (by have := h0.size; omega) (fun j e => by cases e; exact hMB)
  have bel2 : Below B w W2 := bel1.trans (hb2 B hBC (by omega))
  have same : Same (tagged gT w) w W2 := fun b hb ht => old b hb (tagged_mapL hML ht) (tagged_ne hCb (by decide) ht)
  refine ⟨⟨⟨M, hC2, hMB, ?_⟩, hBC, ?_, ?_, ?_, ?_, ?_⟩, bel2, same⟩
  · exact hM1.on (hs2 M (fun e => hCM e.symm) (fun e => hXM e.symm))
  · intro s hs
    rcases List.mem_append.1 hs with hs | hs
    · obtain ⟨h1, _⟩ := offL_mem hs
      obtain ⟨a, b, c, d, e⟩ := hC.slot s h1
      refine ⟨a, ?_, c.step (same.mono (fun b hb ht => tagged_mono ht fT_gT)), d, e⟩
      rw [Blk, old s.b b.lt (blk_map_ne b hML) (blk_ne b hCb (by decide))]
      exact b
    · rw [List.mem_singleton] at hs
      subst hs
      refine ⟨show B ≤ X by omega, hX2, ?_, hfB, hl⟩
      refine hF.step (fun b hb ht => ?_)
      rw [hs2 b ?_ ?_, g1.block b hb ?_]
      · intro e
        exact tagged_mapL hM0 ht (Option.some.inj e)
      · exact tagged_ne (hCb.on h0) (by decide) ht
      · exact tagged_ne hXB (by decide) ht
  · rw [List.pairwise_append]
    refine ⟨hC.apart.sublist (offL_sub _ _), List.pairwise_singleton _ _, fun a ha b hb => ?_⟩
    rw [List.mem_singleton] at hb
    subst hb
    have := (hC.slot a (offL_mem ha).1).2.1.lt
    show a.b ≠ X
    omega
  · rw [List.pairwise_append]
    refine ⟨hC.keys.sublist (offL_sub _ _), List.pairwise_singleton _ _, fun a ha b hb => ?_⟩
    rw [List.mem_singleton] at hb
    subst hb
    exact (offL_mem ha).2
  · intro s hs
    rcases List.mem_append.1 hs with hs | hs
    · have := hC.used s (offL_mem hs).1
      omega
    · rw [List.mem_singleton] at hs
      subst hs
      exact Nat.le_refl _
  · rw [List.pairwise_append]
    refine ⟨hC.order.sublist (offL_sub _ _), List.pairwise_singleton _ _, fun a ha b hb => ?_⟩
    rw [List.mem_singleton] at hb
    subst hb
    have := hC.used a (offL_mem ha).1
    show a.used < k + 1
    omega
end Go.Proofs.YtgfibbjifbghdaaGreat

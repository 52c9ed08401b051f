/- A builder, and another block that was made behind it and is read meanwhile: WriteByte, with that block kept. -/
import Derived.Test.YtgfibbjifbghdaaGreatBuilder
import Derived.Test.YtgfibbjifbghdaaGreatCells
namespace Go.Proofs.YtgfibbjifbghdaaGreat
open Go.ChangeShapes Go.WideShapes Go.ChangeAt Go.RowKit

theorem owns_mono {w : World} {B C : Nat} {e : TypeId} {s : Nat} {v : Value} {n : Nat} {xs : List Value} (h : w.ownsRow C e s v n xs) (hBC : B ≤ C) : w.ownsRow B e s v n xs := by
  obtain ⟨h1, h2⟩ := h
  rcases h2 with h2 | ⟨g, cap, cur, e, hge, h3⟩
  · exact ⟨h1, .inl h2⟩
  · exact ⟨h1, .inr ⟨g, cap, cur, e, Nat.le_trans hBC hge, h3⟩⟩
theorem owns_ne {w : World} {C : Nat} {e : TypeId} {s : Nat} {v : Value} {n : Nat} {xs : List Value} (h : w.ownsRow C e s v n xs) {b : Nat} (hb : b < C) : v.ownBlock ≠ some b := by
  intro h2
  have := (h.lt b h2).1
  omega
theorem cell_same {w w' : World} {G : Nat} (h : w'.heap[G]? = w.heap[G]?) (k : Nat) : w'.cell? ⟨G, k, none⟩ = w.cell? ⟨G, k, none⟩ := by simp [World.cell?, h]
structure SideB (C b : Nat) (bs : List Value) (w : World) : Prop where
  lt : b < C
  le : C ≤ w.heap.size
  row : ∃ p v, (p = .pointer none ∨ p = .pointer (some ⟨b, 0, none⟩)) ∧ w.heap[b]? = some (.cells #[p, v] 212 (0, 0)) ∧ w.ownsRow C 5 1 v bs.length bs
theorem SideB.is {C b : Nat} {bs : List Value} {w : World} (h : SideB C b bs w) : IsB b b bs w := by
  obtain ⟨p, v, hp, h1, h2⟩ := h.row
  rcases hp with rfl | rfl
  · exact .inl ⟨Nat.le_refl _, v, h1, owns_mono h2 (Nat.le_of_lt h.lt), owns_ne h2 h.lt⟩
  · exact .inr ⟨Nat.le_refl _, v, h1, owns_mono h2 (Nat.le_of_lt h.lt), owns_ne h2 h.lt⟩
/-- what goes on besides the builder -/
structure Besd (C b : Nat) (w w' : World) : Prop where
  bel : Below b w w'
  kept : ∀ k, k < C → k ≠ b → w'.heap[k]? = w.heap[k]?
theorem Besd.refl (C b : Nat) (w : World) : Besd C b w w := ⟨Below.refl _ _, fun _ _ _ => rfl⟩
theorem Besd.trans {C b : Nat} {w w1 w2 : World} (h1 : Besd C b w w1) (h2 : Besd C b w1 w2) : Besd C b w w2 := ⟨h1.bel.trans h2.bel, fun k hk hb => (h2.kept k hk hb).trans (h1.kept k hk hb)⟩
theorem Besd.on {C b : Nat} {w w1 w2 : World} (h1 : Besd C b w w1) (h2 : Below w1.heap.size w1 w2) (hC : C ≤ w1.heap.size) (hb : b ≤ C) : Besd C b w w2 := ⟨h1.bel.trans (h2.mono (by omega)), fun k hk hne => (h2.block k (by omega)).trans (h1.kept k hk hne)⟩
theorem SideB.on {C b : Nat} {bs : List Value} {w w' : World} (h : SideB C b bs w) (hb : Below w.heap.size w w') : SideB C b bs w' := by
  obtain ⟨p, v, hp, h1, h2⟩ := h.row
  have hlt := h.lt
  have hle := h.le
  exact ⟨h.lt, Nat.le_trans h.le hb.size, p, v, hp, by rw [hb.block b (by omega)]; exact h1, owns_keep h2 hb⟩

set_option maxHeartbeats 1000000 in
theorem copyCheck_side (C b : Nat) (bs : List Value) (w : World) (h : SideB C b bs w) :
    Calls Tryz.prog 147 #[.pointer (some ⟨b, 0, none⟩)] w fun e w' => e = .returned (.tuple #[]) ∧ ∃ v, w'.heap[b]? = some (.cells #[.pointer (some ⟨b, 0, none⟩), v] 212 (0, 0)) ∧ w'.ownsRow C 5 1 v bs.length bs ∧ Besd C b w w' := by
  obtain ⟨p, v, hp, h1, h2⟩ := h.row
  have hlt := h.lt
  rcases hp with rfl | rfl
  · refine (copyCheck_fresh b w (by simp [World.cell?, h1]) (by simp [World.shape?, h1]) (Lib.frozen_of_heap h1 0)).mono ?_
    rintro e w' ⟨rfl, rfl⟩
    refine ⟨rfl, v, heap_setCell_same w b 0 _ _ _ h1, h2.kept (but_set w b 0 _) (Or.inr (owns_ne h2 hlt)), (Below.refl b w).setCell (p := ⟨b, 0, none⟩) (Nat.le_refl _) _, fun k hk hne => ?_⟩
    exact (but_set w b 0 _).block k (by have := h.le; omega) (fun h => hne (Option.some.inj h))
  · refine (copyCheck_used b w (by simp [World.cell?, h1])).mono ?_
    rintro e w' ⟨rfl, rfl⟩
    exact ⟨rfl, v, h1, h2, Besd.refl _ _ _⟩
set_option maxHeartbeats 2000000 in
set_option maxRecDepth 100000 in
theorem writeByte_side (C b : Nat) (bs : List Value) (c : Int) (w : World) (h : SideB C b bs w) (hlen : bs.length + 1 ≤ 140737488355328) :
    Calls Tryz.prog 118 #[.pointer (some ⟨b, 0, none⟩), .int .u8 c] w fun e w' => e = .returned .nilIface ∧ (SideB C b (bs ++ [.int .u8 c]) w' ∧ Besd C b w w') := by
  obtain ⟨i0, hi, hz0, hz1, hz2⟩ := info_parts infoByte
  have hCC := Lib.hid (copyCheck_side C b bs w h)
  have hle := h.le
  have hbC := h.lt
  clear h
  go_enter Tryz.func118, Tryz.ntmps118
  go_wp2_with (go_at_call 147; refine hCC.out.mono ?_)
  rintro e w1 ⟨rfl, v, hbk, hown, hb1⟩
  have hle1 := hb1.bel.size
  have c0 : w1.cell? ⟨b, 0, none⟩ = some (.pointer (some ⟨b, 0, none⟩)) := by rw [Lib.cell_of_heap hbk]; rfl
  have c1 : w1.cell? ⟨b, 1, none⟩ = some v := by rw [Lib.cell_of_heap hbk]; rfl
  go_wp2_with (at_builtin; refine wpList_append_own _ rfl _ _ 28 rfl C 5 i0 (.int .u8 0) 1 1 Tryz.underlying28 hi hz0 hz1 hz2 rfl (by decide) _ _ _ rfl (hown.alloc _) ⟨w1.heap.size, 0, none⟩ 1 1 [.int .u8 c] rfl rfl ?c1 ?c2 ?c3 ?c4 ?c5 ?_)
  case c1 =>
    intro j u hj
    match j, hj with
    | 0, hj => simp at hj; subst hj; simp [Addr.add]
  case c2 => intro u hu; simp at hu; subst hu; rfl
  case c3 => unfold maxLen; omega
  case c4 => omega
  case c5 => simp; omega
  intro v' w2 hown' hgrow _
  have hne := owns_ne hown hbC
  have hlt : b < w1.heap.size := by omega
  have hb2 : w2.heap[b]? = some (.cells #[.pointer (some ⟨b, 0, none⟩), v] 212 (0, 0)) := by
    rw [hgrow.block b (by simp; omega) (fun e => hne e.symm), Lib.alloc_old w1 _ b hlt]
    exact hbk
  have d0 : w2.cell? ⟨b, 0, none⟩ = some (.pointer (some ⟨b, 0, none⟩)) := by rw [Lib.cell_of_heap hb2]; rfl
  have d1 : w2.cell? ⟨b, 1, none⟩ = some v := by rw [Lib.cell_of_heap hb2]; rfl
  have f1 : w2.frozen? ⟨b, 1, none⟩ = false := Lib.frozen_of_heap hb2 1
  obtain ⟨g, cap, rfl⟩ : ∃ g cap, v' = .slice (some ⟨g, 0, none⟩) (bs.length + 1) cap := by
    rcases hown'.2 with ⟨_, h0⟩ | ⟨g, cap, cur, hv, _⟩
    · omega
    · exact ⟨g, cap, hv⟩
  have hgz := hgrow.size
  have HO := Lib.hid hown
  have HO' := Lib.hid hown'
  have HG := Lib.hid hgrow
  have HB1 := Lib.hid hb1
  clear hown hown' hgrow hb1 hne
  go_wp2
  go_ret
  have hown' := HO'.out
  have hgrow := HG.out
  refine ⟨rfl, ⟨hbC, by simp at hgz ⊢; omega, _, _, .inr rfl, heap_setCell_same w2 b 1 _ _ _ hb2, ?_⟩, ?_, ?_⟩
  · have h := hown'.kept (but_set w2 b 1 (.slice (some ⟨g, 0, none⟩) (bs.length + 1) cap)) (Or.inr (owns_ne hown' hbC))
    simpa using h
  · refine (((HB1.out.bel.alloc (by omega) _).grown hgrow (by simp; omega) (fun k hk => ?_))).setCell (p := ⟨b, 1, none⟩) (Nat.le_refl _) _
    have := (HO.out.lt k hk).1
    omega
  · intro k hk hkb
    rw [(but_set w2 b 1 _).block k (by simp at hgz; omega) (fun h => hkb (Option.some.inj h)), hgrow.block k (by simp; omega) (fun e => owns_ne HO.out hk e.symm), Lib.alloc_old w1 _ k (by omega)]
    exact HB1.out.kept k hk hkb
end Go.Proofs.YtgfibbjifbghdaaGreat

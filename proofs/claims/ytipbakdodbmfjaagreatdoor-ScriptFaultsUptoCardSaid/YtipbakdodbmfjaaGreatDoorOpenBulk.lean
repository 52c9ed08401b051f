/- Opening acts that came in as data, of small bulk: how large they are. -/
import Derived.Test.YtipbakdodbmfjaaGreatDoorActs
import Derived.Test.YtipbakdodbmfjaaGreatDoorSize
namespace Go.Proofs.YtipbakdodbmfjaaGreatDoor
open Go.ChangeShapes Go.WideShapes Go.ChangeAt Go.RowKit

theorem bulk_part {H : Type} {d : DataW H} : ∀ {l : List (DataW H)}, d ∈ l → Rows.uptoBulk d ≤ Rows.uptoBulkAll l
  | [], h => by cases h
  | x :: r, h => by
    simp only [Rows.uptoBulkAll]
    rcases List.mem_cons.1 h with rfl | h
    · omega
    · have := bulk_part h; omega
theorem bulk_strs {H : Type} : ∀ ss : List ByteArray, sizeN ss ≤ Rows.uptoBulkAll (strs (H := H) ss)
  | [] => by simp [sizeN]
  | s :: ss => by
    have ih := bulk_strs (H := H) ss
    have e : strs (H := H) (s :: ss) = .lit (.string s.data.toList) :: strs ss := rfl
    rw [e]
    simp only [sizeN, Rows.uptoBulkAll, Rows.uptoBulk]
    have : s.data.toList.length = s.size := by simp
    omega
theorem bulk_lits {H : Type} (k : IntKind) : ∀ zs : List Int, zs.length ≤ Rows.uptoBulkAll (lits (H := H) k zs)
  | [] => by simp
  | z :: zs => by
    have ih := bulk_lits (H := H) k zs
    have e : lits (H := H) k (z :: zs) = .lit (.int k z) :: lits k zs := rfl
    rw [e]
    simp only [List.length_cons, Rows.uptoBulkAll, Rows.uptoBulk]
    omega
/-- a slice of strings that came in, and how large it is -/
theorem open_strs_bulk {H : Type} {enc : TypeId × Value → H} {W : World} {fuel : Nat} {c : Value} {y : DataW H × List MemPlace} (h : DataW.trod enc Tryz.prog W 0 (fun _ => true) true fuel 30 [c] = some y)
    (hsz : (y.1.weights Tryz.prog 30).all (· ≤ reachBytes) = true) : ∃ ao n k ss, c = .slice ao n k ∧ Strs W ao n k ss ∧ sizeN ss ≤ Rows.uptoBulk y.1 := by
  obtain ⟨a0, n0, c0, rfl⟩ := slice_of Tryz.underlying30 h
  rcases open_strings Tryz.underlying30 Tryz.underlying9 (by kernel_rfl) h with ⟨hcs, _⟩ | ⟨a, len, cap, ss, hcs, _, hl, hm, hlen, hx, hcell, hws⟩
  · simp at hcs
    obtain ⟨rfl, rfl, rfl⟩ := hcs
    exact ⟨_, _, _, [], rfl, ⟨Row.empty (by omega) (fun _ => rfl), fun s hs => by cases hs⟩, by simp [sizeN]⟩
  · simp at hcs
    obtain ⟨rfl, rfl, rfl⟩ := hcs
    simp at hlen
    have hx1 : y.1 = .slice (strs (ss.take n0)) (strs (ss.drop n0)) := by rw [hx]
    have hs := sized_slice (ts := [30]) (ds := [y.1]) (j := 0) (by simpa [DataW.weightsEach] using hsz) rfl (by rw [hx1]; rfl) Tryz.underlying30
    have hb : Tryz.prog.bytesOf 9 = 16 := by kernel_rfl
    rw [hb] at hs
    simp only [strs, List.length_map, List.length_take, List.length_drop] at hs
    have hr := reach_le
    refine ⟨_, _, _, ss.take n0, rfl, ⟨?_, fun s h => by have := hws s (List.mem_of_mem_take h); unfold maxLen at this; exact this⟩, ?_⟩
    · have hr := row_of_cells (f := fun i => .string (ss.getD i ByteArray.empty)) hl (by omega) (by omega : n0 ≤ ss.length) hcell
      have e : (ss.take n0).map Value.string = (List.range n0).map fun i => .string (ss.getD i ByteArray.empty) := by
        apply List.ext_getElem
        · simp; omega
        · intro i h1 h2
          have : i < ss.length := by simp at h2; omega
          simp [this]
      rw [e]
      exact hr
    · rw [hx1]
      have := bulk_strs (H := H) (ss.take n0)
      simp only [Rows.uptoBulk]
      omega
/-- a slice of bytes that came in, and how long it is -/
theorem open_byts_bulk {H : Type} {enc : TypeId × Value → H} {W : World} {fuel : Nat} {c : Value} {y : DataW H × List MemPlace} (h : DataW.trod enc Tryz.prog W 0 (fun _ => true) true fuel 29 [c] = some y)
    (hsz : (y.1.weights Tryz.prog 29).all (· ≤ reachBytes) = true) : ∃ ao n k l, c = .slice ao n k ∧ Byts W ao n k l ∧ l.length ≤ Rows.uptoBulk y.1 := by
  obtain ⟨a0, n0, c0, rfl⟩ := slice_of Tryz.underlying29 h
  rcases open_ints Tryz.underlying29 Tryz.underlying5 (by kernel_rfl) h with ⟨hcs, _⟩ | ⟨a, len, cap, zs, hcs, _, hl, hm, hz, hx, hcell, hwz⟩
  · simp at hcs
    obtain ⟨rfl, rfl, rfl⟩ := hcs
    exact ⟨_, _, _, [], rfl, (Row.empty (by omega) (fun _ => rfl) : Row _ none 0 0 []), by simp⟩
  · simp at hcs
    obtain ⟨rfl, rfl, rfl⟩ := hcs
    simp at hz
    have hx1 : y.1 = .slice (lits .u8 (zs.take n0)) (lits .u8 (zs.drop n0)) := by rw [hx]
    have hs := sized_slice (ts := [29]) (ds := [y.1]) (j := 0) (by simpa [DataW.weightsEach] using hsz) rfl (by rw [hx1]; rfl) Tryz.underlying29
    have hby : Tryz.prog.bytesOf 5 = 1 := by kernel_rfl
    rw [hby] at hs
    simp only [lits, List.length_map, List.length_take, List.length_drop] at hs
    have hr := reach_le
    have hrow : Row W (some a) n0 c0 ((zs.take n0).map (Value.int .u8)) := by
      have hr := row_of_cells (f := fun i => .int .u8 (zs.getD i 0)) hl (by omega) (by omega : n0 ≤ zs.length) hcell
      have e : (zs.take n0).map (Value.int .u8) = (List.range n0).map fun i => .int .u8 (zs.getD i 0) := by
        apply List.ext_getElem
        · simp; omega
        · intro i h1 h2
          have : i < zs.length := by simp at h2; omega
          simp [this]
      rw [e]
      exact hr
    obtain ⟨l, hl2⟩ := lits_bytes (zs.take n0) (fun z hz => hwz z (List.mem_of_mem_take hz))
    have hle : l.length = (zs.take n0).length := by
      have := congrArg List.length hl2
      simpa using this.symm
    rw [hl2] at hrow
    refine ⟨_, _, _, l, rfl, hrow, ?_⟩
    rw [hx1, hle]
    have := bulk_lits (H := H) .u8 (zs.take n0)
    simp only [Rows.uptoBulk]
    omega
def smallA (x : ActP) (m : Nat) : Prop := sizeN x.name ≤ m ∧ x.data.length ≤ m
set_option maxRecDepth 100000 in
theorem open_act_bulk {H : Type} {enc : TypeId × Value → H} {W : World} {fuel : Nat} {cs : List Value} {x : DataW H × List MemPlace} (h : DataW.trod enc Tryz.prog W 0 (fun _ => true) true fuel 60 cs = some x)
    (hsz : (x.1.weights Tryz.prog 60).all (· ≤ reachBytes) = true) :
    ∃ (a : ActP) (nao : Option Addr) (nl nc : Nat) (dao : Option Addr) (dl dc : Nat), cs = (actCells a nao nl nc dao dl dc).toList ∧ Strs W nao nl nc a.name ∧ Byts W dao dl dc a.data ∧ a.fits ∧ wfi a.kind ∧ smallA a (Rows.uptoBulk x.1) := by
  obtain ⟨xs, n, rfl, rfl, hl, hx, hf⟩ := DataW.trod_struct Tryz.underlying60 h
  rw [cellsAct] at hl
  match cs, hl, xs, hx with
  | [c0, c1, c2, c3, c4, c5, c6, c7], _, [y0, y1, y2, y3, y4, y5, y6, y7], _ =>
    have g0 := hf 0 _ rfl
    have g1 := hf 1 _ rfl
    have g2 := hf 2 _ rfl
    have g3 := hf 3 _ rfl
    have g4 := hf 4 _ rfl
    have g5 := hf 5 _ rfl
    have g6 := hf 6 _ rfl
    have g7 := hf 7 _ rfl
    simp [cellsInt, cellsU64, cellsStrs, cellsByts] at g0 g1 g2 g3 g4 g5 g6 g7
    obtain ⟨k0, e0, rfl, w0⟩ := DataW.trod_int Tryz.underlying3 g0
    obtain ⟨k1, e1, rfl, w1⟩ := DataW.trod_int Tryz.underlying3 g1
    obtain ⟨k2, e2, rfl, w2⟩ := DataW.trod_int Tryz.underlying3 g2
    obtain ⟨k3, e3, rfl, w3⟩ := DataW.trod_int Tryz.underlying3 g3
    obtain ⟨k5, e5, rfl, w5⟩ := DataW.trod_int Tryz.underlying58 g5
    obtain ⟨k6, e6, rfl, w6⟩ := DataW.trod_int Tryz.underlying58 g6
    cases e0; cases e1; cases e2; cases e3; cases e5; cases e6
    have hbig : Rows.uptoBulk y4.1 + Rows.uptoBulk y7.1 ≤ Rows.uptoBulk (DataW.agg (List.map (fun x : DataW H × List MemPlace => x.1) [(DataW.lit (.int .i64 k0), []), (.lit (.int .i64 k1), []), (.lit (.int .i64 k2), []), (.lit (.int .i64 k3), []), y4, (.lit (.int .u64 k5), []), (.lit (.int .u64 k6), []), y7])) := by
      simp only [List.map_cons, List.map_nil, Rows.uptoBulk, Rows.uptoBulkAll]
      omega
    simp only [DataW.weights, Tryz.underlying60, List.map_cons, List.map_nil, DataW.weightsEach, List.nil_append, List.append_nil, List.all_append, Bool.and_eq_true] at hsz
    obtain ⟨nao, nl, nc, ss, rfl, hS, hs4⟩ := open_strs_bulk g4 hsz.1
    obtain ⟨dao, dl, dc, l, rfl, hD, hd7⟩ := open_byts_bulk g7 hsz.2
    have b0 := bounds_i64 w0
    have b1 := bounds_i64 w1
    have b2 := bounds_i64 w2
    have b3 := bounds_i64 w3
    have b5 := bounds_u64 w5
    have b6 := bounds_u64 w6
    refine ⟨⟨k0, k1, k2, k3, ss, k5.toNat, k6.toNat, l⟩, nao, nl, nc, dao, dl, dc, ?_, hS, hD, ⟨b1, b2, b3, by simp only; omega, by simp only; omega⟩, b0, ⟨Nat.le_trans hs4 (Nat.le_trans (Nat.le_add_right _ _) hbig), Nat.le_trans hd7 (Nat.le_trans (Nat.le_add_left _ _) hbig)⟩⟩
    simp only [actCells]
    rw [Int.toNat_of_nonneg b5.1, Int.toNat_of_nonneg b6.1]
theorem open_acts_bulk {H : Type} {enc : TypeId × Value → H} {W : World} {t : TypeId} {v : Value} {d : DataW H} {ps : List MemPlace}
    (ht : Tryz.prog.underlying t = some (.slice 60)) (h : DataW.Trod enc Tryz.prog W 0 (fun _ => true) true t v d ps)
    (hsz : (d.weights Tryz.prog t).all (· ≤ reachBytes) = true) (hv : ∃ a n c, v = .slice a n c) :
    ∃ ao n c xs, v = .slice ao n c ∧ Acts W ao n c xs ∧ ∀ x ∈ xs, x.fits ∧ smallA x (Rows.uptoBulk d) := by
  obtain ⟨a0, n0, c0, rfl⟩ := hv
  obtain ⟨fuel, hf⟩ := h
  rcases Deep.open_slice ht hf with ⟨hcs, _⟩ | ⟨a, len, cap, m, n, D, Pl, hcs, _, hl, hm, hmm, hx, hel⟩
  · simp [Value.cells] at hcs
    obtain ⟨rfl, rfl, rfl⟩ := hcs
    exact ⟨_, _, _, [], rfl, Acts.nil (by omega), fun s hs => by cases hs⟩
  · simp [Value.cells] at hcs
    obtain ⟨rfl, rfl, rfl⟩ := hcs
    simp only [if_true] at hmm
    subst hmm
    simp only [Prod.mk.injEq] at hx
    rw [hx.1] at hsz
    simp only [DataW.weights, ht, List.all_cons, Bool.and_eq_true, List.all_append] at hsz
    have hb : Tryz.prog.bytesOf 60 = 96 := by kernel_rfl
    have hr := reach_le
    have hw := of_decide_eq_true hsz.1
    rw [hb] at hw
    simp only [List.length_map, List.length_range] at hw
    have hsp : 0 < n0 → ∃ b off, a = ⟨b, off, none⟩ := by
      intro h0
      obtain ⟨cs', h1, h2⟩ := hel 0 (by omega)
      rw [cellsAct] at h1
      obtain ⟨x, nao, nl, nc, dao, dl, dc, rfl, _⟩ := open_act h2 (weightsAll_mem hsz.2.1 (D 0) (List.mem_map_of_mem (List.mem_range.2 h0)))
      obtain ⟨_, _, hcell⟩ := World.cells?_some h1
      obtain ⟨b, off, spot⟩ := a
      have h3 := hcell 0 (by omega)
      have h4 : W.cell? ((Addr.add ⟨b, off, spot⟩ (0 * 8)).add 0) = some (.int .i64 x.kind) := by rw [h3]; rfl
      have h5 := World.cell?_spot h4
      have : spot = none := by simpa [Addr.add] using h5
      subst this
      exact ⟨b, off, rfl⟩
    have key : ∀ i, i < n0 → ∃ x : ActP, (∃ b off, a = ⟨b, off, none⟩ ∧ ActIn W b (off + i * 8) x) ∧ x.fits ∧ smallA x (Rows.uptoBulk d) := by
      intro i hi
      obtain ⟨b, off, rfl⟩ := hsp (by omega)
      obtain ⟨cs', h1, h2⟩ := hel i (by omega)
      rw [cellsAct] at h1
      have hmem : D i ∈ (List.range n0).map D := List.mem_map_of_mem (List.mem_range.2 hi)
      obtain ⟨x, nao, nl, nc, dao, dl, dc, rfl, hS, hD, hfit, hk, hsm⟩ := open_act_bulk h2 (weightsAll_mem hsz.2.1 (D i) hmem)
      have hbp := bulk_part hmem
      have hsm2 : smallA x (Rows.uptoBulk d) := by
        unfold smallA at hsm ⊢
        rw [hx.1]
        simp only [Rows.uptoBulk]
        simp only at hsm
        omega
      refine ⟨x, ?_, hfit, hsm2⟩
      obtain ⟨_, _, hcell⟩ := World.cells?_some h1
      refine ⟨b, off, rfl, nao, nl, nc, dao, dl, dc, fun j hj => ?_, hS, hD⟩
      have := hcell j hj
      rw [addr_add, addr_add] at this
      rw [this]
      simp
    obtain ⟨f, hfn⟩ := Deep.choose_lt key
    refine ⟨_, _, _, (List.range n0).map f, rfl, ⟨by simp, hl, by omega, fun h0 => ?_⟩, ?_⟩
    · obtain ⟨⟨b, off, e, _⟩, _⟩ := hfn 0 h0
      refine ⟨b, off, by rw [e], fun i hi => ?_⟩
      have hi' : i < n0 := by simpa using hi
      obtain ⟨⟨b2, off2, e2, h2⟩, _⟩ := hfn i hi'
      rw [e] at e2
      cases e2
      simpa using h2
    · intro x hx
      rw [List.mem_map] at hx
      obtain ⟨i, hi, rfl⟩ := hx
      exact (hfn i (List.mem_range.1 hi)).2
end Go.Proofs.YtipbakdodbmfjaaGreatDoor

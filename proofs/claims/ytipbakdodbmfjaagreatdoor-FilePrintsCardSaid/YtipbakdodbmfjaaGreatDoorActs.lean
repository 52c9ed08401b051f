/- Slices of acts in memory; opening one that came in as data. -/
import Derived.Test.YtipbakdodbmfjaaGreatDoorOpenAct
namespace Go.Proofs.YtipbakdodbmfjaaGreatDoor
open Go.ChangeShapes Go.WideShapes Go.ChangeAt Go.RowKit

instance : Inhabited ActP := ⟨ActP.zero 0⟩
/-- at place off of block b: an act's eight cells -/
def ActIn (w : World) (b off : Nat) (x : ActP) : Prop :=
  ∃ nao nl nc dao dl dc, (∀ j, j < 8 → w.cell? ⟨b, off + j, none⟩ = (actCells x nao nl nc dao dl dc)[j]?) ∧ Strs w nao nl nc x.name ∧ Byts w dao dl dc x.data
theorem ActIn.on {w w' : World} {b off : Nat} {x : ActP} (h : ActIn w b off x) (hb : Below w.heap.size w w') : ActIn w' b off x := by
  obtain ⟨nao, nl, nc, dao, dl, dc, h1, h2, h3⟩ := h
  refine ⟨nao, nl, nc, dao, dl, dc, fun j hj => ?_, h2.below hb (Nat.le_refl _), h3.below hb (Nat.le_refl _)⟩
  have h4 := h1 j hj
  have hj' : j < (actCells x nao nl nc dao dl dc).size := by simpa [actCells] using hj
  rw [Array.getElem?_eq_getElem hj'] at h4 ⊢
  exact cell_keep hb h4
structure Acts (w : World) (ao : Option Addr) (n c : Nat) (xs : List ActP) : Prop where
  hlen : xs.length = n
  hle : n ≤ c
  hmax : c ≤ 9223372036854775807
  hcells : 0 < n → ∃ b off, ao = some ⟨b, off, none⟩ ∧ ∀ i (h : i < xs.length), ActIn w b (off + i * 8) xs[i]
theorem Acts.on {w w' : World} {ao : Option Addr} {n c : Nat} {xs : List ActP} (h : Acts w ao n c xs) (hb : Below w.heap.size w w') : Acts w' ao n c xs :=
  ⟨h.hlen, h.hle, h.hmax, fun h0 => by
    obtain ⟨b, off, e, hc⟩ := h.hcells h0
    exact ⟨b, off, e, fun i hi => (hc i hi).on hb⟩⟩
theorem Acts.nil {w : World} {ao : Option Addr} {c : Nat} (h : c ≤ 9223372036854775807) : Acts w ao 0 c [] := ⟨rfl, Nat.zero_le _, h, fun h => absurd h (Nat.lt_irrefl 0)⟩

theorem weights_at {H : Type} {P : Program} {ts : List TypeId} {ds : List (DataW H)} {t : TypeId} {d : DataW H} {j : Nat} (h : (DataW.weightsEach P ts ds).all (· ≤ reachBytes) = true) (ht : ts[j]? = some t) (hd : ds[j]? = some d) : (d.weights P t).all (· ≤ reachBytes) = true :=
  List.all_eq_true.2 fun n hn => List.all_eq_true.1 h n (DataW.weights_mem_each ht hd n hn)
set_option maxRecDepth 100000 in
theorem open_act_arg {H : Type} {enc : TypeId × Value → H} {W : World} {base : Nat} {v : Value} {d : DataW H} {ps : List MemPlace} (hk : Value.okWide Tryz.prog W .any base 60 v)
    (h : DataW.Trod enc Tryz.prog W 0 (fun _ => true) true 60 v d ps) (hsz : (d.weights Tryz.prog 60).all (· ≤ reachBytes) = true) :
    ∃ (a : ActP) (nao : Option Addr) (nl nc : Nat) (dao : Option Addr) (dl dc : Nat), v = .agg (actCells a nao nl nc dao dl dc) ∧ Strs W nao nl nc a.name ∧ Byts W dao dl dc a.data ∧ a.fits ∧ wfi a.kind := by
  obtain ⟨cs, rfl, _⟩ := okWide_struct Tryz.underlying60 hk
  obtain ⟨fuel, hf⟩ := h
  obtain ⟨a, nao, nl, nc, dao, dl, dc, e, h1, h2, h3, h4⟩ := open_act (x := (d, ps)) (cs := cs.toList) (by simpa [Value.cells] using hf) hsz
  exact ⟨a, nao, nl, nc, dao, dl, dc, by rw [Array.toList_inj.1 e], h1, h2, h3, h4⟩
theorem weightsAll_mem {H : Type} {P : Program} {e : TypeId} {p : Nat → Bool} : ∀ {l : List (DataW H)}, (DataW.weightsAll P e l).all p = true → ∀ d ∈ l, (d.weights P e).all p = true
  | [], _, d, hd => by cases hd
  | a :: l, h, d, hd => by
    simp only [DataW.weightsAll, List.all_append, Bool.and_eq_true] at h
    rcases List.mem_cons.1 hd with rfl | hd
    · exact h.1
    · exact weightsAll_mem h.2 d hd
theorem open_acts {H : Type} {enc : TypeId × Value → H} {W : World} {t : TypeId} {v : Value} {d : DataW H} {ps : List MemPlace}
    (ht : Tryz.prog.underlying t = some (.slice 60)) (h : DataW.Trod enc Tryz.prog W 0 (fun _ => true) true t v d ps)
    (hsz : (d.weights Tryz.prog t).all (· ≤ reachBytes) = true) (hv : ∃ a n c, v = .slice a n c) :
    ∃ ao n c xs, v = .slice ao n c ∧ Acts W ao n c xs ∧ ∀ x ∈ xs, x.fits ∧ wfi x.kind := by
  obtain ⟨a0, n0, c0, rfl⟩ := hv
  obtain ⟨fuel, hf⟩ := h
  rcases Deep.open_slice ht hf with ⟨hcs, _⟩ | ⟨a, len, cap, m, n, D, Pl, hcs, _, hl, hm, hmm, hx, hel⟩
  · simp [Value.cells] at hcs
    obtain ⟨rfl, rfl, rfl⟩ := hcs
    exact ⟨_, _, _, [], rfl, Acts.nil (by omega), fun s hs => by cases hs⟩
  · simp [Value.cells] at hcs
    obtain ⟨rfl, rfl, rfl⟩ := hcs
    simp only [if_true] at hmm
    subst hmm
    simp only [Prod.mk.injEq] at hx
    rw [hx.1] at hsz
    simp only [DataW.weights, ht, List.all_cons, Bool.and_eq_true, List.all_append] at hsz
    have hb : Tryz.prog.bytesOf 60 = 96 := by kernel_rfl
    have hr := reach_le
    have hw := of_decide_eq_true hsz.1
    rw [hb] at hw
    simp only [List.length_map, List.length_range] at hw
    have hsp : 0 < n0 → ∃ b off, a = ⟨b, off, none⟩ := by
      intro h0
      obtain ⟨cs', h1, h2⟩ := hel 0 (by omega)
      rw [cellsAct] at h1
      obtain ⟨x, nao, nl, nc, dao, dl, dc, rfl, _⟩ := open_act h2 (weightsAll_mem hsz.2.1 (D 0) (List.mem_map_of_mem (List.mem_range.2 h0)))
      obtain ⟨_, _, hcell⟩ := World.cells?_some h1
      obtain ⟨b, off, spot⟩ := a
      have h3 := hcell 0 (by omega)
      have h4 : W.cell? ((Addr.add ⟨b, off, spot⟩ (0 * 8)).add 0) = some (.int .i64 x.kind) := by rw [h3]; rfl
      have h5 := World.cell?_spot h4
      have : spot = none := by simpa [Addr.add] using h5
      subst this
      exact ⟨b, off, rfl⟩
    have key : ∀ i, i < n0 → ∃ x : ActP, (∃ b off, a = ⟨b, off, none⟩ ∧ ActIn W b (off + i * 8) x) ∧ x.fits ∧ wfi x.kind := by
      intro i hi
      obtain ⟨b, off, rfl⟩ := hsp (by omega)
      obtain ⟨cs', h1, h2⟩ := hel i (by omega)
      rw [cellsAct] at h1
      obtain ⟨x, nao, nl, nc, dao, dl, dc, rfl, hS, hD, hfit, hk⟩ := open_act h2 (weightsAll_mem hsz.2.1 (D i) (List.mem_map_of_mem (List.mem_range.2 hi)))
      refine ⟨x, ?_, hfit, hk⟩
      obtain ⟨_, _, hcell⟩ := World.cells?_some h1
      refine ⟨b, off, rfl, nao, nl, nc, dao, dl, dc, fun j hj => ?_, hS, hD⟩
      have := hcell j hj
      rw [addr_add, addr_add] at this
      rw [this]
      simp
    obtain ⟨f, hfn⟩ := Deep.choose_lt key
    refine ⟨_, _, _, (List.range n0).map f, rfl, ⟨by simp, hl, by omega, fun h0 => ?_⟩, ?_⟩
    · obtain ⟨⟨b, off, e, _⟩, _⟩ := hfn 0 h0
      refine ⟨b, off, by rw [e], fun i hi => ?_⟩
      have hi' : i < n0 := by simpa using hi
      obtain ⟨⟨b2, off2, e2, h2⟩, _⟩ := hfn i hi'
      rw [e] at e2
      cases e2
      simpa using h2
    · intro x hx
      rw [List.mem_map] at hx
      obtain ⟨i, hi, rfl⟩ := hx
      exact (hfn i (List.mem_range.1 hi)).2
end Go.Proofs.YtipbakdodbmfjaaGreatDoor

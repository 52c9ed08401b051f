/- Opening facts that came in as data, of small bulk: how large they are. -/
import Derived.Test.YtpemdieejgldiaaFact
import Derived.Test.YtpemdieejgldiaaSize
import Derived.Test.YtpemdieejgldiaaRows
import Derived.LaidLaws
import Derived.Stop.Joined
import Derived.Deep.DeepHandedRow
namespace Go.Proofs.Ytpemdieejgldiaa
open Go.ChangeShapes Go.WideShapes Go.ChangeAt Go.RowKit

theorem bulk_part {H : Type} {d : DataW H} : ∀ {l : List (DataW H)}, d ∈ l → Rows.uptoBulk d ≤ Rows.uptoBulkAll l
  | [], h => by cases h
  | x :: r, h => by
    simp only [Rows.uptoBulkAll]
    rcases List.mem_cons.1 h with rfl | h
    · omega
    · have := bulk_part h; omega
theorem bulk_strs {H : Type} : ∀ ss : List ByteArray, sizeN ss ≤ Rows.uptoBulkAll (strs (H := H) ss)
  | [] => by simp [sizeN]
  | s :: ss => by
    have ih := bulk_strs (H := H) ss
    have e : strs (H := H) (s :: ss) = .lit (.string s.data.toList) :: strs ss := rfl
    rw [e]
    simp only [sizeN, Rows.uptoBulkAll, Rows.uptoBulk]
    have : s.data.toList.length = s.size := by simp
    omega
theorem bulk_len {H : Type} : ∀ ss : List ByteArray, ss.length ≤ Rows.uptoBulkAll (strs (H := H) ss)
  | [] => by simp
  | s :: ss => by
    have ih := bulk_len (H := H) ss
    have e : strs (H := H) (s :: ss) = .lit (.string s.data.toList) :: strs ss := rfl
    rw [e]
    simp only [List.length_cons, Rows.uptoBulkAll, Rows.uptoBulk]
    omega
/-- a slice of strings that came in, and how large it is -/
theorem open_strs_bulk {H : Type} {enc : TypeId × Value → H} {W : World} {fuel : Nat} {c : Value} {y : DataW H × List MemPlace} (h : DataW.trod enc Try.prog W 0 (fun _ => true) true fuel 29 [c] = some y)
    (hsz : (y.1.weights Try.prog 29).all (· ≤ reachBytes) = true) : ∃ ao n k ss, c = .slice ao n k ∧ Strs W ao n k ss ∧ sizeN ss ≤ Rows.uptoBulk y.1 ∧ ss.length ≤ Rows.uptoBulk y.1 := by
  obtain ⟨a0, n0, c0, rfl⟩ := slice_of Try.underlying29 h
  rcases open_strings Try.underlying29 Try.underlying9 (by kernel_rfl) h with ⟨hcs, _⟩ | ⟨a, len, cap, ss, hcs, _, hl, hm, hlen, hx, hcell, hws⟩
  · simp at hcs
    obtain ⟨rfl, rfl, rfl⟩ := hcs
    exact ⟨_, _, _, [], rfl, ⟨Row.empty (by omega) (fun _ => rfl), fun s hs => by cases hs⟩, by simp [sizeN], by simp⟩
  · simp at hcs
    obtain ⟨rfl, rfl, rfl⟩ := hcs
    simp at hlen
    have hx1 : y.1 = .slice (strs (ss.take n0)) (strs (ss.drop n0)) := by rw [hx]
    have hs := sized_slice (ts := [29]) (ds := [y.1]) (j := 0) (by simpa [DataW.weightsEach] using hsz) rfl (by rw [hx1]; rfl) Try.underlying29
    have hb : Try.prog.bytesOf 9 = 16 := by kernel_rfl
    rw [hb] at hs
    simp only [strs, List.length_map, List.length_take, List.length_drop] at hs
    have hr := reach_le
    refine ⟨_, _, _, ss.take n0, rfl, ⟨?_, fun s h => by have := hws s (List.mem_of_mem_take h); unfold maxLen at this; exact this⟩, ?_, ?_⟩
    · have hr := row_of_cells (f := fun i => .string (ss.getD i ByteArray.empty)) hl (by omega) (by omega : n0 ≤ ss.length) hcell
      have e : (ss.take n0).map Value.string = (List.range n0).map fun i => .string (ss.getD i ByteArray.empty) := by
        apply List.ext_getElem
        · simp; omega
        · intro i h1 h2
          have : i < ss.length := by simp at h2; omega
          simp [this]
      rw [e]
      exact hr
    · rw [hx1]
      have := bulk_strs (H := H) (ss.take n0)
      simp only [Rows.uptoBulk]
      omega
    · rw [hx1]
      have := bulk_len (H := H) (ss.take n0)
      simp only [Rows.uptoBulk]
      omega
theorem bulk_part5 {H : Type} (y0 y1 y2 y3 y4 : DataW H × List MemPlace) : Rows.uptoBulk y4.1 ≤ Rows.uptoBulk (DataW.agg (List.map (fun x : DataW H × List MemPlace => x.1) [y0, y1, y2, y3, y4])) := by
  simp only [List.map_cons, List.map_nil, Rows.uptoBulk, Rows.uptoBulkAll]
  omega
set_option maxRecDepth 100000 in
theorem open_data_bulk {H : Type} {enc : TypeId × Value → H} {W : World} {fuel : Nat} {cs : List Value} {x : DataW H × List MemPlace} (h : DataW.trod enc Try.prog W 0 (fun _ => true) true fuel 34 cs = some x)
    (hsz : (x.1.weights Try.prog 34).all (· ≤ reachBytes) = true) :
    ∃ (d : DataP) (k : DataH), cs = (dataC k).toList ∧ IsData W k d ∧ d.texts.length ≤ Rows.uptoBulk x.1 := by
  obtain ⟨xs, n, rfl, rfl, hl, hx, hf⟩ := DataW.trod_struct Try.underlying34 h
  rw [cellsData] at hl
  match cs, hl, xs, hx with
  | [c0, c1, c2, c3, c4], _, [y0, y1, y2, y3, y4], _ =>
    have g0 := hf 0 _ rfl
    have g1 := hf 1 _ rfl
    have g2 := hf 2 _ rfl
    have g3 := hf 3 _ rfl
    have g4 := hf 4 _ rfl
    simp [cellsStrs, cellsByts, cellsNums] at g0 g1 g2 g3 g4
    simp only [DataW.weights, Try.underlying34, List.map_cons, List.map_nil, DataW.weightsEach, List.append_nil, List.all_append, Bool.and_eq_true] at hsz
    obtain ⟨ba, bl, bc, l0, rfl, h0⟩ := open_byts_cell g0 hsz.1
    obtain ⟨ha, hl, hc, l1, rfl, h1⟩ := open_strs_cell g1 hsz.2.1
    obtain ⟨ma, ml, mc, l2, rfl, h2⟩ := open_strs_cell g2 hsz.2.2.1
    obtain ⟨na, nl, nc, l3, rfl, h3, h3'⟩ := open_nums_cell g3 hsz.2.2.2.1
    obtain ⟨ta, tl, tc, l4, rfl, h4, _, hlen⟩ := open_strs_bulk g4 hsz.2.2.2.2
    exact ⟨⟨l0, l1, l2, l3, l4⟩, ⟨ba, bl, bc, ha, hl, hc, ma, ml, mc, na, nl, nc, ta, tl, tc⟩, rfl, ⟨h0, h1, h2, h3, h4, h3'⟩, Nat.le_trans hlen (bulk_part5 y0 y1 y2 y3 y4)⟩
/-- a slice of structs that came in -/
theorem open_seq_bulk {H α : Type} [Inhabited α] {enc : TypeId × Value → H} {W : World} {fuel : Nat} {c : Value} {d : DataW H × List MemPlace} (K : Kind α) (Q : α → Nat → Prop) (hQ : ∀ a m n, Q a m → m ≤ n → Q a n) (t e : TypeId) (ht : Try.prog.underlying t = some (.slice e)) (hce : Try.prog.cellsOf e = K.size) (hbe : 1 ≤ Try.prog.bytesOf e)
    (hopen : ∀ {fuel : Nat} {cs : List Value} {x : DataW H × List MemPlace}, DataW.trod enc Try.prog W 0 (fun _ => true) true fuel e cs = some x → (x.1.weights Try.prog e).all (· ≤ reachBytes) = true → ∃ (a : α) (k : K.H), cs = (K.cells k a).toList ∧ K.is (fun b => b < W.heap.size) W k a ∧ Q a (Rows.uptoBulk x.1))
    (hf : DataW.trod enc Try.prog W 0 (fun _ => true) true fuel t [c] = some d)
    (hsz : (d.1.weights Try.prog t).all (· ≤ reachBytes) = true) : ∃ ao n k xs, c = .slice ao n k ∧ Seq K (fun b => b < W.heap.size) W ao n k xs ∧ ∀ x ∈ xs, Q x (Rows.uptoBulk d.1) := by
  obtain ⟨a0, n0, c0, rfl⟩ := slice_of ht hf
  obtain ⟨d, ps⟩ := d
  rcases Deep.open_slice ht hf with ⟨hcs, _⟩ | ⟨a, len, cap, m, n, D, Pl, hcs, _, hl, hm, hmm, hx, hel⟩
  · simp at hcs
    obtain ⟨rfl, rfl, rfl⟩ := hcs
    exact ⟨_, _, _, [], rfl, Seq.nil _ _ (by omega) (fun _ => rfl), fun x hx => by cases hx⟩
  · simp at hcs
    obtain ⟨rfl, rfl, rfl⟩ := hcs
    simp only [if_true] at hmm
    subst hmm
    simp only [Prod.mk.injEq] at hx
    rw [hx.1] at hsz
    simp only [DataW.weights, ht, List.all_cons, Bool.and_eq_true, List.all_append] at hsz
    have hr := reach_le
    have hw := of_decide_eq_true hsz.1
    simp only [List.length_map, List.length_range] at hw
    have hw2 : (n0 + (m - n0)) * 1 ≤ (n0 + (m - n0)) * Try.prog.bytesOf e := Nat.mul_le_mul (Nat.le_refl _) hbe
    have hsp : 0 < n0 → ∃ b off, a = ⟨b, off, none⟩ := by
      intro h0
      obtain ⟨cs', h1, h2⟩ := hel 0 (by omega)
      rw [hce, Nat.zero_mul] at h1
      obtain ⟨x, k, e', _⟩ := hopen h2 (weightsAllF hsz.2.1 (D 0) (List.mem_map_of_mem (List.mem_range.2 h0)))
      subst e'
      obtain ⟨_, _, hcell⟩ := World.cells?_some h1
      obtain ⟨b, off, spot⟩ := a
      have h3 := hcell 0 K.pos
      have hks := K.hsize k x
      rw [Array.getElem?_toList, Array.getElem?_eq_getElem (by rw [hks]; exact K.pos)] at h3
      have h5 := World.cell?_spot h3
      have : spot = none := by simpa [Addr.add] using h5
      subst this
      exact ⟨b, off, rfl⟩
    have key : ∀ i, i < n0 → ∃ x : α, ∃ b off, a = ⟨b, off, none⟩ ∧ Elem1 K (fun b => b < W.heap.size) W b (off + i * K.size) x ∧ Q x (Rows.uptoBulk d) := by
      intro i hi
      obtain ⟨b, off, rfl⟩ := hsp (by omega)
      obtain ⟨cs', h1, h2⟩ := hel i (by omega)
      rw [hce] at h1
      obtain ⟨x, k, e', hR, hq⟩ := hopen h2 (weightsAllF hsz.2.1 (D i) (List.mem_map_of_mem (List.mem_range.2 hi)))
      subst e'
      obtain ⟨_, _, hcell⟩ := World.cells?_some h1
      refine ⟨x, b, off, rfl, ⟨k, fun j hj => ?_, hR⟩, hQ _ _ _ hq ?_⟩
      rotate_left
      · rw [hx.1]
        have := bulk_part (H := H) (List.mem_map_of_mem (f := D) (List.mem_range.2 hi))
        simp only [Rows.uptoBulk]
        omega
      have := hcell j hj
      rw [addr_add, addr_add, Array.getElem?_toList] at this
      exact this
    obtain ⟨f, hfn⟩ := Deep.choose_lt key
    refine ⟨_, _, _, (List.range n0).map f, rfl, ⟨by simp, hl, by omega, fun e => (by cases e), fun h0 => ?_⟩, fun x hx' => ?_⟩
    rotate_left
    · obtain ⟨i, hi, rfl⟩ := List.mem_map.1 hx'
      obtain ⟨_, _, _, _, h⟩ := hfn i (List.mem_range.1 hi)
      exact h
    obtain ⟨b, off, e, he, _⟩ := hfn 0 h0
    refine ⟨b, off, by rw [e], by simpa using he.lt, fun i hi => ?_⟩
    have hi' : i < n0 := by simpa using hi
    obtain ⟨b2, off2, e2, h2, _⟩ := hfn i hi'
    rw [e] at e2
    cases e2
    simpa using h2
def smallF (f : FactP) (m : Nat) : Prop := sizeN f.name ≤ m ∧ f.soa.texts.length ≤ m
set_option maxHeartbeats 2000000 in
set_option maxRecDepth 100000 in
theorem open_fact_bulk {H : Type} {enc : TypeId × Value → H} {W : World} {fuel : Nat} {cs : List Value} {x : DataW H × List MemPlace} (h : DataW.trod enc Try.prog W 0 (fun _ => true) true fuel 36 cs = some x)
    (hsz : (x.1.weights Try.prog 36).all (· ≤ reachBytes) = true) :
    ∃ (f : FactP) (k : FactH), cs = (factC k f).toList ∧ IsFact (fun b => b < W.heap.size) W k f ∧ smallF f (Rows.uptoBulk x.1) := by
  obtain ⟨xs, n, rfl, rfl, hl, hx, hf⟩ := DataW.trod_struct Try.underlying36 h
  rw [cellsFact] at hl
  match cs, hl, xs, hx with
  | [c0, c1, c2, c3, c4, c5, c6, c7, c8, c9, c10, c11, c12], _, [y0, y1, y2, y3, y4, y5, y6, y7, y8], _ =>
    have g0 := hf 0 _ rfl
    have g1 := hf 1 _ rfl
    have g2 := hf 2 _ rfl
    have g3 := hf 3 _ rfl
    have g4 := hf 4 _ rfl
    have g5 := hf 5 _ rfl
    have g6 := hf 6 _ rfl
    have g7 := hf 7 _ rfl
    have g8 := hf 8 _ rfl
    simp [cellsInt, cellsStrs, cellsData, cellsDatas] at g0 g1 g2 g3 g4 g5 g6 g7 g8
    obtain ⟨k1, e1, rfl, w1⟩ := DataW.trod_int Try.underlying3 g1
    obtain ⟨k2, e2, rfl, w2⟩ := DataW.trod_int Try.underlying3 g2
    obtain ⟨k3, e3, rfl, w3⟩ := DataW.trod_int Try.underlying3 g3
    obtain ⟨k4, e4, rfl, w4⟩ := DataW.trod_int Try.underlying3 g4
    obtain ⟨k5, e5, rfl, w5⟩ := DataW.trod_int Try.underlying3 g5
    cases e1; cases e2; cases e3; cases e4; cases e5
    have hbig : Rows.uptoBulk y0.1 + Rows.uptoBulk y8.1 ≤ Rows.uptoBulk (DataW.agg (List.map (fun x : DataW H × List MemPlace => x.1) [y0, (.lit (.int .i64 k1), []), (.lit (.int .i64 k2), []), (.lit (.int .i64 k3), []), (.lit (.int .i64 k4), []), (.lit (.int .i64 k5), []), y6, y7, y8])) := by
      simp only [List.map_cons, List.map_nil, Rows.uptoBulk, Rows.uptoBulkAll]
      omega
    simp only [DataW.weights, Try.underlying36, List.map_cons, List.map_nil, DataW.weightsEach, List.nil_append, List.append_nil, List.all_append, Bool.and_eq_true] at hsz
    obtain ⟨nao, nl, nc, ss, rfl, hS, hb0, _⟩ := open_strs_bulk g0 hsz.1
    obtain ⟨sao, sl, sc, ds, rfl, hDs⟩ := open_datas_cell g6 hsz.2.1
    obtain ⟨zao, zl, zc, zs, rfl, hZ⟩ := open_strs_cell g7 hsz.2.2.1
    obtain ⟨d, k, e, hD, hb8⟩ := open_data_bulk g8 hsz.2.2.2
    exact ⟨⟨ss, k1, k2, k3, k4, k5, ds, zs, d⟩, ⟨nao, nl, nc, sao, sl, sc, zao, zl, zc, k⟩, by simp [dataC] at e; obtain ⟨rfl, rfl, rfl, rfl, rfl⟩ := e; rfl,
      ⟨hS, hS.row.mem_lt, bounds_i64 w1, bounds_i64 w2, bounds_i64 w3, bounds_i64 w4, bounds_i64 w5, hDs, hZ, hZ.row.mem_lt, hD, hD.all⟩, ⟨Nat.le_trans hb0 (Nat.le_trans (Nat.le_add_right _ _) hbig), Nat.le_trans hb8 (Nat.le_trans (Nat.le_add_left _ _) hbig)⟩⟩
set_option maxRecDepth 100000 in
theorem open_facts_bulk {H : Type} {enc : TypeId × Value → H} {W : World} {v : Value} {d : DataW H} {ps : List MemPlace} (h : DataW.Trod enc Try.prog W 0 (fun _ => true) true 22 v d ps)
    (hsz : (d.weights Try.prog 22).all (· ≤ reachBytes) = true) (hv : ∃ a n c, v = .slice a n c) : ∃ ao n k fs, v = .slice ao n k ∧ Facts (fun b => b < W.heap.size) W ao n k fs ∧ ∀ f ∈ fs, smallF f (Rows.uptoBulk d) := by
  obtain ⟨a, n, c, rfl⟩ := hv
  obtain ⟨fuel, hf⟩ := h
  exact open_seq_bulk (d := (d, ps)) factK smallF (fun a m n h hm => ⟨Nat.le_trans h.1 hm, Nat.le_trans h.2 hm⟩) 22 36 Try.underlying22 cellsFact (by decide +kernel) (fun h1 h2 => open_fact_bulk h1 h2) (by simpa [Value.cells] using hf) hsz
theorem witness_upto {H : Type} {enc : TypeId × Value → H} {C : Checked} {os : Os} {f : FuncId} {fn : Func} {s : OpenSpec} {conds : List PathCond} {apart : Bool} {laid : List (String × DataW Unit)} (modest : Bool) (w0 : World) (args : Array Value) (hos : w0.os = os)
    (hsh : (w0.forCall (fun _ _ => 0) ⟨#[], args, []⟩).Shaped C.prog)
    (hok : Input.okWideB C.prog (w0.forCall (fun _ _ => 0) ⟨#[], args, []⟩) f ⟨#[], args, []⟩ = true)
    (hrow : s.preRow enc C.prog fn conds apart laid (w0.forCall (fun _ _ => 0) ⟨#[], args, []⟩).memory args) :
    ∃ (w : World) (tape : Tape) (i : Input), w.os = os ∧ (w.forCall tape i).Shaped C.prog ∧ i.vars = [] ∧ Input.okWide C.prog (w.forCall tape i) .any w.heap.size f i ∧
      s.preRow enc C.prog fn conds apart laid (w.forCall tape i).memory i.args ∧ ({ modest := modest } : Assume).holds C.prog (lone (Frame.enter C.prog f i.args .normal) [] (w.forCall tape i)) :=
  ⟨w0, fun _ _ => 0, ⟨#[], args, []⟩, hos, hsh, (Input.okWide_of_okWideB (base := 0) hok).1, (Input.okWide_of_okWideB hok).2, hrow, by
    simp only [Assume.holds]
    exact ⟨by simp, by simp, fun _ => Modest.zero, by simp, by simp⟩⟩
/-- the bound on the whole bounds each act -/
theorem small_of {H : Type} {ds gs : List (DataW H)} {d : DataW H} (h : Rows.uptoSmall H (ds ++ gs) = true) (hd : d ∈ ds) : Rows.uptoBulk d ≤ 1048576 := by
  have h1 := of_decide_eq_true h
  have h2 := bulk_part (List.mem_append_left gs hd)
  exact Nat.le_trans h2 h1
theorem weights_at {H : Type} {P : Program} {ts : List TypeId} {ds : List (DataW H)} {t : TypeId} {d : DataW H} {j : Nat} (h : (DataW.weightsEach P ts ds).all (· ≤ reachBytes) = true) (ht : ts[j]? = some t) (hd : ds[j]? = some d) : (d.weights P t).all (· ≤ reachBytes) = true :=
  List.all_eq_true.2 fun n hn => List.all_eq_true.1 h n (DataW.weights_mem_each ht hd n hn)
end Go.Proofs.Ytpemdieejgldiaa

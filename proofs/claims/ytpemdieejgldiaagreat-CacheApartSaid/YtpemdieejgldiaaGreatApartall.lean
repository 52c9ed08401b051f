/- Merged texts: Fbulk, Cnil, Clayo, Ccopyl, Ccopy, Apart. -/
import Derived.Test.YtpemdieejgldiaaGreatFact
import Derived.Test.YtpemdieejgldiaaGreatSize
import Derived.Test.YtpemdieejgldiaaGreatRows
import Derived.LaidLaws
import Derived.Stop.Joined
import Derived.Deep.DeepHandedRow
import Derived.Test.YtpemdieejgldiaaGreatCtold
import Derived.Test.YtpemdieejgldiaaGreatCflush
import Derived.Test.YtpemdieejgldiaaGreatClaylaw
import Derived.Test.YtpemdieejgldiaaGreatCat
import Derived.Test.YtpemdieejgldiaaGreatBeats
import Derived.Test.YtpemdieejgldiaaGreatAnswers
import Derived.Test.YtpemdieejgldiaaGreatLight
import Derived.Test.YtpemdieejgldiaaGreatRownfact
import Derived.Test.YtpemdieejgldiaaGreatRfsame
namespace Go.Proofs.YtpemdieejgldiaaGreat
section
open Go.ChangeShapes Go.WideShapes Go.ChangeAt Go.RowKit

theorem bulk_part {H : Type} {d : DataW H} : ∀ {l : List (DataW H)}, d ∈ l → Rows.uptoBulk d ≤ Rows.uptoBulkAll l
  | [], h => by cases h
  | x :: r, h => by
    simp only [Rows.uptoBulkAll]
    rcases List.mem_cons.1 h with rfl | h
    · omega
    · have := bulk_part h; omega
theorem bulk_strs {H : Type} : ∀ ss : List ByteArray, sizeN ss ≤ Rows.uptoBulkAll (strs (H := H) ss)
  | [] => by simp [sizeN]
  | s :: ss => by
    have ih := bulk_strs (H := H) ss
    have e : strs (H := H) (s :: ss) = .lit (.string s.data.toList) :: strs ss := rfl
    rw [e]
    simp only [sizeN, Rows.uptoBulkAll, Rows.uptoBulk]
    have : s.data.toList.length = s.size := by simp
    omega
theorem bulk_len {H : Type} : ∀ ss : List ByteArray, ss.length ≤ Rows.uptoBulkAll (strs (H := H) ss)
  | [] => by simp
  | s :: ss => by
    have ih := bulk_len (H := H) ss
    have e : strs (H := H) (s :: ss) = .lit (.string s.data.toList) :: strs ss := rfl
    rw [e]
    simp only [List.length_cons, Rows.uptoBulkAll, Rows.uptoBulk]
    omega
/-- a slice of strings that came in, and how large it is -/
theorem open_strs_bulk {H : Type} {enc : TypeId × Value → H} {W : World} {fuel : Nat} {c : Value} {y : DataW H × List MemPlace} (h : DataW.trod enc Tryz.prog W 0 (fun _ => true) true fuel 23 [c] = some y)
    (hsz : (y.1.weights Tryz.prog 23).all (· ≤ reachBytes) = true) : ∃ ao n k ss, c = .slice ao n k ∧ Strs W ao n k ss ∧ sizeN ss ≤ Rows.uptoBulk y.1 ∧ ss.length ≤ Rows.uptoBulk y.1 := by
  obtain ⟨a0, n0, c0, rfl⟩ := slice_of Tryz.underlying23 h
  rcases open_strings Tryz.underlying23 Tryz.underlying9 (by kernel_rfl) h with ⟨hcs, _⟩ | ⟨a, len, cap, ss, hcs, _, hl, hm, hlen, hx, hcell, hws⟩
  · simp at hcs
    obtain ⟨rfl, rfl, rfl⟩ := hcs
    exact ⟨_, _, _, [], rfl, ⟨Row.empty (by omega) (fun _ => rfl), fun s hs => by cases hs⟩, by simp [sizeN], by simp⟩
  · simp at hcs
    obtain ⟨rfl, rfl, rfl⟩ := hcs
    simp at hlen
    have hx1 : y.1 = .slice (strs (ss.take n0)) (strs (ss.drop n0)) := by rw [hx]
    have hs := sized_slice (ts := [23]) (ds := [y.1]) (j := 0) (by simpa [DataW.weightsEach] using hsz) rfl (by rw [hx1]; rfl) Tryz.underlying23
    have hb : Tryz.prog.bytesOf 9 = 16 := by kernel_rfl
    rw [hb] at hs
    simp only [strs, List.length_map, List.length_take, List.length_drop] at hs
    have hr := reach_le
    refine ⟨_, _, _, ss.take n0, rfl, ⟨?_, fun s h => by have := hws s (List.mem_of_mem_take h); unfold maxLen at this; exact this⟩, ?_, ?_⟩
    · have hr := row_of_cells (f := fun i => .string (ss.getD i ByteArray.empty)) hl (by omega) (by omega : n0 ≤ ss.length) hcell
      have e : (ss.take n0).map Value.string = (List.range n0).map fun i => .string (ss.getD i ByteArray.empty) := by
        apply List.ext_getElem
        · simp; omega
        · intro i h1 h2
          have : i < ss.length := by simp at h2; omega
          simp [this]
      rw [e]
      exact hr
    · rw [hx1]
      have := bulk_strs (H := H) (ss.take n0)
      simp only [Rows.uptoBulk]
      omega
    · rw [hx1]
      have := bulk_len (H := H) (ss.take n0)
      simp only [Rows.uptoBulk]
      omega
theorem bulk_part5 {H : Type} (y0 y1 y2 y3 y4 : DataW H × List MemPlace) : Rows.uptoBulk y4.1 ≤ Rows.uptoBulk (DataW.agg (List.map (fun x : DataW H × List MemPlace => x.1) [y0, y1, y2, y3, y4])) := by
  simp only [List.map_cons, List.map_nil, Rows.uptoBulk, Rows.uptoBulkAll]
  omega
set_option maxRecDepth 100000 in
theorem open_data_bulk {H : Type} {enc : TypeId × Value → H} {W : World} {fuel : Nat} {cs : List Value} {x : DataW H × List MemPlace} (h : DataW.trod enc Tryz.prog W 0 (fun _ => true) true fuel 34 cs = some x)
    (hsz : (x.1.weights Tryz.prog 34).all (· ≤ reachBytes) = true) :
    ∃ (d : DataP) (k : DataH), cs = (dataC k).toList ∧ IsData W k d ∧ d.texts.length ≤ Rows.uptoBulk x.1 := by
  obtain ⟨xs, n, rfl, rfl, hl, hx, hf⟩ := DataW.trod_struct Tryz.underlying34 h
  rw [cellsData] at hl
  match cs, hl, xs, hx with
  | [c0, c1, c2, c3, c4], _, [y0, y1, y2, y3, y4], _ =>
    have g0 := hf 0 _ rfl
    have g1 := hf 1 _ rfl
    have g2 := hf 2 _ rfl
    have g3 := hf 3 _ rfl
    have g4 := hf 4 _ rfl
    simp [cellsStrs, cellsByts, cellsNums] at g0 g1 g2 g3 g4
    simp only [DataW.weights, Tryz.underlying34, List.map_cons, List.map_nil, DataW.weightsEach, List.append_nil, List.all_append, Bool.and_eq_true] at hsz
    obtain ⟨ba, bl, bc, l0, rfl, h0⟩ := open_byts_cell g0 hsz.1
    obtain ⟨ha, hl, hc, l1, rfl, h1⟩ := open_strs_cell g1 hsz.2.1
    obtain ⟨ma, ml, mc, l2, rfl, h2⟩ := open_strs_cell g2 hsz.2.2.1
    obtain ⟨na, nl, nc, l3, rfl, h3, h3'⟩ := open_nums_cell g3 hsz.2.2.2.1
    obtain ⟨ta, tl, tc, l4, rfl, h4, _, hlen⟩ := open_strs_bulk g4 hsz.2.2.2.2
    exact ⟨⟨l0, l1, l2, l3, l4⟩, ⟨ba, bl, bc, ha, hl, hc, ma, ml, mc, na, nl, nc, ta, tl, tc⟩, rfl, ⟨h0, h1, h2, h3, h4, h3'⟩, Nat.le_trans hlen (bulk_part5 y0 y1 y2 y3 y4)⟩
/-- a slice of structs that came in -/
theorem open_seq_bulk {H α : Type} [Inhabited α] {enc : TypeId × Value → H} {W : World} {fuel : Nat} {c : Value} {d : DataW H × List MemPlace} (K : Kind α) (Q : α → Nat → Prop) (hQ : ∀ a m n, Q a m → m ≤ n → Q a n) (t e : TypeId) (ht : Tryz.prog.underlying t = some (.slice e)) (hce : Tryz.prog.cellsOf e = K.size) (hbe : 1 ≤ Tryz.prog.bytesOf e)
    (hopen : ∀ {fuel : Nat} {cs : List Value} {x : DataW H × List MemPlace}, DataW.trod enc Tryz.prog W 0 (fun _ => true) true fuel e cs = some x → (x.1.weights Tryz.prog e).all (· ≤ reachBytes) = true → ∃ (a : α) (k : K.H), cs = (K.cells k a).toList ∧ K.is (fun b => b < W.heap.size) W k a ∧ Q a (Rows.uptoBulk x.1))
    (hf : DataW.trod enc Tryz.prog W 0 (fun _ => true) true fuel t [c] = some d)
    (hsz : (d.1.weights Tryz.prog t).all (· ≤ reachBytes) = true) : ∃ ao n k xs, c = .slice ao n k ∧ Seq K (fun b => b < W.heap.size) W ao n k xs ∧ ∀ x ∈ xs, Q x (Rows.uptoBulk d.1) := by
  obtain ⟨a0, n0, c0, rfl⟩ := slice_of ht hf
  obtain ⟨d, ps⟩ := d
  rcases Deep.open_slice ht hf with ⟨hcs, _⟩ | ⟨a, len, cap, m, n, D, Pl, hcs, _, hl, hm, hmm, hx, hel⟩
  · simp at hcs
    obtain ⟨rfl, rfl, rfl⟩ := hcs
    exact ⟨_, _, _, [], rfl, Seq.nil _ _ (by omega) (fun _ => rfl), fun x hx => by cases hx⟩
  · simp at hcs
    obtain ⟨rfl, rfl, rfl⟩ := hcs
    simp only [if_true] at hmm
    subst hmm
    simp only [Prod.mk.injEq] at hx
    rw [hx.1] at hsz
    simp only [DataW.weights, ht, List.all_cons, Bool.and_eq_true, List.all_append] at hsz
    have hr := reach_le
    have hw := of_decide_eq_true hsz.1
    simp only [List.length_map, List.length_range] at hw
    have hw2 : (n0 + (m - n0)) * 1 ≤ (n0 + (m - n0)) * Tryz.prog.bytesOf e := Nat.mul_le_mul (Nat.le_refl _) hbe
    have hsp : 0 < n0 → ∃ b off, a = ⟨b, off, none⟩ := by
      intro h0
      obtain ⟨cs', h1, h2⟩ := hel 0 (by omega)
      rw [hce, Nat.zero_mul] at h1
      obtain ⟨x, k, e', _⟩ := hopen h2 (weightsAllF hsz.2.1 (D 0) (List.mem_map_of_mem (List.mem_range.2 h0)))
      subst e'
      obtain ⟨_, _, hcell⟩ := World.cells?_some h1
      obtain ⟨b, off, spot⟩ := a
      have h3 := hcell 0 K.pos
      have hks := K.hsize k x
      rw [Array.getElem?_toList, Array.getElem?_eq_getElem (by rw [hks]; exact K.pos)] at h3
      have h5 := World.cell?_spot h3
      have : spot = none := by simpa [Addr.add] using h5
      subst this
      exact ⟨b, off, rfl⟩
    have key : ∀ i, i < n0 → ∃ x : α, ∃ b off, a = ⟨b, off, none⟩ ∧ Elem1 K (fun b => b < W.heap.size) W b (off + i * K.size) x ∧ Q x (Rows.uptoBulk d) := by
      intro i hi
      obtain ⟨b, off, rfl⟩ := hsp (by omega)
      obtain ⟨cs', h1, h2⟩ := hel i (by omega)
      rw [hce] at h1
      obtain ⟨x, k, e', hR, hq⟩ := hopen h2 (weightsAllF hsz.2.1 (D i) (List.mem_map_of_mem (List.mem_range.2 hi)))
      subst e'
      obtain ⟨_, _, hcell⟩ := World.cells?_some h1
      refine ⟨x, b, off, rfl, ⟨k, fun j hj => ?_, hR⟩, hQ _ _ _ hq ?_⟩
      rotate_left
      · rw [hx.1]
        have := bulk_part (H := H) (List.mem_map_of_mem (f := D) (List.mem_range.2 hi))
        simp only [Rows.uptoBulk]
        omega
      have := hcell j hj
      rw [addr_add, addr_add, Array.getElem?_toList] at this
      exact this
    obtain ⟨f, hfn⟩ := Deep.choose_lt key
    refine ⟨_, _, _, (List.range n0).map f, rfl, ⟨by simp, hl, by omega, fun e => (by cases e), fun h0 => ?_⟩, fun x hx' => ?_⟩
    rotate_left
    · obtain ⟨i, hi, rfl⟩ := List.mem_map.1 hx'
      obtain ⟨_, _, _, _, h⟩ := hfn i (List.mem_range.1 hi)
      exact h
    obtain ⟨b, off, e, he, _⟩ := hfn 0 h0
    refine ⟨b, off, by rw [e], by simpa using he.lt, fun i hi => ?_⟩
    have hi' : i < n0 := by simpa using hi
    obtain ⟨b2, off2, e2, h2, _⟩ := hfn i hi'
    rw [e] at e2
    cases e2
    simpa using h2
def smallF (f : FactP) (m : Nat) : Prop := sizeN f.name ≤ m ∧ f.soa.texts.length ≤ m
set_option maxHeartbeats 2000000 in
set_option maxRecDepth 100000 in
theorem open_fact_bulk {H : Type} {enc : TypeId × Value → H} {W : World} {fuel : Nat} {cs : List Value} {x : DataW H × List MemPlace} (h : DataW.trod enc Tryz.prog W 0 (fun _ => true) true fuel 36 cs = some x)
    (hsz : (x.1.weights Tryz.prog 36).all (· ≤ reachBytes) = true) :
    ∃ (f : FactP) (k : FactH), cs = (factC k f).toList ∧ IsFact (fun b => b < W.heap.size) W k f ∧ smallF f (Rows.uptoBulk x.1) := by
  obtain ⟨xs, n, rfl, rfl, hl, hx, hf⟩ := DataW.trod_struct Tryz.underlying36 h
  rw [cellsFact] at hl
  match cs, hl, xs, hx with
  | [c0, c1, c2, c3, c4, c5, c6, c7, c8, c9, c10, c11, c12], _, [y0, y1, y2, y3, y4, y5, y6, y7, y8], _ =>
    have g0 := hf 0 _ rfl
    have g1 := hf 1 _ rfl
    have g2 := hf 2 _ rfl
    have g3 := hf 3 _ rfl
    have g4 := hf 4 _ rfl
    have g5 := hf 5 _ rfl
    have g6 := hf 6 _ rfl
    have g7 := hf 7 _ rfl
    have g8 := hf 8 _ rfl
    simp [cellsInt, cellsStrs, cellsData, cellsDatas] at g0 g1 g2 g3 g4 g5 g6 g7 g8
    obtain ⟨k1, e1, rfl, w1⟩ := DataW.trod_int Tryz.underlying3 g1
    obtain ⟨k2, e2, rfl, w2⟩ := DataW.trod_int Tryz.underlying3 g2
    obtain ⟨k3, e3, rfl, w3⟩ := DataW.trod_int Tryz.underlying3 g3
    obtain ⟨k4, e4, rfl, w4⟩ := DataW.trod_int Tryz.underlying3 g4
    obtain ⟨k5, e5, rfl, w5⟩ := DataW.trod_int Tryz.underlying3 g5
    cases e1; cases e2; cases e3; cases e4; cases e5
    have hbig : Rows.uptoBulk y0.1 + Rows.uptoBulk y8.1 ≤ Rows.uptoBulk (DataW.agg (List.map (fun x : DataW H × List MemPlace => x.1) [y0, (.lit (.int .i64 k1), []), (.lit (.int .i64 k2), []), (.lit (.int .i64 k3), []), (.lit (.int .i64 k4), []), (.lit (.int .i64 k5), []), y6, y7, y8])) := by
      simp only [List.map_cons, List.map_nil, Rows.uptoBulk, Rows.uptoBulkAll]
      omega
    simp only [DataW.weights, Tryz.underlying36, List.map_cons, List.map_nil, DataW.weightsEach, List.nil_append, List.append_nil, List.all_append, Bool.and_eq_true] at hsz
    obtain ⟨nao, nl, nc, ss, rfl, hS, hb0, _⟩ := open_strs_bulk g0 hsz.1
    obtain ⟨sao, sl, sc, ds, rfl, hDs⟩ := open_datas_cell g6 hsz.2.1
    obtain ⟨zao, zl, zc, zs, rfl, hZ⟩ := open_strs_cell g7 hsz.2.2.1
    obtain ⟨d, k, e, hD, hb8⟩ := open_data_bulk g8 hsz.2.2.2
    exact ⟨⟨ss, k1, k2, k3, k4, k5, ds, zs, d⟩, ⟨nao, nl, nc, sao, sl, sc, zao, zl, zc, k⟩, by simp [dataC] at e; obtain ⟨rfl, rfl, rfl, rfl, rfl⟩ := e; rfl,
      ⟨hS, hS.row.mem_lt, bounds_i64 w1, bounds_i64 w2, bounds_i64 w3, bounds_i64 w4, bounds_i64 w5, hDs, hZ, hZ.row.mem_lt, hD, hD.all⟩, ⟨Nat.le_trans hb0 (Nat.le_trans (Nat.le_add_right _ _) hbig), Nat.le_trans hb8 (Nat.le_trans (Nat.le_add_left _ _) hbig)⟩⟩
set_option maxRecDepth 100000 in
theorem open_facts_bulk {H : Type} {enc : TypeId × Value → H} {W : World} {v : Value} {d : DataW H} {ps : List MemPlace} (h : DataW.Trod enc Tryz.prog W 0 (fun _ => true) true 22 v d ps)
    (hsz : (d.weights Tryz.prog 22).all (· ≤ reachBytes) = true) (hv : ∃ a n c, v = .slice a n c) : ∃ ao n k fs, v = .slice ao n k ∧ Facts (fun b => b < W.heap.size) W ao n k fs ∧ ∀ f ∈ fs, smallF f (Rows.uptoBulk d) := by
  obtain ⟨a, n, c, rfl⟩ := hv
  obtain ⟨fuel, hf⟩ := h
  exact open_seq_bulk (d := (d, ps)) factK smallF (fun a m n h hm => ⟨Nat.le_trans h.1 hm, Nat.le_trans h.2 hm⟩) 22 36 Tryz.underlying22 cellsFact (by decide +kernel) (fun h1 h2 => open_fact_bulk h1 h2) (by simpa [Value.cells] using hf) hsz
theorem witness_upto {H : Type} {enc : TypeId × Value → H} {C : Checked} {os : Os} {f : FuncId} {fn : Func} {s : OpenSpec} {conds : List PathCond} {apart : Bool} {laid : List (String × DataW Unit)} (modest : Bool) (w0 : World) (args : Array Value) (hos : w0.os = os)
    (hsh : (w0.forCall (fun _ _ => 0) ⟨#[], args, []⟩).Shaped C.prog)
    (hok : Input.okWideB C.prog (w0.forCall (fun _ _ => 0) ⟨#[], args, []⟩) f ⟨#[], args, []⟩ = true)
    (hrow : s.preRow enc C.prog fn conds apart laid (w0.forCall (fun _ _ => 0) ⟨#[], args, []⟩).memory args) :
    ∃ (w : World) (tape : Tape) (i : Input), w.os = os ∧ (w.forCall tape i).Shaped C.prog ∧ i.vars = [] ∧ Input.okWide C.prog (w.forCall tape i) .any w.heap.size f i ∧
      s.preRow enc C.prog fn conds apart laid (w.forCall tape i).memory i.args ∧ ({ modest := modest } : Assume).holds C.prog (lone (Frame.enter C.prog f i.args .normal) [] (w.forCall tape i)) :=
  ⟨w0, fun _ _ => 0, ⟨#[], args, []⟩, hos, hsh, (Input.okWide_of_okWideB (base := 0) hok).1, (Input.okWide_of_okWideB hok).2, hrow, by
    simp only [Assume.holds]
    exact ⟨by simp, by simp, fun _ => Modest.zero, by simp, by simp⟩⟩
/-- the bound on the whole bounds each act -/
theorem small_of {H : Type} {ds gs : List (DataW H)} {d : DataW H} (h : Rows.uptoSmall H (ds ++ gs) = true) (hd : d ∈ ds) : Rows.uptoBulk d ≤ 1048576 := by
  have h1 := of_decide_eq_true h
  have h2 := bulk_part (List.mem_append_left gs hd)
  exact Nat.le_trans h2 h1
theorem weights_at {H : Type} {P : Program} {ts : List TypeId} {ds : List (DataW H)} {t : TypeId} {d : DataW H} {j : Nat} (h : (DataW.weightsEach P ts ds).all (· ≤ reachBytes) = true) (ht : ts[j]? = some t) (hd : ds[j]? = some d) : (d.weights P t).all (· ≤ reachBytes) = true :=
  List.all_eq_true.2 fun n hn => List.all_eq_true.1 h n (DataW.weights_mem_each ht hd n hn)
end
section
open Go.ChangeShapes Go.WideShapes Go.ChangeAt Go.RowKit

set_option maxHeartbeats 16000000 in
set_option maxRecDepth 100000 in
theorem find_nil (w : World) (na : Option Addr) (nl nc : Nat) (fn : Nat) (now : Int) : Calls Tryz.prog 40 #[.pointer none, .slice na nl nc, .int .i64 1, .func (.func fn) #[.agg #[.int .i64 now, .int .i64 0]] #[]] w fun e w' => e = .returned (.pointer none) ∧ Below w.heap.size w w' := by
  have HT := Lib.hid (fun w' => typed_any w' 1)
  rw [show typedB 1 = true by decide] at HT
  have hb1 : Below w.heap.size w (w.alloc (.cells #[.int .i64 1, .int .i64 0] 3)) := (Below.refl _ _).alloc (Nat.le_refl _) _
  have hX : Blk (w.alloc (.cells #[.int .i64 1, .int .i64 0] 3)) w.heap.size #[.int .i64 1, .int .i64 0] 3 := heap_alloc_new w _
  have HX := Lib.hid (And.intro hb1 hX)
  clear hb1 hX
  go_enter Tryz.func40, Tryz.ntmps40
  go_wp2_with (go_at_call 47; refine (HT.out _).mono ?_; rintro e w' ⟨rfl, rfl⟩)
  go_loopw [18] (fun i wr => ∃ j : Nat, j ≤ 2 ∧ i = .int .i64 j ∧ Hid (Below w.heap.size w wr ∧ Blk wr w.heap.size #[.int .i64 1, .int .i64 0] 3)) (fun i _ => 2 - (intOf i).toNat)
  case atStart => exact ⟨0, by omega, rfl, Lib.hid ⟨HX.out.1, HX.out.2⟩⟩
  case round =>
    obtain ⟨j, hj, rfl, hinv⟩ := hrel
    by_cases hlt : j < 2
    · obtain ⟨t, ht⟩ : ∃ t : Int, (#[.int .i64 1, .int .i64 0] : Array Value)[j]? = some (.int .i64 t) := by
        rcases (show j = 0 ∨ j = 1 by omega) with rfl | rfl
        · exact ⟨1, rfl⟩
        · exact ⟨0, rfl⟩
      have mj : wr.cell? ⟨w.heap.size, j, none⟩ = some (.int .i64 t) := (hinv.out.2.cell j).trans ht
      clear ht
      go_wp2_with (go_at_call 29; refine (at_nil _ na nl nc t).mono ?_; rintro e W ⟨rfl, hb⟩; have HW := Lib.hid (And.intro (below_on hinv.out.1 hb (Nat.le_refl _)) (hinv.out.2.on hb)); clear hb)
      go_roundw
      case rel => exact ⟨j + 1, by omega, by go_num, Lib.hid ⟨HW.out.1, HW.out.2⟩⟩
      case measure => simp [intOf]; omega
    · go_wp2_with fail
      go_ret
      exact ⟨rfl, hinv.out.1⟩
set_option maxHeartbeats 16000000 in
set_option maxRecDepth 100000 in
theorem told_nil (w : World) : Calls Tryz.prog 39 #[.pointer none, .pointer none] w fun e w' => e = .returned (.tuple #[.agg (factC zH zF), .bool false]) ∧ Below w.heap.size w w' := by
  have HN := Lib.hid (show Blk (w.alloc (.cells noF 36)) w.heap.size noF 36 from heap_alloc_new w _)
  have HB := Lib.hid (show Below w.heap.size w (w.alloc (.cells noF 36)) from (Below.refl _ _).alloc (Nat.le_refl _) _)
  go_enter Tryz.func39, Tryz.ntmps39
  go_wp2_with (refine wpList_store_row rfl 36 _ _ rfl w.heap.size noF rfl rfl 36 noF HN.out factSize rfl (factC_all zH zF) ?_)
  refine bodyPost_ret (told_results (k := zH) (f := zF) rfl rfl (blk_setRow HN.out noF)) rfl ?_
  exact ⟨rfl, HB.out.grown (but_setRow _ w.heap.size noF) (HB.out.size) (fun k e => Nat.le_of_eq (Option.some.inj e))⟩
set_option maxHeartbeats 16000000 in
set_option maxRecDepth 100000 in
theorem get_nil (w : World) (na : Option Addr) (nl nc : Nat) (now : Int) : Calls Tryz.prog 18 #[.pointer none, .slice na nl nc, .int .i64 1, .int .i64 now] w fun e w' => e = .returned (.tuple #[.agg (factC zH zF), .bool false]) ∧ Below w.heap.size w w' := by
  have HN := Lib.hid (show Blk (w.alloc (.cells noF 36)) w.heap.size noF 36 from heap_alloc_new w _)
  have HB := Lib.hid (show Below w.heap.size w (w.alloc (.cells noF 36)) from (Below.refl _ _).alloc (Nat.le_refl _) _)
  go_enter Tryz.func18, Tryz.ntmps18
  go_wp2_with (first | (go_at_call 41; refine (when_nil _ now).mono ?_; rintro e W1 ⟨rfl, hb⟩; have HW := Lib.hid (And.intro (below_on HB.out hb (Nat.le_refl _)) (HN.out.on hb)); clear hb) | (go_at_call 40; refine (find_nil _ na nl nc _ now).mono ?_; rintro e W2 ⟨rfl, hb⟩; replace HW := Lib.hid (And.intro (below_on HW.out.1 hb (Nat.le_refl _)) (HW.out.2.on hb)); clear hb) | (go_at_call 39; refine (told_nil _).mono ?_; rintro e W3 ⟨rfl, hb⟩; replace HW := Lib.hid (And.intro (below_on HW.out.1 hb (Nat.le_refl _)) (HW.out.2.on hb)); clear hb) | (refine wpList_store_row rfl 36 _ _ rfl w.heap.size (factC zH zF) rfl rfl 36 noF HW.out.2 factSize rfl (factC_all zH zF) ?_))
  refine bodyPost_ret (get_results (k := zH) (f := zF) rfl rfl (blk_setRow HW.out.2 _)) rfl ?_
  exact ⟨rfl, HW.out.1.grown (but_setRow _ w.heap.size _) (HW.out.1.size) (fun k e => Nat.le_of_eq (Option.some.inj e))⟩
set_option maxHeartbeats 16000000 in
set_option maxRecDepth 100000 in
theorem old_nil (w : World) (na : Option Addr) (nl nc : Nat) (now : Int) : Calls Tryz.prog 19 #[.pointer none, .slice na nl nc, .int .i64 1, .int .i64 now] w fun e w' => e = .returned (.tuple #[.agg (factC zH zF), .bool false]) ∧ Below w.heap.size w w' := by
  have HN := Lib.hid (show Blk (w.alloc (.cells noF 36)) w.heap.size noF 36 from heap_alloc_new w _)
  have HB := Lib.hid (show Below w.heap.size w (w.alloc (.cells noF 36)) from (Below.refl _ _).alloc (Nat.le_refl _) _)
  go_enter Tryz.func19, Tryz.ntmps19
  go_wp2_with (first | (go_at_call 41; refine (when_nil _ now).mono ?_; rintro e W1 ⟨rfl, hb⟩; have HW := Lib.hid (And.intro ((below_on HB.out hb (Nat.le_refl _)).alloc (below_on HB.out hb (Nat.le_refl _)).size (.cells #[.int .i64 now, .int .i64 0] 71)) ((HN.out.on hb).on ((Below.refl _ _).alloc (Nat.le_refl _) (.cells #[.int .i64 now, .int .i64 0] 71)))); have HXX := Lib.hid (show Blk (W1.alloc (.cells #[.int .i64 now, .int .i64 0] 71)) W1.heap.size #[.int .i64 now, .int .i64 0] 71 from heap_alloc_new _ _); have x0 : (W1.alloc (.cells #[.int .i64 now, .int .i64 0] 71)).cell? ⟨W1.heap.size, 0, none⟩ = some (.int .i64 now) := Blk.cell (heap_alloc_new _ _) 0; have x1 : (W1.alloc (.cells #[.int .i64 now, .int .i64 0] 71)).cell? ⟨W1.heap.size, 1, none⟩ = some (.int .i64 0) := Blk.cell (heap_alloc_new _ _) 1; clear hb) | (go_at_call 40; refine (find_nil _ na nl nc _ now).mono ?_; rintro e W2 ⟨rfl, hb⟩; replace HW := Lib.hid (And.intro (below_on HW.out.1 hb (Nat.le_refl _)) (HW.out.2.on hb)); replace HXX := Lib.hid (HXX.out.on hb); replace x0 : W2.cell? ⟨W1.heap.size, 0, none⟩ = some (.int .i64 now) := HXX.out.cell 0; replace x1 : W2.cell? ⟨W1.heap.size, 1, none⟩ = some (.int .i64 0) := HXX.out.cell 1; clear hb) | (go_at_call 39; refine (told_nil _).mono ?_; rintro e W3 ⟨rfl, hb⟩; replace HW := Lib.hid (And.intro (below_on HW.out.1 hb (Nat.le_refl _)) (HW.out.2.on hb)); clear hb x0 x1) | (refine wpList_store_row rfl 36 _ _ rfl w.heap.size (factC zH zF) rfl rfl 36 noF HW.out.2 factSize rfl (factC_all zH zF) ?_))
  refine bodyPost_ret (old_results (k := zH) (f := zF) rfl rfl (blk_setRow HW.out.2 _)) rfl ?_
  exact ⟨rfl, HW.out.1.grown (but_setRow _ w.heap.size _) (HW.out.1.size) (fun k e => Nat.le_of_eq (Option.some.inj e))⟩
set_option maxHeartbeats 16000000 in
set_option maxRecDepth 100000 in
theorem look_nil (w : World) (na : Option Addr) (nl nc : Nat) : Calls Tryz.prog 12 #[.pointer none, .slice na nl nc, .int .i64 1] w fun e w' => e = .returned (.tuple #[.agg (factC zH zF), .bool false]) ∧ Below w.heap.size w w' := by
  have HN := Lib.hid (show Blk (w.alloc (.cells noF 36)) w.heap.size noF 36 from heap_alloc_new w _)
  have HB := Lib.hid (show Below w.heap.size w (w.alloc (.cells noF 36)) from (Below.refl _ _).alloc (Nat.le_refl _) _)
  go_enter Tryz.func12, Tryz.ntmps12
  go_wp2_with (first | (go_at_call 29; refine (at_nil _ na nl nc 1).mono ?_; rintro e W1 ⟨rfl, hb⟩; have HW := Lib.hid (And.intro (below_on HB.out hb (Nat.le_refl _)) (HN.out.on hb)); clear hb) | (refine wpList_store_row rfl 36 _ _ rfl w.heap.size noF rfl rfl 36 noF HW.out.2 factSize rfl (factC_all zH zF) ?_))
  refine bodyPost_ret (look_results (k := zH) (f := zF) rfl rfl (blk_setRow HW.out.2 noF)) rfl ?_
  exact ⟨rfl, HW.out.1.grown (but_setRow _ w.heap.size noF) (HW.out.1.size) (fun k e => Nat.le_of_eq (Option.some.inj e))⟩
set_option maxHeartbeats 16000000 in
set_option maxRecDepth 100000 in
theorem put_nil (w : World) (h : FactH) (f : FactP) (now : Int) : Calls Tryz.prog 20 #[.pointer none, .agg (factC h f), .int .i64 now] w fun e w' => e = .returned (.bool false) ∧ Below w.heap.size w w' := by
  go_enter Tryz.func20, Tryz.ntmps20
  simp only [factC]
  go_wp2_with fail
  go_ret
  exact ⟨rfl, (Below.refl _ _).alloc (Nat.le_refl _) _⟩
set_option maxHeartbeats 16000000 in
set_option maxRecDepth 100000 in
theorem lays_nil (w : World) (h : FactH) (f : FactP) : Calls Tryz.prog 8 #[.pointer none, .agg (factC h f)] w fun e w' => e = .returned (.bool false) ∧ Below w.heap.size w w' := by
  go_enter Tryz.func8, Tryz.ntmps8
  simp only [factC]
  go_wp2_with fail
  go_ret
  exact ⟨rfl, (Below.refl _ _).alloc (Nat.le_refl _) _⟩
set_option maxHeartbeats 4000000 in
set_option maxRecDepth 100000 in
theorem len_nil (w : World) : Calls Tryz.prog 15 #[.pointer none] w fun e w' => e = .returned (.int .i64 0) ∧ w' = w := by
  go_enter Tryz.func15, Tryz.ntmps15
  go_wp2_with fail
  go_ret
  exact ⟨rfl, rfl⟩
set_option maxHeartbeats 4000000 in
set_option maxRecDepth 100000 in
theorem flush_nil (w : World) (za : Option Addr) (zl zc : Nat) : Calls Tryz.prog 11 #[.pointer none, .slice za zl zc] w fun e w' => e = .returned (.int .i64 0) ∧ w' = w := by
  go_enter Tryz.func11, Tryz.ntmps11
  go_wp2_with fail
  go_ret
  exact ⟨rfl, rfl⟩
set_option maxHeartbeats 4000000 in
set_option maxRecDepth 100000 in
theorem all_nil (w : World) : Calls Tryz.prog 10 #[.pointer none] w fun e w' => e = .returned (.slice none 0 0) ∧ w' = w := by
  go_enter Tryz.func10, Tryz.ntmps10
  go_wp2_with fail
  go_ret
  exact ⟨rfl, rfl⟩
set_option maxHeartbeats 4000000 in
set_option maxRecDepth 100000 in
theorem copy_nil (w : World) : Calls Tryz.prog 17 #[.pointer none] w fun e w' => e = .returned (.pointer none) ∧ w' = w := by
  go_enter Tryz.func17, Tryz.ntmps17
  go_wp2_with fail
  go_ret
  exact ⟨rfl, rfl⟩
end
section
open Go.ChangeShapes Go.WideShapes Go.ChangeAt Go.RowKit

set_option maxHeartbeats 16000000 in
set_option maxRecDepth 100000 in
theorem lay_own (w : World) (S : Nat → Prop) (B C : Nat) (most stale : Int) (k : Nat) (L : List Slot) (hC : IsCache B w C most stale k L) (hk : k < 4000000000000000000) (hL : L.length < 100000) (h : FactH) (f : FactP) (hf : IsFact S w h f) (hB : factB f = true) (hl : FLen f)
    (hroom : (((offL L (keyF f)).length + 1 : Nat) : Int) ≤ most) :
    Calls Tryz.prog 23 #[.pointer (some ⟨C, 0, none⟩), .agg (factC h f)] w fun e w' => e = .returned (.tuple #[]) ∧ (∃ b kk, IsCache B w' C most stale (k + 1) (offL L (keyF f) ++ [⟨b, kk, f, k + 1⟩]) ∧ OwnF w.heap.size w' kk f) ∧ Left B w w' := by
  obtain ⟨M, hCb, hMB, hML⟩ := hC.ex
  have hb1 : Below w.heap.size w (w.alloc (.cells (factC h f) 36)) := (Below.refl _ _).alloc (Nat.le_refl _) _
  have hA : Blk (w.alloc (.cells (factC h f) 36)) w.heap.size (factC h f) 36 := heap_alloc_new w _
  have HA := Lib.hid hA
  have HB := Lib.hid hb1
  have HCC := Lib.hid hC
  have HMM := Lib.hid (And.intro hCb (And.intro hMB hML))
  have HF1 := Lib.hid (hf.on hb1)
  have HFW := Lib.hid hf
  have HV := Lib.hid (And.intro hB (And.intro hl (And.intro hk (And.intro hL hroom))))
  have hz := fact_small hB
  clear hC hCb hMB hML hf hB hl hb1 hk hL hroom
  have m0 : (w.alloc (.cells (factC h f) 36)).cell? ⟨w.heap.size, 0, none⟩ = some (.slice h.na h.nl h.nc) := hA.cell 0
  have m1 : (w.alloc (.cells (factC h f) 36)).cell? ⟨w.heap.size, 1, none⟩ = some (.int .i64 f.typ) := hA.cell 1
  have m2 : (w.alloc (.cells (factC h f) 36)).cell? ⟨w.heap.size, 2, none⟩ = some (.int .i64 f.kind) := hA.cell 2
  have m3 : (w.alloc (.cells (factC h f) 36)).cell? ⟨w.heap.size, 3, none⟩ = some (.int .i64 f.rank) := hA.cell 3
  have m4 : (w.alloc (.cells (factC h f) 36)).cell? ⟨w.heap.size, 4, none⟩ = some (.int .i64 f.got) := hA.cell 4
  have m5 : (w.alloc (.cells (factC h f) 36)).cell? ⟨w.heap.size, 5, none⟩ = some (.int .i64 f.ttl) := hA.cell 5
  have m6 : (w.alloc (.cells (factC h f) 36)).cell? ⟨w.heap.size, 6, none⟩ = some (.slice h.sa h.sl h.sc) := hA.cell 6
  have m7 : (w.alloc (.cells (factC h f) 36)).cell? ⟨w.heap.size, 7, none⟩ = some (.slice h.za h.zl h.zc) := hA.cell 7
  have m8 : (w.alloc (.cells (factC h f) 36)).cell? ⟨w.heap.size, 8, none⟩ = some (.slice h.d.ba h.d.bl h.d.bc) := hA.cell 8
  have m9 : (w.alloc (.cells (factC h f) 36)).cell? ⟨w.heap.size, 9, none⟩ = some (.slice h.d.ha h.d.hl h.d.hc) := hA.cell 9
  have m10 : (w.alloc (.cells (factC h f) 36)).cell? ⟨w.heap.size, 10, none⟩ = some (.slice h.d.ma h.d.ml h.d.mc) := hA.cell 10
  have m11 : (w.alloc (.cells (factC h f) 36)).cell? ⟨w.heap.size, 11, none⟩ = some (.slice h.d.na h.d.nl h.d.nc) := hA.cell 11
  have m12 : (w.alloc (.cells (factC h f) 36)).cell? ⟨w.heap.size, 12, none⟩ = some (.slice h.d.ta h.d.tl h.d.tc) := hA.cell 12
  clear hA
  go_enter Tryz.func23, Tryz.ntmps23
  simp only [factC]
  go_wp2_with (go_at_call 27; refine (fown_any _ S h f HF1.out HV.out.2.1).mono ?_; rintro e W2 ⟨⟨kk, rfl, hown⟩, hb2⟩; simp only [factC])
  clear m0 m1 m2 m3 m4 m5 m6 m7 m8 m9 m10 m11 m12
  (try change Code.wp _ (Code.region _ _ _) _ _ (W2.alloc (.cells (itemC ⟨W2.heap.size, kk, f, 0⟩) 59)))
  have hb3 : Below w.heap.size w (W2.alloc (.cells (itemC ⟨W2.heap.size, kk, f, 0⟩) 59)) := (below_on HB.out hb2 (Nat.le_refl _)).alloc ((below_on HB.out hb2 (Nat.le_refl _)).size) _
  have hb4 : Below W2.heap.size W2 (W2.alloc (.cells (itemC ⟨W2.heap.size, kk, f, 0⟩) 59)) := (Below.refl _ _).alloc (Nat.le_refl _) _
  have hA := (HA.out.on hb2).on hb4
  have hX : Blk (W2.alloc (.cells (itemC ⟨W2.heap.size, kk, f, 0⟩) 59)) W2.heap.size (itemC ⟨W2.heap.size, kk, f, 0⟩) 59 := heap_alloc_new _ _
  have hF : IsFact (tagged fT (W2.alloc (.cells (itemC ⟨W2.heap.size, kk, f, 0⟩) 59))) (W2.alloc (.cells (itemC ⟨W2.heap.size, kk, f, 0⟩) 59)) kk f := (hown.mono (fun b _ ht => ht.1)).step (Same.below hb4 _)
  have hC3 := HMM.out.1.on hb3
  have hOW : OwnF w.heap.size (W2.alloc (.cells (itemC ⟨W2.heap.size, kk, f, 0⟩) 59)) kk f := OwnF.on (B := w.heap.size) (w := W2) (hown.mono (fun b _ ht => ⟨ht.1, Nat.le_trans HB.out.size ht.2⟩)) hb4
  have hXw : w.heap.size ≤ W2.heap.size := (below_on HB.out hb2 (Nat.le_refl _)).size
  have hAX := HA.out.lt
  have hAX2 : w.heap.size < W2.heap.size := Nat.lt_of_lt_of_le hAX hb2.size
  rename_i K0 hK0
  have HK0 := Lib.hid hK0
  clear hK0 hb2 hb4 hown hAX
  generalize W2.alloc (.cells (itemC ⟨W2.heap.size, kk, f, 0⟩) 59) = Y at hb3 hA hX hF hC3 hOW ⊢
  generalize W2.heap.size = X at hX hXw hAX2 hF hb3 hA hC3 ⊢
  have HM0 := Lib.hid (show Y.drew.cell? ⟨w.heap.size, 0, none⟩ = some (.slice h.na h.nl h.nc) from hA.cell 0)
  have HM1 := Lib.hid (show Y.drew.cell? ⟨w.heap.size, 1, none⟩ = some (.int .i64 f.typ) from hA.cell 1)
  have HM2 := Lib.hid (show Y.drew.cell? ⟨w.heap.size, 2, none⟩ = some (.int .i64 f.kind) from hA.cell 2)
  have HM3 := Lib.hid (show Y.drew.cell? ⟨w.heap.size, 3, none⟩ = some (.int .i64 f.rank) from hA.cell 3)
  have HM4 := Lib.hid (show Y.drew.cell? ⟨w.heap.size, 4, none⟩ = some (.int .i64 f.got) from hA.cell 4)
  have HM5 := Lib.hid (show Y.drew.cell? ⟨w.heap.size, 5, none⟩ = some (.int .i64 f.ttl) from hA.cell 5)
  have HM6 := Lib.hid (show Y.drew.cell? ⟨w.heap.size, 6, none⟩ = some (.slice h.sa h.sl h.sc) from hA.cell 6)
  have HM7 := Lib.hid (show Y.drew.cell? ⟨w.heap.size, 7, none⟩ = some (.slice h.za h.zl h.zc) from hA.cell 7)
  have HM8 := Lib.hid (show Y.drew.cell? ⟨w.heap.size, 8, none⟩ = some (.slice h.d.ba h.d.bl h.d.bc) from hA.cell 8)
  have HM9 := Lib.hid (show Y.drew.cell? ⟨w.heap.size, 9, none⟩ = some (.slice h.d.ha h.d.hl h.d.hc) from hA.cell 9)
  have HM10 := Lib.hid (show Y.drew.cell? ⟨w.heap.size, 10, none⟩ = some (.slice h.d.ma h.d.ml h.d.mc) from hA.cell 10)
  have HM11 := Lib.hid (show Y.drew.cell? ⟨w.heap.size, 11, none⟩ = some (.slice h.d.na h.d.nl h.d.nc) from hA.cell 11)
  have HM12 := Lib.hid (show Y.drew.cell? ⟨w.heap.size, 12, none⟩ = some (.slice h.d.ta h.d.tl h.d.tc) from hA.cell 12)
  have HOW := Lib.hid hOW
  clear hOW
  have HMC := Lib.hid (show Y.drew.cell? ⟨C, 2, none⟩ = some (.map (some M)) from hC3.cell 2)
  have HKY := Lib.hid (fun w' (p : Below Y.heap.size Y w') => fkey_any w' h f ((HFW.out.on hb3).on p).name (Nat.le_trans hz (by decide)))
  have HY := Lib.hid (And.intro hb3 (And.intro hX (And.intro hF (And.intro hXw hAX2))))
  have HML := Lib.hid (HMM.out.2.2.on (hb3.block M HMM.out.2.2.lt))
  simp only [factC] at HKY
  clear hb3 hA hX hF hC3 hXw hAX2
  refine wp_soup_tail (m := 66) 7 (by kernel_rfl) (fun x y => Below x.heap.size x y) (fun i v xw => match i with | 0 => v = .pointer (some ⟨C, 0, none⟩) | 1 => v = .pointer (some ⟨C, 0, none⟩) | 2 => v = .pointer (some ⟨C, 2, none⟩) | 3 => v = .map (some M) | 4 => v = .agg #[.slice h.na h.nl h.nc, .int .i64 f.typ, .int .i64 f.kind, .int .i64 f.rank, .int .i64 f.got, .int .i64 f.ttl, .slice h.sa h.sl h.sc, .slice h.za h.zl h.zc, .slice h.d.ba h.d.bl h.d.bc, .slice h.d.ha h.d.hl h.d.hc, .slice h.d.ma h.d.ml h.d.mc, .slice h.d.na h.d.nl h.d.nc, .slice h.d.ta h.d.tl h.d.tc] | 5 => v = .string (⟨(keyF f).toArray⟩) | 6 => v = .pointer (some ⟨X, 0, none⟩) | _ => True) rfl (by kernel_rfl) (by kernel_rfl) (fun _ _ _ h1 h2 => below_on h1 h2 (Nat.le_refl _)) (Below.refl _ _) (fun _ _ _ _ h _ => h) (dst_head (by kernel_rfl)) ?_ ?_
  rotate_left
  · intro a W hR hS hdep
    have e0 : a.tmps.getD 0 undef = .pointer (some ⟨C, 0, none⟩) := hS.keep 0 (by kernel_rfl)
    have e4 : a.tmps.getD 4 undef = .pointer (some ⟨X, 0, none⟩) := hS.keep 4 (by kernel_rfl)
    have e15 : a.tmps.getD 15 undef = .map (some M) := hdep 3 (by decide +kernel)
    have e17 : a.tmps.getD 17 undef = .string (⟨(keyF f).toArray⟩) := hdep 5 (by decide +kernel)
    have e18 : a.tmps.getD 18 undef = .pointer (some ⟨X, 0, none⟩) := hdep 6 (by decide +kernel)
    obtain ⟨T, df⟩ := a
    obtain rfl : df = [] := hS.defers
    have hT : T = #[T.getD 0 undef, T.getD 1 undef, T.getD 2 undef, T.getD 3 undef, T.getD 4 undef, T.getD 5 undef, T.getD 6 undef, T.getD 7 undef, T.getD 8 undef, T.getD 9 undef, T.getD 10 undef, T.getD 11 undef, T.getD 12 undef, T.getD 13 undef, T.getD 14 undef, T.getD 15 undef, T.getD 16 undef, T.getD 17 undef, T.getD 18 undef, T.getD 19 undef, T.getD 20 undef, T.getD 21 undef, T.getD 22 undef, T.getD 23 undef, T.getD 24 undef, T.getD 25 undef, T.getD 26 undef, T.getD 27 undef, T.getD 28 undef, T.getD 29 undef, T.getD 30 undef, T.getD 31 undef, T.getD 32 undef, T.getD 33 undef, T.getD 34 undef, T.getD 35 undef, T.getD 36 undef, T.getD 37 undef, T.getD 38 undef, T.getD 39 undef, T.getD 40 undef, T.getD 41 undef, T.getD 42 undef, T.getD 43 undef, T.getD 44 undef, T.getD 45 undef, T.getD 46 undef, T.getD 47 undef, T.getD 48 undef, T.getD 49 undef, T.getD 50 undef, T.getD 51 undef, T.getD 52 undef, T.getD 53 undef, T.getD 54 undef, T.getD 55 undef, T.getD 56 undef, T.getD 57 undef, T.getD 58 undef, T.getD 59 undef, T.getD 60 undef, T.getD 61 undef, T.getD 62 undef, T.getD 63 undef, T.getD 64 undef, T.getD 65 undef] := arr_eta T 66 hS.size
    have k0 : T.getD 0 undef = .pointer (some ⟨C, 0, none⟩) := e0
    have k4 : T.getD 4 undef = .pointer (some ⟨X, 0, none⟩) := e4
    have k15 : T.getD 15 undef = .map (some M) := e15
    have k17 : T.getD 17 undef = .string (⟨(keyF f).toArray⟩) := e17
    have k18 : T.getD 18 undef = .pointer (some ⟨X, 0, none⟩) := e18
    clear hS hdep
    rw [hT]
    rw [k0]
    clear k0 e0
    rw [k4]
    clear k4 e4
    rw [k15]
    clear k15 e15
    rw [k17]
    clear k17 e17
    rw [k18]
    clear k18 e18
    clear hT
    generalize T.getD 1 undef = u1
    generalize T.getD 2 undef = u2
    generalize T.getD 3 undef = u3
    generalize T.getD 5 undef = u5
    generalize T.getD 6 undef = u6
    generalize T.getD 7 undef = u7
    generalize T.getD 8 undef = u8
    generalize T.getD 9 undef = u9
    generalize T.getD 10 undef = u10
    generalize T.getD 11 undef = u11
    generalize T.getD 12 undef = u12
    generalize T.getD 13 undef = u13
    generalize T.getD 14 undef = u14
    generalize T.getD 16 undef = u16
    generalize T.getD 19 undef = u19
    generalize T.getD 20 undef = u20
    generalize T.getD 21 undef = u21
    generalize T.getD 22 undef = u22
    generalize T.getD 23 undef = u23
    generalize T.getD 24 undef = u24
    generalize T.getD 25 undef = u25
    generalize T.getD 26 undef = u26
    generalize T.getD 27 undef = u27
    generalize T.getD 28 undef = u28
    generalize T.getD 29 undef = u29
    generalize T.getD 30 undef = u30
    generalize T.getD 31 undef = u31
    generalize T.getD 32 undef = u32
    generalize T.getD 33 undef = u33
    generalize T.getD 34 undef = u34
    generalize T.getD 35 undef = u35
    generalize T.getD 36 undef = u36
    generalize T.getD 37 undef = u37
    generalize T.getD 38 undef = u38
    generalize T.getD 39 undef = u39
    generalize T.getD 40 undef = u40
    generalize T.getD 41 undef = u41
    generalize T.getD 42 undef = u42
    generalize T.getD 43 undef = u43
    generalize T.getD 44 undef = u44
    generalize T.getD 45 undef = u45
    generalize T.getD 46 undef = u46
    generalize T.getD 47 undef = u47
    generalize T.getD 48 undef = u48
    generalize T.getD 49 undef = u49
    generalize T.getD 50 undef = u50
    generalize T.getD 51 undef = u51
    generalize T.getD 52 undef = u52
    generalize T.getD 53 undef = u53
    generalize T.getD 54 undef = u54
    generalize T.getD 55 undef = u55
    generalize T.getD 56 undef = u56
    generalize T.getD 57 undef = u57
    generalize T.getD 58 undef = u58
    generalize T.getD 59 undef = u59
    generalize T.getD 60 undef = u60
    generalize T.getD 61 undef = u61
    generalize T.getD 62 undef = u62
    generalize T.getD 63 undef = u63
    generalize T.getD 64 undef = u64
    generalize T.getD 65 undef = u65
    have hbx := below_on (B := Y.heap.size) (Below.drew (Below.refl _ _)) hR (Nat.le_refl _)
    have hMW := HML.out.on (hbx.block M HML.out.lt)
    obtain ⟨W4, hrun, hM4, hg4, hs4⟩ := hMW.store HCC.out.keys HV.out.2.2.2.1 ⟨X, kk, f, k + 1⟩ (by show (keyF f).length ≤ _; rw [keyF, keyP_size]; omega)
    clear hR
    go_wp2_with fail
    have hlen : (offL L (keyF f)).length + 1 = (offL L (keyF f) ++ [(⟨X, kk, f, k + 1⟩ : Slot)]).length := by simp
    have hC4 := (HMM.out.1.on (HY.out.1.trans (hbx.mono HY.out.1.size))).but hg4 (blk_map_ne HMM.out.1 HMM.out.2.2)
    have hXW := HY.out.2.1.on hbx
    have hX4 := hXW.but hg4 (blk_map_ne hXW hMW)
    have hCX : C ≠ X := blk_ne hC4 hX4 (by decide)
    have h0W : Below w.heap.size w W := below_on HY.out.1 hbx (Nat.le_refl _)
    have HC4 := Lib.hid hC4
    have HX4 := Lib.hid hX4
    have HG4 := Lib.hid (And.intro hg4 (And.intro hs4 hM4))
    have HXW := Lib.hid (And.intro hXW h0W)
    have HFW2 := Lib.hid (HY.out.2.2.1.step (Same.below hbx _))
    have HOW2 := Lib.hid (HOW.out.step (Same.below hbx _))
    have HMW2 := Lib.hid hMW
    have HLEN := Lib.hid hlen
    clear hC4 hX4 hg4 hs4 hM4 hXW h0W hrun hMW hbx hlen
    refine HK0.out _ _ ?_
    clear HK0
    go_wp2_with (go_at_call 51; refine (use_any W4 C X M k most stale _ HC4.out HX4.out rfl hCX HV.out.2.2.1).mono ?_; rintro e W5 ⟨rfl, hC5, hX5, hs5, ho5, hb5⟩; have HFIN := Lib.hid (lay_law HCC.out HMM.out.1 HMM.out.2.1 HMM.out.2.2 HXW.out.2 HY.out.2.2.2.1 HXW.out.1 HFW2.out HV.out.1 HV.out.2.1 HG4.out.2.2 HG4.out.1 HG4.out.2.1 hC5 hX5 hs5 ho5 hb5); have HMW5 := Lib.hid (show MapL W5 M _ from HG4.out.2.2.on (ho5 M (fun e => blk_map_ne HC4.out HG4.out.2.2 e.symm) (fun e => blk_map_ne HX4.out HG4.out.2.2 e.symm))); have HQ2 := Lib.hid (show W5.drew.cell? ⟨C, 2, none⟩ = some (.map (some M)) from hC5.cell 2); have HQ0 := Lib.hid (show W5.drew.cell? ⟨C, 0, none⟩ = some (.int .i64 most) from hC5.cell 0); have HO5 := Lib.hid ho5; clear hC5 hX5 hs5 ho5 hb5)
    obtain ⟨N, hN⟩ : ∃ q : Int, q = ((offL L (keyF f) ++ [(⟨X, kk, f, k + 1⟩ : Slot)]).length : Int) := ⟨_, rfl⟩
    have HNM := Lib.hid (show N ≤ most by rw [hN, ← HLEN.out]; exact HV.out.2.2.2.2)
    have HLN := Lib.hid (fun w' (p : Below W5.heap.size W5 w') ty => (HMW5.out.on (p.block M HMW5.out.lt)).len ty)
    rw [← hN] at HLN
    clear HLEN hN
    refine wp_soup0 (m := 66) (by kernel_rfl) (fun x y => Below x.heap.size x y) (fun i v xw => match i with | 0 => v = .pointer (some ⟨C, 0, none⟩) | 1 => v = .pointer (some ⟨C, 0, none⟩) | 2 => v = .pointer (some ⟨C, 2, none⟩) | 3 => v = .map (some M) | 4 => v = .int .i64 N | 5 => v = .pointer (some ⟨C, 0, none⟩) | 6 => v = .pointer (some ⟨C, 0, none⟩) | 7 => v = .pointer (some ⟨C, 0, none⟩) | 8 => v = .int .i64 most | 9 => v = .bool (decide (N ≤ most)) | _ => True) rfl (by kernel_rfl) (fun _ _ _ h1 h2 => below_on h1 h2 (Nat.le_refl _)) (Below.refl _ _) (fun _ _ _ _ h _ => h) (dst_but 10 (by kernel_rfl) (fun _ _ h => h)) ?_ ?_
    rotate_left
    · intro a W hR hS hdep
      have e31 : a.tmps.getD 31 undef = .bool (decide (N ≤ most)) := hdep 9 (by decide +kernel)
      obtain ⟨T, df⟩ := a
      obtain rfl : df = [] := hS.defers
      have hT : T = #[T.getD 0 undef, T.getD 1 undef, T.getD 2 undef, T.getD 3 undef, T.getD 4 undef, T.getD 5 undef, T.getD 6 undef, T.getD 7 undef, T.getD 8 undef, T.getD 9 undef, T.getD 10 undef, T.getD 11 undef, T.getD 12 undef, T.getD 13 undef, T.getD 14 undef, T.getD 15 undef, T.getD 16 undef, T.getD 17 undef, T.getD 18 undef, T.getD 19 undef, T.getD 20 undef, T.getD 21 undef, T.getD 22 undef, T.getD 23 undef, T.getD 24 undef, T.getD 25 undef, T.getD 26 undef, T.getD 27 undef, T.getD 28 undef, T.getD 29 undef, T.getD 30 undef, T.getD 31 undef, T.getD 32 undef, T.getD 33 undef, T.getD 34 undef, T.getD 35 undef, T.getD 36 undef, T.getD 37 undef, T.getD 38 undef, T.getD 39 undef, T.getD 40 undef, T.getD 41 undef, T.getD 42 undef, T.getD 43 undef, T.getD 44 undef, T.getD 45 undef, T.getD 46 undef, T.getD 47 undef, T.getD 48 undef, T.getD 49 undef, T.getD 50 undef, T.getD 51 undef, T.getD 52 undef, T.getD 53 undef, T.getD 54 undef, T.getD 55 undef, T.getD 56 undef, T.getD 57 undef, T.getD 58 undef, T.getD 59 undef, T.getD 60 undef, T.getD 61 undef, T.getD 62 undef, T.getD 63 undef, T.getD 64 undef, T.getD 65 undef] := arr_eta T 66 hS.size
      have k31 : T.getD 31 undef = .bool (decide (N ≤ most)) := e31
      clear hS hdep
      rw [hT]
      rw [k31]
      clear k31 e31
      clear hT
      generalize T.getD 0 undef = u0
      generalize T.getD 1 undef = u1
      generalize T.getD 2 undef = u2
      generalize T.getD 3 undef = u3
      generalize T.getD 4 undef = u4
      generalize T.getD 5 undef = u5
      generalize T.getD 6 undef = u6
      generalize T.getD 7 undef = u7
      generalize T.getD 8 undef = u8
      generalize T.getD 9 undef = u9
      generalize T.getD 10 undef = u10
      generalize T.getD 11 undef = u11
      generalize T.getD 12 undef = u12
      generalize T.getD 13 undef = u13
      generalize T.getD 14 undef = u14
      generalize T.getD 15 undef = u15
      generalize T.getD 16 undef = u16
      generalize T.getD 17 undef = u17
      generalize T.getD 18 undef = u18
      generalize T.getD 19 undef = u19
      generalize T.getD 20 undef = u20
      generalize T.getD 21 undef = u21
      generalize T.getD 22 undef = u22
      generalize T.getD 23 undef = u23
      generalize T.getD 24 undef = u24
      generalize T.getD 25 undef = u25
      generalize T.getD 26 undef = u26
      generalize T.getD 27 undef = u27
      generalize T.getD 28 undef = u28
      generalize T.getD 29 undef = u29
      generalize T.getD 30 undef = u30
      generalize T.getD 32 undef = u32
      generalize T.getD 33 undef = u33
      generalize T.getD 34 undef = u34
      generalize T.getD 35 undef = u35
      generalize T.getD 36 undef = u36
      generalize T.getD 37 undef = u37
      generalize T.getD 38 undef = u38
      generalize T.getD 39 undef = u39
      generalize T.getD 40 undef = u40
      generalize T.getD 41 undef = u41
      generalize T.getD 42 undef = u42
      generalize T.getD 43 undef = u43
      generalize T.getD 44 undef = u44
      generalize T.getD 45 undef = u45
      generalize T.getD 46 undef = u46
      generalize T.getD 47 undef = u47
      generalize T.getD 48 undef = u48
      generalize T.getD 49 undef = u49
      generalize T.getD 50 undef = u50
      generalize T.getD 51 undef = u51
      generalize T.getD 52 undef = u52
      generalize T.getD 53 undef = u53
      generalize T.getD 54 undef = u54
      generalize T.getD 55 undef = u55
      generalize T.getD 56 undef = u56
      generalize T.getD 57 undef = u57
      generalize T.getD 58 undef = u58
      generalize T.getD 59 undef = u59
      generalize T.getD 60 undef = u60
      generalize T.getD 61 undef = u61
      generalize T.getD 62 undef = u62
      generalize T.getD 63 undef = u63
      generalize T.getD 64 undef = u64
      generalize T.getD 65 undef = u65
      have hbx := below_on (B := W5.heap.size) (Below.drew (Below.refl _ _)) hR (Nat.le_refl _)
      have HT := Lib.hid (show decide (N ≤ most) = true from decide_eq_true HNM.out)
      clear hR
      rw [HT.out]
      have HFW5 := Lib.hid hbx
      clear hbx
      go_wp2_with fail
      refine bodyPost_ret (results_none rfl _ _ _) rfl ?_
      have ho4 := HOW2.out.step (fun b hb ht => HG4.out.1.block b hb (fun e => tagged_mapL HMW2.out ht.1 (Option.some.inj e)))
      have ho5 := OwnF.step ho4 (fun b hb ht => HO5.out b (tagged_ne HC4.out (by decide) ht.1) (tagged_ne HX4.out (by decide) ht.1))
      exact ⟨rfl, ⟨X, kk, HFIN.out.1.on HFW5.out, ho5.on HFW5.out⟩, HFIN.out.2.trans (Left.below HFW5.out (by have := HFIN.out.1.base; have := HQ2.out; have := HCC.out.base; have := HFIN.out.2.bel.size; have := HMM.out.1.lt; omega))⟩
    refine soup_cons rfl rfl (fun a W hR hS hdep K hK => ?_) ?_
    · have e0 : a.tmps[0]?.getD undef = .pointer (some ⟨C, 0, none⟩) := slot_of (hS.keep 0 (by kernel_rfl))
      go_simp
      exact hK _ _ (Below.refl _ _) (by first | rfl | simp)
    refine soup_cons rfl rfl (fun a W hR hS hdep K hK => ?_) ?_
    · have e22 : a.tmps[22]?.getD undef = .pointer (some ⟨C, 0, none⟩) := slot_of (hdep 0 (by decide +kernel))
      go_simp
      exact hK _ _ (Below.refl _ _) (by first | rfl | simp)
    refine soup_cons rfl rfl (fun a W hR hS hdep K hK => ?_) ?_
    · have e23 : a.tmps[23]?.getD undef = .pointer (some ⟨C, 0, none⟩) := slot_of (hdep 1 (by decide +kernel))
      go_simp
      exact hK _ _ (Below.refl _ _) (by first | rfl | simp)
    refine soup_cons rfl rfl (fun a W hR hS hdep K hK => ?_) ?_
    · have e24 : a.tmps[24]?.getD undef = .pointer (some ⟨C, 2, none⟩) := slot_of (hdep 2 (by decide +kernel))
      have m0 := cell_keep hR HQ2.out
      go_simp
      exact hK _ _ (Below.refl _ _) (by first | rfl | simp)
    refine soup_cons rfl rfl (fun a W hR hS hdep K hK => ?_) ?_
    · have e25 : a.tmps[25]?.getD undef = .map (some M) := slot_of (hdep 3 (by decide +kernel))
      go_simp
      have hbx := below_on (B := W5.heap.size) (Below.drew (Below.refl _ _)) hR (Nat.le_refl _)
      rw [HLN.out _ hbx]
      exact hK _ _ (Below.refl _ _) rfl
    refine soup_cons rfl rfl (fun a W hR hS hdep K hK => ?_) ?_
    · have e0 : a.tmps[0]?.getD undef = .pointer (some ⟨C, 0, none⟩) := slot_of (hS.keep 0 (by kernel_rfl))
      go_simp
      exact hK _ _ (Below.refl _ _) (by first | rfl | simp)
    refine soup_cons rfl rfl (fun a W hR hS hdep K hK => ?_) ?_
    · have e27 : a.tmps[27]?.getD undef = .pointer (some ⟨C, 0, none⟩) := slot_of (hdep 5 (by decide +kernel))
      go_simp
      exact hK _ _ (Below.refl _ _) (by first | rfl | simp)
    refine soup_cons rfl rfl (fun a W hR hS hdep K hK => ?_) ?_
    · have e28 : a.tmps[28]?.getD undef = .pointer (some ⟨C, 0, none⟩) := slot_of (hdep 6 (by decide +kernel))
      go_simp
      exact hK _ _ (Below.refl _ _) (by first | rfl | simp)
    refine soup_cons rfl rfl (fun a W hR hS hdep K hK => ?_) ?_
    · have e29 : a.tmps[29]?.getD undef = .pointer (some ⟨C, 0, none⟩) := slot_of (hdep 7 (by decide +kernel))
      have m0 := cell_keep hR HQ0.out
      go_simp
      exact hK _ _ (Below.refl _ _) (by first | rfl | simp)
    refine soup_cons rfl rfl (fun a W hR hS hdep K hK => ?_) ?_
    · have e26 : a.tmps[26]?.getD undef = .int .i64 N := slot_of (hdep 4 (by decide +kernel))
      have e30 : a.tmps[30]?.getD undef = .int .i64 most := slot_of (hdep 8 (by decide +kernel))
      go_simp
      exact hK _ _ (Below.refl _ _) (by first | rfl | simp)
    exact fun j h1 h2 => absurd h1 (by simp only [List.size_toArray, List.length_cons, List.length_nil]; omega)
  refine soup_cons rfl rfl (fun a W hR hS hdep K hK => ?_) ?_
  · have e0 : a.tmps[0]?.getD undef = .pointer (some ⟨C, 0, none⟩) := slot_of (hS.keep 0 (by kernel_rfl))
    go_simp
    exact hK _ _ (Below.refl _ _) (by first | rfl | simp)
  refine soup_cons rfl rfl (fun a W hR hS hdep K hK => ?_) ?_
  · have e12 : a.tmps[12]?.getD undef = .pointer (some ⟨C, 0, none⟩) := slot_of (hdep 0 (by decide +kernel))
    go_simp
    exact hK _ _ (Below.refl _ _) (by first | rfl | simp)
  refine soup_cons rfl rfl (fun a W hR hS hdep K hK => ?_) ?_
  · have e13 : a.tmps[13]?.getD undef = .pointer (some ⟨C, 0, none⟩) := slot_of (hdep 1 (by decide +kernel))
    go_simp
    exact hK _ _ (Below.refl _ _) (by first | rfl | simp)
  refine soup_cons rfl rfl (fun a W hR hS hdep K hK => ?_) ?_
  · have e14 : a.tmps[14]?.getD undef = .pointer (some ⟨C, 2, none⟩) := slot_of (hdep 2 (by decide +kernel))
    have m0 := cell_keep hR HMC.out
    go_simp
    exact hK _ _ (Below.refl _ _) (by first | rfl | simp)
  refine soup_cons rfl rfl (fun a W hR hS hdep K hK => ?_) ?_
  · have e3 : a.tmps[3]?.getD undef = .pointer (some ⟨w.heap.size, 0, none⟩) := slot_of (hS.keep 3 (by kernel_rfl))
    have m0 := cell_keep hR HM0.out
    have m1 := cell_keep hR HM1.out
    have m2 := cell_keep hR HM2.out
    have m3 := cell_keep hR HM3.out
    have m4 := cell_keep hR HM4.out
    have m5 := cell_keep hR HM5.out
    have m6 := cell_keep hR HM6.out
    have m7 := cell_keep hR HM7.out
    have m8 := cell_keep hR HM8.out
    have m9 := cell_keep hR HM9.out
    have m10 := cell_keep hR HM10.out
    have m11 := cell_keep hR HM11.out
    have m12 := cell_keep hR HM12.out
    go_simp
    exact hK _ _ (Below.refl _ _) (by first | rfl | simp)
  refine soup_cons rfl rfl (fun a W hR hS hdep K hK => ?_) ?_
  · have e16 : a.tmps[16]?.getD undef = .agg #[.slice h.na h.nl h.nc, .int .i64 f.typ, .int .i64 f.kind, .int .i64 f.rank, .int .i64 f.got, .int .i64 f.ttl, .slice h.sa h.sl h.sc, .slice h.za h.zl h.zc, .slice h.d.ba h.d.bl h.d.bc, .slice h.d.ha h.d.hl h.d.hc, .slice h.d.ma h.d.ml h.d.mc, .slice h.d.na h.d.nl h.d.nc, .slice h.d.ta h.d.tl h.d.tc] := slot_of (hdep 4 (by decide +kernel))
    go_simp
    have hbx := below_on (B := Y.heap.size) (Below.drew (Below.refl _ _)) hR (Nat.le_refl _)
    refine (HKY.out _ hbx).mono ?_
    rintro e W' ⟨rfl, hb⟩
    exact hK _ _ hb rfl
  refine soup_cons rfl rfl (fun a W hR hS hdep K hK => ?_) ?_
  · have e4 : a.tmps[4]?.getD undef = .pointer (some ⟨X, 0, none⟩) := slot_of (hS.keep 4 (by kernel_rfl))
    go_simp
    exact hK _ _ (Below.refl _ _) (by first | rfl | simp)
  exact fun j h1 h2 => absurd h1 (by omega)
set_option maxHeartbeats 16000000 in
set_option maxRecDepth 100000 in
theorem lays_own (w : World) (S : Nat → Prop) (B C : Nat) (most stale : Int) (k : Nat) (L : List Slot) (hC : IsCache B w C most stale k L) (hk : k < 4000000000000000000) (hL : L.length < 100000) (h : FactH) (f : FactP) (hf : IsFact S w h f) (hl : FLen f)
    (hroom : (((offL L (keyF f)).length + 1 : Nat) : Int) ≤ most) :
    Calls Tryz.prog 8 #[.pointer (some ⟨C, 0, none⟩), .agg (factC h f)] w fun e w' => e = .returned (.bool (factB f)) ∧ Left B w w' ∧ (factB f = true → ∃ b kk, IsCache B w' C most stale (k + 1) (offL L (keyF f) ++ [⟨b, kk, f, k + 1⟩]) ∧ OwnF w.heap.size w' kk f) ∧ (factB f = false → IsCache B w' C most stale k L) := by
  have hb1 : Below w.heap.size w (w.alloc (.cells (factC h f) 36)) := (Below.refl _ _).alloc (Nat.le_refl _) _
  have hA : Blk (w.alloc (.cells (factC h f) 36)) w.heap.size (factC h f) 36 := heap_alloc_new w _
  have hBw : B ≤ w.heap.size := by
    obtain ⟨M, h1, _⟩ := hC.ex
    have := hC.base
    have := h1.lt
    omega
  have HA := Lib.hid hA
  have HB := Lib.hid (And.intro hb1 hBw)
  have HCC := Lib.hid hC
  have HF1 := Lib.hid (hf.on hb1)
  have HV := Lib.hid (And.intro hl (And.intro hk (And.intro hL hroom)))
  have m0 : (w.alloc (.cells (factC h f) 36)).cell? ⟨w.heap.size, 0, none⟩ = some (.slice h.na h.nl h.nc) := hA.cell 0
  have m1 : (w.alloc (.cells (factC h f) 36)).cell? ⟨w.heap.size, 1, none⟩ = some (.int .i64 f.typ) := hA.cell 1
  have m2 : (w.alloc (.cells (factC h f) 36)).cell? ⟨w.heap.size, 2, none⟩ = some (.int .i64 f.kind) := hA.cell 2
  have m3 : (w.alloc (.cells (factC h f) 36)).cell? ⟨w.heap.size, 3, none⟩ = some (.int .i64 f.rank) := hA.cell 3
  have m4 : (w.alloc (.cells (factC h f) 36)).cell? ⟨w.heap.size, 4, none⟩ = some (.int .i64 f.got) := hA.cell 4
  have m5 : (w.alloc (.cells (factC h f) 36)).cell? ⟨w.heap.size, 5, none⟩ = some (.int .i64 f.ttl) := hA.cell 5
  have m6 : (w.alloc (.cells (factC h f) 36)).cell? ⟨w.heap.size, 6, none⟩ = some (.slice h.sa h.sl h.sc) := hA.cell 6
  have m7 : (w.alloc (.cells (factC h f) 36)).cell? ⟨w.heap.size, 7, none⟩ = some (.slice h.za h.zl h.zc) := hA.cell 7
  have m8 : (w.alloc (.cells (factC h f) 36)).cell? ⟨w.heap.size, 8, none⟩ = some (.slice h.d.ba h.d.bl h.d.bc) := hA.cell 8
  have m9 : (w.alloc (.cells (factC h f) 36)).cell? ⟨w.heap.size, 9, none⟩ = some (.slice h.d.ha h.d.hl h.d.hc) := hA.cell 9
  have m10 : (w.alloc (.cells (factC h f) 36)).cell? ⟨w.heap.size, 10, none⟩ = some (.slice h.d.ma h.d.ml h.d.mc) := hA.cell 10
  have m11 : (w.alloc (.cells (factC h f) 36)).cell? ⟨w.heap.size, 11, none⟩ = some (.slice h.d.na h.d.nl h.d.nc) := hA.cell 11
  have m12 : (w.alloc (.cells (factC h f) 36)).cell? ⟨w.heap.size, 12, none⟩ = some (.slice h.d.ta h.d.tl h.d.tc) := hA.cell 12
  have HS := Lib.hid (fsound_any _ S _ _ HF1.out)
  clear hA hC hf hl hb1 hk hL hroom hBw
  cases hFB : factB f with
  | false =>
    rw [hFB] at HS
    go_enter Tryz.func8, Tryz.ntmps8
    simp only [factC]
    go_wp2_with (go_at_call 22; refine HS.out.mono ?_; rintro e W ⟨rfl, hb⟩; have HW := Lib.hid (below_on HB.out.1 hb (Nat.le_refl _)); clear hb)
    go_ret
    exact ⟨rfl, Left.below HW.out HB.out.2, fun e => absurd e (by simp), fun _ => HCC.out.on HW.out⟩
  | true =>
    rw [hFB] at HS
    go_enter Tryz.func8, Tryz.ntmps8
    simp only [factC]
    go_wp2_with (first | (go_at_call 22; go_loud (refine HS.out.mono ?_; rintro e W ⟨rfl, hb⟩; have HW := Lib.hid (below_on HB.out.1 hb (Nat.le_refl _)); have hAW := HA.out.on hb; have HFW := Lib.hid (HF1.out.on hb); clear m0 m1 m2 m3 m4 m5 m6 m7 m8 m9 m10 m11 m12; have n0 : W.cell? ⟨w.heap.size, 0, none⟩ = some (.slice h.na h.nl h.nc) := hAW.cell 0; have n1 : W.cell? ⟨w.heap.size, 1, none⟩ = some (.int .i64 f.typ) := hAW.cell 1; have n2 : W.cell? ⟨w.heap.size, 2, none⟩ = some (.int .i64 f.kind) := hAW.cell 2; have n3 : W.cell? ⟨w.heap.size, 3, none⟩ = some (.int .i64 f.rank) := hAW.cell 3; have n4 : W.cell? ⟨w.heap.size, 4, none⟩ = some (.int .i64 f.got) := hAW.cell 4; have n5 : W.cell? ⟨w.heap.size, 5, none⟩ = some (.int .i64 f.ttl) := hAW.cell 5; have n6 : W.cell? ⟨w.heap.size, 6, none⟩ = some (.slice h.sa h.sl h.sc) := hAW.cell 6; have n7 : W.cell? ⟨w.heap.size, 7, none⟩ = some (.slice h.za h.zl h.zc) := hAW.cell 7; have n8 : W.cell? ⟨w.heap.size, 8, none⟩ = some (.slice h.d.ba h.d.bl h.d.bc) := hAW.cell 8; have n9 : W.cell? ⟨w.heap.size, 9, none⟩ = some (.slice h.d.ha h.d.hl h.d.hc) := hAW.cell 9; have n10 : W.cell? ⟨w.heap.size, 10, none⟩ = some (.slice h.d.ma h.d.ml h.d.mc) := hAW.cell 10; have n11 : W.cell? ⟨w.heap.size, 11, none⟩ = some (.slice h.d.na h.d.nl h.d.nc) := hAW.cell 11; have n12 : W.cell? ⟨w.heap.size, 12, none⟩ = some (.slice h.d.ta h.d.tl h.d.tc) := hAW.cell 12; clear hb hAW)) | (go_at_call 23; go_loud (refine (lay_own W S B C most stale k L (HCC.out.on HW.out) HV.out.2.1 HV.out.2.2.1 h f HFW.out hFB HV.out.1 HV.out.2.2.2).mono ?_; rintro e V2 ⟨rfl, ⟨b, kk, hI, hO⟩, hL⟩; have HQ := Lib.hid (And.intro hI (And.intro hO hL)); clear hI hO hL)))
    go_ret
    exact ⟨rfl, (Left.below HW.out HB.out.2).trans HQ.out.2.2, fun _ => ⟨b, kk, HQ.out.1, HQ.out.2.1.mono (fun b _ ht => ⟨ht.1, Nat.le_trans HW.out.size ht.2⟩)⟩, fun e => absurd e (by simp)⟩
end
section
open Go.ChangeShapes Go.WideShapes Go.ChangeAt Go.RowKit

/-- those that have been copied -/
def cpL (L : List Slot) (left : Lit → Bool) (g : Slot → Slot) : List Slot := (L.filter fun s => !left (.string (keyF s.f))).map g
theorem atL_cp {L : List Slot} {left : Lit → Bool} {g : Slot → Slot} (hk : L.Pairwise fun a b => keyF a.f ≠ keyF b.f) (hg : ∀ s ∈ L, (g s).f = s.f) (key : List UInt8) :
    atL (cpL L left g) key = (match atL L key with | some s => if left (.string key) = true then none else some (g s) | none => none) := by
  induction L with
  | nil => rfl
  | cons a L ih =>
    obtain ⟨h1, h2⟩ := List.pairwise_cons.1 hk
    have ih := ih h2 (fun s hs => hg s (List.mem_cons_of_mem _ hs))
    have hga := hg a (List.mem_cons_self ..)
    by_cases ha : keyF a.f = key
    · have hn : atL L key = none := List.find?_eq_none.2 fun y hy => by simp; exact fun e => h1 y hy (ha.trans e.symm)
      have e1 : atL (a :: L) key = some a := by simp [atL, ha]
      rw [e1]
      show atL _ key = if left (.string key) = true then none else some (g a)
      by_cases hl : left (.string key) = true
      · rw [cpL, List.filter_cons_of_neg (by simp [ha, hl])]
        rw [hn] at ih
        rw [if_pos hl]; exact ih
      · rw [cpL, List.filter_cons_of_pos (by simp [ha, hl]), List.map_cons, if_neg hl]
        simp [atL, hga, ha]
    · have e1 : atL (a :: L) key = atL L key := by simp [atL, ha]
      rw [e1, ← ih]
      by_cases hl : left (.string (keyF a.f)) = true
      · rw [cpL, List.filter_cons_of_neg (by simp [hl])]; rfl
      · rw [cpL, List.filter_cons_of_pos (by simp [hl]), List.map_cons]
        simp only [atL, cpL]
        rw [List.find?_cons_of_neg (by simp [hga, ha])]
theorem MapL.same_at {w : World} {M : Nat} {L T : List Slot} (h : MapL w M L) (hl : L.length = T.length) (ha : ∀ key, (atL L key).map (·.b) = (atL T key).map (·.b)) : MapL w M T := by
  obtain ⟨n, D, h1, h2, h3, h4⟩ := h
  refine ⟨n, D, h1, h2, h3.trans hl, fun key z => ?_⟩
  rw [h4]
  have := ha key
  cases h5 : atL L key <;> cases h6 : atL T key <;> rw [h5, h6] at this <;> simp at this ⊢
  rw [this]
theorem cp_len {L : List Slot} {left : Lit → Bool} {g g' : Slot → Slot} (hk : L.Pairwise fun a b => keyF a.f ≠ keyF b.f) {s : Slot} (hs : s ∈ L) (hl : left (.string (keyF s.f)) = true) :
    (cpL L (fun q => left q && !q.sameKey (.string (keyF s.f))) g').length = (cpL L left g).length + 1 := by
  simp only [cpL, List.length_map]
  induction L with
  | nil => cases hs
  | cons a L ih =>
    obtain ⟨h1, h2⟩ := List.pairwise_cons.1 hk
    rcases List.mem_cons.1 hs with e | hs'
    · subst e
      have hsame : ∀ t ∈ L, (!(left (.string (keyF t.f)) && !(Lit.string (keyF t.f)).sameKey (.string (keyF s.f)))) = !left (.string (keyF t.f)) := fun t ht => by
        rw [sameKey_str]
        have : ¬ keyF t.f = keyF s.f := fun e => h1 t ht e.symm
        simp [this]
      rw [List.filter_cons_of_pos (by rw [sameKey_str]; simp), List.filter_cons_of_neg (by simp [hl]), List.length_cons, List.filter_congr hsame]
    · have ih := ih h2 hs'
      have hne : ¬ keyF a.f = keyF s.f := h1 s hs'
      by_cases hla : left (.string (keyF a.f)) = true
      · rw [List.filter_cons_of_neg (by rw [sameKey_str]; simp [hla, hne]), List.filter_cons_of_neg (by simp [hla])]
        exact ih
      · rw [List.filter_cons_of_pos (by rw [sameKey_str]; simp [hla]), List.filter_cons_of_pos (by simp [hla]), List.length_cons, List.length_cons, ih]
theorem pw_map {α β : Type} {R : α → α → Prop} {Q : β → β → Prop} {g : α → β} : ∀ {l : List α}, l.Pairwise R → (∀ a ∈ l, ∀ b ∈ l, R a b → Q (g a) (g b)) → (l.map g).Pairwise Q
  | [], _, _ => List.Pairwise.nil
  | a :: l, h, hq => by
    obtain ⟨h1, h2⟩ := List.pairwise_cons.1 h
    refine List.pairwise_cons.2 ⟨fun b hb => ?_, pw_map h2 (fun x hx y hy => hq x (List.mem_cons_of_mem _ hx) y (List.mem_cons_of_mem _ hy))⟩
    obtain ⟨x, hx, rfl⟩ := List.mem_map.1 hb
    exact hq a (List.mem_cons_self ..) x (List.mem_cons_of_mem _ hx) (h1 x hx)
theorem cp_mem {L : List Slot} {left : Lit → Bool} {g : Slot → Slot} {x : Slot} (h : x ∈ cpL L left g) : ∃ s ∈ L, left (.string (keyF s.f)) = false ∧ x = g s := by
  obtain ⟨s, hs, rfl⟩ := List.mem_map.1 h
  obtain ⟨h1, h2⟩ := List.mem_filter.1 hs
  exact ⟨s, h1, by simpa using h2, rfl⟩
theorem pair_ne2 {L : List Slot} (h : L.Pairwise fun a b => a.b ≠ b.b) {x y : Slot} (hx : x ∈ L) (hy : y ∈ L) (hne : keyF x.f ≠ keyF y.f) : x.b ≠ y.b := by
  induction L with
  | nil => cases hx
  | cons a L ih =>
    obtain ⟨h1, h2⟩ := List.pairwise_cons.1 h
    rcases List.mem_cons.1 hx with ex | hx'
    · rcases List.mem_cons.1 hy with ey | hy'
      · exact absurd (by rw [ex, ey]) hne
      · rw [ex]; exact h1 y hy'
    · rcases List.mem_cons.1 hy with ey | hy'
      · rw [ey]; exact fun e => h1 x hx' e.symm
      · exact ih h2 hx' hy'
/-- one more has been copied -/
theorem cp_step {B : Nat} {W1 W2 W3 : World} {D k M X : Nat} {most stale : Int} {L : List Slot} {left : Lit → Bool} {g : Slot → Slot} {s : Slot} {kk : FactH} (hk : L.Pairwise fun a b => keyF a.f ≠ keyF b.f) (hord : L.Pairwise fun a b => a.used < b.used) (hu : ∀ t ∈ L, t.used ≤ k)
    (hg : ∀ t ∈ L, (g t).f = t.f ∧ (g t).used = t.used) (hs : s ∈ L) (hl : left (.string (keyF s.f)) = true)
    (hC : IsCache B W1 D most stale k (cpL L left g)) (hDb : Blk W1 D #[.int .i64 most, .int .i64 stale, .map (some M), .int .i64 k] 52) (hMB : B ≤ M) (hML : MapL W1 M (cpL L left g))
    (h12 : Below W1.heap.size W1 W2) (hX : W1.heap.size ≤ X) (hXb : Blk W2 X (itemC ⟨X, kk, s.f, s.used⟩) 59) (hF : IsFact (tagged fT W2) W2 kk s.f) (hfB : factB s.f = true) (hlen : FLen s.f)
    (hM3 : MapL W3 M (offL (cpL L left g) (keyF s.f) ++ [⟨X, kk, s.f, s.used⟩])) (g3 : W2.grownBy W3 (some M)) :
    ∃ g', (∀ t ∈ L, (g' t).f = t.f ∧ (g' t).used = t.used) ∧ IsCache B W3 D most stale k (cpL L (fun q => left q && !q.sameKey (.string (keyF s.f))) g') ∧ Blk W3 D #[.int .i64 most, .int .i64 stale, .map (some M), .int .i64 k] 52 ∧ MapL W3 M (cpL L (fun q => left q && !q.sameKey (.string (keyF s.f))) g') := by
  have hDM := blk_map_ne hDb hML
  have hM2 := hML.on (h12.block M hML.lt)
  have hXM := blk_map_ne hXb hM2
  refine ⟨fun t => if keyF t.f = keyF s.f then ⟨X, kk, s.f, s.used⟩ else g t, ?_⟩
  have hg' : ∀ t ∈ L, ((if keyF t.f = keyF s.f then (⟨X, kk, s.f, s.used⟩ : Slot) else g t)).f = t.f ∧ ((if keyF t.f = keyF s.f then (⟨X, kk, s.f, s.used⟩ : Slot) else g t)).used = t.used := fun t ht => by
    by_cases he : keyF t.f = keyF s.f
    · rw [if_pos he, key_inj hk ht hs he]; exact ⟨rfl, rfl⟩
    · rw [if_neg he]; exact hg t ht
  have hD3 : Blk W3 D #[.int .i64 most, .int .i64 stale, .map (some M), .int .i64 k] 52 := (hDb.on h12).but g3 hDM
  have hnone : atL (cpL L left g) (keyF s.f) = none := by rw [atL_cp hk (fun t ht => (hg t ht).1), atL_of_mem hk hs]; simp [hl]
  rw [off_none hnone] at hM3
  have hMM : MapL W3 M (cpL L (fun q => left q && !q.sameKey (.string (keyF s.f))) (fun t => if keyF t.f = keyF s.f then ⟨X, kk, s.f, s.used⟩ else g t)) := by
    refine hM3.same_at (by rw [List.length_append, List.length_singleton]; exact (cp_len hk hs hl).symm) (fun key => ?_)
    rw [atL_snoc, atL_cp hk (fun t ht => (hg t ht).1), atL_cp hk (fun t ht => (hg' t ht).1)]
    by_cases hks : key = keyF s.f
    · subst hks
      rw [atL_of_mem hk hs, sameKey_str]
      simp [hl]
    · have hks' : ¬ keyF s.f = key := fun e => hks e.symm
      cases hat : atL L key with
      | none => simp [hks']
      | some t =>
        have htk := (atL_mem hat).2
        have : ¬ keyF t.f = keyF s.f := fun e => hks (htk.symm.trans e)
        rw [sameKey_str]
        by_cases hlt : left (.string key) = true <;> simp [hlt, hks, hks', this]
  refine ⟨hg', ⟨⟨M, hD3, hMB, hMM⟩, hC.base, fun x hx => ?_, ?_, ?_, fun x hx => ?_, ?_⟩, hD3, hMM⟩
  · obtain ⟨t, ht, hlt, rfl⟩ := cp_mem hx
    by_cases he : keyF t.f = keyF s.f
    · rw [if_pos he]
      refine ⟨?_, hXb.but g3 hXM, hF.step (fun b hb ht => g3.block b hb (fun e => tagged_mapL hM2 ht (Option.some.inj e))), hfB, hlen⟩
      have := hC.base; have := hDb.lt
      show B ≤ X
      omega
    · rw [if_neg he]
      have hlt2 : left (.string (keyF t.f)) = false := by rw [sameKey_str] at hlt; simpa [he] using hlt
      have hin : g t ∈ cpL L left g := List.mem_map.2 ⟨t, List.mem_filter.2 ⟨ht, by simp [hlt2]⟩, rfl⟩
      obtain ⟨p, q, i, d⟩ := hC.slot _ hin
      have q2 := q.on h12
      exact ⟨p, q2.but g3 (blk_map_ne q2 hM2), (i.step (Same.below h12 _)).step (fun b hb ht => g3.block b hb (fun e => tagged_mapL hM2 ht (Option.some.inj e))), d⟩
  · refine pw_map (R := fun a b => keyF a.f ≠ keyF b.f) (hk.sublist List.filter_sublist) (fun a ha b hb hab => ?_)
    obtain ⟨ha1, ha2⟩ := List.mem_filter.1 ha
    obtain ⟨hb1, hb2⟩ := List.mem_filter.1 hb
    have old : ∀ t ∈ L, (!(left (.string (keyF t.f)) && !(Lit.string (keyF t.f)).sameKey (.string (keyF s.f)))) = true → ¬ keyF t.f = keyF s.f → (g t).b < W1.heap.size ∧ g t ∈ cpL L left g := fun t ht h1 he => by
      have hlt2 : left (.string (keyF t.f)) = false := by rw [sameKey_str] at h1; simpa [he] using h1
      have hin : g t ∈ cpL L left g := List.mem_map.2 ⟨t, List.mem_filter.2 ⟨ht, by simp [hlt2]⟩, rfl⟩
      exact ⟨(hC.slot _ hin).2.1.lt, hin⟩
    by_cases ea : keyF a.f = keyF s.f
    · have eb : ¬ keyF b.f = keyF s.f := fun e => hab (ea.trans e.symm)
      rw [if_pos ea, if_neg eb]
      have := (old b hb1 hb2 eb).1
      show X ≠ (g b).b
      omega
    · by_cases eb : keyF b.f = keyF s.f
      · rw [if_neg ea, if_pos eb]
        have := (old a ha1 ha2 ea).1
        show (g a).b ≠ X
        omega
      · rw [if_neg ea, if_neg eb]
        refine pair_ne2 hC.apart (old a ha1 ha2 ea).2 (old b hb1 hb2 eb).2 ?_
        rw [(hg a ha1).1, (hg b hb1).1]; exact hab
  · refine pw_map (R := fun a b => keyF a.f ≠ keyF b.f) (hk.sublist List.filter_sublist) (fun a ha b hb hab => ?_)
    rw [(hg' a (List.mem_filter.1 ha).1).1, (hg' b (List.mem_filter.1 hb).1).1]; exact hab
  · obtain ⟨t, ht, _, rfl⟩ := cp_mem hx
    rw [(hg' t ht).2]; exact hu t ht
  · refine pw_map (R := fun a b => a.used < b.used) (hord.sublist List.filter_sublist) (fun a ha b hb hab => ?_)
    rw [(hg' a (List.mem_filter.1 ha).1).2, (hg' b (List.mem_filter.1 hb).1).2]; exact hab
end
section
open Go.ChangeShapes Go.WideShapes Go.ChangeAt Go.RowKit

structure CpSt (w wr : World) (M r n D M2 : Nat) (Dm : DataW Unit) (most stale : Int) (k : Nat) (L : List Slot) (left : Lit → Bool) (cnt : Nat) (g : Slot → Slot) : Prop where
  rg : wr.ranges Tryz.prog 9 ptrR M r n Dm left cnt
  bel : Below w.heap.size w wr
  same : ∀ t ∈ L, (g t).f = t.f ∧ (g t).used = t.used
  ca : IsCache w.heap.size wr D most stale k (cpL L left g)
  blk : Blk wr D #[.int .i64 most, .int .i64 stale, .map (some M2), .int .i64 k] 52
  ml : MapL wr M2 (cpL L left g)
set_option maxHeartbeats 64000000 in
set_option maxRecDepth 100000 in
theorem copy_any (w : World) (B C : Nat) (most stale : Int) (k : Nat) (L : List Slot) (hC : IsCache B w C most stale k L) (hL : L.length < 100000) :
    Calls Tryz.prog 17 #[.pointer (some ⟨C, 0, none⟩)] w fun e w' => (∃ D g, e = .returned (.pointer (some ⟨D, 0, none⟩)) ∧ (∀ t ∈ L, (g t).f = t.f ∧ (g t).used = t.used) ∧ IsCache w.heap.size w' D most stale k (L.map g)) ∧ Below w.heap.size w w' := by
  obtain ⟨M, hCb, hMB, hML⟩ := hC.ex
  have HM0 := Lib.hid (show w.drew.cell? ⟨C, 0, none⟩ = some (.int .i64 most) from hCb.cell 0)
  have HM1 := Lib.hid (show w.drew.cell? ⟨C, 1, none⟩ = some (.int .i64 stale) from hCb.cell 1)
  have HM3 := Lib.hid (show w.drew.cell? ⟨C, 3, none⟩ = some (.int .i64 k) from hCb.cell 3)
  have HLN := Lib.hid hL
  clear hL
  obtain ⟨n, Dm, h1, h2, h3, h4⟩ := hML
  have HC := Lib.hid (And.intro hC (And.intro hCb (And.intro hMB (And.intro h2 (And.intro h3 h4)))))
  have HO := Lib.hid h1
  have hmm := @run_makeMap Tryz.prog
  clear hC hCb hMB h1 h2 h3 h4
  go_enter Tryz.func17, Tryz.ntmps17
  go_wp2_with fail
  refine wp_soup0 (m := 50) (by kernel_rfl) (fun x y => Below x.heap.size x y) (fun i v xw => match i with | 0 => v = .pointer (some ⟨C, 0, none⟩) | 1 => v = .pointer (some ⟨C, 0, none⟩) | 2 => v = .pointer (some ⟨C, 0, none⟩) | 3 => v = .int .i64 most | 4 => v = .pointer (some ⟨C, 0, none⟩) | 5 => v = .pointer (some ⟨C, 0, none⟩) | 6 => v = .pointer (some ⟨C, 1, none⟩) | 7 => v = .int .i64 stale | 8 => ∃ m, v = .map (some m) ∧ w.heap.size ≤ m ∧ MapL xw m [] | 9 => v = .pointer (some ⟨C, 0, none⟩) | 10 => v = .pointer (some ⟨C, 0, none⟩) | 11 => v = .pointer (some ⟨C, 3, none⟩) | 12 => v = .int .i64 ((k : Int)) | 13 => ∃ m, v = .agg #[.int .i64 most, .int .i64 stale, .map (some m), .int .i64 k] ∧ w.heap.size ≤ m ∧ MapL xw m [] | 14 => ∃ d m, v = .pointer (some ⟨d, 0, none⟩) ∧ w.heap.size ≤ m ∧ MapL xw m [] ∧ Blk xw d #[.int .i64 most, .int .i64 stale, .map (some m), .int .i64 k] 52 ∧ w.heap.size ≤ d | 15 => ∃ d m, v = .pointer (some ⟨d, 0, none⟩) ∧ w.heap.size ≤ m ∧ MapL xw m [] ∧ Blk xw d #[.int .i64 most, .int .i64 stale, .map (some m), .int .i64 k] 52 ∧ w.heap.size ≤ d | _ => True) rfl (by kernel_rfl) (fun _ _ _ h1 h2 => below_on h1 h2 (Nat.le_refl _)) (Below.refl _ _) (by intro i v x y h hxy; match i, h with | 0, h => exact h | 1, h => exact h | 2, h => exact h | 3, h => exact h | 4, h => exact h | 5, h => exact h | 6, h => exact h | 7, h => exact h | 8, ⟨m, e, h1, h2⟩ => exact ⟨m, e, h1, h2.on (hxy.block m h2.lt)⟩ | 9, h => exact h | 10, h => exact h | 11, h => exact h | 12, h => exact h | 13, ⟨m, e, h1, h2⟩ => exact ⟨m, e, h1, h2.on (hxy.block m h2.lt)⟩ | 14, ⟨d, m, e, h1, h2, h3, h4⟩ => exact ⟨d, m, e, h1, h2.on (hxy.block m h2.lt), h3.on hxy, h4⟩ | 15, ⟨d, m, e, h1, h2, h3, h4⟩ => exact ⟨d, m, e, h1, h2.on (hxy.block m h2.lt), h3.on hxy, h4⟩ | _ + 16, _ => trivial) (dst_but 16 (by kernel_rfl) (fun _ _ h => h)) ?_ ?_
  rotate_left
  · intro a W hR hS hdep
    have e0 : a.tmps.getD 0 undef = .pointer (some ⟨C, 0, none⟩) := hS.keep 0 (by kernel_rfl)
    obtain ⟨D5, M5, q, hnm5, hmm5, hdb5, hnd5⟩ := hdep 15 (by decide +kernel)
    have e3 : a.tmps.getD 3 undef = .pointer (some ⟨D5, 0, none⟩) := q
    clear q
    obtain ⟨T, df⟩ := a
    obtain rfl : df = [] := hS.defers
    have hT : T = #[T.getD 0 undef, T.getD 1 undef, T.getD 2 undef, T.getD 3 undef, T.getD 4 undef, T.getD 5 undef, T.getD 6 undef, T.getD 7 undef, T.getD 8 undef, T.getD 9 undef, T.getD 10 undef, T.getD 11 undef, T.getD 12 undef, T.getD 13 undef, T.getD 14 undef, T.getD 15 undef, T.getD 16 undef, T.getD 17 undef, T.getD 18 undef, T.getD 19 undef, T.getD 20 undef, T.getD 21 undef, T.getD 22 undef, T.getD 23 undef, T.getD 24 undef, T.getD 25 undef, T.getD 26 undef, T.getD 27 undef, T.getD 28 undef, T.getD 29 undef, T.getD 30 undef, T.getD 31 undef, T.getD 32 undef, T.getD 33 undef, T.getD 34 undef, T.getD 35 undef, T.getD 36 undef, T.getD 37 undef, T.getD 38 undef, T.getD 39 undef, T.getD 40 undef, T.getD 41 undef, T.getD 42 undef, T.getD 43 undef, T.getD 44 undef, T.getD 45 undef, T.getD 46 undef, T.getD 47 undef, T.getD 48 undef, T.getD 49 undef] := arr_eta T 50 hS.size
    have k0 : T.getD 0 undef = .pointer (some ⟨C, 0, none⟩) := e0
    have k3 : T.getD 3 undef = .pointer (some ⟨D5, 0, none⟩) := e3
    clear hS hdep
    rw [hT]
    rw [k0]
    clear k0 e0
    rw [k3]
    clear k3 e3
    clear hT
    generalize T.getD 1 undef = u1
    generalize T.getD 2 undef = u2
    generalize T.getD 4 undef = u4
    generalize T.getD 5 undef = u5
    generalize T.getD 6 undef = u6
    generalize T.getD 7 undef = u7
    generalize T.getD 8 undef = u8
    generalize T.getD 9 undef = u9
    generalize T.getD 10 undef = u10
    generalize T.getD 11 undef = u11
    generalize T.getD 12 undef = u12
    generalize T.getD 13 undef = u13
    generalize T.getD 14 undef = u14
    generalize T.getD 15 undef = u15
    generalize T.getD 16 undef = u16
    generalize T.getD 17 undef = u17
    generalize T.getD 18 undef = u18
    generalize T.getD 19 undef = u19
    generalize T.getD 20 undef = u20
    generalize T.getD 21 undef = u21
    generalize T.getD 22 undef = u22
    generalize T.getD 23 undef = u23
    generalize T.getD 24 undef = u24
    generalize T.getD 25 undef = u25
    generalize T.getD 26 undef = u26
    generalize T.getD 27 undef = u27
    generalize T.getD 28 undef = u28
    generalize T.getD 29 undef = u29
    generalize T.getD 30 undef = u30
    generalize T.getD 31 undef = u31
    generalize T.getD 32 undef = u32
    generalize T.getD 33 undef = u33
    generalize T.getD 34 undef = u34
    generalize T.getD 35 undef = u35
    generalize T.getD 36 undef = u36
    generalize T.getD 37 undef = u37
    generalize T.getD 38 undef = u38
    generalize T.getD 39 undef = u39
    generalize T.getD 40 undef = u40
    generalize T.getD 41 undef = u41
    generalize T.getD 42 undef = u42
    generalize T.getD 43 undef = u43
    generalize T.getD 44 undef = u44
    generalize T.getD 45 undef = u45
    generalize T.getD 46 undef = u46
    generalize T.getD 47 undef = u47
    generalize T.getD 48 undef = u48
    generalize T.getD 49 undef = u49
    have hbx := below_on (B := w.heap.size) (Below.drew (Below.refl _ _)) hR (Nat.le_refl _)
    clear hR
    have q2 : W.cell? ⟨C, 2, none⟩ = some (.map (some M)) := (HC.out.2.1.on hbx).cell 2
    have HO2 := Lib.hid (show W.ownsMap Tryz.prog 9 ptrR M n Dm from by obtain ⟨es, clock, a1, a2⟩ := HO.out; exact ⟨es, clock, (hbx.block M HO.out.lt).trans a1, a2⟩)
    have HBX := Lib.hid hbx
    have H5 := Lib.hid (And.intro hnm5 (And.intro hmm5 (And.intro hdb5 hnd5)))
    clear hmm hbx hnm5 hmm5 hdb5 hnd5
    go_wp2_with (at_range; go_loud (refine wpList_range_own _ rfl _ 50 rfl 9 56 lawK Tryz.underlying50 ptrR M n Dm rfl HO2.out ?_; intro W6 hrg0 hg0 hs0))
    try go_frame
    clear q2
    have hb6 : Below w.heap.size w W6 := HBX.out.grown hg0 HBX.out.size (fun k e => by cases e)
    have h6 : Below W.heap.size W W6 := (Below.refl _ _).grown hg0 (Nat.le_refl _) (fun k e => by cases e)
    have hst : CpSt w W6 M W.heap.size n D5 M5 Dm most stale k L (Maps.has Dm) (Maps.size Dm) id := by
      have hall : ∀ s ∈ L, Maps.has Dm (.string (keyF s.f)) = true := fun s hs => by
        have := HC.out.2.2.2.2.2 (keyF s.f)
        rw [atL_of_mem HC.out.1.keys hs] at this
        exact Maps.has_true_of_atKey this
      have e : cpL L (Maps.has Dm) id = [] := by
        rw [cpL, List.map_eq_nil_iff, List.filter_eq_nil_iff]
        intro s hs; simp [hall s hs]
      have hD6 := H5.out.2.2.1.on h6
      have hM6 := H5.out.2.1.on (h6.block M5 H5.out.2.1.lt)
      refine ⟨hrg0, hb6, fun t _ => ⟨rfl, rfl⟩, ?_, hD6, by rw [e]; exact hM6⟩
      rw [e]
      exact ⟨⟨M5, hD6, H5.out.1, hM6⟩, H5.out.2.2.2, by simp, List.Pairwise.nil, List.Pairwise.nil, by simp, List.Pairwise.nil⟩
    have HST := Lib.hid hst
    have HRW := Lib.hid HBX.out.size
    clear hrg0 hg0 hs0 hb6 h6 hst
    obtain ⟨r, hr⟩ : ∃ r, r = W.heap.size := ⟨_, rfl⟩
    rw [← hr] at HST HRW ⊢
    clear hr
    go_loopw [4] (fun _ wr => Hid (∃ left cnt g, CpSt w wr M r n D5 M5 Dm most stale k L left cnt g)) (fun _ wr => wr.rangeLeft M r)
    case atStart => exact Lib.hid ⟨_, _, _, HST.out⟩
    case round =>
      obtain ⟨left, cnt, g, hst⟩ := hrel.out
      have HF := Lib.hid hst
      clear hrel hst
      go_wp2_with (at_next; refine wpList_next_ranges _ rfl _ rfl 9 lawK ptrR Value.string ptrO str_key ptrR_shape M r n Dm left cnt rfl HF.out.rg ?_ ?_)
      · intro hc0 hl0
        have hfe : cpL L left g = L.map g := by
          rw [cpL, List.filter_eq_self.2 (fun s _ => by simp [hl0])]
        have hca := HF.out.ca
        rw [hfe] at hca
        have HE := Lib.hid hca
        clear hl0 hfe hca
        go_wp2_with fail
        go_ret
        exact ⟨⟨D5, g, rfl, HF.out.same, HE.out⟩, HF.out.bel⟩
      · intro x o kl y1 y2 w1 cnt1 hxk hlk hRy hat hrg1 hlt hg1 hs1 hen
        obtain rfl := str_key_lit hxk
        obtain ⟨s, hsL, rfl, hxs⟩ := ptrO_at (y := (y1, y2)) HC.out.2.2.2.2.2 hRy hat
        simp only [ptrO] at hen ⊢
        have hic := iter_cells HF.out.rg
        obtain ⟨hca1, _⟩ := HF.out.ca.iter hg1 hic.1 hic.2 HRW.out HF.out.rg.lt
        have hbl1 : Blk w1 D5 #[.int .i64 most, .int .i64 stale, .map (some M5), .int .i64 k] 52 := HF.out.blk.but hg1 (by rintro rfl; exact hic.1 _ _ _ HF.out.blk)
        have hml1 : MapL w1 M5 (cpL L left g) := HF.out.ml.on (hg1.block M5 HF.out.ml.lt (fun e => by
          obtain ⟨_, _, ⟨es, clock, h1, _⟩, _⟩ := HF.out.ml
          have e := Option.some.inj e
          subst e
          exact hic.2 _ _ h1))
        have hbw1 : Below w.heap.size w w1 := HF.out.bel.grown hg1 HF.out.bel.size (fun k e => by cases e; exact HRW.out)
        have HP1 := Lib.hid (And.intro hbw1 (And.intro hca1 (And.intro hbl1 hml1)))
        have HR1 := Lib.hid (And.intro hrg1 hlt)
        have HSL := Lib.hid (And.intro hsL hxs)
        have hsl := (HC.out.1.slot s hsL)
        have hit := hsl.2.1.on hbw1
        have HSF := Lib.hid (And.intro (hsl.2.2.1.on hbw1) hsl.2.2.2.2)
        have HSX := Lib.hid (And.intro hsL hsl.2.2.2.1)
        have HLK := Lib.hid (show left (.string (keyF s.f)) = true by rw [← hxs]; exact hlk)
        have HLC := Lib.hid (show (cpL L left g).length < 100000 by
          have : (cpL L left g).length ≤ L.length := by rw [cpL, List.length_map]; exact List.length_filter_le _ _
          have := HLN.out
          omega)
        have HD2 := Lib.hid (show w1.drew.cell? ⟨D5, 2, none⟩ = some (.map (some M5)) from hbl1.cell 2)
        have HS13 := Lib.hid (show w1.drew.cell? ⟨s.b, 13, none⟩ = some (.int .i64 (s.used : Int)) from hit.cell 13)
        have HS0 := Lib.hid (show w1.drew.cell? ⟨s.b, 0, none⟩ = some (.slice s.h.na s.h.nl s.h.nc) from hit.cell 0)
        have HS1 := Lib.hid (show w1.drew.cell? ⟨s.b, 1, none⟩ = some (.int .i64 s.f.typ) from hit.cell 1)
        have HS2 := Lib.hid (show w1.drew.cell? ⟨s.b, 2, none⟩ = some (.int .i64 s.f.kind) from hit.cell 2)
        have HS3 := Lib.hid (show w1.drew.cell? ⟨s.b, 3, none⟩ = some (.int .i64 s.f.rank) from hit.cell 3)
        have HS4 := Lib.hid (show w1.drew.cell? ⟨s.b, 4, none⟩ = some (.int .i64 s.f.got) from hit.cell 4)
        have HS5 := Lib.hid (show w1.drew.cell? ⟨s.b, 5, none⟩ = some (.int .i64 s.f.ttl) from hit.cell 5)
        have HS6 := Lib.hid (show w1.drew.cell? ⟨s.b, 6, none⟩ = some (.slice s.h.sa s.h.sl s.h.sc) from hit.cell 6)
        have HS7 := Lib.hid (show w1.drew.cell? ⟨s.b, 7, none⟩ = some (.slice s.h.za s.h.zl s.h.zc) from hit.cell 7)
        have HS8 := Lib.hid (show w1.drew.cell? ⟨s.b, 8, none⟩ = some (.slice s.h.d.ba s.h.d.bl s.h.d.bc) from hit.cell 8)
        have HS9 := Lib.hid (show w1.drew.cell? ⟨s.b, 9, none⟩ = some (.slice s.h.d.ha s.h.d.hl s.h.d.hc) from hit.cell 9)
        have HS10 := Lib.hid (show w1.drew.cell? ⟨s.b, 10, none⟩ = some (.slice s.h.d.ma s.h.d.ml s.h.d.mc) from hit.cell 10)
        have HS11 := Lib.hid (show w1.drew.cell? ⟨s.b, 11, none⟩ = some (.slice s.h.d.na s.h.d.nl s.h.d.nc) from hit.cell 11)
        have HS12 := Lib.hid (show w1.drew.cell? ⟨s.b, 12, none⟩ = some (.slice s.h.d.ta s.h.d.tl s.h.d.tc) from hit.cell 12)
        clear hxk hlk hRy hat hrg1 hlt hg1 hs1 hsL hxs hic hca1 hbl1 hml1 hbw1 hsl hit
        go_wp2_with fail
        clear hen
        refine wp_soup_tail (m := 50) 16 (by kernel_rfl) (fun x y => Below x.heap.size x y) (fun i v xw => match i with | 0 => v = .pointer (some ⟨D5, 0, none⟩) | 1 => v = .pointer (some ⟨D5, 0, none⟩) | 2 => v = .pointer (some ⟨D5, 2, none⟩) | 3 => v = .map (some M5) | 4 => v = .string x | 5 => v = .pointer (some ⟨s.b, 0, none⟩) | 6 => v = .pointer (some ⟨s.b, 0, none⟩) | 7 => v = .pointer (some ⟨s.b, 0, none⟩) | 8 => v = .agg #[.slice s.h.na s.h.nl s.h.nc, .int .i64 s.f.typ, .int .i64 s.f.kind, .int .i64 s.f.rank, .int .i64 s.f.got, .int .i64 s.f.ttl, .slice s.h.sa s.h.sl s.h.sc, .slice s.h.za s.h.zl s.h.zc, .slice s.h.d.ba s.h.d.bl s.h.d.bc, .slice s.h.d.ha s.h.d.hl s.h.d.hc, .slice s.h.d.ma s.h.d.ml s.h.d.mc, .slice s.h.d.na s.h.d.nl s.h.d.nc, .slice s.h.d.ta s.h.d.tl s.h.d.tc] | 9 => ∃ kk, v = .agg (factC kk s.f) ∧ OwnF w1.heap.size xw kk s.f | 10 => v = .pointer (some ⟨s.b, 0, none⟩) | 11 => v = .pointer (some ⟨s.b, 0, none⟩) | 12 => v = .pointer (some ⟨s.b, 13, none⟩) | 13 => v = .int .i64 ((s.used : Int)) | 14 => ∃ kk, v = .agg (itemC ⟨0, kk, s.f, s.used⟩) ∧ OwnF w1.heap.size xw kk s.f | 15 => ∃ X kk, v = .pointer (some ⟨X, 0, none⟩) ∧ w1.heap.size ≤ X ∧ Blk xw X (itemC ⟨X, kk, s.f, s.used⟩) 59 ∧ OwnF w1.heap.size xw kk s.f | _ => True) rfl (by kernel_rfl) (by kernel_rfl) (fun _ _ _ h1 h2 => below_on h1 h2 (Nat.le_refl _)) (Below.refl _ _) (by intro i v x y h hxy; match i, h with | 0, h => exact h | 1, h => exact h | 2, h => exact h | 3, h => exact h | 4, h => exact h | 5, h => exact h | 6, h => exact h | 7, h => exact h | 8, h => exact h | 9, ⟨kk, e, h⟩ => exact ⟨kk, e, h.on hxy⟩ | 10, h => exact h | 11, h => exact h | 12, h => exact h | 13, h => exact h | 14, ⟨kk, e, h⟩ => exact ⟨kk, e, h.on hxy⟩ | 15, ⟨X, kk, e, h1, h2, h3⟩ => exact ⟨X, kk, e, h1, h2.on hxy, h3.on hxy⟩ | _ + 16, _ => trivial) (dst_head (by kernel_rfl)) ?_ ?_
        rotate_left
        · intro a W hR hS hdep
          have e3 : a.tmps.getD 3 undef = .pointer (some ⟨D5, 0, none⟩) := hS.keep 3 (by kernel_rfl)
          have e36 : a.tmps.getD 36 undef = .map (some M5) := hdep 3 (by decide +kernel)
          have e37 : a.tmps.getD 37 undef = .string x := hdep 4 (by decide +kernel)
          obtain ⟨X15, k15, q, hx15, hb15, ho15⟩ := hdep 15 (by decide +kernel)
          have e48 : a.tmps.getD 48 undef = .pointer (some ⟨X15, 0, none⟩) := q
          clear q
          obtain ⟨T, df⟩ := a
          obtain rfl : df = [] := hS.defers
          have hT := tmps_same hS 50 rfl [33, 34, 35, 36, 37, 38, 39, 40, 41, 42, 43, 44, 45, 46, 47, 48] (by kernel_rfl)
          simp only [List.foldl_cons, List.foldl_nil, List.setIfInBounds_toArray, List.set_cons_succ, List.set_cons_zero] at hT
          have k36 : T.getD 36 undef = .map (some M5) := e36
          have k37 : T.getD 37 undef = .string x := e37
          have k48 : T.getD 48 undef = .pointer (some ⟨X15, 0, none⟩) := e48
          clear hS hdep
          rw [hT]
          rw [k36]
          clear k36 e36
          rw [k37]
          clear k37 e37
          rw [k48]
          clear k48 e48
          clear hT
          generalize T.getD 33 undef = u33
          generalize T.getD 34 undef = u34
          generalize T.getD 35 undef = u35
          generalize T.getD 38 undef = u38
          generalize T.getD 39 undef = u39
          generalize T.getD 40 undef = u40
          generalize T.getD 41 undef = u41
          generalize T.getD 42 undef = u42
          generalize T.getD 43 undef = u43
          generalize T.getD 44 undef = u44
          generalize T.getD 45 undef = u45
          generalize T.getD 46 undef = u46
          generalize T.getD 47 undef = u47
          have hbx := below_on (B := w1.heap.size) (Below.drew (Below.refl _ _)) hR (Nat.le_refl _)
          have hMW := HP1.out.2.2.2.on (hbx.block M5 HP1.out.2.2.2.lt)
          obtain ⟨W4, hrun, hM4, hg4, _⟩ := hMW.store (HP1.out.2.1.on hbx).keys HLC.out ⟨X15, k15, s.f, s.used⟩ (by show (keyF s.f).length ≤ _; have := fact_small HSX.out.2; rw [keyF, keyP_size]; omega)
          rw [show (⟨(keyF s.f).toArray⟩ : ByteArray) = x by rw [← HSL.out.2]] at hrun
          clear hR
          go_wp2_with fail
          have hg := HR1.out.1
          have hm1 := HP1.out.2.2.2
          obtain ⟨g', hg', hca', hbl', hml'⟩ := cp_step HC.out.1.keys HC.out.1.order HC.out.1.used HF.out.same HSL.out.1 HLK.out HP1.out.2.1 HP1.out.2.2.1 H5.out.1 hm1 hbx hx15 hb15 (ho15.mono (fun b _ ht => ht.1)) HSX.out.2 HSF.out.2 hM4 hg4
          have hM5 : M ≠ M5 := by have := HO.out.lt; have := H5.out.1; omega
          have hr5 : r ≠ M5 := by
            rintro rfl
            obtain ⟨_, _, ⟨es, clock, h1, _⟩, _⟩ := hm1
            exact (iter_cells hg).2 _ _ h1
          have hrg4 := ranges_on hg ((hg4.block M (by have := hg.owns.lt; have := hbx.size; omega) (fun e => hM5 (Option.some.inj e))).trans (hbx.block M hg.owns.lt)) ((hg4.block r (by have := hg.lt; have := hbx.size; omega) (fun e => hr5 (Option.some.inj e))).trans (hbx.block r hg.lt))
          have hbW := (below_on HP1.out.1 hbx (Nat.le_refl _)).grown hg4 (below_on HP1.out.1 hbx (Nat.le_refl _)).size (fun j e => by cases e; exact H5.out.1)
          refine ⟨Lib.hid ⟨_, _, g', hrg4, hbW, hg', ?_, hbl', ?_⟩, ?_⟩
          · rw [HSL.out.2]; exact hca'
          · rw [HSL.out.2]; exact hml'
          · rw [hrg4.left_eq, HF.out.rg.left_eq]; exact HR1.out.2
        refine soup_cons rfl rfl (fun a W hR hS hdep K hK => ?_) ?_
        · have e3 : a.tmps[3]?.getD undef = .pointer (some ⟨D5, 0, none⟩) := slot_of (hS.keep 3 (by kernel_rfl))
          go_simp
          exact hK _ _ (Below.refl _ _) (by first | rfl | simp)
        refine soup_cons rfl rfl (fun a W hR hS hdep K hK => ?_) ?_
        · have e33 : a.tmps[33]?.getD undef = .pointer (some ⟨D5, 0, none⟩) := slot_of (hdep 0 (by decide +kernel))
          go_simp
          exact hK _ _ (Below.refl _ _) (by first | rfl | simp)
        refine soup_cons rfl rfl (fun a W hR hS hdep K hK => ?_) ?_
        · have e34 : a.tmps[34]?.getD undef = .pointer (some ⟨D5, 0, none⟩) := slot_of (hdep 1 (by decide +kernel))
          go_simp
          exact hK _ _ (Below.refl _ _) (by first | rfl | simp)
        refine soup_cons rfl rfl (fun a W hR hS hdep K hK => ?_) ?_
        · have e35 : a.tmps[35]?.getD undef = .pointer (some ⟨D5, 2, none⟩) := slot_of (hdep 2 (by decide +kernel))
          have m0 := cell_keep hR HD2.out
          go_simp
          exact hK _ _ (Below.refl _ _) (by first | rfl | simp)
        refine soup_cons rfl rfl (fun a W hR hS hdep K hK => ?_) ?_
        · have e4 : a.tmps[4]?.getD undef = .string x := slot_of (hS.keep 4 (by kernel_rfl))
          go_simp
          exact hK _ _ (Below.refl _ _) (by first | rfl | simp)
        refine soup_cons rfl rfl (fun a W hR hS hdep K hK => ?_) ?_
        · have e5 : a.tmps[5]?.getD undef = .pointer (some ⟨s.b, 0, none⟩) := slot_of (hS.keep 5 (by kernel_rfl))
          go_simp
          exact hK _ _ (Below.refl _ _) (by first | rfl | simp)
        refine soup_cons rfl rfl (fun a W hR hS hdep K hK => ?_) ?_
        · have e38 : a.tmps[38]?.getD undef = .pointer (some ⟨s.b, 0, none⟩) := slot_of (hdep 5 (by decide +kernel))
          go_simp
          exact hK _ _ (Below.refl _ _) (by first | rfl | simp)
        refine soup_cons rfl rfl (fun a W hR hS hdep K hK => ?_) ?_
        · have e39 : a.tmps[39]?.getD undef = .pointer (some ⟨s.b, 0, none⟩) := slot_of (hdep 6 (by decide +kernel))
          go_simp
          exact hK _ _ (Below.refl _ _) (by first | rfl | simp)
        refine soup_cons rfl rfl (fun a W hR hS hdep K hK => ?_) ?_
        · have e40 : a.tmps[40]?.getD undef = .pointer (some ⟨s.b, 0, none⟩) := slot_of (hdep 7 (by decide +kernel))
          have m0 := cell_keep hR HS0.out
          have m1 := cell_keep hR HS1.out
          have m2 := cell_keep hR HS2.out
          have m3 := cell_keep hR HS3.out
          have m4 := cell_keep hR HS4.out
          have m5 := cell_keep hR HS5.out
          have m6 := cell_keep hR HS6.out
          have m7 := cell_keep hR HS7.out
          have m8 := cell_keep hR HS8.out
          have m9 := cell_keep hR HS9.out
          have m10 := cell_keep hR HS10.out
          have m11 := cell_keep hR HS11.out
          have m12 := cell_keep hR HS12.out
          go_simp
          exact hK _ _ (Below.refl _ _) (by first | rfl | simp)
        refine soup_cons rfl rfl (fun a W hR hS hdep K hK => ?_) ?_
        · have e41 : a.tmps[41]?.getD undef = .agg #[.slice s.h.na s.h.nl s.h.nc, .int .i64 s.f.typ, .int .i64 s.f.kind, .int .i64 s.f.rank, .int .i64 s.f.got, .int .i64 s.f.ttl, .slice s.h.sa s.h.sl s.h.sc, .slice s.h.za s.h.zl s.h.zc, .slice s.h.d.ba s.h.d.bl s.h.d.bc, .slice s.h.d.ha s.h.d.hl s.h.d.hc, .slice s.h.d.ma s.h.d.ml s.h.d.mc, .slice s.h.d.na s.h.d.nl s.h.d.nc, .slice s.h.d.ta s.h.d.tl s.h.d.tc] := slot_of (hdep 8 (by decide +kernel))
          go_simp
          have hbx := below_on (B := w1.heap.size) (Below.drew (Below.refl _ _)) hR (Nat.le_refl _)
          refine (fown_any _ _ s.h s.f (HSF.out.1.on hbx) HSF.out.2).mono ?_
          rintro e W' ⟨⟨kk, rfl, ho⟩, hb⟩
          exact hK _ _ hb ⟨kk, rfl, ho.mono (fun b _ ht => ⟨ht.1, Nat.le_trans hbx.size ht.2⟩)⟩
        refine soup_cons rfl rfl (fun a W hR hS hdep K hK => ?_) ?_
        · have e5 : a.tmps[5]?.getD undef = .pointer (some ⟨s.b, 0, none⟩) := slot_of (hS.keep 5 (by kernel_rfl))
          go_simp
          exact hK _ _ (Below.refl _ _) (by first | rfl | simp)
        refine soup_cons rfl rfl (fun a W hR hS hdep K hK => ?_) ?_
        · have e43 : a.tmps[43]?.getD undef = .pointer (some ⟨s.b, 0, none⟩) := slot_of (hdep 10 (by decide +kernel))
          go_simp
          exact hK _ _ (Below.refl _ _) (by first | rfl | simp)
        refine soup_cons rfl rfl (fun a W hR hS hdep K hK => ?_) ?_
        · have e44 : a.tmps[44]?.getD undef = .pointer (some ⟨s.b, 0, none⟩) := slot_of (hdep 11 (by decide +kernel))
          go_simp
          exact hK _ _ (Below.refl _ _) (by first | rfl | simp)
        refine soup_cons rfl rfl (fun a W hR hS hdep K hK => ?_) ?_
        · have e45 : a.tmps[45]?.getD undef = .pointer (some ⟨s.b, 13, none⟩) := slot_of (hdep 12 (by decide +kernel))
          have m0 := cell_keep hR HS13.out
          go_simp
          exact hK _ _ (Below.refl _ _) (by first | rfl | simp)
        refine soup_cons rfl rfl (fun a W hR hS hdep K hK => ?_) ?_
        · obtain ⟨k9, q, ho9⟩ := hdep 9 (by decide +kernel)
          have e42 : a.tmps[42]?.getD undef = .agg #[.slice k9.na k9.nl k9.nc, .int .i64 s.f.typ, .int .i64 s.f.kind, .int .i64 s.f.rank, .int .i64 s.f.got, .int .i64 s.f.ttl, .slice k9.sa k9.sl k9.sc, .slice k9.za k9.zl k9.zc, .slice k9.d.ba k9.d.bl k9.d.bc, .slice k9.d.ha k9.d.hl k9.d.hc, .slice k9.d.ma k9.d.ml k9.d.mc, .slice k9.d.na k9.d.nl k9.d.nc, .slice k9.d.ta k9.d.tl k9.d.tc] := slot_of q
          clear q
          have e46 : a.tmps[46]?.getD undef = .int .i64 ((s.used : Int)) := slot_of (hdep 13 (by decide +kernel))
          go_simp
          exact hK _ _ (Below.refl _ _) ⟨k9, rfl, ho9⟩
        refine soup_cons rfl rfl (fun a W hR hS hdep K hK => ?_) ?_
        · obtain ⟨k14, q, ho14⟩ := hdep 14 (by decide +kernel)
          have e47 : a.tmps[47]?.getD undef = .agg #[.slice k14.na k14.nl k14.nc, .int .i64 s.f.typ, .int .i64 s.f.kind, .int .i64 s.f.rank, .int .i64 s.f.got, .int .i64 s.f.ttl, .slice k14.sa k14.sl k14.sc, .slice k14.za k14.zl k14.zc, .slice k14.d.ba k14.d.bl k14.d.bc, .slice k14.d.ha k14.d.hl k14.d.hc, .slice k14.d.ma k14.d.ml k14.d.mc, .slice k14.d.na k14.d.nl k14.d.nc, .slice k14.d.ta k14.d.tl k14.d.tc, .int .i64 ((s.used : Int))] := slot_of q
          clear q
          go_simp
          have hbx := below_on (B := w1.heap.size) (Below.drew (Below.refl _ _)) hR (Nat.le_refl _)
          exact hK _ _ ((Below.refl _ _).alloc (Nat.le_refl _) _) ⟨_, k14, rfl, hbx.size, heap_alloc_new _ _, ho14.on ((Below.refl _ _).alloc (Nat.le_refl _) _)⟩
        exact fun j h1 h2 => absurd h1 (by omega)
  refine soup_cons rfl rfl (fun a W hR hS hdep K hK => ?_) ?_
  · have e0 : a.tmps[0]?.getD undef = .pointer (some ⟨C, 0, none⟩) := slot_of (hS.keep 0 (by kernel_rfl))
    go_simp
    exact hK _ _ (Below.refl _ _) (by first | rfl | simp)
  refine soup_cons rfl rfl (fun a W hR hS hdep K hK => ?_) ?_
  · have e8 : a.tmps[8]?.getD undef = .pointer (some ⟨C, 0, none⟩) := slot_of (hdep 0 (by decide +kernel))
    go_simp
    exact hK _ _ (Below.refl _ _) (by first | rfl | simp)
  refine soup_cons rfl rfl (fun a W hR hS hdep K hK => ?_) ?_
  · have e9 : a.tmps[9]?.getD undef = .pointer (some ⟨C, 0, none⟩) := slot_of (hdep 1 (by decide +kernel))
    go_simp
    exact hK _ _ (Below.refl _ _) (by first | rfl | simp)
  refine soup_cons rfl rfl (fun a W hR hS hdep K hK => ?_) ?_
  · have e10 : a.tmps[10]?.getD undef = .pointer (some ⟨C, 0, none⟩) := slot_of (hdep 2 (by decide +kernel))
    have m0 := cell_keep hR HM0.out
    go_simp
    exact hK _ _ (Below.refl _ _) (by first | rfl | simp)
  refine soup_cons rfl rfl (fun a W hR hS hdep K hK => ?_) ?_
  · have e0 : a.tmps[0]?.getD undef = .pointer (some ⟨C, 0, none⟩) := slot_of (hS.keep 0 (by kernel_rfl))
    go_simp
    exact hK _ _ (Below.refl _ _) (by first | rfl | simp)
  refine soup_cons rfl rfl (fun a W hR hS hdep K hK => ?_) ?_
  · have e12 : a.tmps[12]?.getD undef = .pointer (some ⟨C, 0, none⟩) := slot_of (hdep 4 (by decide +kernel))
    go_simp
    exact hK _ _ (Below.refl _ _) (by first | rfl | simp)
  refine soup_cons rfl rfl (fun a W hR hS hdep K hK => ?_) ?_
  · have e13 : a.tmps[13]?.getD undef = .pointer (some ⟨C, 0, none⟩) := slot_of (hdep 5 (by decide +kernel))
    go_simp
    exact hK _ _ (Below.refl _ _) (by first | rfl | simp)
  refine soup_cons rfl rfl (fun a W hR hS hdep K hK => ?_) ?_
  · have e14 : a.tmps[14]?.getD undef = .pointer (some ⟨C, 1, none⟩) := slot_of (hdep 6 (by decide +kernel))
    have m0 := cell_keep hR HM1.out
    go_simp
    exact hK _ _ (Below.refl _ _) (by first | rfl | simp)
  refine soup_cons rfl rfl (fun a W hR hS hdep K hK => ?_) ?_
  · go_simp
    have hbx := below_on (B := w.heap.size) (Below.drew (Below.refl _ _)) hR (Nat.le_refl _)
    exact hK _ _ ((Below.refl _ _).alloc (Nat.le_refl _) _) ⟨_, rfl, hbx.size, 0, _, World.ownsMap_made W _ _ _, by decide, rfl, fun key z => rfl⟩
  refine soup_cons rfl rfl (fun a W hR hS hdep K hK => ?_) ?_
  · have e0 : a.tmps[0]?.getD undef = .pointer (some ⟨C, 0, none⟩) := slot_of (hS.keep 0 (by kernel_rfl))
    go_simp
    exact hK _ _ (Below.refl _ _) (by first | rfl | simp)
  refine soup_cons rfl rfl (fun a W hR hS hdep K hK => ?_) ?_
  · have e17 : a.tmps[17]?.getD undef = .pointer (some ⟨C, 0, none⟩) := slot_of (hdep 9 (by decide +kernel))
    go_simp
    exact hK _ _ (Below.refl _ _) (by first | rfl | simp)
  refine soup_cons rfl rfl (fun a W hR hS hdep K hK => ?_) ?_
  · have e18 : a.tmps[18]?.getD undef = .pointer (some ⟨C, 0, none⟩) := slot_of (hdep 10 (by decide +kernel))
    go_simp
    exact hK _ _ (Below.refl _ _) (by first | rfl | simp)
  refine soup_cons rfl rfl (fun a W hR hS hdep K hK => ?_) ?_
  · have e19 : a.tmps[19]?.getD undef = .pointer (some ⟨C, 3, none⟩) := slot_of (hdep 11 (by decide +kernel))
    have m0 := cell_keep hR HM3.out
    go_simp
    exact hK _ _ (Below.refl _ _) (by first | rfl | simp)
  refine soup_cons rfl rfl (fun a W hR hS hdep K hK => ?_) ?_
  · have e11 : a.tmps[11]?.getD undef = .int .i64 most := slot_of (hdep 3 (by decide +kernel))
    have e15 : a.tmps[15]?.getD undef = .int .i64 stale := slot_of (hdep 7 (by decide +kernel))
    obtain ⟨M2, q, hnm, hmm2⟩ := hdep 8 (by decide +kernel)
    have e16 : a.tmps[16]?.getD undef = .map (some M2) := slot_of q
    clear q
    have e20 : a.tmps[20]?.getD undef = .int .i64 ((k : Int)) := slot_of (hdep 12 (by decide +kernel))
    go_simp
    exact hK _ _ (Below.refl _ _) ⟨M2, rfl, hnm, hmm2⟩
  refine soup_cons rfl rfl (fun a W hR hS hdep K hK => ?_) ?_
  · obtain ⟨M3, q, hnm3, hmm3⟩ := hdep 13 (by decide +kernel)
    have e21 : a.tmps[21]?.getD undef = .agg #[.int .i64 most, .int .i64 stale, .map (some M3), .int .i64 k] := slot_of q
    clear q
    go_simp
    have hbx := below_on (B := w.heap.size) (Below.drew (Below.refl _ _)) hR (Nat.le_refl _)
    exact hK _ _ ((Below.refl _ _).alloc (Nat.le_refl _) _) ⟨_, M3, rfl, hnm3, hmm3.on (((Below.refl W.heap.size W).alloc (Nat.le_refl _) _).block M3 hmm3.lt), heap_alloc_new _ _, hbx.size⟩
  refine soup_cons rfl rfl (fun a W hR hS hdep K hK => ?_) ?_
  · obtain ⟨D4, M4, q, hnm4, hmm4, hdb4, hnd4⟩ := hdep 14 (by decide +kernel)
    have e22 : a.tmps[22]?.getD undef = .pointer (some ⟨D4, 0, none⟩) := slot_of q
    clear q
    go_simp
    exact hK _ _ (Below.refl _ _) ⟨D4, M4, rfl, hnm4, hmm4, hdb4, hnd4⟩
  exact fun j h1 h2 => absurd h1 (by simp only [List.size_toArray, List.length_cons, List.length_nil]; omega)
end
section
open Go.ChangeShapes Go.WideShapes Go.ChangeAt Go.RowKit

theorem soa_texts {f : FactP} (h : factB f = true) : f.soa.texts.length ≤ 1048576 := by
  unfold factB at h
  rw [Bool.and_eq_true] at h
  obtain ⟨_, h⟩ := h
  split at h
  · simp only [hasB, noneB, Bool.and_eq_true, decide_eq_true_eq] at h
    omega
  · simp only [negB, Bool.and_eq_true] at h
    obtain ⟨⟨_, _, _, _, h6⟩, _⟩ := h
    simp [dataB, emptyB] at h6
    have : f.soa.texts = [] := by first | exact h6.2 | exact h6.2.2 | exact h6.2.2.2 | simp_all
    rw [this]; decide
abbrev zT : List TypeId := fT
/-- what was handed in is written over: nothing else is -/
structure Zap (N M : Nat) (W wr : World) : Prop where
  bel : Below N W wr
  size : wr.heap.size = W.heap.size
  same : ∀ b, b < W.heap.size → ¬ (N ≤ b ∧ b < M ∧ tagged zT W b) → wr.heap[b]? = W.heap[b]?
  cells : ∀ b cs T, Blk W b cs T → ∃ cs', Blk wr b cs' T ∧ cs'.size = cs.size
theorem Zap.refl (N M : Nat) (W : World) : Zap N M W W := ⟨Below.refl _ _, rfl, fun _ _ _ => rfl, fun _ cs _ h => ⟨cs, h, rfl⟩⟩
theorem Zap.store {N M : Nat} {W wr : World} (h : Zap N M W wr) {b : Nat} (h1 : N ≤ b) (h2 : b < M) (ht : tagged zT W b) (o : Nat) (v : Value) : Zap N M W (wr.setCell ⟨b, o, none⟩ v) := by
  refine ⟨h.bel.setCell h1 _, by simp [h.size], fun c hc hn => ?_, fun c cs T hb => ?_⟩
  · have hne : c ≠ b := by rintro rfl; exact hn ⟨h1, h2, ht⟩
    rw [Below.heap_setCell _ _ _ _ hne]; exact h.same c hc hn
  · obtain ⟨cs', hb', hs⟩ := h.cells c cs T hb
    by_cases hcb : c = b
    · subst hcb
      exact ⟨_, hb'.set o v, by simp [hs]⟩
    · exact ⟨cs', hb'.but (but_set _ b o v) hcb, hs⟩
theorem Zap.blk {N M : Nat} {W wr : World} (h : Zap N M W wr) {b : Nat} {cs : Array Value} {T : TypeId} (hb : Blk W b cs T) (hT : T ∉ zT) : Blk wr b cs T := by
  rw [Blk, h.same b hb.lt (fun e => tagged_ne hb hT e.2.2 rfl)]; exact hb
theorem Zap.cache {N M B C k : Nat} {W wr : World} {most stale : Int} {s : Slot} (h : Zap N M W wr) (hC : IsCache B W C most stale k [s]) (ho : OwnF M W s.h s.f) : IsCache B wr C most stale k [s] ∧ OwnF M wr s.h s.f := by
  have how : OwnF M wr s.h s.f := ho.step (fun b hb ht => h.same b hb (fun e => by have := ht.2; omega))
  obtain ⟨M0, a, b, c⟩ := hC.ex
  refine ⟨⟨⟨M0, h.blk a (by decide), b, c.on (h.same M0 c.lt (fun e => tagged_mapL c e.2.2 rfl))⟩, hC.base, fun x hx => ?_, hC.apart, hC.keys, hC.used, hC.order⟩, how⟩
  rw [List.mem_singleton] at hx
  subst hx
  obtain ⟨p, q, _, d⟩ := hC.slot x (List.mem_singleton.2 rfl)
  exact ⟨p, h.blk q (by decide), how.mono (fun b _ ht => ht.1), d⟩
def U8c (w : World) (b o : Nat) : Prop := ∃ v : Int, w.cell? ⟨b, o, none⟩ = some (.int .u8 v) ∧ 0 ≤ v ∧ v ≤ 255
/-- bytes of what was answered are written over: nothing else is -/
structure Xu (N : Nat) (W wr : World) : Prop where
  bel : Below N W wr
  oth : ∀ b o v, W.cell? ⟨b, o, none⟩ = some v → (∀ z, v ≠ .int .u8 z) → wr.cell? ⟨b, o, none⟩ = some v
  u8 : ∀ b o, U8c W b o → U8c wr b o
  blk : ∀ b cs T, Blk W b cs T → ∃ cs', Blk wr b cs' T
theorem Xu.refl (N : Nat) (W : World) : Xu N W W := ⟨Below.refl _ _, fun _ _ _ h _ => h, fun _ _ h => h, fun _ cs _ h => ⟨cs, h⟩⟩
theorem Xu.on {N : Nat} {W wr w' : World} (h : Xu N W wr) (hN : N ≤ wr.heap.size) (hb : Below wr.heap.size wr w') : Xu N W w' :=
  ⟨h.bel.trans (hb.mono hN), fun b o v h1 h2 => cell_keep hb (h.oth b o v h1 h2), fun b o h1 => by obtain ⟨v, h2, h3⟩ := h.u8 b o h1; exact ⟨v, cell_keep hb h2, h3⟩, fun b cs T h1 => by obtain ⟨cs', h2⟩ := h.blk b cs T h1; exact ⟨cs', h2.on hb⟩⟩
theorem Xu.store {N : Nat} {W wr : World} (h : Xu N W wr) {b o : Nat} {cs : Array Value} {T : TypeId} (hb : N ≤ b) (hB : Blk W b cs T) (hu : U8c W b o) {v : Int} (h0 : 0 ≤ v) (h1 : v ≤ 255) : Xu N W (wr.setCell ⟨b, o, none⟩ (.int .u8 v)) := by
  obtain ⟨cs', hB'⟩ := h.blk b cs T hB
  have hset := hB'.set o (.int .u8 v)
  have hoth : ∀ {c q : Nat} {x : Value}, wr.cell? ⟨c, q, none⟩ = some x → ¬ (c = b ∧ q = o) → (wr.setCell ⟨b, o, none⟩ (.int .u8 v)).cell? ⟨c, q, none⟩ = some x := by
    intro c q x hx hne
    by_cases hcb : c = b
    · subst hcb
      rw [hset.cell]
      rw [hB'.cell] at hx
      have : o ≠ q := fun e => hne ⟨rfl, e.symm⟩
      rw [Array.getElem?_setIfInBounds_ne this]; exact hx
    · rw [← hx]
      exact World.cell?_of_block (Below.heap_setCell _ _ _ _ hcb)
  refine ⟨h.bel.setCell hb _, fun c q x hx hnx => ?_, fun c q hcq => ?_, fun c cs0 T0 hc => ?_⟩
  · refine hoth (h.oth c q x hx hnx) ?_
    rintro ⟨rfl, rfl⟩
    obtain ⟨z, hz, _⟩ := hu
    rw [hx] at hz
    exact hnx z (Option.some.inj hz)
  · by_cases he : c = b ∧ q = o
    · obtain ⟨rfl, rfl⟩ := he
      obtain ⟨z, hz, _⟩ := h.u8 _ _ hu
      rw [hB'.cell] at hz
      refine ⟨v, ?_, h0, h1⟩
      rw [hset.cell]
      have hlt : q < cs'.size := by
        rcases Nat.lt_or_ge q cs'.size with h | h
        · exact h
        · rw [Array.getElem?_eq_none h] at hz; cases hz
      rw [Array.getElem?_setIfInBounds_self_of_lt hlt]
    · obtain ⟨z, hz, hr⟩ := h.u8 c q hcq
      exact ⟨z, hoth hz he, hr⟩
  · obtain ⟨cs1, h2⟩ := h.blk c cs0 T0 hc
    by_cases hcb : c = b
    · subst hcb; exact ⟨_, h2.set o _⟩
    · exact ⟨_, h2.but (but_set wr b o _) hcb⟩
/-- another cache's map turns: this one stays -/
theorem IsCache.other {B : Nat} {w w' : World} {D k m : Nat} {most stale : Int} {L : List Slot} {es : Array MapEntry} {c : Nat} (h : IsCache B w D most stale k L) (hm : w.heap[m]? = some (.map es c)) (hB : m < B) (hs : ∀ b, b < w.heap.size → b ≠ m → w'.heap[b]? = w.heap[b]?) : IsCache B w' D most stale k L := by
  obtain ⟨M, a, b, d⟩ := h.ex
  have hbl : ∀ {g : Nat} {cs : Array Value} {T : TypeId}, Blk w g cs T → Blk w' g cs T := by
    intro g cs T hg
    rw [Blk, hs g hg.lt (fun e => by subst e; rw [Blk, hm] at hg; cases hg)]; exact hg
  refine ⟨⟨M, hbl a, b, d.on (hs M d.lt (by omega))⟩, h.base, fun s hsl => ?_, h.apart, h.keys, h.used, h.order⟩
  obtain ⟨p, q, i, r⟩ := h.slot s hsl
  exact ⟨p, hbl q, i.step (fun b hb ht => hs b hb (tagged_map hm ht)), r⟩
theorem fact_left {B : Nat} {w w' : World} {h : FactH} {f : FactP} (hf : IsFact (tagged fT w) w h f) (hl : Left B w w') : IsFact (tagged fT w') w' h f := hf.step (hl.same.mono (fun _ _ ht => tagged_mono ht fT_gT))
set_option maxHeartbeats 64000000 in
set_option maxRecDepth 100000 in
theorem apart_walk (w : World) (S : Nat → Prop) (h : FactH) (f : FactP) (hf : IsFact S w h f) (now : Int) :
    Calls Tryz.prog 4 #[.agg (factC h f), .int .i64 now] w fun e w' => e = .returned (.bool true) ∧ Below w.heap.size w w' := by
  have hb1 : Below w.heap.size w (w.alloc (.cells (factC h f) 36)) := (Below.refl _ _).alloc (Nat.le_refl _) _
  have HA := Lib.hid (show Blk (w.alloc (.cells (factC h f) 36)) w.heap.size (factC h f) 36 from heap_alloc_new w _)
  have HB := Lib.hid hb1
  have HF := Lib.hid hf
  have HNW := Lib.hid (new_any (w.alloc (.cells (factC h f) 36)) (w.alloc (.cells (factC h f) 36)).heap.size (Nat.le_refl _) 9 9 (by decide) (by decide) (by decide))
  clear hf hb1
  simp only [factC] at HNW
  go_enter Tryz.func4, Tryz.ntmps4
  simp only [factC]
  go_wp2_with (first | (go_at_call 5; go_loud (refine HNW.out.mono ?_; rintro e W ⟨⟨C, rfl, hC⟩, hb⟩; have HW := Lib.hid (And.intro (below_on HB.out hb (Nat.le_refl _)) (And.intro hC (HA.out.on hb))); clear hC hb)) | (go_at_call 6; refine (answers_any _).mono ?_; rintro e W2 ⟨rfl, hb2⟩; replace HW := Lib.hid (And.intro (below_on HW.out.1 hb2 (Nat.le_refl _)) (And.intro (HW.out.2.1.on hb2) (HW.out.2.2.on hb2))); have hA := HW.out.2.2; have m0 : W2.cell? ⟨w.heap.size, 0, none⟩ = some (.slice h.na h.nl h.nc) := hA.cell 0; have m1 : W2.cell? ⟨w.heap.size, 1, none⟩ = some (.int .i64 f.typ) := hA.cell 1; have m2 : W2.cell? ⟨w.heap.size, 2, none⟩ = some (.int .i64 f.kind) := hA.cell 2; have m3 : W2.cell? ⟨w.heap.size, 3, none⟩ = some (.int .i64 f.rank) := hA.cell 3; have m4 : W2.cell? ⟨w.heap.size, 4, none⟩ = some (.int .i64 f.got) := hA.cell 4; have m5 : W2.cell? ⟨w.heap.size, 5, none⟩ = some (.int .i64 f.ttl) := hA.cell 5; have m6 : W2.cell? ⟨w.heap.size, 6, none⟩ = some (.slice h.sa h.sl h.sc) := hA.cell 6; have m7 : W2.cell? ⟨w.heap.size, 7, none⟩ = some (.slice h.za h.zl h.zc) := hA.cell 7; have m8 : W2.cell? ⟨w.heap.size, 8, none⟩ = some (.slice h.d.ba h.d.bl h.d.bc) := hA.cell 8; have m9 : W2.cell? ⟨w.heap.size, 9, none⟩ = some (.slice h.d.ha h.d.hl h.d.hc) := hA.cell 9; have m10 : W2.cell? ⟨w.heap.size, 10, none⟩ = some (.slice h.d.ma h.d.ml h.d.mc) := hA.cell 10; have m11 : W2.cell? ⟨w.heap.size, 11, none⟩ = some (.slice h.d.na h.d.nl h.d.nc) := hA.cell 11; have m12 : W2.cell? ⟨w.heap.size, 12, none⟩ = some (.slice h.d.ta h.d.tl h.d.tc) := hA.cell 12; clear hb2 hA))
  go_at_call 7
  refine (light_any W2 S h f (HF.out.on HW.out.1)).mono ?_
  rintro e W3 ⟨⟨⟨lb, rfl, hlb⟩⟩, hb3⟩
  have HLB := Lib.hid hlb
  have HW3 := Lib.hid (And.intro (below_on HW.out.1 hb3 (Nat.le_refl _)) (And.intro (HW.out.2.1.on hb3) (HW.out.2.2.on hb3)))
  clear hlb hb3
  clear m0 m1 m2 m3 m4 m5 m6 m7 m8 m9 m10 m11 m12
  have hA := HW3.out.2.2
  have m0 : W3.cell? ⟨w.heap.size, 0, none⟩ = some (.slice h.na h.nl h.nc) := hA.cell 0
  have m1 : W3.cell? ⟨w.heap.size, 1, none⟩ = some (.int .i64 f.typ) := hA.cell 1
  have m2 : W3.cell? ⟨w.heap.size, 2, none⟩ = some (.int .i64 f.kind) := hA.cell 2
  have m3 : W3.cell? ⟨w.heap.size, 3, none⟩ = some (.int .i64 f.rank) := hA.cell 3
  have m4 : W3.cell? ⟨w.heap.size, 4, none⟩ = some (.int .i64 f.got) := hA.cell 4
  have m5 : W3.cell? ⟨w.heap.size, 5, none⟩ = some (.int .i64 f.ttl) := hA.cell 5
  have m6 : W3.cell? ⟨w.heap.size, 6, none⟩ = some (.slice h.sa h.sl h.sc) := hA.cell 6
  have m7 : W3.cell? ⟨w.heap.size, 7, none⟩ = some (.slice h.za h.zl h.zc) := hA.cell 7
  have m8 : W3.cell? ⟨w.heap.size, 8, none⟩ = some (.slice h.d.ba h.d.bl h.d.bc) := hA.cell 8
  have m9 : W3.cell? ⟨w.heap.size, 9, none⟩ = some (.slice h.d.ha h.d.hl h.d.hc) := hA.cell 9
  have m10 : W3.cell? ⟨w.heap.size, 10, none⟩ = some (.slice h.d.ma h.d.ml h.d.mc) := hA.cell 10
  have m11 : W3.cell? ⟨w.heap.size, 11, none⟩ = some (.slice h.d.na h.d.nl h.d.nc) := hA.cell 11
  have m12 : W3.cell? ⟨w.heap.size, 12, none⟩ = some (.slice h.d.ta h.d.tl h.d.tc) := hA.cell 12
  clear hA
  cases lb with
  | false =>
    go_wp2_with (go_at_call 6; refine (answers_any _).mono ?_; rintro e W4 ⟨rfl, hb4⟩; have HW4 := Lib.hid (below_on HW3.out.1 hb4 (Nat.le_refl _)); clear hb4)
    go_ret
    exact ⟨rfl, HW4.out⟩
  | true =>
    go_wp2_with fail
    go_at_call 16
    refine (rfsound_any W3 S h f (HF.out.on HW3.out.1)).mono ?_
    rintro e W4 ⟨rfl, hb4⟩
    have HW4 := Lib.hid (And.intro (below_on HW3.out.1 hb4 (Nat.le_refl _)) (And.intro (HW3.out.2.1.on hb4) (HW3.out.2.2.on hb4)))
    clear hb4
    clear m0 m1 m2 m3 m4 m5 m6 m7 m8 m9 m10 m11 m12
    cases hFB : factB f with
    | false =>
      go_wp2_with (go_at_call 6; refine (answers_any _).mono ?_; rintro e W5 ⟨rfl, hb5⟩; have HW5 := Lib.hid (below_on HW4.out.1 hb5 (Nat.le_refl _)); clear hb5)
      go_ret
      exact ⟨rfl, HW5.out⟩
    | true =>
      have HFB := Lib.hid hFB
      have HFL := Lib.hid (HLB.out (by first | rfl | trivial) (soa_texts hFB))
      clear hFB
      have hA := HW4.out.2.2
      have m0 : W4.cell? ⟨w.heap.size, 0, none⟩ = some (.slice h.na h.nl h.nc) := hA.cell 0
      have m1 : W4.cell? ⟨w.heap.size, 1, none⟩ = some (.int .i64 f.typ) := hA.cell 1
      have m2 : W4.cell? ⟨w.heap.size, 2, none⟩ = some (.int .i64 f.kind) := hA.cell 2
      have m3 : W4.cell? ⟨w.heap.size, 3, none⟩ = some (.int .i64 f.rank) := hA.cell 3
      have m4 : W4.cell? ⟨w.heap.size, 4, none⟩ = some (.int .i64 f.got) := hA.cell 4
      have m5 : W4.cell? ⟨w.heap.size, 5, none⟩ = some (.int .i64 f.ttl) := hA.cell 5
      have m6 : W4.cell? ⟨w.heap.size, 6, none⟩ = some (.slice h.sa h.sl h.sc) := hA.cell 6
      have m7 : W4.cell? ⟨w.heap.size, 7, none⟩ = some (.slice h.za h.zl h.zc) := hA.cell 7
      have m8 : W4.cell? ⟨w.heap.size, 8, none⟩ = some (.slice h.d.ba h.d.bl h.d.bc) := hA.cell 8
      have m9 : W4.cell? ⟨w.heap.size, 9, none⟩ = some (.slice h.d.ha h.d.hl h.d.hc) := hA.cell 9
      have m10 : W4.cell? ⟨w.heap.size, 10, none⟩ = some (.slice h.d.ma h.d.ml h.d.mc) := hA.cell 10
      have m11 : W4.cell? ⟨w.heap.size, 11, none⟩ = some (.slice h.d.na h.d.nl h.d.nc) := hA.cell 11
      have m12 : W4.cell? ⟨w.heap.size, 12, none⟩ = some (.slice h.d.ta h.d.tl h.d.tc) := hA.cell 12
      clear hA
      go_wp2_with fail
      go_at_call 9
      refine (rownfact_any W4 S h f (HF.out.on HW4.out.1) HFL.out).mono ?_
      rintro e W5 ⟨⟨ki, rfl, hki, hri, hrs⟩, hb5⟩
      simp only [factC]
      have HIN := Lib.hid (And.intro hki (And.intro hri (And.intro hrs hb5)))
      have hb6 : Below W5.heap.size W5 (W5.alloc (.cells (factC ki f) 36)) := (Below.refl _ _).alloc (Nat.le_refl _) _
      have hI6 : Blk (W5.alloc (.cells (factC ki f) 36)) W5.heap.size (factC ki f) 36 := heap_alloc_new _ _
      obtain ⟨W6, hW6⟩ : ∃ q, q = W5.alloc (.cells (factC ki f) 36) := ⟨_, rfl⟩
      rw [← hW6] at hb6 hI6
      have H6 := Lib.hid (And.intro hb6 (And.intro hI6 hW6))
      clear hki hri hrs hb5 hb6 hI6 hW6
      clear m0 m1 m2 m3 m4 m5 m6 m7 m8 m9 m10 m11 m12
      go_wp2_with fail
      rw [show W5.alloc (.cells #[Value.slice ki.na ki.nl ki.nc, Value.int .i64 f.typ, Value.int .i64 f.kind, Value.int .i64 f.rank, Value.int .i64 f.got, Value.int .i64 f.ttl, Value.slice ki.sa ki.sl ki.sc, Value.slice ki.za ki.zl ki.zc, Value.slice ki.d.ba ki.d.bl ki.d.bc, Value.slice ki.d.ha ki.d.hl ki.d.hc, Value.slice ki.d.ma ki.d.ml ki.d.mc, Value.slice ki.d.na ki.d.nl ki.d.nc, Value.slice ki.d.ta ki.d.tl ki.d.tc] 36) = W6 from H6.out.2.2.symm]
      have hCI := (HW4.out.2.1.on HIN.out.2.2.2).on H6.out.1
      have hK6 : IsFact (tagged fT W6) W6 ki f := HIN.out.1.step (Same.below H6.out.1 _)
      go_at_call 8
      refine (lays_own W6 (tagged fT W6) _ C 9 9 0 [] hCI (by decide) (by decide) ki f hK6 HFL.out (by simp [offL])).mono ?_
      rintro e W7 ⟨rfl, hl7, hyes, _⟩
      obtain ⟨bz, kc, hca, hown⟩ := hyes HFB.out
      have hb47 : Below w.heap.size w W7 := (below_on (below_on HW4.out.1 HIN.out.2.2.2 (Nat.le_refl _)) H6.out.1 (Nat.le_refl _)).trans (hl7.bel.mono (by simp))
      have H7 := Lib.hid (And.intro hb47 (And.intro hca (And.intro hown (And.intro (blk_left ((HW4.out.2.2.on HIN.out.2.2.2).on H6.out.1) hl7 (by decide)) (And.intro (blk_left H6.out.2.1 hl7 (by decide)) (fact_left hK6 hl7))))))
      have HSZ := Lib.hid (show W5.heap.size ≤ W6.heap.size ∧ W6.heap.size ≤ W7.heap.size from ⟨H6.out.1.size, hl7.bel.size⟩)
      have hnb : ki.nl ≤ 9223372036854775807 := Nat.le_trans HIN.out.1.name.row.hmax (by decide)
      have hsb : ki.sl ≤ 9223372036854775807 := Nat.le_trans HIN.out.1.set.hle HIN.out.1.set.hmax
      clear hCI hK6 hl7 hyes hca hown hb47
      go_wp2_with fail
      go_loopw [8] (fun i wr => ∃ j : Nat, j ≤ ki.nl ∧ i = .int .i64 j ∧ Hid (Zap W4.heap.size W5.heap.size W7 wr)) (fun i _ => ki.nl - (intOf i).toNat)
      case atStart => exact ⟨0, Nat.zero_le _, rfl, Lib.hid (Zap.refl _ _ _)⟩
      case round =>
        obtain ⟨j, hj, rfl, hinv⟩ := hrel
        have hI := hinv.out.blk H7.out.2.2.2.2.1 (by decide)
        have i0 : wr.cell? ⟨W5.heap.size, 0, none⟩ = some (.slice ki.na ki.nl ki.nc) := hI.cell 0
        have i6 : wr.cell? ⟨W5.heap.size, 6, none⟩ = some (.slice ki.sa ki.sl ki.sc) := hI.cell 6
        clear hI
        by_cases hlt : j < ki.nl
        · obtain ⟨bn, on, hna⟩ := H7.out.2.2.2.2.2.name.row.addr hlt
          have hin := H7.out.2.2.2.2.2.nameIn (by omega) _ hna
          have hin5 := HIN.out.1.nameIn (by omega) _ hna
          have hge := HIN.out.2.1 (by omega) _ hna
          have hlt5 := tagged_lt hin5
          have hrow := H7.out.2.2.2.2.2.name.row
          rw [hna] at hrow i0
          have hc7 := hrow.at hlt
          obtain ⟨cs, T, hcs, _⟩ := hin
          obtain ⟨cs', hb', hsz⟩ := hinv.out.cells bn cs T hcs
          have hlc : on + j < cs'.size := by
            rw [Blk.cell hcs] at hc7
            rcases Nat.lt_or_ge (on + j) cs.size with h | h
            · omega
            · rw [Array.getElem?_eq_none h] at hc7; cases hc7
          obtain ⟨v0, hcell⟩ : ∃ v, wr.cell? ⟨bn, on + j, none⟩ = some v := ⟨_, (hb'.cell _).trans (Array.getElem?_eq_getElem hlc)⟩
          have hfree := hb'.free (on + j)
          have HZS := Lib.hid (hinv.out.store hge hlt5 (H7.out.2.2.2.2.2.nameIn (by omega) _ hna) (on + j) (.string ⟨#[122, 122]⟩))
          clear hin5 hge hlt5 hrow hc7 hcs hb' hsz hlc i6
          go_wp2_with fail
          go_roundw
          case rel => exact ⟨j + 1, by omega, by go_num, HZS⟩
          case measure => simp [intOf]; omega
        · have HZ1 := Lib.hid hinv.out
          clear hinv
          go_wp2_with fail
          clear i0 i6 hlt hj
          rename World => wq
          go_loopw [9] (fun i wr => ∃ j : Nat, j ≤ ki.sl ∧ i = .int .i64 j ∧ Hid (Zap W4.heap.size W5.heap.size W7 wr)) (fun i _ => ki.sl - (intOf i).toNat)
          case atStart => exact ⟨0, Nat.zero_le _, rfl, HZ1⟩
          case round =>
            obtain ⟨j, hj, rfl, hinv⟩ := hrel
            have hI := hinv.out.blk H7.out.2.2.2.2.1 (by decide)
            have i6 : wr.cell? ⟨W5.heap.size, 6, none⟩ = some (.slice ki.sa ki.sl ki.sc) := hI.cell 6
            clear hI
            by_cases hlt : j < ki.sl
            · obtain ⟨bs, os, hsa⟩ := H7.out.2.2.2.2.2.set.addr hlt
              have hset := H7.out.2.2.2.2.2.set
              have hset5 := HIN.out.1.set
              rw [hsa] at hset hset5 i6
              have hge := HIN.out.2.2.1 (by omega) _ hsa
              obtain ⟨kd, hkc, hkd, _⟩ := data_elem (hset.at hlt)
              obtain ⟨cs, T, hcs, hTT⟩ : tagged fT W7 bs := by
                obtain ⟨b', off', e', hSb, _⟩ := hset.hcells (by omega)
                cases e'
                exact hSb
              have hlt5 : bs < W5.heap.size := (hset5.at hlt).lt
              obtain ⟨cs', hb', hsz⟩ := hinv.out.cells bs cs T hcs
              have hlc : os + j * 5 + 4 < cs'.size := by
                have hc4 : W7.cell? ⟨bs, os + j * 5 + 4, none⟩ = (dataC kd)[4]? := hkc 4 (by omega)
                rw [Blk.cell hcs] at hc4
                rcases Nat.lt_or_ge (os + j * 5 + 4) cs.size with h | h
                · omega
                · rw [Array.getElem?_eq_none h] at hc4; simp [dataC] at hc4
              obtain ⟨v0, n0⟩ : ∃ v, wr.cell? ⟨bs, os + j * 5, none⟩ = some v := ⟨_, (hb'.cell _).trans (Array.getElem?_eq_getElem (by omega))⟩
              have f0 := hb'.free (os + j * 5)
              obtain ⟨v1, n1⟩ : ∃ v, wr.cell? ⟨bs, os + j * 5 + 1, none⟩ = some v := ⟨_, (hb'.cell _).trans (Array.getElem?_eq_getElem (by omega))⟩
              have f1 := hb'.free (os + j * 5 + 1)
              obtain ⟨v2, n2⟩ : ∃ v, wr.cell? ⟨bs, os + j * 5 + 2, none⟩ = some v := ⟨_, (hb'.cell _).trans (Array.getElem?_eq_getElem (by omega))⟩
              have f2 := hb'.free (os + j * 5 + 2)
              obtain ⟨v3, n3⟩ : ∃ v, wr.cell? ⟨bs, os + j * 5 + 3, none⟩ = some v := ⟨_, (hb'.cell _).trans (Array.getElem?_eq_getElem (by omega))⟩
              have f3 := hb'.free (os + j * 5 + 3)
              obtain ⟨v4, n4⟩ : ∃ v, wr.cell? ⟨bs, os + j * 5 + 4, none⟩ = some v := ⟨_, (hb'.cell _).trans (Array.getElem?_eq_getElem (by omega))⟩
              have f4 := hb'.free (os + j * 5 + 4)
              have ht7 : tagged fT W7 bs := ⟨cs, T, hcs, hTT⟩
              have HZS := Lib.hid (((((hinv.out.store hge hlt5 ht7 (os + j * 5) (.slice none 0 0)).store hge hlt5 ht7 (os + j * 5 + 1) (.slice none 0 0)).store hge hlt5 ht7 (os + j * 5 + 2) (.slice none 0 0)).store hge hlt5 ht7 (os + j * 5 + 3) (.slice none 0 0)).store hge hlt5 ht7 (os + j * 5 + 4) (.slice none 0 0))
              clear hset hset5 hge hkc hkd hcs hTT hlt5 hb' hsz hlc ht7
              go_wp2_with fail
              go_roundw
              case rel => exact ⟨j + 1, by omega, by go_num, HZS⟩
              case measure => simp [intOf]; omega
            · obtain ⟨hcz, hoz⟩ := hinv.out.cache (s := ⟨bz, kc, f, 0 + 1⟩) H7.out.2.1 (H7.out.2.2.1.mono (fun b _ ht => ⟨ht.1, Nat.le_trans HSZ.out.1 ht.2⟩))
              have hbx := hinv.out.blk H7.out.2.2.2.1 (by decide)
              have hbw : Below w.heap.size w wr := H7.out.1.trans (hinv.out.bel.mono HW4.out.1.size)
              have b0 : wr.cell? ⟨w.heap.size, 0, none⟩ = some (.slice h.na h.nl h.nc) := hbx.cell 0
              have b1 : wr.cell? ⟨w.heap.size, 1, none⟩ = some (.int .i64 f.typ) := hbx.cell 1
              have H8 := Lib.hid (And.intro hcz (And.intro hbx hbw))
              clear hinv hcz hoz hbx hbw
              go_wp2_with fail
              clear i6 hlt hj b0 b1
              go_at_call 12
              refine (look_any wr _ C 9 9 _ _ H8.out.1 h.na h.nl h.nc f.name f.typ (HF.out.on H8.out.2.2).name (Nat.le_trans (fact_small HFB.out) (by decide))).mono ?_
              rintro e W9 ⟨⟨xh, xf, xb, rfl, hox, hxb, hxf⟩, hb9⟩
              have hatl : atL [(⟨bz, kc, f, 0 + 1⟩ : Slot)] (keyP f.name f.typ) = some ⟨bz, kc, f, 0 + 1⟩ := by
                have : keyF f = keyP f.name f.typ := rfl
                simp [atL, this]
              rw [hatl] at hxb hxf
              have hxb2 : xb = true := hxb
              have hxf2 : xf = f := hxf
              subst hxb2
              subst hxf2
              simp only [factC]
              obtain ⟨W10, hW10⟩ : ∃ q, q = W9.alloc (.cells (factC xh xf) 36) := ⟨_, rfl⟩
              have hb10 : Below W9.heap.size W9 W10 := by rw [hW10]; exact (Below.refl _ _).alloc (Nat.le_refl _) _
              have hx10 : Blk W10 W9.heap.size (factC xh xf) 36 := by rw [hW10]; exact heap_alloc_new _ _
              have hbx : Blk W10 w.heap.size (factC h xf) 36 := (H8.out.2.1.on hb9).on hb10
              have hxo10 := OwnF.on hox hb10
              have hb910 := below_on hb9 hb10 (Nat.le_refl _)
              have H10 := Lib.hid (And.intro (H8.out.1.on hb910) (And.intro hbx (And.intro (below_on H8.out.2.2 hb910 (Nat.le_refl _)) (And.intro hx10 (And.intro hxo10 (And.intro hW10 hb910))))))
              have HSM := Lib.hid (rsame12_any W10 _ S xh h xf xf hxo10 (HF.out.on (below_on H8.out.2.2 hb910 (Nat.le_refl _))))
              rw [sameF_refl HFB.out] at HSM
              have m0 : W10.cell? ⟨w.heap.size, 0, none⟩ = some (.slice h.na h.nl h.nc) := hbx.cell 0
              have m1 : W10.cell? ⟨w.heap.size, 1, none⟩ = some (.int .i64 xf.typ) := hbx.cell 1
              have m2 : W10.cell? ⟨w.heap.size, 2, none⟩ = some (.int .i64 xf.kind) := hbx.cell 2
              have m3 : W10.cell? ⟨w.heap.size, 3, none⟩ = some (.int .i64 xf.rank) := hbx.cell 3
              have m4 : W10.cell? ⟨w.heap.size, 4, none⟩ = some (.int .i64 xf.got) := hbx.cell 4
              have m5 : W10.cell? ⟨w.heap.size, 5, none⟩ = some (.int .i64 xf.ttl) := hbx.cell 5
              have m6 : W10.cell? ⟨w.heap.size, 6, none⟩ = some (.slice h.sa h.sl h.sc) := hbx.cell 6
              have m7 : W10.cell? ⟨w.heap.size, 7, none⟩ = some (.slice h.za h.zl h.zc) := hbx.cell 7
              have m8 : W10.cell? ⟨w.heap.size, 8, none⟩ = some (.slice h.d.ba h.d.bl h.d.bc) := hbx.cell 8
              have m9 : W10.cell? ⟨w.heap.size, 9, none⟩ = some (.slice h.d.ha h.d.hl h.d.hc) := hbx.cell 9
              have m10 : W10.cell? ⟨w.heap.size, 10, none⟩ = some (.slice h.d.ma h.d.ml h.d.mc) := hbx.cell 10
              have m11 : W10.cell? ⟨w.heap.size, 11, none⟩ = some (.slice h.d.na h.d.nl h.d.nc) := hbx.cell 11
              have m12 : W10.cell? ⟨w.heap.size, 12, none⟩ = some (.slice h.d.ta h.d.tl h.d.tc) := hbx.cell 12
              
              rw [hW10] at m0 m1 m2 m3 m4 m5 m6 m7 m8 m9 m10 m11 m12
              simp only [factC] at m0 m1 m2 m3 m4 m5 m6 m7 m8 m9 m10 m11 m12 HSM
              clear hox hxb hxf hb9 hatl hb10 hx10 hbx hxo10 hb910 hW10
              go_wp2_with (go_at_call 14; go_loud (rw [show W9.alloc (.cells #[.slice xh.na xh.nl xh.nc, .int .i64 xf.typ, .int .i64 xf.kind, .int .i64 xf.rank, .int .i64 xf.got, .int .i64 xf.ttl, .slice xh.sa xh.sl xh.sc, .slice xh.za xh.zl xh.zc, .slice xh.d.ba xh.d.bl xh.d.bc, .slice xh.d.ha xh.d.hl xh.d.hc, .slice xh.d.ma xh.d.ml xh.d.mc, .slice xh.d.na xh.d.nl xh.d.nc, .slice xh.d.ta xh.d.tl xh.d.tc] 36) = W10 from H10.out.2.2.2.2.2.1.symm]; refine HSM.out.mono ?_; rintro e W11 ⟨rfl, hb11⟩; have HB11 := Lib.hid hb11; clear hb11))
              obtain ⟨w8, hw8⟩ : ∃ q, q = wr := ⟨_, rfl⟩
              subst hw8
              have HXS := Lib.hid (H10.out.2.2.2.2.1.on HB11.out)
              have HX10 := Lib.hid (H10.out.2.2.2.1.on HB11.out)
              have HNS := Lib.hid (show w8.heap.size ≤ W11.heap.size by have := H10.out.2.2.2.2.2.2.size; have := HB11.out.size; omega)
              have hxb : xh.sl ≤ 9223372036854775807 := Nat.le_trans HXS.out.set.hle HXS.out.set.hmax
              clear m0 m1 m2 m3 m4 m5 m6 m7 m8 m9 m10 m11 m12
              go_loopw [12] (fun i wr => ∃ j : Nat, j ≤ xh.sl ∧ i = .int .i64 j ∧ Hid (Xu w8.heap.size W11 wr)) (fun i _ => xh.sl - (intOf i).toNat)
              case atStart => exact ⟨0, Nat.zero_le _, rfl, Lib.hid (Xu.refl _ _)⟩
              case round =>
                obtain ⟨j, hj, rfl, hinv⟩ := hrel
                have i6 : wr.cell? ⟨W9.heap.size, 6, none⟩ = some (.slice xh.sa xh.sl xh.sc) := hinv.out.oth _ _ _ (HX10.out.cell 6) (fun z e => by cases e)
                by_cases hlt : j < xh.sl
                · obtain ⟨xs, xo, hsa⟩ := HXS.out.set.addr hlt
                  have hset := HXS.out.set
                  rw [hsa] at hset i6
                  obtain ⟨kd, d, hkc, hkd, hki⟩ : ∃ kd d, (∀ q, q < 5 → W11.cell? ⟨xs, xo + j * 5 + q, none⟩ = (dataC kd)[q]?) ∧ IsData W11 kd d ∧ DataIn (fun b => tagged fT W11 b ∧ w8.heap.size ≤ b) kd := by
                    obtain ⟨kd, a, b, c⟩ := data_elem (hset.at hlt)
                    exact ⟨kd, _, a, b, c⟩
                  have hk0 : W11.cell? ⟨xs, xo + j * 5, none⟩ = some (.slice kd.ba kd.bl kd.bc) := hkc 0 (by omega)
                  have HKD := Lib.hid (And.intro hk0 (And.intro hkd hki))
                  have hbb : kd.bl ≤ 9223372036854775807 := Nat.le_trans hkd.bytes.hle hkd.bytes.hcap
                  have HSA := Lib.hid hsa
                  clear hset hkc hkd hki hk0 hsa
                  go_wp2_with fail
                  clear i6
                  rename World => wo
                  go_loopw [13] (fun i wr => ∃ k : Nat, k ≤ kd.bl ∧ i = .int .i64 k ∧ Hid (Xu w8.heap.size W11 wr)) (fun i _ => kd.bl - (intOf i).toNat)
                  case atStart => exact ⟨0, Nat.zero_le _, rfl, hinv⟩
                  case round =>
                    rename_i hinv0
                    obtain ⟨k, hk, rfl, hinv⟩ := hrel
                    have i6 : wr.cell? ⟨W9.heap.size, 6, none⟩ = some (.slice (some ⟨xs, xo, none⟩) xh.sl xh.sc) := by rw [← HSA.out]; exact hinv.out.oth _ _ _ (HX10.out.cell 6) (fun z e => by cases e)
                    have k0 : wr.cell? ⟨xs, xo + j * 5, none⟩ = some (.slice kd.ba kd.bl kd.bc) := hinv.out.oth _ _ _ HKD.out.1 (fun z e => by cases e)
                    by_cases hltk : k < kd.bl
                    · obtain ⟨bb, bo, hba⟩ := HKD.out.2.1.bytes.addr hltk
                      have hrow := HKD.out.2.1.bytes
                      have hmem := HKD.out.2.2.iB (by omega) _ hba
                      rw [hba] at hrow k0
                      have hat := hrow.at hltk
                      obtain ⟨⟨cs, T, hcs, _⟩, hge⟩ := hmem
                      have hu : U8c W11 bb (bo + k) := by
                        refine ⟨_, hat.trans (by rw [List.getElem_map]), ?_, ?_⟩
                        · exact Int.natCast_nonneg _
                        · have := (d.bytes[k]'(by have := hrow.hlen; simp at this; omega)).toNat_lt
                          omega
                      obtain ⟨vb, hv, hv0, hv1⟩ := hinv.out.u8 _ _ hu
                      obtain ⟨cs', hcs'⟩ := hinv.out.blk _ _ _ hcs
                      have HS := Lib.hid (And.intro hge (And.intro hcs (And.intro hu hcs')))
                      have HX6 := Lib.hid (show wr.drew.cell? ⟨W9.heap.size, 6, none⟩ = some (.slice (some ⟨xs, xo, none⟩) xh.sl xh.sc) from i6)
                      have HK0 := Lib.hid (show wr.drew.cell? ⟨xs, xo + j * 5, none⟩ = some (.slice (some ⟨bb, bo, none⟩) kd.bl kd.bc) from k0)
                      have HV := Lib.hid (show wr.drew.cell? ⟨bb, bo + k, none⟩ = some (.int .u8 vb) from hv)
                      clear hrow hat hcs hge hu hv hcs' hba
                      go_wp2_with fail
                      refine wp_soup_tail (m := 218) 17 (by kernel_rfl) (fun x y => Below x.heap.size x y) (fun i v xw => match i with | 0 => v = .pointer (some ⟨W9.heap.size, 6, none⟩) | 1 => v = .slice ((some ⟨xs, xo, none⟩)) xh.sl xh.sc | 2 => v = .int .i64 ((j : Int)) | 3 => v = .pointer (some ⟨xs, xo + j * 5, none⟩) | 4 => v = .pointer (some ⟨xs, xo + j * 5, none⟩) | 5 => v = .slice ((some ⟨bb, bo, none⟩)) kd.bl kd.bc | 6 => v = .int .i64 ((k : Int)) | 7 => v = .pointer (some ⟨W9.heap.size, 6, none⟩) | 8 => v = .slice ((some ⟨xs, xo, none⟩)) xh.sl xh.sc | 9 => v = .int .i64 ((j : Int)) | 10 => v = .pointer (some ⟨xs, xo + j * 5, none⟩) | 11 => v = .pointer (some ⟨xs, xo + j * 5, none⟩) | 12 => v = .slice ((some ⟨bb, bo, none⟩)) kd.bl kd.bc | 13 => v = .int .i64 ((k : Int)) | 14 => v = .pointer (some ⟨bb, bo + k, none⟩) | 15 => v = .int .u8 vb | 16 => v = .int .u8 ((IntKind.u8.wrap (vb + 1))) | _ => True) rfl (by kernel_rfl) (by kernel_rfl) (fun _ _ _ h1 h2 => below_on h1 h2 (Nat.le_refl _)) (Below.refl _ _) (fun _ _ _ _ h _ => h) (dst_head (by kernel_rfl)) ?_ ?_
                      rotate_left
                      · intro a W hR hS hdep
                        have e117 : a.tmps.getD 117 undef = .slice ((some ⟨bb, bo, none⟩)) kd.bl kd.bc := hdep 5 (by decide +kernel)
                        have e118 : a.tmps.getD 118 undef = .int .i64 ((k : Int)) := hdep 6 (by decide +kernel)
                        have e128 : a.tmps.getD 128 undef = .int .u8 ((IntKind.u8.wrap (vb + 1))) := hdep 16 (by decide +kernel)
                        obtain ⟨T, df⟩ := a
                        obtain rfl : df = [] := hS.defers
                        have hT := tmps_same hS 218 rfl [112, 113, 114, 115, 116, 117, 118, 119, 120, 121, 122, 123, 124, 125, 126, 127, 128, 129] (by kernel_rfl)
                        simp only [List.foldl_cons, List.foldl_nil, List.setIfInBounds_toArray, List.set_cons_succ, List.set_cons_zero] at hT
                        have k117 : T.getD 117 undef = .slice ((some ⟨bb, bo, none⟩)) kd.bl kd.bc := e117
                        have k118 : T.getD 118 undef = .int .i64 ((k : Int)) := e118
                        have k128 : T.getD 128 undef = .int .u8 ((IntKind.u8.wrap (vb + 1))) := e128
                        clear hS hdep
                        rw [hT]
                        rw [k117]
                        clear k117 e117
                        rw [k118]
                        clear k118 e118
                        rw [k128]
                        clear k128 e128
                        clear hT
                        generalize T.getD 112 undef = u112
                        generalize T.getD 113 undef = u113
                        generalize T.getD 114 undef = u114
                        generalize T.getD 115 undef = u115
                        generalize T.getD 116 undef = u116
                        generalize T.getD 119 undef = u119
                        generalize T.getD 120 undef = u120
                        generalize T.getD 121 undef = u121
                        generalize T.getD 122 undef = u122
                        generalize T.getD 123 undef = u123
                        generalize T.getD 124 undef = u124
                        generalize T.getD 125 undef = u125
                        generalize T.getD 126 undef = u126
                        generalize T.getD 127 undef = u127
                        generalize T.getD 129 undef = u129
                        have hbx := below_on (B := wr.heap.size) (Below.drew (Below.refl _ _)) hR (Nat.le_refl _)
                        have hcv : W.cell? ⟨bb, bo + k, none⟩ = some (.int .u8 vb) := cell_keep hR HV.out
                        have hfr := (HS.out.2.2.2.on hbx).free (bo + k)
                        have hw1 : 0 ≤ IntKind.u8.wrap (vb + 1) ∧ IntKind.u8.wrap (vb + 1) ≤ 255 := by simp [IntKind.wrap, IntKind.bits, IntKind.signed]; omega
                        have HXW := Lib.hid ((hinv.out.on (by have := hinv.out.bel.size; have := HNS.out; omega) hbx).store HS.out.1 HS.out.2.1 HS.out.2.2.1 hw1.1 hw1.2)
                        clear hR hbx hw1
                        go_wp2_with fail
                        go_roundw
                        case rel => exact ⟨k + 1, by omega, by go_num, HXW⟩
                        case measure => simp [intOf]; omega
                      refine soup_cons rfl rfl (fun a W hR hS hdep K hK => ?_) ?_
                      · have e10 : a.tmps[10]?.getD undef = .pointer (some ⟨W9.heap.size, 0, none⟩) := slot_of (hS.keep 10 (by kernel_rfl))
                        go_simp
                        exact hK _ _ (Below.refl _ _) (by first | rfl | simp)
                      refine soup_cons rfl rfl (fun a W hR hS hdep K hK => ?_) ?_
                      · have e112 : a.tmps[112]?.getD undef = .pointer (some ⟨W9.heap.size, 6, none⟩) := slot_of (hdep 0 (by decide +kernel))
                        have m0 := cell_keep hR HX6.out
                        go_simp
                        exact hK _ _ (Below.refl _ _) (by first | rfl | simp)
                      refine soup_cons rfl rfl (fun a W hR hS hdep K hK => ?_) ?_
                      · have e12 : a.tmps[12]?.getD undef = .int .i64 ((j : Int)) := slot_of (hS.keep 12 (by kernel_rfl))
                        go_simp
                        exact hK _ _ (Below.refl _ _) (by first | rfl | simp)
                      refine soup_cons rfl rfl (fun a W hR hS hdep K hK => ?_) ?_
                      · have e113 : a.tmps[113]?.getD undef = .slice ((some ⟨xs, xo, none⟩)) xh.sl xh.sc := slot_of (hdep 1 (by decide +kernel))
                        have e114 : a.tmps[114]?.getD undef = .int .i64 ((j : Int)) := slot_of (hdep 2 (by decide +kernel))
                        go_simp
                        exact hK _ _ (Below.refl _ _) (by first | rfl | simp)
                      refine soup_cons rfl rfl (fun a W hR hS hdep K hK => ?_) ?_
                      · have e115 : a.tmps[115]?.getD undef = .pointer (some ⟨xs, xo + j * 5, none⟩) := slot_of (hdep 3 (by decide +kernel))
                        go_simp
                        exact hK _ _ (Below.refl _ _) (by first | rfl | simp)
                      refine soup_cons rfl rfl (fun a W hR hS hdep K hK => ?_) ?_
                      · have e116 : a.tmps[116]?.getD undef = .pointer (some ⟨xs, xo + j * 5, none⟩) := slot_of (hdep 4 (by decide +kernel))
                        have m0 := cell_keep hR HK0.out
                        go_simp
                        exact hK _ _ (Below.refl _ _) (by first | rfl | simp)
                      refine soup_cons rfl rfl (fun a W hR hS hdep K hK => ?_) ?_
                      · have e13 : a.tmps[13]?.getD undef = .int .i64 ((k : Int)) := slot_of (hS.keep 13 (by kernel_rfl))
                        go_simp
                        exact hK _ _ (Below.refl _ _) (by first | rfl | simp)
                      refine soup_cons rfl rfl (fun a W hR hS hdep K hK => ?_) ?_
                      · have e10 : a.tmps[10]?.getD undef = .pointer (some ⟨W9.heap.size, 0, none⟩) := slot_of (hS.keep 10 (by kernel_rfl))
                        go_simp
                        exact hK _ _ (Below.refl _ _) (by first | rfl | simp)
                      refine soup_cons rfl rfl (fun a W hR hS hdep K hK => ?_) ?_
                      · have e119 : a.tmps[119]?.getD undef = .pointer (some ⟨W9.heap.size, 6, none⟩) := slot_of (hdep 7 (by decide +kernel))
                        have m0 := cell_keep hR HX6.out
                        go_simp
                        exact hK _ _ (Below.refl _ _) (by first | rfl | simp)
                      refine soup_cons rfl rfl (fun a W hR hS hdep K hK => ?_) ?_
                      · have e12 : a.tmps[12]?.getD undef = .int .i64 ((j : Int)) := slot_of (hS.keep 12 (by kernel_rfl))
                        go_simp
                        exact hK _ _ (Below.refl _ _) (by first | rfl | simp)
                      refine soup_cons rfl rfl (fun a W hR hS hdep K hK => ?_) ?_
                      · have e120 : a.tmps[120]?.getD undef = .slice ((some ⟨xs, xo, none⟩)) xh.sl xh.sc := slot_of (hdep 8 (by decide +kernel))
                        have e121 : a.tmps[121]?.getD undef = .int .i64 ((j : Int)) := slot_of (hdep 9 (by decide +kernel))
                        go_simp
                        exact hK _ _ (Below.refl _ _) (by first | rfl | simp)
                      refine soup_cons rfl rfl (fun a W hR hS hdep K hK => ?_) ?_
                      · have e122 : a.tmps[122]?.getD undef = .pointer (some ⟨xs, xo + j * 5, none⟩) := slot_of (hdep 10 (by decide +kernel))
                        go_simp
                        exact hK _ _ (Below.refl _ _) (by first | rfl | simp)
                      refine soup_cons rfl rfl (fun a W hR hS hdep K hK => ?_) ?_
                      · have e123 : a.tmps[123]?.getD undef = .pointer (some ⟨xs, xo + j * 5, none⟩) := slot_of (hdep 11 (by decide +kernel))
                        have m0 := cell_keep hR HK0.out
                        go_simp
                        exact hK _ _ (Below.refl _ _) (by first | rfl | simp)
                      refine soup_cons rfl rfl (fun a W hR hS hdep K hK => ?_) ?_
                      · have e13 : a.tmps[13]?.getD undef = .int .i64 ((k : Int)) := slot_of (hS.keep 13 (by kernel_rfl))
                        go_simp
                        exact hK _ _ (Below.refl _ _) (by first | rfl | simp)
                      refine soup_cons rfl rfl (fun a W hR hS hdep K hK => ?_) ?_
                      · have e124 : a.tmps[124]?.getD undef = .slice ((some ⟨bb, bo, none⟩)) kd.bl kd.bc := slot_of (hdep 12 (by decide +kernel))
                        have e125 : a.tmps[125]?.getD undef = .int .i64 ((k : Int)) := slot_of (hdep 13 (by decide +kernel))
                        go_simp
                        exact hK _ _ (Below.refl _ _) (by first | rfl | simp)
                      refine soup_cons rfl rfl (fun a W hR hS hdep K hK => ?_) ?_
                      · have e126 : a.tmps[126]?.getD undef = .pointer (some ⟨bb, bo + k, none⟩) := slot_of (hdep 14 (by decide +kernel))
                        have m0 := cell_keep hR HV.out
                        go_simp
                        exact hK _ _ (Below.refl _ _) (by first | rfl | simp)
                      refine soup_cons rfl rfl (fun a W hR hS hdep K hK => ?_) ?_
                      · have e127 : a.tmps[127]?.getD undef = .int .u8 vb := slot_of (hdep 15 (by decide +kernel))
                        go_simp
                        exact hK _ _ (Below.refl _ _) rfl
                      exact fun j h1 h2 => absurd h1 (by omega)
                    · go_wp2_with fail
                      go_roundw
                      case rel => exact ⟨j + 1, by omega, by go_num, hinv⟩
                      case measure => simp [intOf]; omega
                · have hNw : w8.heap.size ≤ wr.heap.size := by have := hinv.out.bel.size; have := HNS.out; omega
                  have hb812 : Below w8.heap.size w8 wr := (below_on H10.out.2.2.2.2.2.2 HB11.out (Nat.le_refl _)).trans hinv.out.bel
                  have hc12 := H8.out.1.on hb812
                  have hx12 := H8.out.2.1.on hb812
                  have hw12 := below_on H8.out.2.2 hb812 (Nat.le_refl _)
                  have H12 := Lib.hid (And.intro hc12 (And.intro hx12 hw12))
                  clear hNw hb812 hc12 hx12 hw12
                  go_wp2_with fail
                  clear i6 hlt hj hinv
                  obtain ⟨w12, hw12⟩ : ∃ q, q = wr := ⟨_, rfl⟩
                  subst hw12
                  go_at_call 17
                  refine (copy_any w12 _ C 9 9 _ _ H12.out.1 (by simp)).mono ?_
                  rintro e W13 ⟨⟨D, g, rfl, hg, hcd⟩, hb13⟩
                  have H13 := Lib.hid (And.intro hcd (And.intro (H12.out.1.on hb13) (And.intro (H12.out.2.1.on hb13) (And.intro (below_on H12.out.2.2 hb13 (Nat.le_refl _)) (And.intro (hg _ (List.mem_singleton.2 rfl)).1 hb13)))))
                  clear hg hcd hb13
                  go_wp2_with fail
                  go_at_call 11
                  refine (flush_any W13 _ C 9 9 _ _ H13.out.2.1 none 0 0 [] ⟨Row.empty (by decide) (fun _ => rfl), by simp⟩ (rowIn_zero _ _)).mono ?_
                  rintro e W14 ⟨rfl, _, hl14, hon14⟩
                  obtain ⟨Mc, hMc, _, hMl⟩ := H12.out.1.ex
                  have hMlt := hMl.lt
                  have hMl13 := hMl.on (H13.out.2.2.2.2.2.block Mc hMlt)
                  obtain ⟨_, _, ⟨es13, ck13, hmap, _⟩, _⟩ := hMl13
                  have hq : W13.cell? ⟨C, 2, none⟩ = some (.map (some Mc)) := cell_keep H13.out.2.2.2.2.2 (hMc.cell 2)
                  have hon := hon14 Mc hq
                  have hcd14 := H13.out.1.other hmap hMlt hon
                  have hbx14 : Blk W14 w.heap.size (factC h xf) 36 := by
                    have hb := H13.out.2.2.1
                    rw [Blk, hon _ hb.lt (fun e => by subst e; rw [Blk, hmap] at hb; cases hb)]; exact hb
                  have hw14 : Below w.heap.size w W14 := H13.out.2.2.2.1.trans (hl14.bel.mono (by simp))
                  have H14 := Lib.hid (And.intro hcd14 (And.intro hbx14 hw14))
                  have b0 : W14.cell? ⟨w.heap.size, 0, none⟩ = some (.slice h.na h.nl h.nc) := hbx14.cell 0
                  have b1 : W14.cell? ⟨w.heap.size, 1, none⟩ = some (.int .i64 xf.typ) := hbx14.cell 1
                  clear hl14 hon14 hMc hMl hMlt hmap hq hon hcd14 hbx14 hw14
                  go_wp2_with fail
                  clear b0 b1
                  go_at_call 12
                  refine (look_any W14 _ D 9 9 _ _ H14.out.1 h.na h.nl h.nc xf.name xf.typ (HF.out.on H14.out.2.2).name (Nat.le_trans (fact_small HFB.out) (by decide))).mono ?_
                  rintro e W15 ⟨⟨yh, yf, yb, rfl, hoy, hyb, hyf⟩, hb15⟩
                  have hgf := H13.out.2.2.2.2.1
                  have hatl : atL (List.map g [(⟨bz, kc, xf, 0 + 1⟩ : Slot)]) (keyP xf.name xf.typ) = some (g ⟨bz, kc, xf, 0 + 1⟩) := by
                    have h1 : keyF (g ⟨bz, kc, xf, 0 + 1⟩).f = keyP xf.name xf.typ := by rw [hgf]; rfl
                    simp [atL, h1]
                  rw [hatl] at hyb hyf
                  have hyb2 : yb = true := hyb
                  have hyf2 : yf = xf := by rw [hyf]; exact hgf
                  subst hyb2
                  subst hyf2
                  simp only [factC]
                  obtain ⟨W16, hW16⟩ : ∃ q, q = W15.alloc (.cells (factC yh yf) 36) := ⟨_, rfl⟩
                  have hb16 : Below W15.heap.size W15 W16 := by rw [hW16]; exact (Below.refl _ _).alloc (Nat.le_refl _) _
                  have hy16 : Blk W16 W15.heap.size (factC yh yf) 36 := by rw [hW16]; exact heap_alloc_new _ _
                  have hb1416 := below_on hb15 hb16 (Nat.le_refl _)
                  have H16 := Lib.hid (And.intro (below_on H14.out.2.2 hb1416 (Nat.le_refl _)) (And.intro (H14.out.2.1.on hb1416) (And.intro hy16 (And.intro (OwnF.on hoy hb16) hW16))))
                  have b0 : ∀ o, (W15.alloc o).cell? ⟨w.heap.size, 0, none⟩ = some (.slice h.na h.nl h.nc) := fun o => ((H14.out.2.1.on hb15).on ((Below.refl _ _).alloc (Nat.le_refl _) o)).cell 0
                  clear hoy hyb hyf hb15 hgf hatl hW16 hb16 hy16 hb1416
                  go_wp2_with fail
                  rw [show W15.alloc (.cells #[.slice yh.na yh.nl yh.nc, .int .i64 yf.typ, .int .i64 yf.kind, .int .i64 yf.rank, .int .i64 yf.got, .int .i64 yf.ttl, .slice yh.sa yh.sl yh.sc, .slice yh.za yh.zl yh.zc, .slice yh.d.ba yh.d.bl yh.d.bc, .slice yh.d.ha yh.d.hl yh.d.hc, .slice yh.d.ma yh.d.ml yh.d.mc, .slice yh.d.na yh.d.nl yh.d.nc, .slice yh.d.ta yh.d.tl yh.d.tc] 36) = W16 from H16.out.2.2.2.2.symm]
                  clear b0
                  go_at_call 18
                  refine (get_nil W16 h.na h.nl h.nc now).mono ?_
                  rintro e W17 ⟨rfl, hb17⟩
                  simp only [factC, zH, zF, noDH]
                  have H17 := Lib.hid (And.intro (below_on H16.out.1 hb17 (Nat.le_refl _)) (And.intro (H16.out.2.1.on hb17) (And.intro (H16.out.2.2.1.on hb17) (OwnF.on H16.out.2.2.2.1 hb17))))
                  have b0 : ∀ o, (W17.alloc o).cell? ⟨w.heap.size, 0, none⟩ = some (.slice h.na h.nl h.nc) := fun o => (H17.out.2.1.on ((Below.refl _ _).alloc (Nat.le_refl _) o)).cell 0
                  clear hb17
                  go_wp2_with fail
                  clear b0
                  go_at_call 19
                  refine (old_nil _ h.na h.nl h.nc now).mono ?_
                  rintro e W18 ⟨rfl, hb18⟩
                  simp only [factC, zH, zF, noDH]
                  have hb18' := below_on ((Below.refl _ _).alloc (Nat.le_refl _) _) hb18 (Nat.le_refl _)
                  have H18 := Lib.hid (And.intro (below_on H17.out.1 hb18' (Nat.le_refl _)) (And.intro (H17.out.2.1.on hb18') (And.intro (H17.out.2.2.1.on hb18') (OwnF.on H17.out.2.2.2 hb18'))))
                  have b0 : ∀ o, (W18.alloc o).cell? ⟨w.heap.size, 0, none⟩ = some (.slice h.na h.nl h.nc) := fun o => (H18.out.2.1.on ((Below.refl _ _).alloc (Nat.le_refl _) o)).cell 0
                  clear hb18 hb18'
                  go_wp2_with fail
                  clear b0
                  go_at_call 12
                  refine (look_nil _ h.na h.nl h.nc).mono ?_
                  rintro e W19 ⟨rfl, hb19⟩
                  simp only [factC, zH, zF, noDH]
                  have hb19' := below_on ((Below.refl _ _).alloc (Nat.le_refl _) _) hb19 (Nat.le_refl _)
                  obtain ⟨W20, hW20⟩ : ∃ q, q = W19.alloc (.cells noF 36) := ⟨_, rfl⟩
                  have hb20 : Below W19.heap.size W19 W20 := by rw [hW20]; exact (Below.refl _ _).alloc (Nat.le_refl _) _
                  have hb1820 := below_on hb19' hb20 (Nat.le_refl _)
                  have H20 := Lib.hid (And.intro (below_on H18.out.1 hb1820 (Nat.le_refl _)) (And.intro (H18.out.2.1.on hb1820) (And.intro (H18.out.2.2.1.on hb1820) (And.intro (OwnF.on H18.out.2.2.2 hb1820) hW20))))
                  have HSN := Lib.hid (rsame12_any W20 _ S yh h yf yf H20.out.2.2.2.1 (HF.out.on H20.out.1))
                  rw [sameF_refl HFB.out] at HSN
                  have hA := H20.out.2.1
                  have hY := H20.out.2.2.1
                  have m0 : W20.cell? ⟨w.heap.size, 0, none⟩ = some (.slice h.na h.nl h.nc) := hA.cell 0
                  have m1 : W20.cell? ⟨w.heap.size, 1, none⟩ = some (.int .i64 yf.typ) := hA.cell 1
                  have m2 : W20.cell? ⟨w.heap.size, 2, none⟩ = some (.int .i64 yf.kind) := hA.cell 2
                  have m3 : W20.cell? ⟨w.heap.size, 3, none⟩ = some (.int .i64 yf.rank) := hA.cell 3
                  have m4 : W20.cell? ⟨w.heap.size, 4, none⟩ = some (.int .i64 yf.got) := hA.cell 4
                  have m5 : W20.cell? ⟨w.heap.size, 5, none⟩ = some (.int .i64 yf.ttl) := hA.cell 5
                  have m6 : W20.cell? ⟨w.heap.size, 6, none⟩ = some (.slice h.sa h.sl h.sc) := hA.cell 6
                  have m7 : W20.cell? ⟨w.heap.size, 7, none⟩ = some (.slice h.za h.zl h.zc) := hA.cell 7
                  have m8 : W20.cell? ⟨w.heap.size, 8, none⟩ = some (.slice h.d.ba h.d.bl h.d.bc) := hA.cell 8
                  have m9 : W20.cell? ⟨w.heap.size, 9, none⟩ = some (.slice h.d.ha h.d.hl h.d.hc) := hA.cell 9
                  have m10 : W20.cell? ⟨w.heap.size, 10, none⟩ = some (.slice h.d.ma h.d.ml h.d.mc) := hA.cell 10
                  have m11 : W20.cell? ⟨w.heap.size, 11, none⟩ = some (.slice h.d.na h.d.nl h.d.nc) := hA.cell 11
                  have m12 : W20.cell? ⟨w.heap.size, 12, none⟩ = some (.slice h.d.ta h.d.tl h.d.tc) := hA.cell 12
                  have n0 : W20.cell? ⟨W15.heap.size, 0, none⟩ = some (.slice yh.na yh.nl yh.nc) := hY.cell 0
                  have n1 : W20.cell? ⟨W15.heap.size, 1, none⟩ = some (.int .i64 yf.typ) := hY.cell 1
                  have n2 : W20.cell? ⟨W15.heap.size, 2, none⟩ = some (.int .i64 yf.kind) := hY.cell 2
                  have n3 : W20.cell? ⟨W15.heap.size, 3, none⟩ = some (.int .i64 yf.rank) := hY.cell 3
                  have n4 : W20.cell? ⟨W15.heap.size, 4, none⟩ = some (.int .i64 yf.got) := hY.cell 4
                  have n5 : W20.cell? ⟨W15.heap.size, 5, none⟩ = some (.int .i64 yf.ttl) := hY.cell 5
                  have n6 : W20.cell? ⟨W15.heap.size, 6, none⟩ = some (.slice yh.sa yh.sl yh.sc) := hY.cell 6
                  have n7 : W20.cell? ⟨W15.heap.size, 7, none⟩ = some (.slice yh.za yh.zl yh.zc) := hY.cell 7
                  have n8 : W20.cell? ⟨W15.heap.size, 8, none⟩ = some (.slice yh.d.ba yh.d.bl yh.d.bc) := hY.cell 8
                  have n9 : W20.cell? ⟨W15.heap.size, 9, none⟩ = some (.slice yh.d.ha yh.d.hl yh.d.hc) := hY.cell 9
                  have n10 : W20.cell? ⟨W15.heap.size, 10, none⟩ = some (.slice yh.d.ma yh.d.ml yh.d.mc) := hY.cell 10
                  have n11 : W20.cell? ⟨W15.heap.size, 11, none⟩ = some (.slice yh.d.na yh.d.nl yh.d.nc) := hY.cell 11
                  have n12 : W20.cell? ⟨W15.heap.size, 12, none⟩ = some (.slice yh.d.ta yh.d.tl yh.d.tc) := hY.cell 12
                  rw [hW20] at m0 m1 m2 m3 m4 m5 m6 m7 m8 m9 m10 m11 m12 n0 n1 n2 n3 n4 n5 n6 n7 n8 n9 n10 n11 n12
                  simp only [factC, noF] at m0 m1 m2 m3 m4 m5 m6 m7 m8 m9 m10 m11 m12 n0 n1 n2 n3 n4 n5 n6 n7 n8 n9 n10 n11 n12 HSN
                  have hW20' : W19.alloc (.cells #[.slice none 0 0, .int .i64 0, .int .i64 0, .int .i64 0, .int .i64 0, .int .i64 0, .slice none 0 0, .slice none 0 0, .slice none 0 0, .slice none 0 0, .slice none 0 0, .slice none 0 0, .slice none 0 0] 36) = W20 := hW20.symm
                  have HW20 := Lib.hid hW20'
                  clear hb19 hb19' hb20 hb1820 hA hY hW20 hW20'
                  go_wp2_with (first | (go_at_call 14; go_loud (rw [HW20.out]; refine HSN.out.mono ?_; rintro e W21 ⟨rfl, hb21⟩; have H21 := Lib.hid (And.intro (below_on H20.out.1 hb21 (Nat.le_refl _)) (H20.out.2.1.on hb21)); have hA := H21.out.2; clear hb21 m0 m1 m2 m3 m4 m5 m6 m7 m8 m9 m10 m11 m12 n0 n1 n2 n3 n4 n5 n6 n7 n8 n9 n10 n11 n12; have m0 : W21.cell? ⟨w.heap.size, 0, none⟩ = some (.slice h.na h.nl h.nc) := hA.cell 0; have m1 : W21.cell? ⟨w.heap.size, 1, none⟩ = some (.int .i64 yf.typ) := hA.cell 1; have m2 : W21.cell? ⟨w.heap.size, 2, none⟩ = some (.int .i64 yf.kind) := hA.cell 2; have m3 : W21.cell? ⟨w.heap.size, 3, none⟩ = some (.int .i64 yf.rank) := hA.cell 3; have m4 : W21.cell? ⟨w.heap.size, 4, none⟩ = some (.int .i64 yf.got) := hA.cell 4; have m5 : W21.cell? ⟨w.heap.size, 5, none⟩ = some (.int .i64 yf.ttl) := hA.cell 5; have m6 : W21.cell? ⟨w.heap.size, 6, none⟩ = some (.slice h.sa h.sl h.sc) := hA.cell 6; have m7 : W21.cell? ⟨w.heap.size, 7, none⟩ = some (.slice h.za h.zl h.zc) := hA.cell 7; have m8 : W21.cell? ⟨w.heap.size, 8, none⟩ = some (.slice h.d.ba h.d.bl h.d.bc) := hA.cell 8; have m9 : W21.cell? ⟨w.heap.size, 9, none⟩ = some (.slice h.d.ha h.d.hl h.d.hc) := hA.cell 9; have m10 : W21.cell? ⟨w.heap.size, 10, none⟩ = some (.slice h.d.ma h.d.ml h.d.mc) := hA.cell 10; have m11 : W21.cell? ⟨w.heap.size, 11, none⟩ = some (.slice h.d.na h.d.nl h.d.nc) := hA.cell 11; have m12 : W21.cell? ⟨w.heap.size, 12, none⟩ = some (.slice h.d.ta h.d.tl h.d.tc) := hA.cell 12; clear hA)) | (go_at_call 20; go_loud (refine (put_nil W21 h yf now).mono ?_; rintro e W22 ⟨rfl, hb22⟩; have H22 := Lib.hid (And.intro (below_on H21.out.1 hb22 (Nat.le_refl _)) (H21.out.2.on hb22)); have hA := H22.out.2; clear hb22 m0 m1 m2 m3 m4 m5 m6 m7 m8 m9 m10 m11 m12; have m0 : W22.cell? ⟨w.heap.size, 0, none⟩ = some (.slice h.na h.nl h.nc) := hA.cell 0; have m1 : W22.cell? ⟨w.heap.size, 1, none⟩ = some (.int .i64 yf.typ) := hA.cell 1; have m2 : W22.cell? ⟨w.heap.size, 2, none⟩ = some (.int .i64 yf.kind) := hA.cell 2; have m3 : W22.cell? ⟨w.heap.size, 3, none⟩ = some (.int .i64 yf.rank) := hA.cell 3; have m4 : W22.cell? ⟨w.heap.size, 4, none⟩ = some (.int .i64 yf.got) := hA.cell 4; have m5 : W22.cell? ⟨w.heap.size, 5, none⟩ = some (.int .i64 yf.ttl) := hA.cell 5; have m6 : W22.cell? ⟨w.heap.size, 6, none⟩ = some (.slice h.sa h.sl h.sc) := hA.cell 6; have m7 : W22.cell? ⟨w.heap.size, 7, none⟩ = some (.slice h.za h.zl h.zc) := hA.cell 7; have m8 : W22.cell? ⟨w.heap.size, 8, none⟩ = some (.slice h.d.ba h.d.bl h.d.bc) := hA.cell 8; have m9 : W22.cell? ⟨w.heap.size, 9, none⟩ = some (.slice h.d.ha h.d.hl h.d.hc) := hA.cell 9; have m10 : W22.cell? ⟨w.heap.size, 10, none⟩ = some (.slice h.d.ma h.d.ml h.d.mc) := hA.cell 10; have m11 : W22.cell? ⟨w.heap.size, 11, none⟩ = some (.slice h.d.na h.d.nl h.d.nc) := hA.cell 11; have m12 : W22.cell? ⟨w.heap.size, 12, none⟩ = some (.slice h.d.ta h.d.tl h.d.tc) := hA.cell 12; clear hA)) | (go_at_call 8; go_loud (refine (lays_nil W22 h yf).mono ?_; rintro e W23 ⟨rfl, hb23⟩; have H23 := Lib.hid (below_on H22.out.1 hb23 (Nat.le_refl _)); clear hb23 m0 m1 m2 m3 m4 m5 m6 m7 m8 m9 m10 m11 m12)) | (go_at_call 15; refine (len_nil _).mono ?_; rintro e W24 ⟨rfl, rfl⟩) | (go_at_call 11; refine (flush_nil _ _ _ _).mono ?_; rintro e W25 ⟨rfl, rfl⟩) | (go_at_call 10; refine (all_nil _).mono ?_; rintro e W26 ⟨rfl, rfl⟩) | (go_at_call 17; refine (copy_nil _).mono ?_; rintro e W27 ⟨rfl, rfl⟩))
                  go_ret
                  exact ⟨rfl, H23.out⟩
end
end Go.Proofs.YtpemdieejgldiaaGreat

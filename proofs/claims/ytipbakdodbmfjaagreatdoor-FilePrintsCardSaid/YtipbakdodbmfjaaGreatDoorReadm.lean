/- The contracts of the reader's data, of file.Data at sound data's words, and of the statements' own Exact. -/
import Derived.Test.YtipbakdodbmfjaaGreatDoorReadl
import Derived.Test.YtipbakdodbmfjaaGreatDoorRegion
import Derived.Test.YtipbakdodbmfjaaGreatDoorDatas
import Derived.Test.YtipbakdodbmfjaaGreatDoorEqual
import Derived.Test.YtipbakdodbmfjaaGreatDoorLists
import Derived.BigQuiet
namespace Go.Proofs.YtipbakdodbmfjaaGreatDoor
section
open Go.ChangeShapes Go.WideShapes Go.ChangeAt Go.RowKit

theorem rd_results {tmps : Array Value} {w : World} {R : Nat} {k : DataH} (h2 : tmps[4]? = some (.pointer (some ⟨R, 0, none⟩))) (hB : Blk w R (dataC k) 33) :
    (results Tryz.f60 tmps).run Tryz.prog w = .ok (.agg (dataC k)) w := by
  have c0 := hB.cell 0
  have c1 := hB.cell 1
  have c2 := hB.cell 2
  have c3 := hB.cell 3
  have c4 := hB.cell 4
  simp [dataC] at c0 c1 c2 c3 c4
  simp [results, go_sem, h2, c0, c1, c2, c3, c4, dataC]
theorem but_store {w w2 : World} {R X : Nat} (h : w.grownBy w2 (some R)) (hX : w.heap.size ≤ X) (i : Nat) (v : Value) : w.grownBy (w2.setCell ⟨X, i, none⟩ v) (some R) :=
  ⟨h.os, h.tape, h.output, by simpa using h.size, fun k hk hne => by rw [(but_set w2 X i v).block k (by have := h.size; omega) (fun e => by have := Option.some.inj e; omega)]; exact h.block k hk hne⟩
theorem Rd.store {w : World} {R B X : Nat} {oa : Option Addr} {ol oc : Nat} {ws : List ByteArray} (h : Rd w R B oa ol oc ws) (hX : B ≤ X) (i : Nat) (v : Value) : Rd (w.setCell ⟨X, i, none⟩ v) R B oa ol oc ws :=
  h.below ((Below.refl B w).setCell (p := ⟨X, i, none⟩) hX v) (Nat.le_refl _)
theorem row_store {w : World} {X : Nat} {ao : Option Addr} {n c : Nat} {vs : List Value} (h : Row w ao n c vs) (hne : ∀ a, ao = some a → X < a.block) (i : Nat) (v : Value) : Row (w.setCell ⟨X, i, none⟩ v) ao n c vs :=
  h.grown (but_set w X i v) fun a e => by have := hne a e; exact fun e => by have := Option.some.inj e; omega
theorem no_row (w : World) : Row w none 0 0 [] := Row.empty (by omega) (fun _ => rfl)
theorem nil_of_len {α : Type} {l : List α} (h : decide (l.length = 0) = true) : l = [] := List.eq_nil_of_length_eq_zero (of_decide_eq_true h)
/-- what the others are -/
theorem empty_b {d : DataP} (h : emptyB d true false false false false = true) : d.host = [] ∧ d.mail = [] ∧ d.nums = [] ∧ d.texts = [] := by
  simp only [emptyB, Bool.and_eq_true, Bool.false_or, Bool.true_or] at h
  exact ⟨nil_of_len h.2.1, nil_of_len h.2.2.1, nil_of_len h.2.2.2.1, nil_of_len h.2.2.2.2⟩
theorem empty_h {d : DataP} (h : emptyB d false true false false false = true) : d.bytes = [] ∧ d.mail = [] ∧ d.nums = [] ∧ d.texts = [] := by
  simp only [emptyB, Bool.and_eq_true, Bool.false_or, Bool.true_or] at h
  exact ⟨nil_of_len h.1, nil_of_len h.2.2.1, nil_of_len h.2.2.2.1, nil_of_len h.2.2.2.2⟩
theorem empty_hn {d : DataP} (h : emptyB d false true false true false = true) : d.bytes = [] ∧ d.mail = [] ∧ d.texts = [] := by
  simp only [emptyB, Bool.and_eq_true, Bool.false_or, Bool.true_or] at h
  exact ⟨nil_of_len h.1, nil_of_len h.2.2.1, nil_of_len h.2.2.2.2⟩
theorem empty_hmn {d : DataP} (h : emptyB d false true true true false = true) : d.bytes = [] ∧ d.texts = [] := by
  simp only [emptyB, Bool.and_eq_true, Bool.false_or, Bool.true_or] at h
  exact ⟨nil_of_len h.1, nil_of_len h.2.2.2.2⟩
theorem empty_t {d : DataP} (h : emptyB d false false false false true = true) : d.bytes = [] ∧ d.host = [] ∧ d.mail = [] ∧ d.nums = [] := by
  simp only [emptyB, Bool.and_eq_true, Bool.false_or, Bool.true_or] at h
  exact ⟨nil_of_len h.1, nil_of_len h.2.1, nil_of_len h.2.2.1, nil_of_len h.2.2.2.1⟩
theorem fit2_le {l : List Int} {n : Nat} (h : fitB l n 2 = true) : l.length = n ∧ ∀ z ∈ l, 0 ≤ z ∧ z ≤ 65535 ∧ z ≤ 9223372036854775807 := by
  simp only [fitB, Bool.and_eq_true, decide_eq_true_eq, List.all_eq_true] at h
  refine ⟨h.1, fun z hz => ?_⟩
  have := h.2 z hz
  simp [fitsB] at this
  omega
theorem fit4_le {l : List Int} {n : Nat} (h : fitB l n 4 = true) : l.length = n ∧ ∀ z ∈ l, 0 ≤ z ∧ z ≤ 4294967295 ∧ z ≤ 9223372036854775807 := by
  simp only [fitB, Bool.and_eq_true, decide_eq_true_eq, List.all_eq_true] at h
  refine ⟨h.1, fun z hz => ?_⟩
  have := h.2 z hz
  simp [fitsB] at this
  omega
def noH : DataH := ⟨none, 0, 0, none, 0, 0, none, 0, 0, none, 0, 0, none, 0, 0⟩
set_option maxHeartbeats 8000000 in
set_option maxRecDepth 100000 in
theorem rddata_any (w : World) (R B : Nat) (oa : Option Addr) (ol oc : Nat) (k : Int) (d : DataP) (h : Rd w R B oa ol oc ((wordsL k d).map strOf)) (hv : dataB k d = true) (hl : LightData d) (hf : ∀ z ∈ d.nums, wfi z) (hE : Env w) (hBu : Bru w) (hBR : 8 < R) :
    Calls Tryz.prog 60 #[.pointer (some ⟨R, 0, none⟩), .int .i64 k] w fun e w' => ∃ h', e = .returned (.agg (dataC h')) ∧ IsData w' h' d ∧ Rd w' R B oa ol oc [] ∧ w.grownBy w' (some R) := by
  have hwa : Below w.heap.size w (w.alloc (.cells (dataC noH) 33)) := (Below.refl _ _).alloc (Nat.le_refl _) _
  have hX : Blk (w.alloc (.cells (dataC noH) 33)) w.heap.size (dataC noH) 33 := heap_alloc_new w _
  have HRD := Lib.hid (h.on hwa)
  have HE := Lib.hid (hE.on hwa)
  have HBU := Lib.hid (hBu.on hwa)
  have HG := Lib.hid (but_of_below R hwa)
  have HX := Lib.hid hX
  have HV := Lib.hid hv
  have HF := Lib.hid hf
  have HLT := Lib.hid hl
  have HLO := Lib.hid h.low
  have hRB := h.lt
  have hBw := h.le
  have hsz1 : (w.alloc (.cells (dataC noH) 33)).heap.size = w.heap.size + 1 := by simp
  have HSZ := Lib.hid hsz1
  clear hwa hX hv hf hl hE hBu h hsz1
  have hXR : w.heap.size ≠ R := by omega
  have hlow : lowG ≤ w.heap.size := by have := HLO.out; omega
  simp only [dataC, noH] at HRD HE HBU HG HX HSZ
  rcases kind_cases k with hk | rfl | rfl | hk | rfl | rfl | rfl | rfl | ⟨⟨k1, k2⟩, hk⟩
  · exfalso
    have := HV.out
    rw [dataB_out hk] at this
    cases this
  · have hd := HV.out
    rw [show dataB 1 d = (decide (d.bytes.length = 4) && emptyB d true false false false false) from rfl] at hd
    simp only [Bool.and_eq_true, decide_eq_true_eq] at hd
    obtain ⟨e1, e2, e3, e4⟩ := empty_b hd.2
    have HCL0 := Lib.hid (four_any _ R B oa ol oc d.bytes [] (show Rd _ R B oa ol oc [strOf (joinP 46 (d.bytes.map fun c => Lib.decDigits c.toNat))] from HRD.out) HE.out hd.1)
    go_enter Tryz.func60, Tryz.ntmps60
    go_wp2_with fail
    refine HCL0.out.mono ?_
    rintro e w0 ⟨g0, c0, rfl, hr0, hfr0, hrd0, hg0⟩
    have hsz0 := hg0.size
    have hszz0 := Nat.le_of_eq HSZ.out.symm
    have HFR0 := Lib.hid (show ∀ a, (some (⟨g0, 0, none⟩ : Addr)) = some a → w.heap.size + 1 ≤ a.block from fun a e => by cases e; exact Nat.le_trans hszz0 hfr0)
    have HX0a := Lib.hid (HX.out.but hg0 hXR)
    have HG0a := Lib.hid (but_trans HG.out hg0)
    have HE0a := Lib.hid (HE.out.but hg0 HLO.out)
    have HRD0a := Lib.hid hrd0
    have HH0_0 := Lib.hid hr0
    have p0 := HX0a.out.cell 0
    simp at p0
    have pf0 := HX0a.out.free 0
    clear hr0 hfr0 hrd0 hg0
    have HX0 := Lib.hid (HX0a.out.set 0 (.slice (some ⟨g0, 0, none⟩) 4 c0))
    have HG0 := Lib.hid (but_store HG0a.out (Nat.le_refl _) 0 (.slice (some ⟨g0, 0, none⟩) 4 c0))
    have HE0 := Lib.hid (HE0a.out.below ((Below.refl w.heap.size w0).setCell (p := ⟨w.heap.size, 0, none⟩) (Nat.le_refl _) (.slice (some ⟨g0, 0, none⟩) 4 c0)) hlow)
    have HRD0 := Lib.hid (HRD0a.out.store (X := w.heap.size) hBw 0 (.slice (some ⟨g0, 0, none⟩) 4 c0))
    have HH0_1 := Lib.hid (HH0_0.out.grown (but_set w0 w.heap.size 0 (.slice (some ⟨g0, 0, none⟩) 4 c0)) (fun a e => ne_of_le (HFR0.out a e) (by omega)))
    have HBX := Lib.hid (show Blk (w0.setCell ⟨w.heap.size, 0, none⟩ (.slice (some ⟨g0, 0, none⟩) 4 c0)) w.heap.size (dataC ⟨some ⟨g0, 0, none⟩, 4, c0, none, 0, 0, none, 0, 0, none, 0, 0, none, 0, 0⟩) 33 from HX0.out)
    have z0 := setCell_self HBX.out (show (w0.setCell ⟨w.heap.size, 0, none⟩ (.slice (some ⟨g0, 0, none⟩) 4 c0)).cell? ⟨w.heap.size, 0, none⟩ = some (.slice (some ⟨g0, 0, none⟩) 4 c0) from HBX.out.cell 0)
    have y0 : (w0.setCell ⟨w.heap.size, 0, none⟩ (.slice (some ⟨g0, 0, none⟩) 4 c0)).cell? ⟨w.heap.size, 0, none⟩ = some (.slice (some ⟨g0, 0, none⟩) 4 c0) := HBX.out.cell 0
    have x0 : (w0.setCell ⟨w.heap.size, 0, none⟩ (.slice (some ⟨g0, 0, none⟩) 4 c0)).frozen? ⟨w.heap.size, 0, none⟩ = false := HBX.out.free 0
    have z1 := setCell_self HBX.out (show (w0.setCell ⟨w.heap.size, 0, none⟩ (.slice (some ⟨g0, 0, none⟩) 4 c0)).cell? ⟨w.heap.size, 1, none⟩ = some (.slice none 0 0) from HBX.out.cell 1)
    have y1 : (w0.setCell ⟨w.heap.size, 0, none⟩ (.slice (some ⟨g0, 0, none⟩) 4 c0)).cell? ⟨w.heap.size, 1, none⟩ = some (.slice none 0 0) := HBX.out.cell 1
    have x1 : (w0.setCell ⟨w.heap.size, 0, none⟩ (.slice (some ⟨g0, 0, none⟩) 4 c0)).frozen? ⟨w.heap.size, 1, none⟩ = false := HBX.out.free 1
    have z2 := setCell_self HBX.out (show (w0.setCell ⟨w.heap.size, 0, none⟩ (.slice (some ⟨g0, 0, none⟩) 4 c0)).cell? ⟨w.heap.size, 2, none⟩ = some (.slice none 0 0) from HBX.out.cell 2)
    have y2 : (w0.setCell ⟨w.heap.size, 0, none⟩ (.slice (some ⟨g0, 0, none⟩) 4 c0)).cell? ⟨w.heap.size, 2, none⟩ = some (.slice none 0 0) := HBX.out.cell 2
    have x2 : (w0.setCell ⟨w.heap.size, 0, none⟩ (.slice (some ⟨g0, 0, none⟩) 4 c0)).frozen? ⟨w.heap.size, 2, none⟩ = false := HBX.out.free 2
    have z3 := setCell_self HBX.out (show (w0.setCell ⟨w.heap.size, 0, none⟩ (.slice (some ⟨g0, 0, none⟩) 4 c0)).cell? ⟨w.heap.size, 3, none⟩ = some (.slice none 0 0) from HBX.out.cell 3)
    have y3 : (w0.setCell ⟨w.heap.size, 0, none⟩ (.slice (some ⟨g0, 0, none⟩) 4 c0)).cell? ⟨w.heap.size, 3, none⟩ = some (.slice none 0 0) := HBX.out.cell 3
    have x3 : (w0.setCell ⟨w.heap.size, 0, none⟩ (.slice (some ⟨g0, 0, none⟩) 4 c0)).frozen? ⟨w.heap.size, 3, none⟩ = false := HBX.out.free 3
    have z4 := setCell_self HBX.out (show (w0.setCell ⟨w.heap.size, 0, none⟩ (.slice (some ⟨g0, 0, none⟩) 4 c0)).cell? ⟨w.heap.size, 4, none⟩ = some (.slice none 0 0) from HBX.out.cell 4)
    have y4 : (w0.setCell ⟨w.heap.size, 0, none⟩ (.slice (some ⟨g0, 0, none⟩) 4 c0)).cell? ⟨w.heap.size, 4, none⟩ = some (.slice none 0 0) := HBX.out.cell 4
    have x4 : (w0.setCell ⟨w.heap.size, 0, none⟩ (.slice (some ⟨g0, 0, none⟩) 4 c0)).frozen? ⟨w.heap.size, 4, none⟩ = false := HBX.out.free 4
    go_wp2_with fail
    refine bodyPost_ret (v := .agg (dataC ⟨some ⟨g0, 0, none⟩, 4, c0, none, 0, 0, none, 0, 0, none, 0, 0, none, 0, 0⟩)) (rd_results rfl HBX.out) rfl ?_
    exact ⟨⟨some ⟨g0, 0, none⟩, 4, c0, none, 0, 0, none, 0, 0, none, 0, 0, none, 0, 0⟩, rfl, ⟨HH0_1.out, by rw [e1]; exact ⟨no_row _, by simp⟩, by rw [e2]; exact ⟨no_row _, by simp⟩, by rw [e3]; exact no_row _, by rw [e4]; exact ⟨no_row _, by simp⟩, HF.out⟩, HRD0.out, HG0.out⟩
  · have hd := HV.out
    rw [show dataB 28 d = (decide (d.bytes.length = 16) && emptyB d true false false false false) from rfl] at hd
    simp only [Bool.and_eq_true, decide_eq_true_eq] at hd
    obtain ⟨e1, e2, e3, e4⟩ := empty_b hd.2
    have HCL0 := Lib.hid (eight_any _ R B oa ol oc d.bytes [] (show Rd _ R B oa ol oc [strOf (joinP 58 ((pairsP d.bytes).map groupP))] from HRD.out) HE.out HBU.out hBR hd.1)
    go_enter Tryz.func60, Tryz.ntmps60
    go_wp2_with fail
    refine HCL0.out.mono ?_
    rintro e w0 ⟨g0, c0, rfl, hr0, hfr0, hrd0, hg0⟩
    have hsz0 := hg0.size
    have hszz0 := Nat.le_of_eq HSZ.out.symm
    have HFR0 := Lib.hid (show ∀ a, (some (⟨g0, 0, none⟩ : Addr)) = some a → w.heap.size + 1 ≤ a.block from fun a e => by cases e; exact Nat.le_trans hszz0 hfr0)
    have HX0a := Lib.hid (HX.out.but hg0 hXR)
    have HG0a := Lib.hid (but_trans HG.out hg0)
    have HE0a := Lib.hid (HE.out.but hg0 HLO.out)
    have HRD0a := Lib.hid hrd0
    have HH0_0 := Lib.hid hr0
    have p0 := HX0a.out.cell 0
    simp at p0
    have pf0 := HX0a.out.free 0
    clear hr0 hfr0 hrd0 hg0
    have HX0 := Lib.hid (HX0a.out.set 0 (.slice (some ⟨g0, 0, none⟩) 16 c0))
    have HG0 := Lib.hid (but_store HG0a.out (Nat.le_refl _) 0 (.slice (some ⟨g0, 0, none⟩) 16 c0))
    have HE0 := Lib.hid (HE0a.out.below ((Below.refl w.heap.size w0).setCell (p := ⟨w.heap.size, 0, none⟩) (Nat.le_refl _) (.slice (some ⟨g0, 0, none⟩) 16 c0)) hlow)
    have HRD0 := Lib.hid (HRD0a.out.store (X := w.heap.size) hBw 0 (.slice (some ⟨g0, 0, none⟩) 16 c0))
    have HH0_1 := Lib.hid (HH0_0.out.grown (but_set w0 w.heap.size 0 (.slice (some ⟨g0, 0, none⟩) 16 c0)) (fun a e => ne_of_le (HFR0.out a e) (by omega)))
    have HBX := Lib.hid (show Blk (w0.setCell ⟨w.heap.size, 0, none⟩ (.slice (some ⟨g0, 0, none⟩) 16 c0)) w.heap.size (dataC ⟨some ⟨g0, 0, none⟩, 16, c0, none, 0, 0, none, 0, 0, none, 0, 0, none, 0, 0⟩) 33 from HX0.out)
    have z0 := setCell_self HBX.out (show (w0.setCell ⟨w.heap.size, 0, none⟩ (.slice (some ⟨g0, 0, none⟩) 16 c0)).cell? ⟨w.heap.size, 0, none⟩ = some (.slice (some ⟨g0, 0, none⟩) 16 c0) from HBX.out.cell 0)
    have y0 : (w0.setCell ⟨w.heap.size, 0, none⟩ (.slice (some ⟨g0, 0, none⟩) 16 c0)).cell? ⟨w.heap.size, 0, none⟩ = some (.slice (some ⟨g0, 0, none⟩) 16 c0) := HBX.out.cell 0
    have x0 : (w0.setCell ⟨w.heap.size, 0, none⟩ (.slice (some ⟨g0, 0, none⟩) 16 c0)).frozen? ⟨w.heap.size, 0, none⟩ = false := HBX.out.free 0
    have z1 := setCell_self HBX.out (show (w0.setCell ⟨w.heap.size, 0, none⟩ (.slice (some ⟨g0, 0, none⟩) 16 c0)).cell? ⟨w.heap.size, 1, none⟩ = some (.slice none 0 0) from HBX.out.cell 1)
    have y1 : (w0.setCell ⟨w.heap.size, 0, none⟩ (.slice (some ⟨g0, 0, none⟩) 16 c0)).cell? ⟨w.heap.size, 1, none⟩ = some (.slice none 0 0) := HBX.out.cell 1
    have x1 : (w0.setCell ⟨w.heap.size, 0, none⟩ (.slice (some ⟨g0, 0, none⟩) 16 c0)).frozen? ⟨w.heap.size, 1, none⟩ = false := HBX.out.free 1
    have z2 := setCell_self HBX.out (show (w0.setCell ⟨w.heap.size, 0, none⟩ (.slice (some ⟨g0, 0, none⟩) 16 c0)).cell? ⟨w.heap.size, 2, none⟩ = some (.slice none 0 0) from HBX.out.cell 2)
    have y2 : (w0.setCell ⟨w.heap.size, 0, none⟩ (.slice (some ⟨g0, 0, none⟩) 16 c0)).cell? ⟨w.heap.size, 2, none⟩ = some (.slice none 0 0) := HBX.out.cell 2
    have x2 : (w0.setCell ⟨w.heap.size, 0, none⟩ (.slice (some ⟨g0, 0, none⟩) 16 c0)).frozen? ⟨w.heap.size, 2, none⟩ = false := HBX.out.free 2
    have z3 := setCell_self HBX.out (show (w0.setCell ⟨w.heap.size, 0, none⟩ (.slice (some ⟨g0, 0, none⟩) 16 c0)).cell? ⟨w.heap.size, 3, none⟩ = some (.slice none 0 0) from HBX.out.cell 3)
    have y3 : (w0.setCell ⟨w.heap.size, 0, none⟩ (.slice (some ⟨g0, 0, none⟩) 16 c0)).cell? ⟨w.heap.size, 3, none⟩ = some (.slice none 0 0) := HBX.out.cell 3
    have x3 : (w0.setCell ⟨w.heap.size, 0, none⟩ (.slice (some ⟨g0, 0, none⟩) 16 c0)).frozen? ⟨w.heap.size, 3, none⟩ = false := HBX.out.free 3
    have z4 := setCell_self HBX.out (show (w0.setCell ⟨w.heap.size, 0, none⟩ (.slice (some ⟨g0, 0, none⟩) 16 c0)).cell? ⟨w.heap.size, 4, none⟩ = some (.slice none 0 0) from HBX.out.cell 4)
    have y4 : (w0.setCell ⟨w.heap.size, 0, none⟩ (.slice (some ⟨g0, 0, none⟩) 16 c0)).cell? ⟨w.heap.size, 4, none⟩ = some (.slice none 0 0) := HBX.out.cell 4
    have x4 : (w0.setCell ⟨w.heap.size, 0, none⟩ (.slice (some ⟨g0, 0, none⟩) 16 c0)).frozen? ⟨w.heap.size, 4, none⟩ = false := HBX.out.free 4
    go_wp2_with fail
    refine bodyPost_ret (v := .agg (dataC ⟨some ⟨g0, 0, none⟩, 16, c0, none, 0, 0, none, 0, 0, none, 0, 0, none, 0, 0⟩)) (rd_results rfl HBX.out) rfl ?_
    exact ⟨⟨some ⟨g0, 0, none⟩, 16, c0, none, 0, 0, none, 0, 0, none, 0, 0, none, 0, 0⟩, rfl, ⟨HH0_1.out, by rw [e1]; exact ⟨no_row _, by simp⟩, by rw [e2]; exact ⟨no_row _, by simp⟩, by rw [e3]; exact no_row _, by rw [e4]; exact ⟨no_row _, by simp⟩, HF.out⟩, HRD0.out, HG0.out⟩
  · have hd := HV.out
    rw [show dataB k d = (soundB d.host && emptyB d false true false false false) by rcases hk with rfl | rfl | rfl <;> rfl] at hd
    simp only [Bool.and_eq_true] at hd
    obtain ⟨e0, e2, e3, e4⟩ := empty_h hd.2
    have hsh := hd.1
    have hzh : (ftextP d.host).length ≤ 100000 := by have := ftextP_len d.host; have := sound_size hsh; omega
    have hwd := wordsL_host (d := d) (show k = 2 ∨ k = 5 ∨ k = 12 ∨ k = 15 ∨ k = 33 by omega)
    rw [e3] at hwd
    have HRDh := Lib.hid (show Rd _ R B oa ol oc [strOf (ftextP d.host)] by have := HRD.out; rw [hwd] at this; exact this)
    clear hwd
    have HCL0 := Lib.hid (rname_any _ R B oa ol oc d.host [] HRDh.out HE.out hsh hzh)
    rcases hk with rfl | rfl | rfl
    all_goals
      go_enter Tryz.func60, Tryz.ntmps60
      go_wp2_with fail
      refine HCL0.out.mono ?_
      rintro e w0 ⟨ao0, l0, c0, rfl, hr0, hfr0, hrd0, hg0⟩
      have hsz0 := hg0.size
      have hszz0 := Nat.le_of_eq HSZ.out.symm
      have HFR0 := Lib.hid (show ∀ a, ao0 = some a → w.heap.size + 1 ≤ a.block from fun a e => Nat.le_trans hszz0 (hfr0 a e))
      have HX0a := Lib.hid (HX.out.but hg0 hXR)
      have HG0a := Lib.hid (but_trans HG.out hg0)
      have HE0a := Lib.hid (HE.out.but hg0 HLO.out)
      have HRD0a := Lib.hid hrd0
      have HH0_0 := Lib.hid hr0
      have p0 := HX0a.out.cell 1
      simp at p0
      have pf0 := HX0a.out.free 1
      clear hr0 hfr0 hrd0 hg0
      have HX0 := Lib.hid (HX0a.out.set 1 (.slice ao0 l0 c0))
      have HG0 := Lib.hid (but_store HG0a.out (Nat.le_refl _) 1 (.slice ao0 l0 c0))
      have HE0 := Lib.hid (HE0a.out.below ((Below.refl w.heap.size w0).setCell (p := ⟨w.heap.size, 1, none⟩) (Nat.le_refl _) (.slice ao0 l0 c0)) hlow)
      have HRD0 := Lib.hid (HRD0a.out.store (X := w.heap.size) hBw 1 (.slice ao0 l0 c0))
      have HH0_1 := Lib.hid (HH0_0.out.grown (but_set w0 w.heap.size 1 (.slice ao0 l0 c0)) (fun a e => ne_of_le (HFR0.out a e) (by omega)))
      have HBX := Lib.hid (show Blk (w0.setCell ⟨w.heap.size, 1, none⟩ (.slice ao0 l0 c0)) w.heap.size (dataC ⟨none, 0, 0, ao0, l0, c0, none, 0, 0, none, 0, 0, none, 0, 0⟩) 33 from HX0.out)
      have z0 := setCell_self HBX.out (show (w0.setCell ⟨w.heap.size, 1, none⟩ (.slice ao0 l0 c0)).cell? ⟨w.heap.size, 0, none⟩ = some (.slice none 0 0) from HBX.out.cell 0)
      have y0 : (w0.setCell ⟨w.heap.size, 1, none⟩ (.slice ao0 l0 c0)).cell? ⟨w.heap.size, 0, none⟩ = some (.slice none 0 0) := HBX.out.cell 0
      have x0 : (w0.setCell ⟨w.heap.size, 1, none⟩ (.slice ao0 l0 c0)).frozen? ⟨w.heap.size, 0, none⟩ = false := HBX.out.free 0
      have z1 := setCell_self HBX.out (show (w0.setCell ⟨w.heap.size, 1, none⟩ (.slice ao0 l0 c0)).cell? ⟨w.heap.size, 1, none⟩ = some (.slice ao0 l0 c0) from HBX.out.cell 1)
      have y1 : (w0.setCell ⟨w.heap.size, 1, none⟩ (.slice ao0 l0 c0)).cell? ⟨w.heap.size, 1, none⟩ = some (.slice ao0 l0 c0) := HBX.out.cell 1
      have x1 : (w0.setCell ⟨w.heap.size, 1, none⟩ (.slice ao0 l0 c0)).frozen? ⟨w.heap.size, 1, none⟩ = false := HBX.out.free 1
      have z2 := setCell_self HBX.out (show (w0.setCell ⟨w.heap.size, 1, none⟩ (.slice ao0 l0 c0)).cell? ⟨w.heap.size, 2, none⟩ = some (.slice none 0 0) from HBX.out.cell 2)
      have y2 : (w0.setCell ⟨w.heap.size, 1, none⟩ (.slice ao0 l0 c0)).cell? ⟨w.heap.size, 2, none⟩ = some (.slice none 0 0) := HBX.out.cell 2
      have x2 : (w0.setCell ⟨w.heap.size, 1, none⟩ (.slice ao0 l0 c0)).frozen? ⟨w.heap.size, 2, none⟩ = false := HBX.out.free 2
      have z3 := setCell_self HBX.out (show (w0.setCell ⟨w.heap.size, 1, none⟩ (.slice ao0 l0 c0)).cell? ⟨w.heap.size, 3, none⟩ = some (.slice none 0 0) from HBX.out.cell 3)
      have y3 : (w0.setCell ⟨w.heap.size, 1, none⟩ (.slice ao0 l0 c0)).cell? ⟨w.heap.size, 3, none⟩ = some (.slice none 0 0) := HBX.out.cell 3
      have x3 : (w0.setCell ⟨w.heap.size, 1, none⟩ (.slice ao0 l0 c0)).frozen? ⟨w.heap.size, 3, none⟩ = false := HBX.out.free 3
      have z4 := setCell_self HBX.out (show (w0.setCell ⟨w.heap.size, 1, none⟩ (.slice ao0 l0 c0)).cell? ⟨w.heap.size, 4, none⟩ = some (.slice none 0 0) from HBX.out.cell 4)
      have y4 : (w0.setCell ⟨w.heap.size, 1, none⟩ (.slice ao0 l0 c0)).cell? ⟨w.heap.size, 4, none⟩ = some (.slice none 0 0) := HBX.out.cell 4
      have x4 : (w0.setCell ⟨w.heap.size, 1, none⟩ (.slice ao0 l0 c0)).frozen? ⟨w.heap.size, 4, none⟩ = false := HBX.out.free 4
      go_wp2_with fail
      refine bodyPost_ret (v := .agg (dataC ⟨none, 0, 0, ao0, l0, c0, none, 0, 0, none, 0, 0, none, 0, 0⟩)) (rd_results rfl HBX.out) rfl ?_
      exact ⟨⟨none, 0, 0, ao0, l0, c0, none, 0, 0, none, 0, 0, none, 0, 0⟩, rfl, ⟨by rw [e0]; exact no_row _, HH0_1.out, by rw [e2]; exact ⟨no_row _, by simp⟩, by rw [e3]; exact no_row _, by rw [e4]; exact ⟨no_row _, by simp⟩, HF.out⟩, HRD0.out, HG0.out⟩
  · have hd := HV.out
    rw [show dataB 15 d = ((soundB d.host && fitB d.nums 1 2) && emptyB d false true false true false) from rfl] at hd
    simp only [Bool.and_eq_true] at hd
    obtain ⟨e0, e2, e4⟩ := empty_hn hd.2
    have hsh := hd.1.1
    have hft := fit2_le hd.1.2
    have hzh : (ftextP d.host).length ≤ 100000 := by have := ftextP_len d.host; have := sound_size hsh; omega
    have hwd := wordsL_host (d := d) (show (15 : Int) = 2 ∨ (15 : Int) = 5 ∨ (15 : Int) = 12 ∨ (15 : Int) = 15 ∨ (15 : Int) = 33 by omega)
    have HRDh := Lib.hid (show Rd _ R B oa ol oc (decS d.nums ++ [strOf (ftextP d.host)]) by have := HRD.out; rw [hwd] at this; exact this)
    clear hwd
    have HCL0 := Lib.hid (nums_any _ R B oa ol oc 1 65535 d.nums [strOf (ftextP d.host)] HRDh.out HE.out hft.1 (by omega) (by omega) hft.2)
    go_enter Tryz.func60, Tryz.ntmps60
    go_wp2_with fail
    refine HCL0.out.mono ?_
    rintro e w0 ⟨g0, c0, rfl, hr0, hfr0, hrd0, hg0⟩
    have hsz0 := hg0.size
    have hszz0 := Nat.le_of_eq HSZ.out.symm
    have HFR0 := Lib.hid (show ∀ a, (some (⟨g0, 0, none⟩ : Addr)) = some a → w.heap.size + 1 ≤ a.block from fun a e => by cases e; exact Nat.le_trans hszz0 hfr0)
    have HX0a := Lib.hid (HX.out.but hg0 hXR)
    have HG0a := Lib.hid (but_trans HG.out hg0)
    have HE0a := Lib.hid (HE.out.but hg0 HLO.out)
    have HRD0a := Lib.hid hrd0
    have HH0_0 := Lib.hid hr0
    have p0 := HX0a.out.cell 3
    simp at p0
    have pf0 := HX0a.out.free 3
    clear hr0 hfr0 hrd0 hg0
    have HX0 := Lib.hid (HX0a.out.set 3 (.slice (some ⟨g0, 0, none⟩) 1 c0))
    have HG0 := Lib.hid (but_store HG0a.out (Nat.le_refl _) 3 (.slice (some ⟨g0, 0, none⟩) 1 c0))
    have HE0 := Lib.hid (HE0a.out.below ((Below.refl w.heap.size w0).setCell (p := ⟨w.heap.size, 3, none⟩) (Nat.le_refl _) (.slice (some ⟨g0, 0, none⟩) 1 c0)) hlow)
    have HRD0 := Lib.hid (HRD0a.out.store (X := w.heap.size) hBw 3 (.slice (some ⟨g0, 0, none⟩) 1 c0))
    have HH0_1 := Lib.hid (HH0_0.out.grown (but_set w0 w.heap.size 3 (.slice (some ⟨g0, 0, none⟩) 1 c0)) (fun a e => ne_of_le (HFR0.out a e) (by omega)))
    have HCL1 := Lib.hid (rname_any _ R B oa ol oc d.host [] HRD0.out HE0.out hsh hzh)
    go_wp2_with fail
    refine HCL1.out.mono ?_
    rintro e w1 ⟨ao1, l1, c1, rfl, hr1, hfr1, hrd1, hg1⟩
    have hsz1 := hg1.size
    have hszz1 := (show w.heap.size + 1 ≤ (w0.setCell ⟨w.heap.size, 3, none⟩ (.slice (some ⟨g0, 0, none⟩) 1 c0)).heap.size by rw [World.size_setCell]; omega)
    have HFR1 := Lib.hid (show ∀ a, ao1 = some a → w.heap.size + 1 ≤ a.block from fun a e => Nat.le_trans hszz1 (hfr1 a e))
    have HH0_2 := Lib.hid (HH0_1.out.grown hg1 (fun a e => ne_of_le (HFR0.out a e) (by omega)))
    have HX1a := Lib.hid (HX0.out.but hg1 hXR)
    have HG1a := Lib.hid (but_trans HG0.out hg1)
    have HE1a := Lib.hid (HE0.out.but hg1 HLO.out)
    have HRD1a := Lib.hid hrd1
    have HH1_2 := Lib.hid hr1
    have p1 := HX1a.out.cell 1
    simp at p1
    have pf1 := HX1a.out.free 1
    clear hr1 hfr1 hrd1 hg1
    have HX1 := Lib.hid (HX1a.out.set 1 (.slice ao1 l1 c1))
    have HG1 := Lib.hid (but_store HG1a.out (Nat.le_refl _) 1 (.slice ao1 l1 c1))
    have HE1 := Lib.hid (HE1a.out.below ((Below.refl w.heap.size w1).setCell (p := ⟨w.heap.size, 1, none⟩) (Nat.le_refl _) (.slice ao1 l1 c1)) hlow)
    have HRD1 := Lib.hid (HRD1a.out.store (X := w.heap.size) hBw 1 (.slice ao1 l1 c1))
    have HH0_3 := Lib.hid (HH0_2.out.grown (but_set w1 w.heap.size 1 (.slice ao1 l1 c1)) (fun a e => ne_of_le (HFR0.out a e) (by omega)))
    have HH1_3 := Lib.hid (HH1_2.out.grown (but_set w1 w.heap.size 1 (.slice ao1 l1 c1)) (fun a e => ne_of_le (HFR1.out a e) (by omega)))
    have HBX := Lib.hid (show Blk (w1.setCell ⟨w.heap.size, 1, none⟩ (.slice ao1 l1 c1)) w.heap.size (dataC ⟨none, 0, 0, ao1, l1, c1, none, 0, 0, some ⟨g0, 0, none⟩, 1, c0, none, 0, 0⟩) 33 from HX1.out)
    have z0 := setCell_self HBX.out (show (w1.setCell ⟨w.heap.size, 1, none⟩ (.slice ao1 l1 c1)).cell? ⟨w.heap.size, 0, none⟩ = some (.slice none 0 0) from HBX.out.cell 0)
    have y0 : (w1.setCell ⟨w.heap.size, 1, none⟩ (.slice ao1 l1 c1)).cell? ⟨w.heap.size, 0, none⟩ = some (.slice none 0 0) := HBX.out.cell 0
    have x0 : (w1.setCell ⟨w.heap.size, 1, none⟩ (.slice ao1 l1 c1)).frozen? ⟨w.heap.size, 0, none⟩ = false := HBX.out.free 0
    have z1 := setCell_self HBX.out (show (w1.setCell ⟨w.heap.size, 1, none⟩ (.slice ao1 l1 c1)).cell? ⟨w.heap.size, 1, none⟩ = some (.slice ao1 l1 c1) from HBX.out.cell 1)
    have y1 : (w1.setCell ⟨w.heap.size, 1, none⟩ (.slice ao1 l1 c1)).cell? ⟨w.heap.size, 1, none⟩ = some (.slice ao1 l1 c1) := HBX.out.cell 1
    have x1 : (w1.setCell ⟨w.heap.size, 1, none⟩ (.slice ao1 l1 c1)).frozen? ⟨w.heap.size, 1, none⟩ = false := HBX.out.free 1
    have z2 := setCell_self HBX.out (show (w1.setCell ⟨w.heap.size, 1, none⟩ (.slice ao1 l1 c1)).cell? ⟨w.heap.size, 2, none⟩ = some (.slice none 0 0) from HBX.out.cell 2)
    have y2 : (w1.setCell ⟨w.heap.size, 1, none⟩ (.slice ao1 l1 c1)).cell? ⟨w.heap.size, 2, none⟩ = some (.slice none 0 0) := HBX.out.cell 2
    have x2 : (w1.setCell ⟨w.heap.size, 1, none⟩ (.slice ao1 l1 c1)).frozen? ⟨w.heap.size, 2, none⟩ = false := HBX.out.free 2
    have z3 := setCell_self HBX.out (show (w1.setCell ⟨w.heap.size, 1, none⟩ (.slice ao1 l1 c1)).cell? ⟨w.heap.size, 3, none⟩ = some (.slice (some ⟨g0, 0, none⟩) 1 c0) from HBX.out.cell 3)
    have y3 : (w1.setCell ⟨w.heap.size, 1, none⟩ (.slice ao1 l1 c1)).cell? ⟨w.heap.size, 3, none⟩ = some (.slice (some ⟨g0, 0, none⟩) 1 c0) := HBX.out.cell 3
    have x3 : (w1.setCell ⟨w.heap.size, 1, none⟩ (.slice ao1 l1 c1)).frozen? ⟨w.heap.size, 3, none⟩ = false := HBX.out.free 3
    have z4 := setCell_self HBX.out (show (w1.setCell ⟨w.heap.size, 1, none⟩ (.slice ao1 l1 c1)).cell? ⟨w.heap.size, 4, none⟩ = some (.slice none 0 0) from HBX.out.cell 4)
    have y4 : (w1.setCell ⟨w.heap.size, 1, none⟩ (.slice ao1 l1 c1)).cell? ⟨w.heap.size, 4, none⟩ = some (.slice none 0 0) := HBX.out.cell 4
    have x4 : (w1.setCell ⟨w.heap.size, 1, none⟩ (.slice ao1 l1 c1)).frozen? ⟨w.heap.size, 4, none⟩ = false := HBX.out.free 4
    go_wp2_with fail
    refine bodyPost_ret (v := .agg (dataC ⟨none, 0, 0, ao1, l1, c1, none, 0, 0, some ⟨g0, 0, none⟩, 1, c0, none, 0, 0⟩)) (rd_results rfl HBX.out) rfl ?_
    exact ⟨⟨none, 0, 0, ao1, l1, c1, none, 0, 0, some ⟨g0, 0, none⟩, 1, c0, none, 0, 0⟩, rfl, ⟨by rw [e0]; exact no_row _, HH1_3.out, by rw [e2]; exact ⟨no_row _, by simp⟩, HH0_3.out, by rw [e4]; exact ⟨no_row _, by simp⟩, HF.out⟩, HRD1.out, HG1.out⟩
  · have hd := HV.out
    rw [show dataB 6 d = (((soundB d.host && soundB d.mail) && fitB d.nums 5 4) && emptyB d false true true true false) from rfl] at hd
    simp only [Bool.and_eq_true] at hd
    obtain ⟨e0, e4⟩ := empty_hmn hd.2
    have hsh := hd.1.1.1
    have hsm := hd.1.1.2
    have hft := fit4_le hd.1.2
    have hzh : (ftextP d.host).length ≤ 100000 := by have := ftextP_len d.host; have := sound_size hsh; omega
    have hzm : (ftextP d.mail).length ≤ 100000 := by have := ftextP_len d.mail; have := sound_size hsm; omega
    have HRDh := Lib.hid (show Rd _ R B oa ol oc (strOf (ftextP d.host) :: strOf (ftextP d.mail) :: (decS d.nums ++ [])) by have := HRD.out; rw [wordsL_6] at this; simpa using this)
    have HCL0 := Lib.hid (rname_any _ R B oa ol oc d.host (strOf (ftextP d.mail) :: (decS d.nums ++ [])) HRDh.out HE.out hsh hzh)
    go_enter Tryz.func60, Tryz.ntmps60
    go_wp2_with fail
    refine HCL0.out.mono ?_
    rintro e w0 ⟨ao0, l0, c0, rfl, hr0, hfr0, hrd0, hg0⟩
    have hsz0 := hg0.size
    have hszz0 := Nat.le_of_eq HSZ.out.symm
    have HFR0 := Lib.hid (show ∀ a, ao0 = some a → w.heap.size + 1 ≤ a.block from fun a e => Nat.le_trans hszz0 (hfr0 a e))
    have HX0a := Lib.hid (HX.out.but hg0 hXR)
    have HG0a := Lib.hid (but_trans HG.out hg0)
    have HE0a := Lib.hid (HE.out.but hg0 HLO.out)
    have HRD0a := Lib.hid hrd0
    have HH0_0 := Lib.hid hr0
    have p0 := HX0a.out.cell 1
    simp at p0
    have pf0 := HX0a.out.free 1
    clear hr0 hfr0 hrd0 hg0
    have HX0 := Lib.hid (HX0a.out.set 1 (.slice ao0 l0 c0))
    have HG0 := Lib.hid (but_store HG0a.out (Nat.le_refl _) 1 (.slice ao0 l0 c0))
    have HE0 := Lib.hid (HE0a.out.below ((Below.refl w.heap.size w0).setCell (p := ⟨w.heap.size, 1, none⟩) (Nat.le_refl _) (.slice ao0 l0 c0)) hlow)
    have HRD0 := Lib.hid (HRD0a.out.store (X := w.heap.size) hBw 1 (.slice ao0 l0 c0))
    have HH0_1 := Lib.hid (HH0_0.out.grown (but_set w0 w.heap.size 1 (.slice ao0 l0 c0)) (fun a e => ne_of_le (HFR0.out a e) (by omega)))
    have HCL1 := Lib.hid (rname_any _ R B oa ol oc d.mail (decS d.nums ++ []) HRD0.out HE0.out hsm hzm)
    go_wp2_with fail
    refine HCL1.out.mono ?_
    rintro e w1 ⟨ao1, l1, c1, rfl, hr1, hfr1, hrd1, hg1⟩
    have hsz1 := hg1.size
    have hszz1 := (show w.heap.size + 1 ≤ (w0.setCell ⟨w.heap.size, 1, none⟩ (.slice ao0 l0 c0)).heap.size by rw [World.size_setCell]; omega)
    have HFR1 := Lib.hid (show ∀ a, ao1 = some a → w.heap.size + 1 ≤ a.block from fun a e => Nat.le_trans hszz1 (hfr1 a e))
    have HH0_2 := Lib.hid (HH0_1.out.grown hg1 (fun a e => ne_of_le (HFR0.out a e) (by omega)))
    have HX1a := Lib.hid (HX0.out.but hg1 hXR)
    have HG1a := Lib.hid (but_trans HG0.out hg1)
    have HE1a := Lib.hid (HE0.out.but hg1 HLO.out)
    have HRD1a := Lib.hid hrd1
    have HH1_2 := Lib.hid hr1
    have p1 := HX1a.out.cell 2
    simp at p1
    have pf1 := HX1a.out.free 2
    clear hr1 hfr1 hrd1 hg1
    have HX1 := Lib.hid (HX1a.out.set 2 (.slice ao1 l1 c1))
    have HG1 := Lib.hid (but_store HG1a.out (Nat.le_refl _) 2 (.slice ao1 l1 c1))
    have HE1 := Lib.hid (HE1a.out.below ((Below.refl w.heap.size w1).setCell (p := ⟨w.heap.size, 2, none⟩) (Nat.le_refl _) (.slice ao1 l1 c1)) hlow)
    have HRD1 := Lib.hid (HRD1a.out.store (X := w.heap.size) hBw 2 (.slice ao1 l1 c1))
    have HH0_3 := Lib.hid (HH0_2.out.grown (but_set w1 w.heap.size 2 (.slice ao1 l1 c1)) (fun a e => ne_of_le (HFR0.out a e) (by omega)))
    have HH1_3 := Lib.hid (HH1_2.out.grown (but_set w1 w.heap.size 2 (.slice ao1 l1 c1)) (fun a e => ne_of_le (HFR1.out a e) (by omega)))
    have HCL2 := Lib.hid (nums_any _ R B oa ol oc 5 4294967295 d.nums [] HRD1.out HE1.out hft.1 (by omega) (by omega) hft.2)
    go_wp2_with fail
    refine HCL2.out.mono ?_
    rintro e w2 ⟨g2, c2, rfl, hr2, hfr2, hrd2, hg2⟩
    have hsz2 := hg2.size
    have hszz2 := (show w.heap.size + 1 ≤ (w1.setCell ⟨w.heap.size, 2, none⟩ (.slice ao1 l1 c1)).heap.size by rw [World.size_setCell]; omega)
    have HFR2 := Lib.hid (show ∀ a, (some (⟨g2, 0, none⟩ : Addr)) = some a → w.heap.size + 1 ≤ a.block from fun a e => by cases e; exact Nat.le_trans hszz2 hfr2)
    have HH0_4 := Lib.hid (HH0_3.out.grown hg2 (fun a e => ne_of_le (HFR0.out a e) (by omega)))
    have HH1_4 := Lib.hid (HH1_3.out.grown hg2 (fun a e => ne_of_le (HFR1.out a e) (by omega)))
    have HX2a := Lib.hid (HX1.out.but hg2 hXR)
    have HG2a := Lib.hid (but_trans HG1.out hg2)
    have HE2a := Lib.hid (HE1.out.but hg2 HLO.out)
    have HRD2a := Lib.hid hrd2
    have HH2_4 := Lib.hid hr2
    have p2 := HX2a.out.cell 3
    simp at p2
    have pf2 := HX2a.out.free 3
    clear hr2 hfr2 hrd2 hg2
    have HX2 := Lib.hid (HX2a.out.set 3 (.slice (some ⟨g2, 0, none⟩) 5 c2))
    have HG2 := Lib.hid (but_store HG2a.out (Nat.le_refl _) 3 (.slice (some ⟨g2, 0, none⟩) 5 c2))
    have HE2 := Lib.hid (HE2a.out.below ((Below.refl w.heap.size w2).setCell (p := ⟨w.heap.size, 3, none⟩) (Nat.le_refl _) (.slice (some ⟨g2, 0, none⟩) 5 c2)) hlow)
    have HRD2 := Lib.hid (HRD2a.out.store (X := w.heap.size) hBw 3 (.slice (some ⟨g2, 0, none⟩) 5 c2))
    have HH0_5 := Lib.hid (HH0_4.out.grown (but_set w2 w.heap.size 3 (.slice (some ⟨g2, 0, none⟩) 5 c2)) (fun a e => ne_of_le (HFR0.out a e) (by omega)))
    have HH1_5 := Lib.hid (HH1_4.out.grown (but_set w2 w.heap.size 3 (.slice (some ⟨g2, 0, none⟩) 5 c2)) (fun a e => ne_of_le (HFR1.out a e) (by omega)))
    have HH2_5 := Lib.hid (HH2_4.out.grown (but_set w2 w.heap.size 3 (.slice (some ⟨g2, 0, none⟩) 5 c2)) (fun a e => ne_of_le (HFR2.out a e) (by omega)))
    have HBX := Lib.hid (show Blk (w2.setCell ⟨w.heap.size, 3, none⟩ (.slice (some ⟨g2, 0, none⟩) 5 c2)) w.heap.size (dataC ⟨none, 0, 0, ao0, l0, c0, ao1, l1, c1, some ⟨g2, 0, none⟩, 5, c2, none, 0, 0⟩) 33 from HX2.out)
    have z0 := setCell_self HBX.out (show (w2.setCell ⟨w.heap.size, 3, none⟩ (.slice (some ⟨g2, 0, none⟩) 5 c2)).cell? ⟨w.heap.size, 0, none⟩ = some (.slice none 0 0) from HBX.out.cell 0)
    have y0 : (w2.setCell ⟨w.heap.size, 3, none⟩ (.slice (some ⟨g2, 0, none⟩) 5 c2)).cell? ⟨w.heap.size, 0, none⟩ = some (.slice none 0 0) := HBX.out.cell 0
    have x0 : (w2.setCell ⟨w.heap.size, 3, none⟩ (.slice (some ⟨g2, 0, none⟩) 5 c2)).frozen? ⟨w.heap.size, 0, none⟩ = false := HBX.out.free 0
    have z1 := setCell_self HBX.out (show (w2.setCell ⟨w.heap.size, 3, none⟩ (.slice (some ⟨g2, 0, none⟩) 5 c2)).cell? ⟨w.heap.size, 1, none⟩ = some (.slice ao0 l0 c0) from HBX.out.cell 1)
    have y1 : (w2.setCell ⟨w.heap.size, 3, none⟩ (.slice (some ⟨g2, 0, none⟩) 5 c2)).cell? ⟨w.heap.size, 1, none⟩ = some (.slice ao0 l0 c0) := HBX.out.cell 1
    have x1 : (w2.setCell ⟨w.heap.size, 3, none⟩ (.slice (some ⟨g2, 0, none⟩) 5 c2)).frozen? ⟨w.heap.size, 1, none⟩ = false := HBX.out.free 1
    have z2 := setCell_self HBX.out (show (w2.setCell ⟨w.heap.size, 3, none⟩ (.slice (some ⟨g2, 0, none⟩) 5 c2)).cell? ⟨w.heap.size, 2, none⟩ = some (.slice ao1 l1 c1) from HBX.out.cell 2)
    have y2 : (w2.setCell ⟨w.heap.size, 3, none⟩ (.slice (some ⟨g2, 0, none⟩) 5 c2)).cell? ⟨w.heap.size, 2, none⟩ = some (.slice ao1 l1 c1) := HBX.out.cell 2
    have x2 : (w2.setCell ⟨w.heap.size, 3, none⟩ (.slice (some ⟨g2, 0, none⟩) 5 c2)).frozen? ⟨w.heap.size, 2, none⟩ = false := HBX.out.free 2
    have z3 := setCell_self HBX.out (show (w2.setCell ⟨w.heap.size, 3, none⟩ (.slice (some ⟨g2, 0, none⟩) 5 c2)).cell? ⟨w.heap.size, 3, none⟩ = some (.slice (some ⟨g2, 0, none⟩) 5 c2) from HBX.out.cell 3)
    have y3 : (w2.setCell ⟨w.heap.size, 3, none⟩ (.slice (some ⟨g2, 0, none⟩) 5 c2)).cell? ⟨w.heap.size, 3, none⟩ = some (.slice (some ⟨g2, 0, none⟩) 5 c2) := HBX.out.cell 3
    have x3 : (w2.setCell ⟨w.heap.size, 3, none⟩ (.slice (some ⟨g2, 0, none⟩) 5 c2)).frozen? ⟨w.heap.size, 3, none⟩ = false := HBX.out.free 3
    have z4 := setCell_self HBX.out (show (w2.setCell ⟨w.heap.size, 3, none⟩ (.slice (some ⟨g2, 0, none⟩) 5 c2)).cell? ⟨w.heap.size, 4, none⟩ = some (.slice none 0 0) from HBX.out.cell 4)
    have y4 : (w2.setCell ⟨w.heap.size, 3, none⟩ (.slice (some ⟨g2, 0, none⟩) 5 c2)).cell? ⟨w.heap.size, 4, none⟩ = some (.slice none 0 0) := HBX.out.cell 4
    have x4 : (w2.setCell ⟨w.heap.size, 3, none⟩ (.slice (some ⟨g2, 0, none⟩) 5 c2)).frozen? ⟨w.heap.size, 4, none⟩ = false := HBX.out.free 4
    go_wp2_with fail
    refine bodyPost_ret (v := .agg (dataC ⟨none, 0, 0, ao0, l0, c0, ao1, l1, c1, some ⟨g2, 0, none⟩, 5, c2, none, 0, 0⟩)) (rd_results rfl HBX.out) rfl ?_
    exact ⟨⟨none, 0, 0, ao0, l0, c0, ao1, l1, c1, some ⟨g2, 0, none⟩, 5, c2, none, 0, 0⟩, rfl, ⟨by rw [e0]; exact no_row _, HH0_5.out, HH1_5.out, HH2_5.out, by rw [e4]; exact ⟨no_row _, by simp⟩, HF.out⟩, HRD2.out, HG2.out⟩
  · have hd := HV.out
    rw [show dataB 33 d = ((soundB d.host && fitB d.nums 3 2) && emptyB d false true false true false) from rfl] at hd
    simp only [Bool.and_eq_true] at hd
    obtain ⟨e0, e2, e4⟩ := empty_hn hd.2
    have hsh := hd.1.1
    have hft := fit2_le hd.1.2
    have hzh : (ftextP d.host).length ≤ 100000 := by have := ftextP_len d.host; have := sound_size hsh; omega
    have hwd := wordsL_host (d := d) (show (33 : Int) = 2 ∨ (33 : Int) = 5 ∨ (33 : Int) = 12 ∨ (33 : Int) = 15 ∨ (33 : Int) = 33 by omega)
    have HRDh := Lib.hid (show Rd _ R B oa ol oc (decS d.nums ++ [strOf (ftextP d.host)]) by have := HRD.out; rw [hwd] at this; exact this)
    clear hwd
    have HCL0 := Lib.hid (nums_any _ R B oa ol oc 3 65535 d.nums [strOf (ftextP d.host)] HRDh.out HE.out hft.1 (by omega) (by omega) hft.2)
    go_enter Tryz.func60, Tryz.ntmps60
    go_wp2_with fail
    refine HCL0.out.mono ?_
    rintro e w0 ⟨g0, c0, rfl, hr0, hfr0, hrd0, hg0⟩
    have hsz0 := hg0.size
    have hszz0 := Nat.le_of_eq HSZ.out.symm
    have HFR0 := Lib.hid (show ∀ a, (some (⟨g0, 0, none⟩ : Addr)) = some a → w.heap.size + 1 ≤ a.block from fun a e => by cases e; exact Nat.le_trans hszz0 hfr0)
    have HX0a := Lib.hid (HX.out.but hg0 hXR)
    have HG0a := Lib.hid (but_trans HG.out hg0)
    have HE0a := Lib.hid (HE.out.but hg0 HLO.out)
    have HRD0a := Lib.hid hrd0
    have HH0_0 := Lib.hid hr0
    have p0 := HX0a.out.cell 3
    simp at p0
    have pf0 := HX0a.out.free 3
    clear hr0 hfr0 hrd0 hg0
    have HX0 := Lib.hid (HX0a.out.set 3 (.slice (some ⟨g0, 0, none⟩) 3 c0))
    have HG0 := Lib.hid (but_store HG0a.out (Nat.le_refl _) 3 (.slice (some ⟨g0, 0, none⟩) 3 c0))
    have HE0 := Lib.hid (HE0a.out.below ((Below.refl w.heap.size w0).setCell (p := ⟨w.heap.size, 3, none⟩) (Nat.le_refl _) (.slice (some ⟨g0, 0, none⟩) 3 c0)) hlow)
    have HRD0 := Lib.hid (HRD0a.out.store (X := w.heap.size) hBw 3 (.slice (some ⟨g0, 0, none⟩) 3 c0))
    have HH0_1 := Lib.hid (HH0_0.out.grown (but_set w0 w.heap.size 3 (.slice (some ⟨g0, 0, none⟩) 3 c0)) (fun a e => ne_of_le (HFR0.out a e) (by omega)))
    have HCL1 := Lib.hid (rname_any _ R B oa ol oc d.host [] HRD0.out HE0.out hsh hzh)
    go_wp2_with fail
    refine HCL1.out.mono ?_
    rintro e w1 ⟨ao1, l1, c1, rfl, hr1, hfr1, hrd1, hg1⟩
    have hsz1 := hg1.size
    have hszz1 := (show w.heap.size + 1 ≤ (w0.setCell ⟨w.heap.size, 3, none⟩ (.slice (some ⟨g0, 0, none⟩) 3 c0)).heap.size by rw [World.size_setCell]; omega)
    have HFR1 := Lib.hid (show ∀ a, ao1 = some a → w.heap.size + 1 ≤ a.block from fun a e => Nat.le_trans hszz1 (hfr1 a e))
    have HH0_2 := Lib.hid (HH0_1.out.grown hg1 (fun a e => ne_of_le (HFR0.out a e) (by omega)))
    have HX1a := Lib.hid (HX0.out.but hg1 hXR)
    have HG1a := Lib.hid (but_trans HG0.out hg1)
    have HE1a := Lib.hid (HE0.out.but hg1 HLO.out)
    have HRD1a := Lib.hid hrd1
    have HH1_2 := Lib.hid hr1
    have p1 := HX1a.out.cell 1
    simp at p1
    have pf1 := HX1a.out.free 1
    clear hr1 hfr1 hrd1 hg1
    have HX1 := Lib.hid (HX1a.out.set 1 (.slice ao1 l1 c1))
    have HG1 := Lib.hid (but_store HG1a.out (Nat.le_refl _) 1 (.slice ao1 l1 c1))
    have HE1 := Lib.hid (HE1a.out.below ((Below.refl w.heap.size w1).setCell (p := ⟨w.heap.size, 1, none⟩) (Nat.le_refl _) (.slice ao1 l1 c1)) hlow)
    have HRD1 := Lib.hid (HRD1a.out.store (X := w.heap.size) hBw 1 (.slice ao1 l1 c1))
    have HH0_3 := Lib.hid (HH0_2.out.grown (but_set w1 w.heap.size 1 (.slice ao1 l1 c1)) (fun a e => ne_of_le (HFR0.out a e) (by omega)))
    have HH1_3 := Lib.hid (HH1_2.out.grown (but_set w1 w.heap.size 1 (.slice ao1 l1 c1)) (fun a e => ne_of_le (HFR1.out a e) (by omega)))
    have HBX := Lib.hid (show Blk (w1.setCell ⟨w.heap.size, 1, none⟩ (.slice ao1 l1 c1)) w.heap.size (dataC ⟨none, 0, 0, ao1, l1, c1, none, 0, 0, some ⟨g0, 0, none⟩, 3, c0, none, 0, 0⟩) 33 from HX1.out)
    have z0 := setCell_self HBX.out (show (w1.setCell ⟨w.heap.size, 1, none⟩ (.slice ao1 l1 c1)).cell? ⟨w.heap.size, 0, none⟩ = some (.slice none 0 0) from HBX.out.cell 0)
    have y0 : (w1.setCell ⟨w.heap.size, 1, none⟩ (.slice ao1 l1 c1)).cell? ⟨w.heap.size, 0, none⟩ = some (.slice none 0 0) := HBX.out.cell 0
    have x0 : (w1.setCell ⟨w.heap.size, 1, none⟩ (.slice ao1 l1 c1)).frozen? ⟨w.heap.size, 0, none⟩ = false := HBX.out.free 0
    have z1 := setCell_self HBX.out (show (w1.setCell ⟨w.heap.size, 1, none⟩ (.slice ao1 l1 c1)).cell? ⟨w.heap.size, 1, none⟩ = some (.slice ao1 l1 c1) from HBX.out.cell 1)
    have y1 : (w1.setCell ⟨w.heap.size, 1, none⟩ (.slice ao1 l1 c1)).cell? ⟨w.heap.size, 1, none⟩ = some (.slice ao1 l1 c1) := HBX.out.cell 1
    have x1 : (w1.setCell ⟨w.heap.size, 1, none⟩ (.slice ao1 l1 c1)).frozen? ⟨w.heap.size, 1, none⟩ = false := HBX.out.free 1
    have z2 := setCell_self HBX.out (show (w1.setCell ⟨w.heap.size, 1, none⟩ (.slice ao1 l1 c1)).cell? ⟨w.heap.size, 2, none⟩ = some (.slice none 0 0) from HBX.out.cell 2)
    have y2 : (w1.setCell ⟨w.heap.size, 1, none⟩ (.slice ao1 l1 c1)).cell? ⟨w.heap.size, 2, none⟩ = some (.slice none 0 0) := HBX.out.cell 2
    have x2 : (w1.setCell ⟨w.heap.size, 1, none⟩ (.slice ao1 l1 c1)).frozen? ⟨w.heap.size, 2, none⟩ = false := HBX.out.free 2
    have z3 := setCell_self HBX.out (show (w1.setCell ⟨w.heap.size, 1, none⟩ (.slice ao1 l1 c1)).cell? ⟨w.heap.size, 3, none⟩ = some (.slice (some ⟨g0, 0, none⟩) 3 c0) from HBX.out.cell 3)
    have y3 : (w1.setCell ⟨w.heap.size, 1, none⟩ (.slice ao1 l1 c1)).cell? ⟨w.heap.size, 3, none⟩ = some (.slice (some ⟨g0, 0, none⟩) 3 c0) := HBX.out.cell 3
    have x3 : (w1.setCell ⟨w.heap.size, 1, none⟩ (.slice ao1 l1 c1)).frozen? ⟨w.heap.size, 3, none⟩ = false := HBX.out.free 3
    have z4 := setCell_self HBX.out (show (w1.setCell ⟨w.heap.size, 1, none⟩ (.slice ao1 l1 c1)).cell? ⟨w.heap.size, 4, none⟩ = some (.slice none 0 0) from HBX.out.cell 4)
    have y4 : (w1.setCell ⟨w.heap.size, 1, none⟩ (.slice ao1 l1 c1)).cell? ⟨w.heap.size, 4, none⟩ = some (.slice none 0 0) := HBX.out.cell 4
    have x4 : (w1.setCell ⟨w.heap.size, 1, none⟩ (.slice ao1 l1 c1)).frozen? ⟨w.heap.size, 4, none⟩ = false := HBX.out.free 4
    go_wp2_with fail
    refine bodyPost_ret (v := .agg (dataC ⟨none, 0, 0, ao1, l1, c1, none, 0, 0, some ⟨g0, 0, none⟩, 3, c0, none, 0, 0⟩)) (rd_results rfl HBX.out) rfl ?_
    exact ⟨⟨none, 0, 0, ao1, l1, c1, none, 0, 0, some ⟨g0, 0, none⟩, 3, c0, none, 0, 0⟩, rfl, ⟨by rw [e0]; exact no_row _, HH1_3.out, by rw [e2]; exact ⟨no_row _, by simp⟩, HH0_3.out, by rw [e4]; exact ⟨no_row _, by simp⟩, HF.out⟩, HRD1.out, HG1.out⟩
  · have hd := HV.out
    rw [show dataB 16 d = ((decide (1 ≤ d.texts.length) && (decide (d.texts.length ≤ 64) && emptyB d false false false false true)) && d.texts.all (fun s => decide (s.size ≤ 255))) from rfl] at hd
    simp only [Bool.and_eq_true, decide_eq_true_eq] at hd
    obtain ⟨e0, e1, e2, e3⟩ := empty_t hd.1.2.2
    have ht64 := hd.1.2.1
    have ht1 := hd.1.1
    have HRDh := Lib.hid (show Rd _ R B oa ol oc (quoS d.texts) by have := HRD.out; rw [wordsL_16] at this; exact this)
    clear hd
    go_enter Tryz.func60, Tryz.ntmps60
    go_wp2_with fail
    go_loopw [] (fun wr => ∃ (j : Nat) (ov : Value), j ≤ d.texts.length ∧ Hid (Rd wr R B oa ol oc (quoS (d.texts.drop j)) ∧ Blk wr w.heap.size #[.slice none 0 0, .slice none 0 0, .slice none 0 0, .slice none 0 0, ov] 33 ∧ wr.ownsRow (w.heap.size + 1) 9 1 ov j ((d.texts.take j).map .string) ∧ w.grownBy wr (some R))) (fun wr => match wr.cell? ⟨R, 0, none⟩ with | some (.slice _ q _) => q | _ => 0)
    case atStart => exact ⟨0, .slice none 0 0, Nat.zero_le _, HRDh.out, HX.out, World.ownsRow_nil _ _ _ _, HG.out⟩
    case round =>
      obtain ⟨j, ov, hj, hinv⟩ := hrel
      obtain ⟨wa0, wc0, hb0, _⟩ := hinv.out.1.row
      have m0 := hb0.cell 0
      simp at m0
      by_cases hlt : j < d.texts.length
      · have hsn := map_snoc Value.string d.texts j hlt
        have hts : d.texts[j].size ≤ 300 := HLT.out.text _ (List.getElem_mem hlt)
        have hdr : quoS (d.texts.drop j) = strOf (quotedP (d.texts[j]).data.toList) :: quoS (d.texts.drop (j + 1)) := by rw [List.drop_eq_getElem_cons hlt]; rfl
        have hln : (quoS (d.texts.drop j)).length = d.texts.length - j := by simp [quoS]
        rw [hln] at m0
        have MZ := Lib.hid m0
        have hrd := hinv.out.1
        rw [hdr] at hrd
        obtain ⟨t, hte⟩ : ∃ t, t = d.texts[j] := ⟨_, rfl⟩
        rw [← hte] at hsn hts hrd
        have hdw : Below wr.heap.size wr wr.drew := Below.drew (Below.refl _ _)
        have HSN := Lib.hid hsn
        have HW := Lib.hid (word_any wr.drew R B oa ol oc _ _ (hrd.on hdw))
        have HXD := Lib.hid (hinv.out.2.1.on hdw)
        have HOD := Lib.hid (owns_keep hinv.out.2.2.1 hdw)
        have HGD := Lib.hid (but_trans hinv.out.2.2.2 (but_of_below R hdw))
        have cx0 : wr.drew.cell? ⟨w.heap.size, 4, none⟩ = some ov := HXD.out.cell 4
        have hpos : 0 < d.texts.length - j := by omega
        have hpos2 : (0 : Int) < ((d.texts.length - j : Nat) : Int) := by omega
        have hdpos : decide ((0 : Int) < ((d.texts.length - j : Nat) : Int)) = true := by rw [decide_eq_true_eq]; omega
        clear hsn hdr hln hrd hte hdw hb0
        go_wp2_with fail
        refine wp_region_any (by kernel_rfl) ?_
        try (change wpAny _ _ _ _ _ _ _ (World.drew _))
        refine wpAny_take (i := 0) (v := ?_) rfl (by kernel_rfl) (by kernel_rfl) (by kernel_rfl) (fun _ _ _ h => h) (Or.inl ⟨?_, ?_⟩) ?_
        rotate_left
        · rfl
        · intro w; go_simp; try with_reducible rfl
        refine wpAny_act (a' := ?_) ?_ ?_
        rotate_left
        · simp only [Act.put, List.getElem_toArray, List.getElem_cons_zero, List.setIfInBounds_toArray, List.set_cons_succ, List.set_cons_zero]; rfl
        refine wpAny_take (i := 2) (v := ?_) rfl (by kernel_rfl) (by kernel_rfl) (by kernel_rfl) (fun _ _ _ h => h) (Or.inl ⟨?_, ?_⟩) ?_
        rotate_left
        · rfl
        · intro w; go_simp; try with_reducible rfl
        refine wpAny_act (a' := ?_) ?_ ?_
        rotate_left
        · simp only [Act.put, List.getElem_toArray, List.getElem_cons_succ, List.getElem_cons_zero, List.setIfInBounds_toArray, List.set_cons_succ, List.set_cons_zero]; rfl
        refine wpAny_take (i := 3) (v := ?_) rfl (by kernel_rfl) (by kernel_rfl) (by kernel_rfl) (fun _ _ _ h => h) (Or.inl ⟨?_, ?_⟩) ?_
        rotate_left
        · rfl
        · intro w; go_simp; try with_reducible rfl
        refine wpAny_act (a' := ?_) ?_ ?_
        rotate_left
        · simp only [Act.put, List.getElem_toArray, List.getElem_cons_succ, List.getElem_cons_zero, List.setIfInBounds_toArray, List.set_cons_succ, List.set_cons_zero]; rfl
        refine wpAny_ready (rs := [1, 4]) (by kernel_rfl) (by simp) ?_
        refine AllReady.cons rfl (fun K hK => ?_) ?_
        ·
          go_simp
          refine hK _ _ ?_
          clear hK K
          try simp only [Act.put, List.getElem_toArray, List.getElem_cons_succ, List.getElem_cons_zero, List.setIfInBounds_toArray, List.set_cons_zero, List.set_cons_succ]
          refine wpAny_ready (rs := [4]) (by kernel_rfl) (by simp) ?_
          refine AllReady.cons rfl (fun K hK => ?_) AllReady.nil
          go_simp
          refine HW.out.mono ?_
          rintro e w1 ⟨rfl, hrd1, hg1⟩
          have HRD1 := Lib.hid hrd1
          have HG1 := Lib.hid (but_trans HGD.out hg1)
          have HX1 := Lib.hid (HXD.out.but hg1 hXR)
          have HO1 := Lib.hid (HOD.out.kept hg1 (Or.inr (owns_ne HOD.out (by omega))))
          have cx1 : w1.cell? ⟨w.heap.size, 4, none⟩ = some ov := HX1.out.cell 4
          have HTX := Lib.hid (qtext_any w1 R B oa ol oc _ t HRD1.out hts)
          clear hrd1 hg1 HW
          refine hK _ _ ?_
          clear hK K
          try simp only [Act.put, List.getElem_toArray, List.getElem_cons_succ, List.getElem_cons_zero, List.setIfInBounds_toArray, List.set_cons_zero, List.set_cons_succ]
          refine wpAny_ready (rs := [5]) (by kernel_rfl) (by simp) ?_
          refine AllReady.cons rfl (fun K hK => ?_) AllReady.nil
          go_simp
          refine HTX.out.mono ?_
          rintro e w2 ⟨rfl, hb2⟩
          have hbs : w.heap.size + 1 ≤ w2.heap.size := by have h1 := HX1.out.lt; have h2 := hb2.size; omega
          have HX2 := HX1.out.on hb2
          have HO2 := owns_keep HO1.out hb2
          obtain ⟨i0, hi, hz0, hz1, hz2⟩ := info_parts strInfo
          obtain ⟨v', w5, hrun, hown5, _, hb6⟩ := append_one (P := Tryz.prog) w2 w2 (w.heap.size + 1) 30 30 9 i0 _ 16 Tryz.underlying30 hi hz0 hz1 hz2 rfl _ _ _ HO2 (.string t) rfl (by omega) (by omega) (Below.refl _ _) hbs
          obtain ⟨g5, cp5, rfl, _, _⟩ := row_own hown5 (by omega) (by omega)
          have HRUN := Lib.hid hrun
          have HOW := Lib.hid (show w5.ownsRow (w.heap.size + 1) 9 1 (.slice (some ⟨g5, 0, none⟩) (j + 1) cp5) (j + 1) ((d.texts.take (j + 1)).map .string) by rw [HSN.out]; exact hown5)
          have HX5 := Lib.hid (show Blk w5 w.heap.size #[.slice none 0 0, .slice none 0 0, .slice none 0 0, .slice none 0 0, ov] 33 from (hb6.block _ (Nat.lt_succ_self _)).trans HX2)
          have HRD5 := Lib.hid ((HRD1.out.on hb2).below hb6 (by omega))
          have hgb := but_trans HG1.out (but_of_below R hb2)
          have HG5 := Lib.hid (show w.grownBy w5 (some R) from ⟨by rw [hb6.os]; exact hgb.os, by rw [hb6.tape]; exact hgb.tape, by rw [hb6.output]; exact hgb.output, Nat.le_trans hgb.size hb6.size, fun q hq hne => by rw [hb6.block q (by omega)]; exact hgb.block q hq hne⟩)
          have cx2 : w2.cell? ⟨w.heap.size, 4, none⟩ = some ov := HX2.cell 4
          have cx3 : (w2.alloc (.cells #[.string t] 9)).cell? ⟨w.heap.size, 4, none⟩ = some ov := cell_keep ((Below.refl _ _).alloc (Nat.le_refl _) _) cx2
          have cx5 : w5.cell? ⟨w.heap.size, 4, none⟩ = some ov := HX5.out.cell 4
          have fx5 : w5.frozen? ⟨w.heap.size, 4, none⟩ = false := HX5.out.free 4
          clear hi hz0 hz1 hz2 hrun hown5 hb6 hgb HO2 HX2 hb2 hbs HTX
          refine hK _ _ ?_
          clear hK K
          try simp only [Act.put, List.getElem_toArray, List.getElem_cons_succ, List.getElem_cons_zero, List.setIfInBounds_toArray, List.set_cons_zero, List.set_cons_succ]
          refine wpAny_ready (rs := [6]) (by kernel_rfl) (by simp) ?_
          refine AllReady.cons rfl (fun K hK => ?_) AllReady.nil
          go_simp
          refine hK _ _ ?_
          clear hK K
          try simp only [Act.put, List.getElem_toArray, List.getElem_cons_succ, List.getElem_cons_zero, List.setIfInBounds_toArray, List.set_cons_zero, List.set_cons_succ]
          refine wpAny_ready (rs := [7]) (by kernel_rfl) (by simp) ?_
          refine AllReady.cons rfl (fun K hK => ?_) AllReady.nil
          first | refine wpOp_append_run _ rfl rfl _ _ _ rfl _ _ rfl rfl _ _ HRUN.out ?_ | (rw [if_pos (by rfl)]; refine oper_append_run _ _ _ rfl _ _ rfl rfl _ _ HRUN.out ?_)
          refine hK _ _ ?_
          clear hK K
          try simp only [Act.put, List.getElem_toArray, List.getElem_cons_succ, List.getElem_cons_zero, List.setIfInBounds_toArray, List.set_cons_zero, List.set_cons_succ]
          refine wpAny_ready (rs := [8]) (by kernel_rfl) (by simp) ?_
          refine AllReady.cons rfl (fun K hK => ?_) AllReady.nil
          go_simp
          refine hK _ _ ?_
          clear hK K
          try simp only [Act.put, List.getElem_toArray, List.getElem_cons_succ, List.getElem_cons_zero, List.setIfInBounds_toArray, List.set_cons_zero, List.set_cons_succ]
          refine wpAny_ready (rs := [9]) (by kernel_rfl) (by simp) ?_
          refine AllReady.cons rfl (fun K hK => ?_) AllReady.nil
          go_simp
          refine hK _ _ ?_
          clear hK K
          try simp only [Act.put, List.getElem_toArray, List.getElem_cons_succ, List.getElem_cons_zero, List.setIfInBounds_toArray, List.set_cons_zero, List.set_cons_succ]
          refine wpAny_done (by kernel_rfl) ?_ _
          have HXF := Lib.hid (show Blk (w5.setCell ⟨w.heap.size, 4, none⟩ (.slice (some ⟨g5, 0, none⟩) (j + 1) cp5)) w.heap.size #[.slice none 0 0, .slice none 0 0, .slice none 0 0, .slice none 0 0, (.slice (some ⟨g5, 0, none⟩) (j + 1) cp5)] 33 from HX5.out.set 4 (.slice (some ⟨g5, 0, none⟩) (j + 1) cp5))
          have HOF := Lib.hid (HOW.out.kept (but_set w5 w.heap.size 4 (.slice (some ⟨g5, 0, none⟩) (j + 1) cp5)) (Or.inr (owns_ne HOW.out (Nat.lt_succ_self _))))
          have HRF := Lib.hid (HRD5.out.store (X := w.heap.size) hBw 4 (.slice (some ⟨g5, 0, none⟩) (j + 1) cp5))
          have HGF := Lib.hid (but_store HG5.out (Nat.le_refl _) 4 (.slice (some ⟨g5, 0, none⟩) (j + 1) cp5))
          go_wp2_with fail
          go_roundw
          case rel => exact ⟨j + 1, (.slice (some ⟨g5, 0, none⟩) (j + 1) cp5), by omega, HRF.out, HXF.out, HOF.out, HGF.out⟩
          case measure =>
            obtain ⟨wa1, wc1, hb1, _⟩ := HRF.out.row
            have m1 := hb1.cell 0
            simp at m1
            simp only [m1, MZ.out]
            simp [quoS]
            omega
        refine AllReady.cons rfl (fun K hK => ?_) ?_
        ·
          go_simp
          refine HW.out.mono ?_
          rintro e w1 ⟨rfl, hrd1, hg1⟩
          have HRD1 := Lib.hid hrd1
          have HG1 := Lib.hid (but_trans HGD.out hg1)
          have HX1 := Lib.hid (HXD.out.but hg1 hXR)
          have HO1 := Lib.hid (HOD.out.kept hg1 (Or.inr (owns_ne HOD.out (by omega))))
          have cx1 : w1.cell? ⟨w.heap.size, 4, none⟩ = some ov := HX1.out.cell 4
          have HTX := Lib.hid (qtext_any w1 R B oa ol oc _ t HRD1.out hts)
          clear hrd1 hg1 HW
          refine hK _ _ ?_
          clear hK K
          try simp only [Act.put, List.getElem_toArray, List.getElem_cons_succ, List.getElem_cons_zero, List.setIfInBounds_toArray, List.set_cons_zero, List.set_cons_succ]
          refine wpAny_ready (rs := [1, 5]) (by kernel_rfl) (by simp) ?_
          refine AllReady.cons rfl (fun K hK => ?_) ?_
          ·
            go_simp
            refine hK _ _ ?_
            clear hK K
            try simp only [Act.put, List.getElem_toArray, List.getElem_cons_succ, List.getElem_cons_zero, List.setIfInBounds_toArray, List.set_cons_zero, List.set_cons_succ]
            refine wpAny_ready (rs := [5]) (by kernel_rfl) (by simp) ?_
            refine AllReady.cons rfl (fun K hK => ?_) AllReady.nil
            go_simp
            refine HTX.out.mono ?_
            rintro e w2 ⟨rfl, hb2⟩
            have hbs : w.heap.size + 1 ≤ w2.heap.size := by have h1 := HX1.out.lt; have h2 := hb2.size; omega
            have HX2 := HX1.out.on hb2
            have HO2 := owns_keep HO1.out hb2
            obtain ⟨i0, hi, hz0, hz1, hz2⟩ := info_parts strInfo
            obtain ⟨v', w5, hrun, hown5, _, hb6⟩ := append_one (P := Tryz.prog) w2 w2 (w.heap.size + 1) 30 30 9 i0 _ 16 Tryz.underlying30 hi hz0 hz1 hz2 rfl _ _ _ HO2 (.string t) rfl (by omega) (by omega) (Below.refl _ _) hbs
            obtain ⟨g5, cp5, rfl, _, _⟩ := row_own hown5 (by omega) (by omega)
            have HRUN := Lib.hid hrun
            have HOW := Lib.hid (show w5.ownsRow (w.heap.size + 1) 9 1 (.slice (some ⟨g5, 0, none⟩) (j + 1) cp5) (j + 1) ((d.texts.take (j + 1)).map .string) by rw [HSN.out]; exact hown5)
            have HX5 := Lib.hid (show Blk w5 w.heap.size #[.slice none 0 0, .slice none 0 0, .slice none 0 0, .slice none 0 0, ov] 33 from (hb6.block _ (Nat.lt_succ_self _)).trans HX2)
            have HRD5 := Lib.hid ((HRD1.out.on hb2).below hb6 (by omega))
            have hgb := but_trans HG1.out (but_of_below R hb2)
            have HG5 := Lib.hid (show w.grownBy w5 (some R) from ⟨by rw [hb6.os]; exact hgb.os, by rw [hb6.tape]; exact hgb.tape, by rw [hb6.output]; exact hgb.output, Nat.le_trans hgb.size hb6.size, fun q hq hne => by rw [hb6.block q (by omega)]; exact hgb.block q hq hne⟩)
            have cx2 : w2.cell? ⟨w.heap.size, 4, none⟩ = some ov := HX2.cell 4
            have cx3 : (w2.alloc (.cells #[.string t] 9)).cell? ⟨w.heap.size, 4, none⟩ = some ov := cell_keep ((Below.refl _ _).alloc (Nat.le_refl _) _) cx2
            have cx5 : w5.cell? ⟨w.heap.size, 4, none⟩ = some ov := HX5.out.cell 4
            have fx5 : w5.frozen? ⟨w.heap.size, 4, none⟩ = false := HX5.out.free 4
            clear hi hz0 hz1 hz2 hrun hown5 hb6 hgb HO2 HX2 hb2 hbs HTX
            refine hK _ _ ?_
            clear hK K
            try simp only [Act.put, List.getElem_toArray, List.getElem_cons_succ, List.getElem_cons_zero, List.setIfInBounds_toArray, List.set_cons_zero, List.set_cons_succ]
            refine wpAny_ready (rs := [6]) (by kernel_rfl) (by simp) ?_
            refine AllReady.cons rfl (fun K hK => ?_) AllReady.nil
            go_simp
            refine hK _ _ ?_
            clear hK K
            try simp only [Act.put, List.getElem_toArray, List.getElem_cons_succ, List.getElem_cons_zero, List.setIfInBounds_toArray, List.set_cons_zero, List.set_cons_succ]
            refine wpAny_ready (rs := [7]) (by kernel_rfl) (by simp) ?_
            refine AllReady.cons rfl (fun K hK => ?_) AllReady.nil
            first | refine wpOp_append_run _ rfl rfl _ _ _ rfl _ _ rfl rfl _ _ HRUN.out ?_ | (rw [if_pos (by rfl)]; refine oper_append_run _ _ _ rfl _ _ rfl rfl _ _ HRUN.out ?_)
            refine hK _ _ ?_
            clear hK K
            try simp only [Act.put, List.getElem_toArray, List.getElem_cons_succ, List.getElem_cons_zero, List.setIfInBounds_toArray, List.set_cons_zero, List.set_cons_succ]
            refine wpAny_ready (rs := [8]) (by kernel_rfl) (by simp) ?_
            refine AllReady.cons rfl (fun K hK => ?_) AllReady.nil
            go_simp
            refine hK _ _ ?_
            clear hK K
            try simp only [Act.put, List.getElem_toArray, List.getElem_cons_succ, List.getElem_cons_zero, List.setIfInBounds_toArray, List.set_cons_zero, List.set_cons_succ]
            refine wpAny_ready (rs := [9]) (by kernel_rfl) (by simp) ?_
            refine AllReady.cons rfl (fun K hK => ?_) AllReady.nil
            go_simp
            refine hK _ _ ?_
            clear hK K
            try simp only [Act.put, List.getElem_toArray, List.getElem_cons_succ, List.getElem_cons_zero, List.setIfInBounds_toArray, List.set_cons_zero, List.set_cons_succ]
            refine wpAny_done (by kernel_rfl) ?_ _
            have HXF := Lib.hid (show Blk (w5.setCell ⟨w.heap.size, 4, none⟩ (.slice (some ⟨g5, 0, none⟩) (j + 1) cp5)) w.heap.size #[.slice none 0 0, .slice none 0 0, .slice none 0 0, .slice none 0 0, (.slice (some ⟨g5, 0, none⟩) (j + 1) cp5)] 33 from HX5.out.set 4 (.slice (some ⟨g5, 0, none⟩) (j + 1) cp5))
            have HOF := Lib.hid (HOW.out.kept (but_set w5 w.heap.size 4 (.slice (some ⟨g5, 0, none⟩) (j + 1) cp5)) (Or.inr (owns_ne HOW.out (Nat.lt_succ_self _))))
            have HRF := Lib.hid (HRD5.out.store (X := w.heap.size) hBw 4 (.slice (some ⟨g5, 0, none⟩) (j + 1) cp5))
            have HGF := Lib.hid (but_store HG5.out (Nat.le_refl _) 4 (.slice (some ⟨g5, 0, none⟩) (j + 1) cp5))
            go_wp2_with fail
            go_roundw
            case rel => exact ⟨j + 1, (.slice (some ⟨g5, 0, none⟩) (j + 1) cp5), by omega, HRF.out, HXF.out, HOF.out, HGF.out⟩
            case measure =>
              obtain ⟨wa1, wc1, hb1, _⟩ := HRF.out.row
              have m1 := hb1.cell 0
              simp at m1
              simp only [m1, MZ.out]
              simp [quoS]
              omega
          refine AllReady.cons rfl (fun K hK => ?_) ?_
          ·
            go_simp
            refine HTX.out.mono ?_
            rintro e w2 ⟨rfl, hb2⟩
            have hbs : w.heap.size + 1 ≤ w2.heap.size := by have h1 := HX1.out.lt; have h2 := hb2.size; omega
            have HX2 := HX1.out.on hb2
            have HO2 := owns_keep HO1.out hb2
            obtain ⟨i0, hi, hz0, hz1, hz2⟩ := info_parts strInfo
            obtain ⟨v', w5, hrun, hown5, _, hb6⟩ := append_one (P := Tryz.prog) w2 w2 (w.heap.size + 1) 30 30 9 i0 _ 16 Tryz.underlying30 hi hz0 hz1 hz2 rfl _ _ _ HO2 (.string t) rfl (by omega) (by omega) (Below.refl _ _) hbs
            obtain ⟨g5, cp5, rfl, _, _⟩ := row_own hown5 (by omega) (by omega)
            have HRUN := Lib.hid hrun
            have HOW := Lib.hid (show w5.ownsRow (w.heap.size + 1) 9 1 (.slice (some ⟨g5, 0, none⟩) (j + 1) cp5) (j + 1) ((d.texts.take (j + 1)).map .string) by rw [HSN.out]; exact hown5)
            have HX5 := Lib.hid (show Blk w5 w.heap.size #[.slice none 0 0, .slice none 0 0, .slice none 0 0, .slice none 0 0, ov] 33 from (hb6.block _ (Nat.lt_succ_self _)).trans HX2)
            have HRD5 := Lib.hid ((HRD1.out.on hb2).below hb6 (by omega))
            have hgb := but_trans HG1.out (but_of_below R hb2)
            have HG5 := Lib.hid (show w.grownBy w5 (some R) from ⟨by rw [hb6.os]; exact hgb.os, by rw [hb6.tape]; exact hgb.tape, by rw [hb6.output]; exact hgb.output, Nat.le_trans hgb.size hb6.size, fun q hq hne => by rw [hb6.block q (by omega)]; exact hgb.block q hq hne⟩)
            have cx2 : w2.cell? ⟨w.heap.size, 4, none⟩ = some ov := HX2.cell 4
            have cx3 : (w2.alloc (.cells #[.string t] 9)).cell? ⟨w.heap.size, 4, none⟩ = some ov := cell_keep ((Below.refl _ _).alloc (Nat.le_refl _) _) cx2
            have cx5 : w5.cell? ⟨w.heap.size, 4, none⟩ = some ov := HX5.out.cell 4
            have fx5 : w5.frozen? ⟨w.heap.size, 4, none⟩ = false := HX5.out.free 4
            clear hi hz0 hz1 hz2 hrun hown5 hb6 hgb HO2 HX2 hb2 hbs HTX
            refine hK _ _ ?_
            clear hK K
            try simp only [Act.put, List.getElem_toArray, List.getElem_cons_succ, List.getElem_cons_zero, List.setIfInBounds_toArray, List.set_cons_zero, List.set_cons_succ]
            refine wpAny_ready (rs := [1, 6]) (by kernel_rfl) (by simp) ?_
            refine AllReady.cons rfl (fun K hK => ?_) ?_
            ·
              go_simp
              refine hK _ _ ?_
              clear hK K
              try simp only [Act.put, List.getElem_toArray, List.getElem_cons_succ, List.getElem_cons_zero, List.setIfInBounds_toArray, List.set_cons_zero, List.set_cons_succ]
              refine wpAny_ready (rs := [6]) (by kernel_rfl) (by simp) ?_
              refine AllReady.cons rfl (fun K hK => ?_) AllReady.nil
              go_simp
              refine hK _ _ ?_
              clear hK K
              try simp only [Act.put, List.getElem_toArray, List.getElem_cons_succ, List.getElem_cons_zero, List.setIfInBounds_toArray, List.set_cons_zero, List.set_cons_succ]
              refine wpAny_ready (rs := [7]) (by kernel_rfl) (by simp) ?_
              refine AllReady.cons rfl (fun K hK => ?_) AllReady.nil
              first | refine wpOp_append_run _ rfl rfl _ _ _ rfl _ _ rfl rfl _ _ HRUN.out ?_ | (rw [if_pos (by rfl)]; refine oper_append_run _ _ _ rfl _ _ rfl rfl _ _ HRUN.out ?_)
              refine hK _ _ ?_
              clear hK K
              try simp only [Act.put, List.getElem_toArray, List.getElem_cons_succ, List.getElem_cons_zero, List.setIfInBounds_toArray, List.set_cons_zero, List.set_cons_succ]
              refine wpAny_ready (rs := [8]) (by kernel_rfl) (by simp) ?_
              refine AllReady.cons rfl (fun K hK => ?_) AllReady.nil
              go_simp
              refine hK _ _ ?_
              clear hK K
              try simp only [Act.put, List.getElem_toArray, List.getElem_cons_succ, List.getElem_cons_zero, List.setIfInBounds_toArray, List.set_cons_zero, List.set_cons_succ]
              refine wpAny_ready (rs := [9]) (by kernel_rfl) (by simp) ?_
              refine AllReady.cons rfl (fun K hK => ?_) AllReady.nil
              go_simp
              refine hK _ _ ?_
              clear hK K
              try simp only [Act.put, List.getElem_toArray, List.getElem_cons_succ, List.getElem_cons_zero, List.setIfInBounds_toArray, List.set_cons_zero, List.set_cons_succ]
              refine wpAny_done (by kernel_rfl) ?_ _
              have HXF := Lib.hid (show Blk (w5.setCell ⟨w.heap.size, 4, none⟩ (.slice (some ⟨g5, 0, none⟩) (j + 1) cp5)) w.heap.size #[.slice none 0 0, .slice none 0 0, .slice none 0 0, .slice none 0 0, (.slice (some ⟨g5, 0, none⟩) (j + 1) cp5)] 33 from HX5.out.set 4 (.slice (some ⟨g5, 0, none⟩) (j + 1) cp5))
              have HOF := Lib.hid (HOW.out.kept (but_set w5 w.heap.size 4 (.slice (some ⟨g5, 0, none⟩) (j + 1) cp5)) (Or.inr (owns_ne HOW.out (Nat.lt_succ_self _))))
              have HRF := Lib.hid (HRD5.out.store (X := w.heap.size) hBw 4 (.slice (some ⟨g5, 0, none⟩) (j + 1) cp5))
              have HGF := Lib.hid (but_store HG5.out (Nat.le_refl _) 4 (.slice (some ⟨g5, 0, none⟩) (j + 1) cp5))
              go_wp2_with fail
              go_roundw
              case rel => exact ⟨j + 1, (.slice (some ⟨g5, 0, none⟩) (j + 1) cp5), by omega, HRF.out, HXF.out, HOF.out, HGF.out⟩
              case measure =>
                obtain ⟨wa1, wc1, hb1, _⟩ := HRF.out.row
                have m1 := hb1.cell 0
                simp at m1
                simp only [m1, MZ.out]
                simp [quoS]
                omega
            refine AllReady.cons rfl (fun K hK => ?_) ?_
            ·
              go_simp
              refine hK _ _ ?_
              clear hK K
              try simp only [Act.put, List.getElem_toArray, List.getElem_cons_succ, List.getElem_cons_zero, List.setIfInBounds_toArray, List.set_cons_zero, List.set_cons_succ]
              refine wpAny_ready (rs := [1]) (by kernel_rfl) (by simp) ?_
              refine AllReady.cons rfl (fun K hK => ?_) AllReady.nil
              go_simp
              refine hK _ _ ?_
              clear hK K
              try simp only [Act.put, List.getElem_toArray, List.getElem_cons_succ, List.getElem_cons_zero, List.setIfInBounds_toArray, List.set_cons_zero, List.set_cons_succ]
              refine wpAny_ready (rs := [7]) (by kernel_rfl) (by simp) ?_
              refine AllReady.cons rfl (fun K hK => ?_) AllReady.nil
              first | refine wpOp_append_run _ rfl rfl _ _ _ rfl _ _ rfl rfl _ _ HRUN.out ?_ | (rw [if_pos (by rfl)]; refine oper_append_run _ _ _ rfl _ _ rfl rfl _ _ HRUN.out ?_)
              refine hK _ _ ?_
              clear hK K
              try simp only [Act.put, List.getElem_toArray, List.getElem_cons_succ, List.getElem_cons_zero, List.setIfInBounds_toArray, List.set_cons_zero, List.set_cons_succ]
              refine wpAny_ready (rs := [8]) (by kernel_rfl) (by simp) ?_
              refine AllReady.cons rfl (fun K hK => ?_) AllReady.nil
              go_simp
              refine hK _ _ ?_
              clear hK K
              try simp only [Act.put, List.getElem_toArray, List.getElem_cons_succ, List.getElem_cons_zero, List.setIfInBounds_toArray, List.set_cons_zero, List.set_cons_succ]
              refine wpAny_ready (rs := [9]) (by kernel_rfl) (by simp) ?_
              refine AllReady.cons rfl (fun K hK => ?_) AllReady.nil
              go_simp
              refine hK _ _ ?_
              clear hK K
              try simp only [Act.put, List.getElem_toArray, List.getElem_cons_succ, List.getElem_cons_zero, List.setIfInBounds_toArray, List.set_cons_zero, List.set_cons_succ]
              refine wpAny_done (by kernel_rfl) ?_ _
              have HXF := Lib.hid (show Blk (w5.setCell ⟨w.heap.size, 4, none⟩ (.slice (some ⟨g5, 0, none⟩) (j + 1) cp5)) w.heap.size #[.slice none 0 0, .slice none 0 0, .slice none 0 0, .slice none 0 0, (.slice (some ⟨g5, 0, none⟩) (j + 1) cp5)] 33 from HX5.out.set 4 (.slice (some ⟨g5, 0, none⟩) (j + 1) cp5))
              have HOF := Lib.hid (HOW.out.kept (but_set w5 w.heap.size 4 (.slice (some ⟨g5, 0, none⟩) (j + 1) cp5)) (Or.inr (owns_ne HOW.out (Nat.lt_succ_self _))))
              have HRF := Lib.hid (HRD5.out.store (X := w.heap.size) hBw 4 (.slice (some ⟨g5, 0, none⟩) (j + 1) cp5))
              have HGF := Lib.hid (but_store HG5.out (Nat.le_refl _) 4 (.slice (some ⟨g5, 0, none⟩) (j + 1) cp5))
              go_wp2_with fail
              go_roundw
              case rel => exact ⟨j + 1, (.slice (some ⟨g5, 0, none⟩) (j + 1) cp5), by omega, HRF.out, HXF.out, HOF.out, HGF.out⟩
              case measure =>
                obtain ⟨wa1, wc1, hb1, _⟩ := HRF.out.row
                have m1 := hb1.cell 0
                simp at m1
                simp only [m1, MZ.out]
                simp [quoS]
                omega
            exact AllReady.nil
          exact AllReady.nil
        exact AllReady.nil
      · have hall : d.texts.take j = d.texts := List.take_of_length_le (by omega)
        have hdr : quoS (d.texts.drop j) = [] := by rw [List.drop_of_length_le (by omega)]; rfl
        have hi2 := hinv.out
        rw [hall, hdr] at hi2
        rw [hdr] at m0
        simp only [List.length_nil] at m0
        obtain rfl : j = d.texts.length := by omega
        obtain ⟨g, c, rfl, hge, hrow⟩ := row_own hi2.2.2.1 (by omega) (by omega)
        have HRR := Lib.hid hi2.1
        have HGG := Lib.hid hi2.2.2.2
        have HROW := Lib.hid hrow
        have HBX := Lib.hid (show Blk wr w.heap.size (dataC ⟨none, 0, 0, none, 0, 0, none, 0, 0, none, 0, 0, some ⟨g, 0, none⟩, d.texts.length, c⟩) 33 from hi2.2.1)
        have z0 := setCell_self HBX.out (show wr.cell? ⟨w.heap.size, 0, none⟩ = some (.slice none 0 0) from HBX.out.cell 0)
        have y0 : wr.cell? ⟨w.heap.size, 0, none⟩ = some (.slice none 0 0) := HBX.out.cell 0
        have x0 : wr.frozen? ⟨w.heap.size, 0, none⟩ = false := HBX.out.free 0
        have z1 := setCell_self HBX.out (show wr.cell? ⟨w.heap.size, 1, none⟩ = some (.slice none 0 0) from HBX.out.cell 1)
        have y1 : wr.cell? ⟨w.heap.size, 1, none⟩ = some (.slice none 0 0) := HBX.out.cell 1
        have x1 : wr.frozen? ⟨w.heap.size, 1, none⟩ = false := HBX.out.free 1
        have z2 := setCell_self HBX.out (show wr.cell? ⟨w.heap.size, 2, none⟩ = some (.slice none 0 0) from HBX.out.cell 2)
        have y2 : wr.cell? ⟨w.heap.size, 2, none⟩ = some (.slice none 0 0) := HBX.out.cell 2
        have x2 : wr.frozen? ⟨w.heap.size, 2, none⟩ = false := HBX.out.free 2
        have z3 := setCell_self HBX.out (show wr.cell? ⟨w.heap.size, 3, none⟩ = some (.slice none 0 0) from HBX.out.cell 3)
        have y3 : wr.cell? ⟨w.heap.size, 3, none⟩ = some (.slice none 0 0) := HBX.out.cell 3
        have x3 : wr.frozen? ⟨w.heap.size, 3, none⟩ = false := HBX.out.free 3
        have z4 := setCell_self HBX.out (show wr.cell? ⟨w.heap.size, 4, none⟩ = some (.slice (some ⟨g, 0, none⟩) d.texts.length c) from HBX.out.cell 4)
        have y4 : wr.cell? ⟨w.heap.size, 4, none⟩ = some (.slice (some ⟨g, 0, none⟩) d.texts.length c) := HBX.out.cell 4
        have x4 : wr.frozen? ⟨w.heap.size, 4, none⟩ = false := HBX.out.free 4
        clear hi2 hinv hall hdr hrow hge hb0
        go_wp2_with fail
        refine bodyPost_ret (v := .agg (dataC ⟨none, 0, 0, none, 0, 0, none, 0, 0, none, 0, 0, some ⟨g, 0, none⟩, d.texts.length, c⟩)) (rd_results rfl HBX.out) rfl ?_
        exact ⟨⟨none, 0, 0, none, 0, 0, none, 0, 0, none, 0, 0, some ⟨g, 0, none⟩, d.texts.length, c⟩, rfl, ⟨by rw [e0]; exact no_row _, by rw [e1]; exact ⟨no_row _, by simp⟩, by rw [e2]; exact ⟨no_row _, by simp⟩, by rw [e3]; exact no_row _, ⟨HROW.out, fun s hs => by have := HLT.out.text s hs; omega⟩, HF.out⟩, HRR.out, HGG.out⟩
  · have hd := HV.out
    rw [dataB_other k1 k2 hk] at hd
    simp only [Bool.and_eq_true] at hd
    obtain ⟨e1, e2, e3, e4⟩ := empty_b hd.2
    have HRDh := Lib.hid (show Rd _ R B oa ol oc ((rawP d.bytes).map strOf) by have := HRD.out; rw [wordsL_other hk] at this; exact this)
    obtain ⟨a1, a2, a3, a4, a5, a6, a7, a8, a9⟩ := hk
    have q1 : (k == 1) = false := by rw [beq_eq_false_iff_ne]; exact a1
    have q2 : (k == 28) = false := by rw [beq_eq_false_iff_ne]; exact a2
    have q3 : (k == 2) = false := by rw [beq_eq_false_iff_ne]; exact a3
    have q4 : (k == 5) = false := by rw [beq_eq_false_iff_ne]; exact a4
    have q5 : (k == 12) = false := by rw [beq_eq_false_iff_ne]; exact a5
    have q6 : (k == 15) = false := by rw [beq_eq_false_iff_ne]; exact a6
    have q7 : (k == 6) = false := by rw [beq_eq_false_iff_ne]; exact a7
    have q8 : (k == 33) = false := by rw [beq_eq_false_iff_ne]; exact a8
    have q9 : (k == 16) = false := by rw [beq_eq_false_iff_ne]; exact a9
    clear a1 a2 a3 a4 a5 a6 a7 a8 a9
    have HCL0 := Lib.hid (raw_any _ R B oa ol oc d.bytes HRDh.out HE.out HLT.out.bytes)
    go_enter Tryz.func60, Tryz.ntmps60
    go_wp2_with fail
    refine HCL0.out.mono ?_
    rintro e w0 ⟨ao0, c0, rfl, hr0, hfr0, hrd0, hg0⟩
    have hsz0 := hg0.size
    have hszz0 := Nat.le_of_eq HSZ.out.symm
    have HFR0 := Lib.hid (show ∀ a, ao0 = some a → w.heap.size + 1 ≤ a.block from fun a e => Nat.le_trans hszz0 (hfr0 a e))
    have HX0a := Lib.hid (HX.out.but hg0 hXR)
    have HG0a := Lib.hid (but_trans HG.out hg0)
    have HE0a := Lib.hid (HE.out.but hg0 HLO.out)
    have HRD0a := Lib.hid hrd0
    have HH0_0 := Lib.hid hr0
    have p0 := HX0a.out.cell 0
    simp at p0
    have pf0 := HX0a.out.free 0
    clear hr0 hfr0 hrd0 hg0
    have HX0 := Lib.hid (HX0a.out.set 0 (.slice ao0 d.bytes.length c0))
    have HG0 := Lib.hid (but_store HG0a.out (Nat.le_refl _) 0 (.slice ao0 d.bytes.length c0))
    have HE0 := Lib.hid (HE0a.out.below ((Below.refl w.heap.size w0).setCell (p := ⟨w.heap.size, 0, none⟩) (Nat.le_refl _) (.slice ao0 d.bytes.length c0)) hlow)
    have HRD0 := Lib.hid (HRD0a.out.store (X := w.heap.size) hBw 0 (.slice ao0 d.bytes.length c0))
    have HH0_1 := Lib.hid (HH0_0.out.grown (but_set w0 w.heap.size 0 (.slice ao0 d.bytes.length c0)) (fun a e => ne_of_le (HFR0.out a e) (by omega)))
    have HBX := Lib.hid (show Blk (w0.setCell ⟨w.heap.size, 0, none⟩ (.slice ao0 d.bytes.length c0)) w.heap.size (dataC ⟨ao0, d.bytes.length, c0, none, 0, 0, none, 0, 0, none, 0, 0, none, 0, 0⟩) 33 from HX0.out)
    have z0 := setCell_self HBX.out (show (w0.setCell ⟨w.heap.size, 0, none⟩ (.slice ao0 d.bytes.length c0)).cell? ⟨w.heap.size, 0, none⟩ = some (.slice ao0 d.bytes.length c0) from HBX.out.cell 0)
    have y0 : (w0.setCell ⟨w.heap.size, 0, none⟩ (.slice ao0 d.bytes.length c0)).cell? ⟨w.heap.size, 0, none⟩ = some (.slice ao0 d.bytes.length c0) := HBX.out.cell 0
    have x0 : (w0.setCell ⟨w.heap.size, 0, none⟩ (.slice ao0 d.bytes.length c0)).frozen? ⟨w.heap.size, 0, none⟩ = false := HBX.out.free 0
    have z1 := setCell_self HBX.out (show (w0.setCell ⟨w.heap.size, 0, none⟩ (.slice ao0 d.bytes.length c0)).cell? ⟨w.heap.size, 1, none⟩ = some (.slice none 0 0) from HBX.out.cell 1)
    have y1 : (w0.setCell ⟨w.heap.size, 0, none⟩ (.slice ao0 d.bytes.length c0)).cell? ⟨w.heap.size, 1, none⟩ = some (.slice none 0 0) := HBX.out.cell 1
    have x1 : (w0.setCell ⟨w.heap.size, 0, none⟩ (.slice ao0 d.bytes.length c0)).frozen? ⟨w.heap.size, 1, none⟩ = false := HBX.out.free 1
    have z2 := setCell_self HBX.out (show (w0.setCell ⟨w.heap.size, 0, none⟩ (.slice ao0 d.bytes.length c0)).cell? ⟨w.heap.size, 2, none⟩ = some (.slice none 0 0) from HBX.out.cell 2)
    have y2 : (w0.setCell ⟨w.heap.size, 0, none⟩ (.slice ao0 d.bytes.length c0)).cell? ⟨w.heap.size, 2, none⟩ = some (.slice none 0 0) := HBX.out.cell 2
    have x2 : (w0.setCell ⟨w.heap.size, 0, none⟩ (.slice ao0 d.bytes.length c0)).frozen? ⟨w.heap.size, 2, none⟩ = false := HBX.out.free 2
    have z3 := setCell_self HBX.out (show (w0.setCell ⟨w.heap.size, 0, none⟩ (.slice ao0 d.bytes.length c0)).cell? ⟨w.heap.size, 3, none⟩ = some (.slice none 0 0) from HBX.out.cell 3)
    have y3 : (w0.setCell ⟨w.heap.size, 0, none⟩ (.slice ao0 d.bytes.length c0)).cell? ⟨w.heap.size, 3, none⟩ = some (.slice none 0 0) := HBX.out.cell 3
    have x3 : (w0.setCell ⟨w.heap.size, 0, none⟩ (.slice ao0 d.bytes.length c0)).frozen? ⟨w.heap.size, 3, none⟩ = false := HBX.out.free 3
    have z4 := setCell_self HBX.out (show (w0.setCell ⟨w.heap.size, 0, none⟩ (.slice ao0 d.bytes.length c0)).cell? ⟨w.heap.size, 4, none⟩ = some (.slice none 0 0) from HBX.out.cell 4)
    have y4 : (w0.setCell ⟨w.heap.size, 0, none⟩ (.slice ao0 d.bytes.length c0)).cell? ⟨w.heap.size, 4, none⟩ = some (.slice none 0 0) := HBX.out.cell 4
    have x4 : (w0.setCell ⟨w.heap.size, 0, none⟩ (.slice ao0 d.bytes.length c0)).frozen? ⟨w.heap.size, 4, none⟩ = false := HBX.out.free 4
    go_wp2_with fail
    refine bodyPost_ret (v := .agg (dataC ⟨ao0, d.bytes.length, c0, none, 0, 0, none, 0, 0, none, 0, 0, none, 0, 0⟩)) (rd_results rfl HBX.out) rfl ?_
    exact ⟨⟨ao0, d.bytes.length, c0, none, 0, 0, none, 0, 0, none, 0, 0, none, 0, 0⟩, rfl, ⟨HH0_1.out, by rw [e1]; exact ⟨no_row _, by simp⟩, by rw [e2]; exact ⟨no_row _, by simp⟩, by rw [e3]; exact no_row _, by rw [e4]; exact ⟨no_row _, by simp⟩, HF.out⟩, HRD0.out, HG0.out⟩
end
section
open Go.ChangeShapes Go.WideShapes Go.ChangeAt Go.RowKit

theorem row_apart {w w' : World} {X : Nat} {T : TypeId} {ao : Option Addr} {n c : Nat} {vs : List Value} (h : Row w ao n c vs) (hX : Blk w X #[.slice none 0 0, .slice none 0 0, .slice none 0 0, .slice none 0 0, .slice none 0 0] T) (hv : ∀ v ∈ vs, v ≠ .slice none 0 0) (hb : w.grownBy w' (some X)) : Row w' ao n c vs := by
  rcases Nat.eq_zero_or_pos n with h0 | h0
  · exact ⟨h.hlen, h.hle, h.hcap, h.hmax, h.hnil, fun h1 => absurd h1 (by omega)⟩
  · obtain ⟨b, off, e2, hc⟩ := h.hcells h0
    have hl := h.hlen
    have hne : b ≠ X := by
      rintro rfl
      have h1 := hc 0 (by omega)
      rw [hX.cell] at h1
      have h2 := hv _ (List.getElem_mem (show 0 < vs.length by omega))
      rw [Array.getElem?_eq_some_iff] at h1
      obtain ⟨hlt, h3⟩ := h1
      apply h2
      rw [← h3]
      have : off + 0 = 0 ∨ off + 0 = 1 ∨ off + 0 = 2 ∨ off + 0 = 3 ∨ off + 0 = 4 := by simp at hlt; omega
      rcases this with h | h | h | h | h <;> simp [h]
    exact h.grown hb fun a e he => by rw [e2] at e; cases e; exact hne (Option.some.inj he)
theorem IsData.apart {w w' : World} {X : Nat} {T : TypeId} {k : DataH} {d : DataP} (h : IsData w k d) (hX : Blk w X #[.slice none 0 0, .slice none 0 0, .slice none 0 0, .slice none 0 0, .slice none 0 0] T) (hb : w.grownBy w' (some X)) : IsData w' k d :=
  ⟨row_apart h.bytes hX (by intro v hv; obtain ⟨_, _, rfl⟩ := List.mem_map.1 hv; intro h; cases h) hb, ⟨row_apart h.host.row hX (by intro v hv; obtain ⟨_, _, rfl⟩ := List.mem_map.1 hv; intro h; cases h) hb, h.host.small⟩,
   ⟨row_apart h.mail.row hX (by intro v hv; obtain ⟨_, _, rfl⟩ := List.mem_map.1 hv; intro h; cases h) hb, h.mail.small⟩, row_apart h.nums hX (by intro v hv; obtain ⟨_, _, rfl⟩ := List.mem_map.1 hv; intro h; cases h) hb,
   ⟨row_apart h.texts.row hX (by intro v hv; obtain ⟨_, _, rfl⟩ := List.mem_map.1 hv; intro h; cases h) hb, h.texts.small⟩, h.fits⟩
theorem fdata_results2 {tmps : Array Value} {w : World} {R : Nat} {k : DataH} {b : Value} (h2 : tmps[6]? = some (.pointer (some ⟨R, 0, none⟩))) (h3 : tmps[7]? = some b) (hB : Blk w R (dataC k) 33) :
    (results Tryz.f25 tmps).run Tryz.prog w = .ok (.tuple #[.agg (dataC k), b]) w := by
  have c0 := hB.cell 0
  have c1 := hB.cell 1
  have c2 := hB.cell 2
  have c3 := hB.cell 3
  have c4 := hB.cell 4
  simp [dataC] at c0 c1 c2 c3 c4
  simp [results, go_sem, h2, h3, c0, c1, c2, c3, c4, dataC]
theorem data_kind {k : Int} {d : DataP} (h : dataB k d = true) : 1 ≤ k ∧ k ≤ 65535 := by
  by_cases hk : k < 1 ∨ 65535 < k
  · rw [dataB_out hk] at h; cases h
  · omega
theorem words_pos {k : Int} {d : DataP} (h : dataB k d = true) : 0 < (wordsL k d).length := by
  have hk := data_kind h
  rcases kind_cases k with hk' | rfl | rfl | hk' | rfl | rfl | rfl | rfl | ⟨_, hk'⟩
  · omega
  · show 0 < 1; omega
  · show 0 < 1; omega
  · have := congrArg List.length (wordsL_host (d := d) (show k = 2 ∨ k = 5 ∨ k = 12 ∨ k = 15 ∨ k = 33 by omega))
    rw [List.length_map, List.length_append] at this
    simp at this
    omega
  · have := congrArg List.length (wordsL_host (d := d) (show (15 : Int) = 2 ∨ (15 : Int) = 5 ∨ (15 : Int) = 12 ∨ (15 : Int) = 15 ∨ (15 : Int) = 33 by omega))
    rw [List.length_map, List.length_append] at this
    simp at this
    omega
  · have := congrArg List.length (wordsL_6 (d := d))
    rw [List.length_map, List.length_append] at this
    simp at this
    omega
  · have := congrArg List.length (wordsL_host (d := d) (show (33 : Int) = 2 ∨ (33 : Int) = 5 ∨ (33 : Int) = 12 ∨ (33 : Int) = 15 ∨ (33 : Int) = 33 by omega))
    rw [List.length_map, List.length_append] at this
    simp at this
    omega
  · have e : dataB 16 d = ((decide (1 ≤ d.texts.length) && (decide (d.texts.length ≤ 64) && emptyB d false false false false true)) && d.texts.all (fun s => decide (s.size ≤ 255))) := rfl
    rw [e] at h
    simp only [Bool.and_eq_true, decide_eq_true_eq] at h
    have := congrArg List.length (wordsL_16 (d := d))
    rw [List.length_map] at this
    simp [quoS] at this
    omega
  · rw [wordsL_other hk', rawP]; simp
abbrev Z5 : Array Value := #[.slice none 0 0, .slice none 0 0, .slice none 0 0, .slice none 0 0, .slice none 0 0]
set_option maxHeartbeats 8000000 in
set_option maxRecDepth 100000 in
theorem fdata_any (w : World) (k : Int) (d : DataP) (wa : Option Addr) (wl wc : Nat) (oa : Option Addr) (ol oc : Nat) (org : List ByteArray) (hw : Strs w wa wl wc ((wordsL k d).map strOf)) (ho : Strs w oa ol oc org) (hos : soundB org = true) (hv : dataB k d = true) (hl : LightData d) (hf : ∀ z ∈ d.nums, wfi z) (hE : Env w) (hBu : Bru w) :
    Calls Tryz.prog 25 #[.int .i64 k, .slice wa wl wc, .slice oa ol oc] w fun e w' => ∃ h', e = .returned (.tuple #[.agg (dataC h'), .bool true]) ∧ IsData w' h' d ∧ Below w.heap.size w w' := by
  have hlow := hE.low
  have hkk := data_kind hv
  have hwl := hw.len
  have hwp := words_pos hv
  rw [List.length_map] at hwl
  have hb1 : Below w.heap.size w (w.alloc (.cells Z5 33)) := (Below.refl _ _).alloc (Nat.le_refl _) _
  have hZ : Blk (w.alloc (.cells Z5 33)) w.heap.size Z5 33 := heap_alloc_new w _
  have hs1 : (w.alloc (.cells Z5 33)).heap.size = w.heap.size + 1 := by simp
  have hb2 : Below (w.alloc (.cells Z5 33)).heap.size (w.alloc (.cells Z5 33)) ((w.alloc (.cells Z5 33)).alloc (.cells #[.slice wa wl wc, .slice oa ol oc, .bool false] 88)) := (Below.refl _ _).alloc (Nat.le_refl _) _
  have hR : Blk ((w.alloc (.cells Z5 33)).alloc (.cells #[.slice wa wl wc, .slice oa ol oc, .bool false] 88)) (w.heap.size + 1) #[.slice wa wl wc, .slice oa ol oc, .bool false] 88 := by
    rw [← hs1]; exact heap_alloc_new _ _
  have hb12 := below_on hb1 hb2 (Nat.le_refl _)
  have hs2 : ((w.alloc (.cells Z5 33)).alloc (.cells #[.slice wa wl wc, .slice oa ol oc, .bool false] 88)).heap.size = w.heap.size + 1 + 1 := by simp
  have hso := sound_any (w.alloc (.cells Z5 33)) oa ol oc org (ho.below hb1 (Nat.le_refl _))
  rw [hos] at hso
  have hrdr : Rd ((w.alloc (.cells Z5 33)).alloc (.cells #[.slice wa wl wc, .slice oa ol oc, .bool false] 88)) (w.heap.size + 1) (w.heap.size + 1 + 1) oa ol oc ((wordsL k d).map strOf) := by
    have e : ((wordsL k d).map strOf).length = wl := by rw [List.length_map]; exact hwl
    refine ⟨⟨wa, wc, by rw [e]; exact hR, by rw [e]; exact hw.below hb12 (Nat.le_refl _), fun a ea => ?_⟩, by omega, by omega, by omega⟩
    subst ea
    obtain ⟨ab, ao, au⟩ := a
    obtain ⟨b, off, e3, hc⟩ := hw.row.hcells (by omega)
    cases e3
    have := hw.row.lt (by omega)
    exact ⟨by simp only; omega, by simp only; omega⟩
  have hbr : 8 < w.heap.size + 1 := by
    have := World.block_lt_of_cell? w _ hBu
    simp at this
    omega
  have hrd := rddata_any _ (w.heap.size + 1) (w.heap.size + 1 + 1) oa ol oc k d hrdr hv hl hf (hE.on hb12) (hBu.on hb12) hbr
  have HSO := Lib.hid hso
  have HRD := Lib.hid hrd
  have HZ := Lib.hid (hZ.on hb2)
  have HB12 := Lib.hid hb12
  have HS2 := Lib.hid hs2
  have d1 : decide (k < 1) = false := by rw [decide_eq_false_iff_not]; omega
  have d2 : decide ((65535 : Int) < k) = false := by rw [decide_eq_false_iff_not]; omega
  have HV := Lib.hid hv
  simp only [Z5] at HSO HRD HZ HB12 HS2
  clear hlow hb1 hZ hs1 hb2 hR hb12 hso hrd hrdr hE hs2 hw ho hos hl hf hwl hwp hv hbr hBu hkk
  go_enter Tryz.func25, Tryz.ntmps25
  go_wp2_with fail
  refine HSO.out.mono ?_
  rintro e w1 ⟨rfl, rfl⟩
  go_wp2_with fail
  refine HRD.out.mono ?_
  rintro e w3 ⟨h', rfl, his, hrd3, hg3⟩
  obtain ⟨ra, rc, hR3, _⟩ := hrd3.row
  have hb4 : Below w3.heap.size w3 (w3.alloc (.cells (dataC h') 33)) := (Below.refl _ _).alloc (Nat.le_refl _) _
  have hR4 := hR3.on hb4
  have r0 := hR4.cell 0
  have r2 := hR4.cell 2
  have hD4 : Blk (w3.alloc (.cells (dataC h') 33)) w3.heap.size (dataC h') 33 := heap_alloc_new w3 _
  have d0 := hD4.cell 0
  have d1' := hD4.cell 1
  have d2' := hD4.cell 2
  have d3 := hD4.cell 3
  have d4 := hD4.cell 4
  simp [dataC] at r0 r2 d0 d1' d2' d3 d4
  have HIS := Lib.hid his
  have HZ3 := Lib.hid (HZ.out.but hg3 (by omega))
  have HD4 := Lib.hid hD4
  have HB3 := Lib.hid (HB12.out.trans (below_of_but hg3 (by omega) (by have := HS2.out; omega)))
  have hsn := dsound_any (w3.alloc (.cells (dataC h') 33)) k h' d (his.on hb4)
  rw [HV.out] at hsn
  have HSN := Lib.hid hsn
  have HB4 := Lib.hid hb4
  simp only [dataC] at HD4 HSN HB4 r0 r2 d0 d1' d2' d3 d4
  simp only [dataC]
  clear hb4 hR4 hD4 hg3 hR3 his hrd3 HRD HSO HZ hsn
  go_wp2_with fail
  refine HSN.out.mono ?_
  rintro e w5 ⟨rfl, hb5⟩
  have hb45 := below_on HB4.out hb5 (Nat.le_refl _)
  have hD5 := HD4.out.on hb5
  have e0 := hD5.cell 0
  have e1 := hD5.cell 1
  have e2 := hD5.cell 2
  have e3 := hD5.cell 3
  have e4 := hD5.cell 4
  simp at e0 e1 e2 e3 e4
  have hZ5 := HZ3.out.on hb45
  have f0 := hZ5.free 0
  have f1 := hZ5.free 1
  have f2 := hZ5.free 2
  have f3 := hZ5.free 3
  have f4 := hZ5.free 4
  have y0 := hZ5.cell 0
  have y1 := hZ5.cell 1
  have y2 := hZ5.cell 2
  have y3 := hZ5.cell 3
  have y4 := hZ5.cell 4
  simp at y0 y1 y2 y3 y4
  have hN5 : Blk (((((w5.setCell ⟨w.heap.size, 0, none⟩ (.slice h'.ba h'.bl h'.bc)).setCell ⟨w.heap.size, 1, none⟩ (.slice h'.ha h'.hl h'.hc)).setCell ⟨w.heap.size, 2, none⟩ (.slice h'.ma h'.ml h'.mc)).setCell ⟨w.heap.size, 3, none⟩ (.slice h'.na h'.nl h'.nc)).setCell ⟨w.heap.size, 4, none⟩ (.slice h'.ta h'.tl h'.tc)) w.heap.size (dataC h') 33 := (((((hZ5.set 0 _).set 1 _).set 2 _).set 3 _).set 4 _)
  have hG5 : w5.grownBy (((((w5.setCell ⟨w.heap.size, 0, none⟩ (.slice h'.ba h'.bl h'.bc)).setCell ⟨w.heap.size, 1, none⟩ (.slice h'.ha h'.hl h'.hc)).setCell ⟨w.heap.size, 2, none⟩ (.slice h'.ma h'.ml h'.mc)).setCell ⟨w.heap.size, 3, none⟩ (.slice h'.na h'.nl h'.nc)).setCell ⟨w.heap.size, 4, none⟩ (.slice h'.ta h'.tl h'.tc)) (some w.heap.size) :=
    but_trans (but_trans (but_trans (but_trans (but_set _ _ _ _) (but_set _ _ _ _)) (but_set _ _ _ _)) (but_set _ _ _ _)) (but_set _ _ _ _)
  have hb35 := below_on HB3.out hb45 (Nat.le_refl _)
  have HI := Lib.hid ((HIS.out.on hb45).apart hZ5 hG5)
  have HBE := Lib.hid (hb35.trans (below_of_but hG5 (B := w.heap.size) (Nat.le_refl _) hb35.size))
  have HN5 := Lib.hid hN5
  clear hb45 hD5 hZ5 hb5 HSN hN5 hG5 hb35
  go_wp2_with fail
  refine bodyPost_ret (v := .tuple #[.agg (dataC h'), .bool true]) (fdata_results2 rfl rfl HN5.out) rfl ?_
  exact ⟨h', rfl, HI.out, HBE.out⟩
end
section
open Go.ChangeShapes Go.WideShapes Go.ChangeAt Go.RowKit
set_option maxHeartbeats 1000000 in
set_option maxRecDepth 100000 in
theorem same_self (w : World) (ao bo : Option Addr) (n ca cb : Nat) (l : List UInt8) (ha : Byts w ao n ca l) (hb : Byts w bo n cb l) :
    Calls Tryz.prog 78 #[.slice ao n ca, .slice bo n cb] w fun e w' => e = .returned (.bool true) ∧ Below w.heap.size w w' := by
  have hla : l.length = n := by simpa using ha.hlen
  have hmx := ha.hmax
  have hca := ha.hcap
  have hle := ha.hle
  have hcb := hb.hcap
  have hleb := hb.hle
  have HL := Lib.hid hla
  clear hla
  go_enter Tryz.func78, Tryz.ntmps78
  go_wp2
  go_loopw [5] (fun i wr => ∃ k : Nat, k ≤ n ∧ i = .int .i64 k ∧ Hid (Below w.heap.size w wr)) (fun i _ => n - (intOf i).toNat)
  case atStart => exact ⟨0, Nat.zero_le _, rfl, Below.refl _ _⟩
  case round =>
    obtain ⟨k, hk, rfl, hbr⟩ := hrel
    by_cases hlt : k < n
    · obtain ⟨b1, off1, rfl⟩ := ha.addr hlt
      obtain ⟨b2, off2, rfl⟩ := hb.addr hlt
      have hc1 := (ha.below hbr.out (Nat.le_refl _)).at hlt
      have hc2 := (hb.below hbr.out (Nat.le_refl _)).at hlt
      rw [List.getElem_map] at hc1 hc2
      obtain ⟨x, hxk⟩ : ∃ x, x = (l[k]'(by have := HL.out; omega)).toNat := ⟨_, rfl⟩
      rw [← hxk] at hc1 hc2
      have hkp : (0 : Int) ≤ (k : Int) := Int.natCast_nonneg _
      have hkl : (k : Int) < (n : Int) := by omega
      clear hxk
      go_wp2_with fail
      go_quiet (fail)
      have HBN := Lib.hid (below_drewN hbr.out nq)
      go_wp2_with fail
      go_roundw
      case rel => exact ⟨k + 1, by omega, by go_num, HBN.out⟩
      case measure => simp [intOf]; omega
    · go_wp2_with fail
      go_ret
      exact ⟨rfl, hbr.out⟩
set_option maxHeartbeats 1000000 in
set_option maxRecDepth 100000 in
theorem ints_self (w : World) (ao bo : Option Addr) (n ca cb : Nat) (l : List Int) (ha : Nums w ao n ca l) (hb : Nums w bo n cb l) :
    Calls Tryz.prog 103 #[.slice ao n ca, .slice bo n cb] w fun e w' => e = .returned (.bool true) ∧ Below w.heap.size w w' := by
  have hla : l.length = n := by simpa using ha.hlen
  have hmx := ha.hmax
  have hca := ha.hcap
  have hle := ha.hle
  have hcb := hb.hcap
  have hleb := hb.hle
  have HL := Lib.hid hla
  clear hla
  go_enter Tryz.func103, Tryz.ntmps103
  go_wp2
  go_loopw [5] (fun i wr => ∃ k : Nat, k ≤ n ∧ i = .int .i64 k ∧ Hid (Below w.heap.size w wr)) (fun i _ => n - (intOf i).toNat)
  case atStart => exact ⟨0, Nat.zero_le _, rfl, Below.refl _ _⟩
  case round =>
    obtain ⟨k, hk, rfl, hbr⟩ := hrel
    by_cases hlt : k < n
    · obtain ⟨b1, off1, rfl⟩ := ha.addr hlt
      obtain ⟨b2, off2, rfl⟩ := hb.addr hlt
      have hc1 := (ha.below hbr.out (Nat.le_refl _)).at hlt
      have hc2 := (hb.below hbr.out (Nat.le_refl _)).at hlt
      rw [List.getElem_map] at hc1 hc2
      obtain ⟨x, hxk⟩ : ∃ x, x = l[k]'(by have := HL.out; omega) := ⟨_, rfl⟩
      rw [← hxk] at hc1 hc2
      have hkp : (0 : Int) ≤ (k : Int) := Int.natCast_nonneg _
      have hkl : (k : Int) < (n : Int) := by omega
      clear hxk
      go_wp2_with fail
      go_quiet (fail)
      have HBN := Lib.hid (below_drewN hbr.out nq)
      go_wp2_with fail
      go_roundw
      case rel => exact ⟨k + 1, by omega, by go_num, HBN.out⟩
      case measure => simp [intOf]; omega
    · go_wp2_with fail
      go_ret
      exact ⟨rfl, hbr.out⟩
theorem eqB_self (s : List ByteArray) : eqB s s = true := by simp [eqB]
theorem exactB_self (s : List ByteArray) : exactB s s = true := by simp [exactB]
set_option maxRecDepth 100000 in
theorem texts_self (w : World) (ao bo : Option Addr) (la ca lb cb : Nat) (s : List ByteArray) (ha : Strs w ao la ca s) (hb : Strs w bo lb cb s) :
    Calls Tryz.prog 104 #[.slice ao la ca, .slice bo lb cb] w fun e w' => e = .returned (.bool true) ∧ Below w.heap.size w w' := by
  have H := exact_any w ao bo la ca lb cb s s ha hb
  rw [exactB_self] at H
  have HH := Lib.hid H
  clear H ha hb
  go_enter Tryz.func104, Tryz.ntmps104
  go_wp2_with fail
  refine HH.out.mono ?_
  rintro e w' ⟨rfl, hb⟩
  go_wp2_with fail
  go_ret
  exact ⟨rfl, hb⟩
set_option maxHeartbeats 4000000 in
set_option maxRecDepth 100000 in
theorem same_data (w : World) (h1 h2 : DataH) (d : DataP) (ha : IsData w h1 d) (hb : IsData w h2 d) :
    Calls Tryz.prog 61 #[.agg (dataC h1), .agg (dataC h2)] w fun e w' => e = .returned (.bool true) ∧ Below w.heap.size w w' := by
  have hb1 : Below w.heap.size w (w.alloc (.cells (dataC h1) 33)) := (Below.refl _ _).alloc (Nat.le_refl _) _
  have hs1 : (w.alloc (.cells (dataC h1) 33)).heap.size = w.heap.size + 1 := by simp
  have hb2 : Below w.heap.size w ((w.alloc (.cells (dataC h1) 33)).alloc (.cells (dataC h2) 33)) := hb1.alloc (by omega) _
  have hA0 : Blk (w.alloc (.cells (dataC h1) 33)) w.heap.size (dataC h1) 33 := heap_alloc_new w _
  have HA := Lib.hid (hA0.on ((Below.refl _ _).alloc (Nat.le_refl _) (.cells (dataC h2) 33)))
  have HB := Lib.hid (show Blk ((w.alloc (.cells (dataC h1) 33)).alloc (.cells (dataC h2) 33)) (w.heap.size + 1) (dataC h2) 33 by rw [← hs1]; exact heap_alloc_new _ _)
  have HBE := Lib.hid hb2
  have H1 := Lib.hid (ha.on hb2)
  have H2 := Lib.hid (hb.on hb2)
  have l1 := ha.len
  have l2 := hb.len
  obtain ⟨ba, bl, bc, ha', hl, hc, ma, ml, mc, na, nl, nc, ta, tl, tc⟩ := h1
  obtain ⟨ba2, bl2, bc2, ha2, hl2, hc2, ma2, ml2, mc2, na2, nl2, nc2, ta2, tl2, tc2⟩ := h2
  obtain ⟨e0, e1, e2, e3, e4⟩ := l1
  obtain ⟨f0, f1, f2, f3, f4⟩ := l2
  simp only at e0 e1 e2 e3 e4 f0 f1 f2 f3 f4
  obtain rfl : bl2 = bl := by omega
  obtain rfl : nl2 = nl := by omega
  clear e0 e1 e2 e3 e4 f0 f1 f2 f3 f4 hb1 hs1 hb2 hA0 ha hb
  simp only [dataC] at HA HB HBE H1 H2
  go_enter Tryz.func61, Tryz.ntmps61
  simp only [dataC]
  have a0 := HA.out.cell 0
  have b0 := HB.out.cell 0
  simp at a0 b0
  have HC0 := Lib.hid (same_self _ _ _ _ _ _ _ H1.out.bytes H2.out.bytes)
  go_wp2_with fail
  refine HC0.out.mono ?_
  rintro e w1 ⟨rfl, hb1⟩
  have HX1 := Lib.hid (hb1)
  clear hb1
  have a1 := (HA.out.on HX1.out).cell 3
  have b1 := (HB.out.on HX1.out).cell 3
  simp at a1 b1
  have HC1 := Lib.hid (ints_self _ _ _ _ _ _ _ (H1.out.on HX1.out).nums (H2.out.on HX1.out).nums)
  go_wp2_with fail
  refine HC1.out.mono ?_
  rintro e w2 ⟨rfl, hb2⟩
  have HX2 := Lib.hid (below_on HX1.out hb2 (Nat.le_refl _))
  clear hb2
  have a2 := (HA.out.on HX2.out).cell 4
  have b2 := (HB.out.on HX2.out).cell 4
  simp at a2 b2
  have HC2 := Lib.hid (texts_self _ _ _ _ _ _ _ _ (H1.out.on HX2.out).texts (H2.out.on HX2.out).texts)
  go_wp2_with fail
  refine HC2.out.mono ?_
  rintro e w3 ⟨rfl, hb3⟩
  have HX3 := Lib.hid (below_on HX2.out hb3 (Nat.le_refl _))
  clear hb3
  have a3 := (HA.out.on HX3.out).cell 1
  have b3 := (HB.out.on HX3.out).cell 1
  simp at a3 b3
  have HC3 := Lib.hid (requal_any _ _ _ _ _ _ _ _ _ (H1.out.on HX3.out).host (H2.out.on HX3.out).host)
  rw [eqB_self] at HC3
  go_wp2_with fail
  refine HC3.out.mono ?_
  rintro e w4 ⟨rfl, hb4⟩
  have HX4 := Lib.hid (below_on HX3.out hb4 (Nat.le_refl _))
  clear hb4
  have a4 := (HA.out.on HX4.out).cell 2
  have b4 := (HB.out.on HX4.out).cell 2
  simp at a4 b4
  have HC4 := Lib.hid (requal_any _ _ _ _ _ _ _ _ _ (H1.out.on HX4.out).mail (H2.out.on HX4.out).mail)
  rw [eqB_self] at HC4
  go_wp2_with fail
  refine HC4.out.mono ?_
  rintro e w5 ⟨rfl, hb5⟩
  have HX5 := Lib.hid (below_on HX4.out hb5 (Nat.le_refl _))
  clear hb5
  go_wp2_with fail
  go_ret
  exact ⟨rfl, below_on HBE.out HX5.out (Nat.le_refl _)⟩
set_option maxHeartbeats 4000000 in
set_option maxRecDepth 100000 in
theorem exact_data (w : World) (h1 h2 : DataH) (d : DataP) (ha : IsData w h1 d) (hb : IsData w h2 d) :
    Calls Tryz.prog 26 #[.agg (dataC h1), .agg (dataC h2)] w fun e w' => e = .returned (.bool true) ∧ Below w.heap.size w w' := by
  have hb1 : Below w.heap.size w (w.alloc (.cells (dataC h1) 33)) := (Below.refl _ _).alloc (Nat.le_refl _) _
  have hs1 : (w.alloc (.cells (dataC h1) 33)).heap.size = w.heap.size + 1 := by simp
  have hb2 : Below w.heap.size w ((w.alloc (.cells (dataC h1) 33)).alloc (.cells (dataC h2) 33)) := hb1.alloc (by omega) _
  have hA0 : Blk (w.alloc (.cells (dataC h1) 33)) w.heap.size (dataC h1) 33 := heap_alloc_new w _
  have HA := Lib.hid (hA0.on ((Below.refl _ _).alloc (Nat.le_refl _) (.cells (dataC h2) 33)))
  have HB := Lib.hid (show Blk ((w.alloc (.cells (dataC h1) 33)).alloc (.cells (dataC h2) 33)) (w.heap.size + 1) (dataC h2) 33 by rw [← hs1]; exact heap_alloc_new _ _)
  have HBE := Lib.hid hb2
  have H1 := Lib.hid (ha.on hb2)
  have H2 := Lib.hid (hb.on hb2)
  have l1 := ha.len
  have l2 := hb.len
  obtain ⟨ba, bl, bc, ha', hl, hc, ma, ml, mc, na, nl, nc, ta, tl, tc⟩ := h1
  obtain ⟨ba2, bl2, bc2, ha2, hl2, hc2, ma2, ml2, mc2, na2, nl2, nc2, ta2, tl2, tc2⟩ := h2
  obtain ⟨e0, e1, e2, e3, e4⟩ := l1
  obtain ⟨f0, f1, f2, f3, f4⟩ := l2
  simp only at e0 e1 e2 e3 e4 f0 f1 f2 f3 f4
  obtain rfl : bl2 = bl := by omega
  obtain rfl : nl2 = nl := by omega
  clear e0 e1 e2 e3 e4 f0 f1 f2 f3 f4 hb1 hs1 hb2 hA0 ha hb
  simp only [dataC] at HA HB HBE H1 H2
  go_enter Tryz.func26, Tryz.ntmps26
  simp only [dataC]
  have a0_0 := HA.out.cell 0
  have b0_0 := HB.out.cell 0
  have a0_1 := HA.out.cell 1
  have b0_1 := HB.out.cell 1
  have a0_2 := HA.out.cell 2
  have b0_2 := HB.out.cell 2
  have a0_3 := HA.out.cell 3
  have b0_3 := HB.out.cell 3
  have a0_4 := HA.out.cell 4
  have b0_4 := HB.out.cell 4
  simp at a0_0 b0_0 a0_1 b0_1 a0_2 b0_2 a0_3 b0_3 a0_4 b0_4
  have HC0 := Lib.hid (same_data _ ⟨ba, bl2, bc, ha', hl, hc, ma, ml, mc, na, nl2, nc, ta, tl, tc⟩ ⟨ba2, bl2, bc2, ha2, hl2, hc2, ma2, ml2, mc2, na2, nl2, nc2, ta2, tl2, tc2⟩ d H1.out H2.out)
  go_wp2_with fail
  refine HC0.out.mono ?_
  rintro e w1 ⟨rfl, hb1⟩
  have HX1 := Lib.hid (hb1)
  clear hb1
  have a1 := (HA.out.on HX1.out).cell 1
  have b1 := (HB.out.on HX1.out).cell 1
  simp at a1 b1
  have HC1 := Lib.hid (exact_any _ _ _ _ _ _ _ _ _ (H1.out.on HX1.out).host (H2.out.on HX1.out).host)
  rw [exactB_self] at HC1
  go_wp2_with fail
  refine HC1.out.mono ?_
  rintro e w2 ⟨rfl, hb2⟩
  have HX2 := Lib.hid (below_on HX1.out hb2 (Nat.le_refl _))
  clear hb2
  have a2 := (HA.out.on HX2.out).cell 2
  have b2 := (HB.out.on HX2.out).cell 2
  simp at a2 b2
  have HC2 := Lib.hid (exact_any _ _ _ _ _ _ _ _ _ (H1.out.on HX2.out).mail (H2.out.on HX2.out).mail)
  rw [exactB_self] at HC2
  go_wp2_with fail
  refine HC2.out.mono ?_
  rintro e w3 ⟨rfl, hb3⟩
  have HX3 := Lib.hid (below_on HX2.out hb3 (Nat.le_refl _))
  clear hb3
  go_wp2_with fail
  go_ret
  exact ⟨rfl, below_on HBE.out HX3.out (Nat.le_refl _)⟩
end
end Go.Proofs.YtipbakdodbmfjaaGreatDoor

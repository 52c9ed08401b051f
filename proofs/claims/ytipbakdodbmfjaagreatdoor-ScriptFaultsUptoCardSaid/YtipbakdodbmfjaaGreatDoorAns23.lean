/- Contracts of the script statements' own answers and light. -/
import Derived.Test.YtipbakdodbmfjaaGreatDoorPut
namespace Go.Proofs.YtipbakdodbmfjaaGreatDoor
open Go.ChangeShapes Go.WideShapes Go.ChangeAt Go.RowKit

/-- not too large -/
def lightA (x : ActP) : Bool := x.name.all (fun s => decide (s.size ≤ 300)) && (decide (x.data.length ≤ 3000) && decide (x.name.length ≤ 200))
theorem sizeN_300 (ss : List ByteArray) (h : ∀ s ∈ ss, s.size ≤ 300) : sizeN ss ≤ 301 * ss.length := by
  induction ss with
  | nil => simp [sizeN]
  | cons s ss ih =>
    have := ih fun x hx => h x (by simp [hx])
    have := h s (by simp)
    simp only [sizeN, List.length_cons]
    omega
theorem lightA_fit {x : ActP} (h : lightA x = true) (hx : x.fits) : ActFit x := by
  simp only [lightA, Bool.and_eq_true, List.all_eq_true, decide_eq_true_eq] at h
  have h1 := sizeN_300 x.name h.1
  exact ⟨⟨hx, by omega, by omega⟩, by omega⟩
set_option maxHeartbeats 2000000 in
set_option maxRecDepth 100000 in
theorem light_any (w : World) (x : ActP) (nao : Option Addr) (nl nc : Nat) (dao : Option Addr) (dl dc : Nat) (hnx : Strs w nao nl nc x.name) (hdx : Byts w dao dl dc x.data) :
    Calls Tryz.prog 33 #[.agg (actCells x nao nl nc dao dl dc)] w fun e w' => e = .returned (.bool (lightA x)) ∧ Below w.heap.size w w' := by
  have hb1 : Below w.heap.size w (w.alloc (.cells (actCells x nao nl nc dao dl dc) 60)) := (Below.refl _ _).alloc (Nat.le_refl _) _
  have hA : Blk (w.alloc (.cells (actCells x nao nl nc dao dl dc) 60)) w.heap.size (actCells x nao nl nc dao dl dc) 60 := heap_alloc_new w _
  have hs := hnx.below hb1 (Nat.le_refl _)
  have HB := Lib.hid hb1
  have a4 := hA.cell 4
  have a7 := hA.cell 7
  simp [actCells] at a4 a7
  have hl := hnx.len
  have hcap := hnx.row.hcap
  have hle := hnx.row.hle
  have hmax := hnx.row.hmax
  have hdl : x.data.length = dl := by simpa using hdx.hlen
  have hdle := hdx.hle
  have hdcap := hdx.hcap
  have HDL := Lib.hid hdl
  simp only [actCells] at hs HB
  clear hb1 hA hnx hdx hdl
  go_enter Tryz.func33, Tryz.ntmps33
  simp only [actCells]
  go_wp2_with fail
  go_loop [3] (fun i => ∃ k : Nat, k ≤ nl ∧ i = .int .i64 k ∧ Hid (∀ s ∈ x.name.take k, s.size ≤ 300)) (fun i => nl - (intOf i).toNat)
  case atStart => exact ⟨0, Nat.zero_le _, rfl, fun s hs => by simp at hs⟩
  case round =>
    obtain ⟨k, hk, rfl, hall⟩ := hrel
    by_cases hlt : k < nl
    · obtain ⟨b, off, rfl⟩ := hs.row.addr hlt
      have hc := hs.at hlt
      have h3 := hs.get_small (i := k) (by omega)
      have h8 := List.take_succ_eq_append_getElem (l := x.name) (i := k) (by omega)
      have hm : x.name[k] ∈ x.name := List.getElem_mem _
      obtain ⟨s, hsk⟩ : ∃ s, s = x.name[k] := ⟨_, rfl⟩
      rw [← hsk] at hc h3 h8 hm
      have H8 := Lib.hid h8
      have HM := Lib.hid hm
      clear h8 hsk hm
      by_cases hx : s.size ≤ 300
      · go_wp2
        go_round
        case rel =>
          refine ⟨k + 1, by omega, by go_num, ?_⟩
          rw [Hid, H8.out]
          intro x hx'
          rcases List.mem_append.1 hx' with h | h
          · exact hall.out x h
          · simp at h; rw [h]; exact hx
        case measure => simp [intOf]; omega
      · have HN : Hid (lightA x = false) := by
          have : x.name.all (fun s => decide (s.size ≤ 300)) = false := by
            simp only [List.all_eq_false]
            exact ⟨s, HM.out, by simpa using hx⟩
          simp [Hid, lightA, this]
        go_wp2
        go_ret
        exact ⟨ret_bool HN.out.symm, HB.out⟩
    · have HK : Hid (x.name.take k = x.name) := List.take_of_length_le (by omega)
      have hke : k = nl := by omega
      have HA : Hid (x.name.all (fun s => decide (s.size ≤ 300)) = true) := by
        have h := hall.out
        rw [HK.out] at h
        show x.name.all _ = true
        simpa using h
      have HXL := Lib.hid hl
      clear hl hall
      by_cases h7 : dl ≤ 3000
      · have d7 : decide ((dl : Int) ≤ 3000) = true := by rw [decide_eq_true_eq]; omega
        by_cases h9 : nl ≤ 200
        · have d9 : decide ((nl : Int) ≤ 200) = true := by rw [decide_eq_true_eq]; omega
          go_wp2
          go_ret
          refine ⟨ret_bool ?_, HB.out⟩
          simp [lightA, HA.out, HXL.out, HDL.out, h7, h9]
        · have d9 : decide ((nl : Int) ≤ 200) = false := by rw [decide_eq_false_iff_not]; omega
          go_wp2
          go_ret
          refine ⟨ret_bool ?_, HB.out⟩
          simp [lightA, HXL.out, h9]
      · have d7 : decide ((dl : Int) ≤ 3000) = false := by rw [decide_eq_false_iff_not]; omega
        go_wp2
        go_ret
        refine ⟨ret_bool ?_, HB.out⟩
        simp [lightA, HDL.out, h7]

/-- the act that answers asks for -/
def ansAct : ActP := ⟨7, 0, 0, 0, [⟨#[99, 111, 109]⟩], 0, 0, []⟩
theorem ans_line : lineL ansAct = some [102, 108, 117, 115, 104, 32, 99, 111, 109, 46] := by decide +kernel
theorem ansAct_fits : ansAct.fits := by
  unfold ansAct ActP.fits
  simp
theorem ansAct_fit : ActFit ansAct := lightA_fit (by decide +kernel) ansAct_fits
/-- what answers asks for, put -/
theorem put_ans {w : World} {e : Ending} {w' : World} (h : PutRes w [ansAct] e w') : Below w.heap.size w w' ∧ e = .returned (.tuple #[.string ⟨#[102, 108, 117, 115, 104, 32, 99, 111, 109, 46, 10]⟩, .int .i64 0]) := by
  have hl : lineS ansAct = some [102, 108, 117, 115, 104, 32, 99, 111, 109, 46] := by rw [line_same _ ansAct_fits]; exact ans_line
  obtain ⟨hb, h⟩ := h
  refine ⟨hb, ?_⟩
  rcases h with ⟨⟨x, hx, hn⟩, _⟩ | ⟨ts, hts, he⟩
  · simp at hx
    subst hx
    rw [hl] at hn
    cases hn
  · simp only [List.map_cons, List.map_nil, hl] at hts
    match ts, hts with
    | [t], hts =>
      simp at hts
      subst hts
      rw [he]
      rfl
set_option maxHeartbeats 2000000 in
set_option maxRecDepth 100000 in
theorem answers_any (w : World) (hE : Env w) :
    Calls Tryz.prog 32 #[] w fun e w' => e = .returned (.bool true) ∧ Below w.heap.size w w' := by
  obtain ⟨W1, hW1⟩ : ∃ z, z = w.alloc (.cells #[.string ⟨#[99, 111, 109]⟩] 9) := ⟨_, rfl⟩
  obtain ⟨W2, hW2⟩ : ∃ z, z = W1.alloc (.cells (actCells ansAct (some ⟨w.heap.size, 0, none⟩) 1 1 none 0 0) 60) := ⟨_, rfl⟩
  have hs1 : W1.heap.size = w.heap.size + 1 := by rw [hW1, World.size_alloc]
  have hb1 : Below w.heap.size w W1 := by rw [hW1]; exact (Below.refl _ _).alloc (Nat.le_refl _) _
  have hb12 : Below W1.heap.size W1 W2 := by rw [hW2]; exact (Below.refl _ _).alloc (Nat.le_refl _) _
  have hb2 : Below w.heap.size w W2 := below_on hb1 hb12 (Nat.le_refl _)
  have hS : Strs W1 (some ⟨w.heap.size, 0, none⟩) 1 1 ansAct.name := by
    refine ⟨?_, fun s hs => by simp [ansAct] at hs; subst hs; decide⟩
    rw [hW1]
    exact row_one w _ _
  have hD : Byts W2 none 0 0 ansAct.data := (Row.empty (by omega) (fun _ => rfl) : Row _ none 0 0 [])
  have hB : Blk W2 (w.heap.size + 1) (actCells ansAct (some ⟨w.heap.size, 0, none⟩) 1 1 none 0 0) 60 := by
    rw [hW2, ← hs1]; exact heap_alloc_new W1 _
  have hA : Acts W2 (some ⟨w.heap.size + 1, 0, none⟩) 1 1 [ansAct] := by
    refine ⟨rfl, Nat.le_refl _, by omega, fun _ => ⟨_, _, rfl, fun i hi => ?_⟩⟩
    have h0 : i = 0 := by simpa using hi
    subst h0
    refine ⟨_, _, _, _, _, _, fun j hj => ?_, hS.below hb12 (Nat.le_refl _), hD⟩
    have h9 := hB.cell j
    rw [show 0 + 0 * 8 + j = j from by omega]
    exact h9
  have hput := put_any W2 _ 1 1 [ansAct] hA (fun x hx => by simp at hx; subst hx; exact ansAct_fit) (by omega) (hE.on hb2)
  have HPUT := Lib.hid hput
  have HB2 := Lib.hid hb2
  clear hput hb2 hA hB hD hS hb12 hb1 hs1 hE
  rw [hW1] at hW2
  simp only [actCells, ansAct] at hW2
  subst hW2
  clear hW1 W1
  go_enter Tryz.func32, Tryz.ntmps32
  go_wp2_with fail
  refine HPUT.out.mono ?_
  intro e w' hr
  obtain ⟨hb, rfl⟩ := put_ans hr
  have HB3 := Lib.hid (below_on HB2.out hb (Nat.le_refl _))
  clear hr hb HPUT
  go_wp2_with fail
  go_ret
  exact ⟨rfl, HB3.out⟩
end Go.Proofs.YtipbakdodbmfjaaGreatDoor

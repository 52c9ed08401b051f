/- Contracts that the file statements' answers reach, at the very words that it asks for. -/
import Derived.Test.YtipbakdodbmfjaaGreatDoorTypeName
import Derived.Test.YtipbakdodbmfjaaGreatDoorAct
import Derived.Test.YtipbakdodbmfjaaGreatDoorParse
import Derived.Deep.MidRow
namespace Go.Proofs.YtipbakdodbmfjaaGreatDoor
open Go.ChangeShapes Go.WideShapes Go.ChangeAt Go.RowKit

set_option maxHeartbeats 1000000 in
set_option maxRecDepth 100000 in
/-- the one word -/
theorem word_one (w : World) (R b : Nat) (x : ByteArray) (hR : Blk w R #[.slice (some ⟨b, 0, none⟩) 1 1, .slice none 0 0, .bool false] 88) (hc : w.cell? ⟨b, 0, none⟩ = some (.string x)) :
    Calls Tryz.prog 101 #[.pointer (some ⟨R, 0, none⟩)] w fun e w' => e = .returned (.string x) ∧ ∃ ao, w' = w.setCell ⟨R, 0, none⟩ (.slice ao 0 0) := by
  have c0 := hR.cell 0
  have c1 := hR.cell 1
  have c2 := hR.cell 2
  simp at c0 c1 c2
  have f0 := hR.free 0
  go_enter Tryz.func101, Tryz.ntmps101
  go_wp2
  go_ret
  exact ⟨rfl, _, rfl⟩
set_option maxHeartbeats 1000000 in
/-- nothing is wrong -/
theorem check_true (w : World) (R : Nat) (ao : Option Addr) (hR : Blk w R #[.slice ao 0 0, .slice none 0 0, .bool false] 88) :
    Calls Tryz.prog 131 #[.pointer (some ⟨R, 0, none⟩), .bool true] w fun e w' => e = .returned (.tuple #[]) ∧ w' = w := by
  have c2 := hR.cell 2
  simp at c2
  have f2 := hR.free 2
  have hz : w.setCell ⟨R, 2, none⟩ (.bool false) = w := setCell_self hR c2
  go_enter Tryz.func131, Tryz.ntmps131
  go_wp2
  go_end0
  exact ⟨rfl, rfl⟩
set_option maxHeartbeats 1000000 in
/-- none of none -/
theorem idx_none (w : World) (f : Value) : Calls Tryz.prog 126 #[.slice none 0 0, f] w fun e w' => e = .returned (.int .i64 (-1)) ∧ w' = w := by
  go_enter Tryz.func126, Tryz.ntmps126
  go_wp2
  go_loopw [8] (fun iv wr => iv = .int .i64 0 ∧ wr = w) (fun _ _ => 0)
  case atStart => exact ⟨rfl, rfl⟩
  case round =>
    obtain ⟨rfl, rfl⟩ := hrel
    go_wp2
    go_ret
    exact ⟨rfl, rfl⟩
set_option maxHeartbeats 1000000 in
theorem contains_none (w : World) (f : Value) : Calls Tryz.prog 84 #[.slice none 0 0, f] w fun e w' => e = .returned (.bool false) ∧ w' = w := by
  go_enter Tryz.func84, Tryz.ntmps84
  go_wp2_with fail
  refine (idx_none _ _).mono ?_
  rintro e w1 ⟨rfl, rfl⟩
  go_wp2_with fail
  go_ret
  exact ⟨rfl, rfl⟩
def shapeOne : Array Value := #[.int .i64 4, .bool false, .bool false, .bool false, .int .i64 0, .int .i64 0, .bool false, .bool false]
theorem shape_results {tmps : Array Value} {w : World} {R : Nat} (h2 : tmps[2]? = some (.pointer (some ⟨R, 0, none⟩))) (hB : Blk w R shapeOne 116) :
    (results Tryz.f83 tmps).run Tryz.prog w = .ok (.agg shapeOne) w := by
  have c0 := hB.cell 0
  have c1 := hB.cell 1
  have c2 := hB.cell 2
  have c3 := hB.cell 3
  have c4 := hB.cell 4
  have c5 := hB.cell 5
  have c6 := hB.cell 6
  have c7 := hB.cell 7
  simp [shapeOne] at c0 c1 c2 c3 c4 c5 c6 c7
  simp [results, go_sem, h2, c0, c1, c2, c3, c4, c5, c6, c7, shapeOne]
set_option maxHeartbeats 1000000 in
set_option maxRecDepth 100000 in
theorem shapes_one (w : World) : Calls Tryz.prog 83 #[.int .i64 1] w fun e w' => e = .returned (.agg shapeOne) ∧ Below w.heap.size w w' := by
  have hb : Below w.heap.size w (w.alloc (.cells shapeOne 116)) := (Below.refl _ _).alloc (Nat.le_refl _) _
  have hB : Blk (w.alloc (.cells shapeOne 116)) w.heap.size shapeOne 116 := heap_alloc_new w _
  go_enter Tryz.func83, Tryz.ntmps83
  go_wp2
  refine bodyPost_ret (v := .agg shapeOne) (shape_results rfl hB) rfl ?_
  exact ⟨rfl, hb⟩
def dataV (a0 : Option Addr) (n0 c0 : Nat) : Array Value := #[.slice a0 n0 c0, .slice none 0 0, .slice none 0 0, .slice none 0 0, .slice none 0 0]
set_option maxHeartbeats 4000000 in
set_option maxRecDepth 100000 in
theorem sound_one (w : World) (a0 : Option Addr) (c0 : Nat) : Calls Tryz.prog 47 #[.int .i64 1, .agg (dataV a0 4 c0)] w fun e w' => e = .returned (.bool true) ∧ Below w.heap.size w w' := by
  have hb1 : Below w.heap.size w (w.alloc (.cells (dataV a0 4 c0) 33)) := (Below.refl _ _).alloc (Nat.le_refl _) _
  have HA := Lib.hid (show Blk (w.alloc (.cells (dataV a0 4 c0) 33)) w.heap.size (dataV a0 4 c0) 33 from heap_alloc_new w _)
  have HB1 := Lib.hid hb1
  clear hb1
  simp only [dataV] at HA HB1
  go_enter Tryz.func47, Tryz.ntmps47
  simp only [dataV]
  go_wp2_with fail
  refine (shapes_one _).mono ?_
  rintro e w2 ⟨rfl, hb2⟩
  have hb3 : Below w2.heap.size w2 (w2.alloc (.cells shapeOne 116)) := (Below.refl _ _).alloc (Nat.le_refl _) _
  have hS : Blk (w2.alloc (.cells shapeOne 116)) w2.heap.size shapeOne 116 := heap_alloc_new w2 _
  have hA := (HA.out.on hb2).on hb3
  have a0' := hA.cell 0
  have a1 := hA.cell 1
  have a2 := hA.cell 2
  have a3 := hA.cell 3
  have a4 := hA.cell 4
  simp only [shapeOne] at hS
  have s0 := hS.cell 0
  have s1 := hS.cell 1
  have s2 := hS.cell 2
  have s3 := hS.cell 3
  have s4 := hS.cell 4
  have s5 := hS.cell 5
  have s6 := hS.cell 6
  have s7 := hS.cell 7
  simp [shapeOne] at a0' a1 a2 a3 a4
  have HB3 := Lib.hid (below_on HB1.out (below_on hb2 hb3 (Nat.le_refl _)) (Nat.le_refl _))
  simp only [shapeOne] at HB3
  clear hb2 hb3 hS hA
  simp only [shapeOne]
  go_wp2_with fail
  refine (contains_none _ _).mono ?_
  rintro e w4 ⟨rfl, rfl⟩
  go_wp2_with fail
  go_ret
  exact ⟨rfl, HB3.out⟩

def fourS : ByteArray := ⟨#[49, 46, 50, 46, 51, 46, 52]⟩
theorem four_split : splitP 46 fourS.data.toList = [[49], [50], [51], [52]] := by decide
theorem four_num : numP [49] = some 1 ∧ numP [50] = some 2 ∧ numP [51] = some 3 ∧ numP [52] = some 4 := by decide +kernel
theorem split_four (w : World) (hE : Env w) :
    Calls Tryz.prog 76 #[.string fourS, .string ⟨#[46]⟩] w fun e w' => ∃ G, e = .returned (.slice (some ⟨G, 0, none⟩) 4 4) ∧ Below w.heap.size w w' ∧ w'.cell? ⟨G, 0, none⟩ = some (.string ⟨#[49]⟩) ∧ w'.cell? ⟨G, 1, none⟩ = some (.string ⟨#[50]⟩) ∧ w'.cell? ⟨G, 2, none⟩ = some (.string ⟨#[51]⟩) ∧ w'.cell? ⟨G, 3, none⟩ = some (.string ⟨#[52]⟩) := by
  obtain ⟨m, hm⟩ := hE.max
  refine (Tryz.strings_Split fourS ⟨#[46]⟩ m w (by decide) hm (by decide)).mono fun e w' ⟨h1, h2⟩ => ?_
  have heq := splitB_one fourS 46
  rw [four_split] at heq
  obtain ⟨ws, hws⟩ : ∃ ws, ws = Lib.splitB ⟨#[46]⟩ 0 (Lib.countB fourS ⟨#[46]⟩) fourS := ⟨_, rfl⟩
  rw [← hws] at h2 heq
  have hlen : ws.length = 4 := by simpa using congrArg List.length heq
  match ws, hlen, heq with
  | [a, b, c, d], _, heq =>
    simp only [List.map_cons, List.map_nil, List.cons.injEq, and_true] at heq
    obtain ⟨ha, hb, hc, hd⟩ := heq
    have ea : a = ⟨#[49]⟩ := bytes_eq _ _ ha
    have eb : b = ⟨#[50]⟩ := bytes_eq _ _ hb
    have ec : c = ⟨#[51]⟩ := bytes_eq _ _ hc
    have ed : d = ⟨#[52]⟩ := bytes_eq _ _ hd
    subst ea; subst eb; subst ec; subst ed
    have h1' := Lib.splitB_all ⟨#[46]⟩ (by decide) 0 _ fourS rfl
    subst h2
    refine ⟨w.heap.size, ?_, (Below.refl _ _).alloc (Nat.le_refl _) _, ?_, ?_, ?_, ?_⟩
    · rw [h1]
      rw [← hws] at h1'
      simp at h1'
      rw [h1']
    all_goals (rw [World.cell?_alloc_new]; rfl)
/-- what an own row is -/
theorem row_own {w : World} {base : Nat} {e : TypeId} {vs : List Value} {n : Nat} {v : Value} (h : w.ownsRow base e 1 v n vs) (h0 : 0 < n) (hn : n ≤ 1000) :
    ∃ g cap, v = .slice (some ⟨g, 0, none⟩) n cap ∧ base ≤ g ∧ Row w (some ⟨g, 0, none⟩) n cap vs := by
  obtain ⟨hl, h⟩ := h
  rcases h with ⟨_, h⟩ | ⟨g, cap, cur, e, hge, hb, hn', hc, hs, ht⟩
  · omega
  · refine ⟨g, cap, e, hge, ⟨by simpa using hl, hn', by simpa [maxLen] using hc, by omega, fun e => (by cases e), fun _ => ⟨g, 0, rfl, fun i hi => ?_⟩⟩⟩
    have h2 : vs[i]? = (cur.toList.take (n * 1))[i]? := by rw [ht]
    rw [Nat.zero_add, Lib.cell_of_heap hb, ← List.getElem?_eq_getElem hi, h2, List.getElem?_take, if_pos (by omega)]
    simp
abbrev readerV (ao : Option Addr) : Array Value := #[.slice ao 0 0, .slice none 0 0, .bool false]
set_option maxHeartbeats 4000000 in
set_option maxRecDepth 100000 in
theorem four_one (w : World) (R b : Nat) (hR : Blk w R #[.slice (some ⟨b, 0, none⟩) 1 1, .slice none 0 0, .bool false] 88) (hc : w.cell? ⟨b, 0, none⟩ = some (.string fourS)) (hE : Env w) (hg : lowG ≤ R) :
    Calls Tryz.prog 96 #[.pointer (some ⟨R, 0, none⟩)] w fun e w' => ∃ ao c av, e = .returned (.slice ao 4 c) ∧ w.grownBy w' (some R) ∧ Blk w' R (readerV av) 88 ∧ Byts w' ao 4 c [1, 2, 3, 4] ∧ ∀ a, ao = some a → w.heap.size ≤ a.block := by
  have HWD := Lib.hid (word_one w R b fourS hR hc)
  have HR := Lib.hid hR
  have HE := Lib.hid hE
  have hRlt := hR.lt
  clear hR hc hE
  go_enter Tryz.func96, Tryz.ntmps96
  go_wp2_with fail
  refine HWD.out.mono ?_
  rintro e w1 ⟨rfl, av, rfl⟩
  have HR1 := Lib.hid (HR.out.set 0 (.slice av 0 0))
  have HG1 := Lib.hid (but_set w R 0 (.slice av 0 0))
  have hE1 := HE.out.but HG1.out hg
  have HSP := Lib.hid (split_four _ hE1)
  have HE1 := Lib.hid hE1
  clear hE1 HWD
  go_wp2_with fail
  refine HSP.out.mono ?_
  rintro e w2 ⟨G, rfl, hb2, g0, g1, g2, g3⟩
  have HR2 := Lib.hid (show Blk w2 R (readerV av) 88 from HR1.out.on hb2)
  have HG2 := Lib.hid (but_trans HG1.out (but_of_below R hb2))
  have HE2 := Lib.hid (HE1.out.on hb2)
  clear hb2 HSP HR1 HG1 HE1
  go_wp2_with fail
  refine (check_true w2 R av HR2.out).mono ?_
  rintro e w3 ⟨rfl, rfl⟩
  go_wp2_with fail
  go_loopw [19, 3] (fun iv ov wr => ∃ i : Nat, i ≤ 4 ∧ iv = .int .i64 i ∧ Hid (Below w3.heap.size w3 wr ∧ wr.ownsRow w3.heap.size 5 1 ov i ((([1, 2, 3, 4] : List UInt8).take i).map fun c => Value.int .u8 (c.toNat : Int)))) (fun iv _ _ => 4 - (intOf iv).toNat)
  case atStart => exact ⟨0, Nat.zero_le _, rfl, Below.refl _ _, World.ownsRow_nil _ _ _ _⟩
  case round =>
    obtain ⟨i, hi, rfl, hinv⟩ := hrel
    have hb := hinv.out.1
    have k0 := cell_keep hb g0
    have k1 := cell_keep hb g1
    have k2 := cell_keep hb g2
    have k3 := cell_keep hb g3
    have HBR := Lib.hid hb
    have HEW := Lib.hid (HE2.out.on hb)
    have HRW := Lib.hid (HR2.out.on hb)
    clear hb
    rcases (show i = 0 ∨ i = 1 ∨ i = 2 ∨ i = 3 ∨ i = 4 by omega) with rfl | rfl | rfl | rfl | rfl
    · have hnum := numf_any wr ⟨#[49]⟩ 255 (by decide) HEW.out
      have hd : (⟨#[49]⟩ : ByteArray).data.toList = [49] := rfl
      rw [hd, four_num.1] at hnum
      have HNUM := Lib.hid hnum
      clear hnum hd
      go_wp2_with fail
      refine HNUM.out.mono ?_
      rintro e w4 ⟨hb4, v, rfl, hv⟩
      have hv1 : v = 1 := by have := hv rfl; simpa using this.symm
      subst hv1
      have hok : okN (some 1) 255 = true := rfl
      rw [hok]
      have HB4 := Lib.hid (below_on HBR.out hb4 (Nat.le_refl _))
      have HR4 := Lib.hid (HRW.out.on hb4)
      obtain ⟨i0, hii, hz0, hz1, hz2⟩ := info_parts infoByte
      obtain ⟨v', w5, hrun, hown5, _, hb6⟩ := append_one (P := Tryz.prog) w4 w3 w3.heap.size 29 29 5 i0 _ 1 Tryz.underlying29 hii hz0 hz1 hz2 rfl _ _ _ (owns_keep hinv.out.2 hb4) (.int .u8 1) rfl (by omega) (by omega) HB4.out HB4.out.size
      have HRUN := Lib.hid hrun
      have HOW := Lib.hid hown5
      have HB6 := Lib.hid hb6
      clear hrun hown5 hb6 hii hz0 hz1 hz2 hb4 hv HNUM hok
      go_wp2_with (first | (go_at_call 131; refine (check_true w4 R av HR4.out).mono ?_; rintro e w9 ⟨rfl, rfl⟩) | (at_builtin; refine wpList_append_run rfl _ _ _ rfl _ _ rfl rfl HRUN.out ?_))
      go_roundw
      case rel => exact ⟨0 + 1, by omega, by go_num, HB6.out, HOW.out⟩
      case measure => simp [intOf]
    · have hnum := numf_any wr ⟨#[50]⟩ 255 (by decide) HEW.out
      have hd : (⟨#[50]⟩ : ByteArray).data.toList = [50] := rfl
      rw [hd, four_num.2.1] at hnum
      have HNUM := Lib.hid hnum
      clear hnum hd
      go_wp2_with fail
      refine HNUM.out.mono ?_
      rintro e w4 ⟨hb4, v, rfl, hv⟩
      have hv1 : v = 2 := by have := hv rfl; simpa using this.symm
      subst hv1
      have hok : okN (some 2) 255 = true := rfl
      rw [hok]
      have HB4 := Lib.hid (below_on HBR.out hb4 (Nat.le_refl _))
      have HR4 := Lib.hid (HRW.out.on hb4)
      obtain ⟨i0, hii, hz0, hz1, hz2⟩ := info_parts infoByte
      obtain ⟨v', w5, hrun, hown5, _, hb6⟩ := append_one (P := Tryz.prog) w4 w3 w3.heap.size 29 29 5 i0 _ 1 Tryz.underlying29 hii hz0 hz1 hz2 rfl _ _ _ (owns_keep hinv.out.2 hb4) (.int .u8 2) rfl (by omega) (by omega) HB4.out HB4.out.size
      have HRUN := Lib.hid hrun
      have HOW := Lib.hid hown5
      have HB6 := Lib.hid hb6
      clear hrun hown5 hb6 hii hz0 hz1 hz2 hb4 hv HNUM hok
      go_wp2_with (first | (go_at_call 131; refine (check_true w4 R av HR4.out).mono ?_; rintro e w9 ⟨rfl, rfl⟩) | (at_builtin; refine wpList_append_run rfl _ _ _ rfl _ _ rfl rfl HRUN.out ?_))
      go_roundw
      case rel => exact ⟨1 + 1, by omega, by go_num, HB6.out, HOW.out⟩
      case measure => simp [intOf]
    · have hnum := numf_any wr ⟨#[51]⟩ 255 (by decide) HEW.out
      have hd : (⟨#[51]⟩ : ByteArray).data.toList = [51] := rfl
      rw [hd, four_num.2.2.1] at hnum
      have HNUM := Lib.hid hnum
      clear hnum hd
      go_wp2_with fail
      refine HNUM.out.mono ?_
      rintro e w4 ⟨hb4, v, rfl, hv⟩
      have hv1 : v = 3 := by have := hv rfl; simpa using this.symm
      subst hv1
      have hok : okN (some 3) 255 = true := rfl
      rw [hok]
      have HB4 := Lib.hid (below_on HBR.out hb4 (Nat.le_refl _))
      have HR4 := Lib.hid (HRW.out.on hb4)
      obtain ⟨i0, hii, hz0, hz1, hz2⟩ := info_parts infoByte
      obtain ⟨v', w5, hrun, hown5, _, hb6⟩ := append_one (P := Tryz.prog) w4 w3 w3.heap.size 29 29 5 i0 _ 1 Tryz.underlying29 hii hz0 hz1 hz2 rfl _ _ _ (owns_keep hinv.out.2 hb4) (.int .u8 3) rfl (by omega) (by omega) HB4.out HB4.out.size
      have HRUN := Lib.hid hrun
      have HOW := Lib.hid hown5
      have HB6 := Lib.hid hb6
      clear hrun hown5 hb6 hii hz0 hz1 hz2 hb4 hv HNUM hok
      go_wp2_with (first | (go_at_call 131; refine (check_true w4 R av HR4.out).mono ?_; rintro e w9 ⟨rfl, rfl⟩) | (at_builtin; refine wpList_append_run rfl _ _ _ rfl _ _ rfl rfl HRUN.out ?_))
      go_roundw
      case rel => exact ⟨2 + 1, by omega, by go_num, HB6.out, HOW.out⟩
      case measure => simp [intOf]
    · have hnum := numf_any wr ⟨#[52]⟩ 255 (by decide) HEW.out
      have hd : (⟨#[52]⟩ : ByteArray).data.toList = [52] := rfl
      rw [hd, four_num.2.2.2] at hnum
      have HNUM := Lib.hid hnum
      clear hnum hd
      go_wp2_with fail
      refine HNUM.out.mono ?_
      rintro e w4 ⟨hb4, v, rfl, hv⟩
      have hv1 : v = 4 := by have := hv rfl; simpa using this.symm
      subst hv1
      have hok : okN (some 4) 255 = true := rfl
      rw [hok]
      have HB4 := Lib.hid (below_on HBR.out hb4 (Nat.le_refl _))
      have HR4 := Lib.hid (HRW.out.on hb4)
      obtain ⟨i0, hii, hz0, hz1, hz2⟩ := info_parts infoByte
      obtain ⟨v', w5, hrun, hown5, _, hb6⟩ := append_one (P := Tryz.prog) w4 w3 w3.heap.size 29 29 5 i0 _ 1 Tryz.underlying29 hii hz0 hz1 hz2 rfl _ _ _ (owns_keep hinv.out.2 hb4) (.int .u8 4) rfl (by omega) (by omega) HB4.out HB4.out.size
      have HRUN := Lib.hid hrun
      have HOW := Lib.hid hown5
      have HB6 := Lib.hid hb6
      clear hrun hown5 hb6 hii hz0 hz1 hz2 hb4 hv HNUM hok
      go_wp2_with (first | (go_at_call 131; refine (check_true w4 R av HR4.out).mono ?_; rintro e w9 ⟨rfl, rfl⟩) | (at_builtin; refine wpList_append_run rfl _ _ _ rfl _ _ rfl rfl HRUN.out ?_))
      go_roundw
      case rel => exact ⟨3 + 1, by omega, by go_num, HB6.out, HOW.out⟩
      case measure => simp [intOf]
    · obtain ⟨hbw, ho⟩ := hinv.out
      obtain ⟨g, cap, hov, hge, hrow⟩ := row_own ho (by omega) (by omega)
      have HROW := Lib.hid hrow
      have HGE := Lib.hid hge
      have HBW := Lib.hid hbw
      subst hov
      clear k0 k1 k2 k3 ho hinv hrow hge hbw
      go_wp2_with fail
      go_ret
      exact ⟨_, _, av, rfl, but_trans HG2.out (but_of_below R HBW.out), HRW.out, HROW.out, fun a ha => by cases ha; have h1 := HGE.out; have h2 := HG2.out.size; simp only; omega⟩
theorem data_results {tmps : Array Value} {w : World} {R : Nat} {ao : Option Addr} {n c : Nat} (h2 : tmps[4]? = some (.pointer (some ⟨R, 0, none⟩))) (hB : Blk w R (dataV ao n c) 33) :
    (results Tryz.f60 tmps).run Tryz.prog w = .ok (.agg (dataV ao n c)) w := by
  have c0 := hB.cell 0
  have c1 := hB.cell 1
  have c2 := hB.cell 2
  have c3 := hB.cell 3
  have c4 := hB.cell 4
  simp [dataV] at c0 c1 c2 c3 c4
  simp [results, go_sem, h2, c0, c1, c2, c3, c4, dataV]
set_option maxHeartbeats 4000000 in
set_option maxRecDepth 100000 in
theorem rdata_one (w : World) (R b : Nat) (hR : Blk w R #[.slice (some ⟨b, 0, none⟩) 1 1, .slice none 0 0, .bool false] 88) (hc : w.cell? ⟨b, 0, none⟩ = some (.string fourS)) (hE : Env w) (hg : lowG ≤ R) :
    Calls Tryz.prog 60 #[.pointer (some ⟨R, 0, none⟩), .int .i64 1] w fun e w' => ∃ ao c av, e = .returned (.agg (dataV ao 4 c)) ∧ w.grownBy w' (some R) ∧ Blk w' R (readerV av) 88 ∧ Byts w' ao 4 c [1, 2, 3, 4] ∧ ∀ a, ao = some a → w.heap.size ≤ a.block := by
  have hb1 : Below w.heap.size w (w.alloc (.cells (dataV none 0 0) 33)) := (Below.refl _ _).alloc (Nat.le_refl _) _
  have hD : Blk (w.alloc (.cells (dataV none 0 0) 33)) w.heap.size (dataV none 0 0) 33 := heap_alloc_new w _
  have hRlt := hR.lt
  have HF := Lib.hid (four_one (w.alloc (.cells (dataV none 0 0) 33)) R b (hR.on hb1) (cell_keep hb1 hc) (hE.on hb1) hg)
  have HD := Lib.hid hD
  have HB1 := Lib.hid hb1
  simp only [dataV] at HF HD HB1
  clear hb1 hD hR hc hE
  go_enter Tryz.func60, Tryz.ntmps60
  go_wp2_with fail
  refine HF.out.mono ?_
  rintro e w2 ⟨ao, c, av, rfl, hg2, hR2, hby, hfr⟩
  have hD2 := HD.out.but hg2 (by omega)
  have q0 := hD2.cell 0
  have q1 := hD2.cell 1
  have q2 := hD2.cell 2
  have q3 := hD2.cell 3
  have q4 := hD2.cell 4
  simp at q0 q1 q2 q3 q4
  have f0 := hD2.free 0
  have f1 := hD2.free 1
  have f2 := hD2.free 2
  have f3 := hD2.free 3
  have f4 := hD2.free 4
  have hD3 : Blk (w2.setCell ⟨w.heap.size, 0, none⟩ (.slice ao 4 c)) w.heap.size (dataV ao 4 c) 33 := hD2.set 0 (.slice ao 4 c)
  have r0 := hD3.cell 0
  have r1 := hD3.cell 1
  have r2 := hD3.cell 2
  have r3 := hD3.cell 3
  have r4 := hD3.cell 4
  simp only [dataV] at r0 r1 r2 r3 r4
  replace r0 : (w2.setCell ⟨w.heap.size, 0, none⟩ (.slice ao 4 c)).cell? ⟨w.heap.size, 0, none⟩ = some (.slice ao 4 c) := r0
  replace r1 : (w2.setCell ⟨w.heap.size, 0, none⟩ (.slice ao 4 c)).cell? ⟨w.heap.size, 1, none⟩ = some (.slice none 0 0) := r1
  replace r2 : (w2.setCell ⟨w.heap.size, 0, none⟩ (.slice ao 4 c)).cell? ⟨w.heap.size, 2, none⟩ = some (.slice none 0 0) := r2
  replace r3 : (w2.setCell ⟨w.heap.size, 0, none⟩ (.slice ao 4 c)).cell? ⟨w.heap.size, 3, none⟩ = some (.slice none 0 0) := r3
  replace r4 : (w2.setCell ⟨w.heap.size, 0, none⟩ (.slice ao 4 c)).cell? ⟨w.heap.size, 4, none⟩ = some (.slice none 0 0) := r4
  have z0 := setCell_self hD3 r0
  have z1 := setCell_self hD3 r1
  have z2 := setCell_self hD3 r2
  have z3 := setCell_self hD3 r3
  have z4 := setCell_self hD3 r4
  have HD3 := Lib.hid hD3
  have HFIN := Lib.hid (show w.grownBy (w2.setCell ⟨w.heap.size, 0, none⟩ (.slice ao 4 c)) (some R) ∧ Blk (w2.setCell ⟨w.heap.size, 0, none⟩ (.slice ao 4 c)) R (readerV av) 88 ∧ Byts (w2.setCell ⟨w.heap.size, 0, none⟩ (.slice ao 4 c)) ao 4 c [1, 2, 3, 4] ∧ ∀ a, ao = some a → w.heap.size ≤ a.block from by
    have hs := but_set w2 w.heap.size 0 (.slice ao 4 c)
    have hw1 := but_of_below R HB1.out
    have hw2 := but_trans hw1 hg2
    refine ⟨⟨hs.os.trans hw2.os, hs.tape.trans hw2.tape, hs.output.trans hw2.output, Nat.le_trans hw2.size hs.size, fun k hk hne => (hs.block k (Nat.lt_of_lt_of_le hk hw2.size) (by simp; omega)).trans (hw2.block k hk hne)⟩, hR2.but hs (by omega), hby.grown hs (fun a ha => by have := hfr a ha; simp at this; simp; omega), fun a ha => by have := hfr a ha; simp at this; omega⟩)
  clear hD2 hD3 hby hfr hR2 hg2 HF HD HB1
  go_wp2
  refine bodyPost_ret (v := .agg (dataV ao 4 c)) (data_results rfl HD3.out) rfl ?_
  exact ⟨ao, c, av, rfl, HFIN.out.1, HFIN.out.2.1, HFIN.out.2.2.1, HFIN.out.2.2.2⟩
theorem fdata_results {tmps : Array Value} {w : World} {R : Nat} {ao : Option Addr} {n c : Nat} {b : Value} (h2 : tmps[6]? = some (.pointer (some ⟨R, 0, none⟩))) (h3 : tmps[7]? = some b) (hB : Blk w R (dataV ao n c) 33) :
    (results Tryz.f25 tmps).run Tryz.prog w = .ok (.tuple #[.agg (dataV ao n c), b]) w := by
  have c0 := hB.cell 0
  have c1 := hB.cell 1
  have c2 := hB.cell 2
  have c3 := hB.cell 3
  have c4 := hB.cell 4
  simp [dataV] at c0 c1 c2 c3 c4
  simp [results, go_sem, h2, h3, c0, c1, c2, c3, c4, dataV]
/-- what Data hands back for the one word -/
def FdRes (w : World) (e : Ending) (w' : World) : Prop := ∃ ao c, e = .returned (.tuple #[.agg (dataV ao 4 c), .bool true]) ∧ Below w.heap.size w w' ∧ Byts w' ao 4 c [1, 2, 3, 4]
set_option maxHeartbeats 4000000 in
set_option maxRecDepth 100000 in
theorem fdata_one (w : World) (b : Nat) (hc : w.cell? ⟨b, 0, none⟩ = some (.string fourS)) (hE : Env w) :
    Calls Tryz.prog 25 #[.int .i64 1, .slice (some ⟨b, 0, none⟩) 1 1, .slice none 0 0] w (FdRes w) := by
  have hlow := hE.low
  have hb1 : Below w.heap.size w (w.alloc (.cells (dataV none 0 0) 33)) := (Below.refl _ _).alloc (Nat.le_refl _) _
  have hZ : Blk (w.alloc (.cells (dataV none 0 0) 33)) w.heap.size (dataV none 0 0) 33 := heap_alloc_new w _
  have hs1 : (w.alloc (.cells (dataV none 0 0) 33)).heap.size = w.heap.size + 1 := by simp
  have hb2 : Below (w.alloc (.cells (dataV none 0 0) 33)).heap.size (w.alloc (.cells (dataV none 0 0) 33)) ((w.alloc (.cells (dataV none 0 0) 33)).alloc (.cells #[.slice (some ⟨b, 0, none⟩) 1 1, .slice none 0 0, .bool false] 88)) := (Below.refl _ _).alloc (Nat.le_refl _) _
  have hR : Blk ((w.alloc (.cells (dataV none 0 0) 33)).alloc (.cells #[.slice (some ⟨b, 0, none⟩) 1 1, .slice none 0 0, .bool false] 88)) (w.heap.size + 1) #[.slice (some ⟨b, 0, none⟩) 1 1, .slice none 0 0, .bool false] 88 := by
    rw [← hs1]; exact heap_alloc_new _ _
  have hb12 := below_on hb1 hb2 (Nat.le_refl _)
  have hso := sound_any (w.alloc (.cells (dataV none 0 0) 33)) none 0 0 [] ⟨Row.empty (by omega) (fun _ => rfl), fun s hs => by cases hs⟩
  have hst : soundB ([] : List ByteArray) = true := by decide
  rw [hst] at hso
  have hrd := rdata_one _ (w.heap.size + 1) b hR (cell_keep hb12 hc) (hE.on hb12) (by omega)
  have HSO := Lib.hid hso
  have HRD := Lib.hid hrd
  have HZ := Lib.hid (hZ.on hb2)
  have HB12 := Lib.hid hb12
  have hs2 : ((w.alloc (.cells (dataV none 0 0) 33)).alloc (.cells #[.slice (some ⟨b, 0, none⟩) 1 1, .slice none 0 0, .bool false] 88)).heap.size = w.heap.size + 1 + 1 := by simp
  have HS2 := Lib.hid hs2
  simp only [dataV] at HSO HRD HZ HB12 HS2
  clear hlow hb1 hZ hs1 hb2 hR hb12 hso hst hrd hc hE hs2
  go_enter Tryz.func25, Tryz.ntmps25
  go_wp2_with fail
  refine HSO.out.mono ?_
  rintro e w1 ⟨rfl, rfl⟩
  go_wp2_with fail
  refine HRD.out.mono ?_
  rintro e w3 ⟨ao, c, av, rfl, hg3, hR3, hby, hfr⟩
  have hb4 : Below w3.heap.size w3 (w3.alloc (.cells (dataV ao 4 c) 33)) := (Below.refl _ _).alloc (Nat.le_refl _) _
  have hR4 := hR3.on hb4
  have r0 := hR4.cell 0
  have r1 := hR4.cell 1
  have r2 := hR4.cell 2
  have hD4 : Blk (w3.alloc (.cells (dataV ao 4 c) 33)) w3.heap.size (dataV ao 4 c) 33 := heap_alloc_new w3 _
  have d0 := hD4.cell 0
  have d1 := hD4.cell 1
  have d2 := hD4.cell 2
  have d3 := hD4.cell 3
  have d4 := hD4.cell 4
  simp [dataV] at r0 r1 r2 d0 d1 d2 d3 d4
  have HZ3 := Lib.hid (HZ.out.but hg3 (by omega))
  have HFR := Lib.hid (show ∀ a, ao = some a → w.heap.size < a.block from fun a ha => by have h1 := hfr a ha; have h2 := HS2.out; omega)
  have HBY := Lib.hid hby
  have HD4 := Lib.hid hD4
  have HB3 := Lib.hid (HB12.out.trans (below_of_but hg3 (by omega) (by have := HS2.out; omega)))
  have HSN := Lib.hid (sound_one (w3.alloc (.cells (dataV ao 4 c) 33)) ao c)
  have HB4 := Lib.hid hb4
  have HW3 := Lib.hid (show w.heap.size < w3.heap.size by have h1 := hg3.size; have h2 := HS2.out; omega)
  simp only [dataV] at HD4 HSN HB4
  clear hb4 hR4 hD4 hg3 hR3 hby hfr HRD HSO HZ
  go_wp2_with fail
  refine HSN.out.mono ?_
  rintro e w5 ⟨rfl, hb5⟩
  have hb45 := below_on HB4.out hb5 (Nat.le_refl _)
  have hD5 := HD4.out.on hb5
  have e0 := hD5.cell 0
  have e1 := hD5.cell 1
  have e2 := hD5.cell 2
  have e3 := hD5.cell 3
  have e4 := hD5.cell 4
  simp at e0 e1 e2 e3 e4
  have hZ5 := HZ3.out.on hb45
  have f0 := hZ5.free 0
  have f1 := hZ5.free 1
  have f2 := hZ5.free 2
  have f3 := hZ5.free 3
  have f4 := hZ5.free 4
  have y0 := hZ5.cell 0
  have y1 := hZ5.cell 1
  have y2 := hZ5.cell 2
  have y3 := hZ5.cell 3
  have y4 := hZ5.cell 4
  simp at y0 y1 y2 y3 y4
  have hZ6 : Blk (w5.setCell ⟨w.heap.size, 0, none⟩ (.slice ao 4 c)) w.heap.size (dataV ao 4 c) 33 := hZ5.set 0 (.slice ao 4 c)
  have t1 : (w5.setCell ⟨w.heap.size, 0, none⟩ (.slice ao 4 c)).cell? ⟨w.heap.size, 1, none⟩ = some (.slice none 0 0) := hZ6.cell 1
  have t2 : (w5.setCell ⟨w.heap.size, 0, none⟩ (.slice ao 4 c)).cell? ⟨w.heap.size, 2, none⟩ = some (.slice none 0 0) := hZ6.cell 2
  have t3 : (w5.setCell ⟨w.heap.size, 0, none⟩ (.slice ao 4 c)).cell? ⟨w.heap.size, 3, none⟩ = some (.slice none 0 0) := hZ6.cell 3
  have t4 : (w5.setCell ⟨w.heap.size, 0, none⟩ (.slice ao 4 c)).cell? ⟨w.heap.size, 4, none⟩ = some (.slice none 0 0) := hZ6.cell 4
  have z1 := setCell_self hZ6 t1
  have z2 := setCell_self hZ6 t2
  have z3 := setCell_self hZ6 t3
  have z4 := setCell_self hZ6 t4
  have HZ6 := Lib.hid hZ6
  have HFIN := Lib.hid (show Below w.heap.size w (w5.setCell ⟨w.heap.size, 0, none⟩ (.slice ao 4 c)) ∧ Byts (w5.setCell ⟨w.heap.size, 0, none⟩ (.slice ao 4 c)) ao 4 c [1, 2, 3, 4] from by
    have hs := but_set w5 w.heap.size 0 (.slice ao 4 c)
    have hb35 := below_on HB3.out hb45 (Nat.le_refl _)
    exact ⟨hb35.trans (below_of_but hs (Nat.le_refl _) hb35.size), (HBY.out.below hb45 (Nat.le_refl _)).grown hs (fun a ha => by have := HFR.out a ha; simp; omega)⟩)
  clear hb45 hD5 hZ5 hZ6 hb5 HSN
  go_wp2
  refine bodyPost_ret (v := .tuple #[.agg (dataV ao 4 c), .bool true]) (fdata_results rfl rfl HZ6.out) rfl ?_
  exact ⟨ao, c, rfl, HFIN.out.1, HFIN.out.2⟩
theorem ninety : typeNameP 99 = [84, 89, 80, 69, 57, 57] := by decide +kernel
set_option maxHeartbeats 4000000 in
set_option maxRecDepth 100000 in
theorem answers25_any (w : World) (hE : Env w) (hT : Types w) :
    Calls Tryz.prog 11 #[] w fun e w' => e = .returned (.bool true) ∧ Below w.heap.size w w' := by
  have hb1 : Below w.heap.size w (w.alloc (.cells #[.string fourS] 9)) := (Below.refl _ _).alloc (Nat.le_refl _) _
  have hcell : (w.alloc (.cells #[.string fourS] 9)).cell? ⟨w.heap.size, 0, none⟩ = some (.string fourS) := by rw [World.cell?_alloc_new]; rfl
  have HFD := Lib.hid (fdata_one (w.alloc (.cells #[.string fourS] 9)) w.heap.size hcell (hE.on hb1))
  have HE1 := Lib.hid (hE.on hb1)
  have HT1 := Lib.hid (hT.on hb1)
  have HB1 := Lib.hid hb1
  simp only [fourS] at HFD HE1 HT1 HB1
  clear hb1 hcell hE hT
  go_enter Tryz.func11, Tryz.ntmps11
  go_wp2_with fail
  refine HFD.out.mono ?_
  rintro e w2 ⟨ao, c, rfl, hb2, hby⟩
  have hb3 : Below w2.heap.size w2 (w2.alloc (.cells (dataV ao 4 c) 33)) := (Below.refl _ _).alloc (Nat.le_refl _) _
  have hD : Blk (w2.alloc (.cells (dataV ao 4 c) 33)) w2.heap.size (dataV ao 4 c) 33 := heap_alloc_new w2 _
  have hby3 := hby.below hb3 (Nat.le_refl _)
  obtain ⟨g, off, rfl⟩ := hby3.addr (k := 3) (by omega)
  have h3 := hby3.at (i := 3) (by omega)
  have d0 := hD.cell 0
  simp [dataV] at d0
  have hle := hby3.hle
  have hcap := hby3.hcap
  have hbb := below_on hb2 hb3 (Nat.le_refl _)
  have htn := typename_any (w2.alloc (.cells (dataV (some ⟨g, off, none⟩) 4 c) 33)) 99 (by omega) (by omega) (HE1.out.on hbb) (HT1.out.on hbb)
  rw [ninety] at htn
  have HTN := Lib.hid htn
  have HB3 := Lib.hid (below_on HB1.out hbb (Nat.le_refl _))
  simp only [dataV] at HTN HB3 h3 d0 hby3
  replace h3 : (w2.alloc (.cells #[.slice (some ⟨g, off, none⟩) 4 c, .slice none 0 0, .slice none 0 0, .slice none 0 0, .slice none 0 0] 33)).cell? ⟨g, off + 3, none⟩ = some (.int .u8 4) := h3
  clear hb3 hD hby htn hbb hb2 hby3
  simp only [dataV]
  go_wp2_with fail
  refine HTN.out.mono ?_
  rintro e w4 ⟨rfl, hb4⟩
  have HB4 := Lib.hid (below_on HB3.out hb4 (Nat.le_refl _))
  clear hb4
  go_wp2_with fail
  go_ret
  exact ⟨rfl, HB4.out⟩
end Go.Proofs.YtipbakdodbmfjaaGreatDoor
